/- My texts that the proof of FrameNumbers rests on, part 2: a calculus of walks, the walks, and the plain law. -/
import Derived.Laws.BytesArg
import Derived.Laws.Strings
import Derived.Lib.AppendZerosOnto
import Derived.Laws.MakeOwn
import Derived.Laws.Cover3
import Derived.Test.YtheopcgjdfckmaaProg
import Derived.KernelRfl
import Derived.RangeFuncRecord
import Derived.RangeFuncSeq
import Derived.TacticsIn
import Derived.Shelf.SlSortCmp.WholeK
import Derived.OrdersIn
import Derived.Laws.BitsLemmas
import Derived.Test.YtheopcgjdfckmaaFna
set_option linter.unusedVariables false
set_option linter.unusedSimpArgs false
namespace Go.Proofs.Ytheopcgjdfckmaa.Sx
open Go
theorem StarM.same {m : Nat → Option Tok} {β : Env} {w : World} {F : Foot} {n : Nat} {t t' : Tok} (h : StarM m β w F) (hm : m n = some t) (hr : t'.r β = t.r β) : StarM (upd m n (some t')) β w F := by
  obtain ⟨φ, h1, h2, h3, h4⟩ := h
  refine ⟨φ, fun k u hk => ?_, fun k hk => ?_, h3, h4⟩
  · by_cases e : k = n
    · subst e
      rw [upd_same] at hk; cases hk
      rw [hr]; exact h1 k t hm
    · rw [upd_ne _ _ e] at hk; exact h1 k u hk
  · by_cases e : k = n
    · subst e; rw [upd_same] at hk; cases hk
    · rw [upd_ne _ _ e] at hk; exact h2 k hk
section
variable {C : Ctx} {fs : FL} {L : TL} {R : Act → World → Prop} {α : Type}
theorem nil_star {β : Env} {w : World} {F : Foot} {k : Nat} (T : TypeId) (f : α → List Value) (s : Nat) (hs : StarM (lkT L) β w F) (hL : lkT L k = none) (f3 : ∀ j t, lkT L j = some t → ∀ i ∈ t.ks, i ∉ [k]) :
    StarM (upd (lkT L) k (some (lrow k T f s ([] : List α)))) (upd β k ⟨0, .slice none 0 0⟩) w F := by
  have hb : ∀ j, j ∉ [k] → upd β k ⟨0, .slice none 0 0⟩ j = β j := fun j hj => upd_ne _ _ (by simpa using hj)
  have h1 := hs.env (β' := upd β k ⟨0, .slice none 0 0⟩) (fun j tk hj i hi => (hb i (f3 j tk hj i hi)).symm)
  have h2 : Star [((lrow k T f s ([] : List α)).r (upd β k ⟨0, .slice none 0 0⟩))] w (fun _ => False) := Star_one.2 ⟨fun x => by simp [one1, Value.oneCell', Value.ownBlock], by simp, .inl ⟨by simp [one1, Value.oneCell'], by simp⟩⟩
  exact h1.put hL (Star_one.1 h2) (fun _ h => h.elim) (fun b => by simp)
theorem At.nilBlk {l l' : List Cl} {n : Nat} {Tb : TypeId} (i k : Nat) (T : TypeId) (f : α → List Value) (s : Nat) (hl : lkT L n = some (blk n l Tb)) (hi : l[i]? = some (.v (.slice none 0 0))) (hL : lkT L k = none) (hfr : frB [k] fs L = true) (hl' : l.set i (.nv k) = l')
    (h : At C fs ((n, some (blk n l' Tb)) :: (k, some (lrow k T f s ([] : List α))) :: L) R) : At C fs L R := by
  subst hl'
  obtain ⟨f1, f2, f3⟩ := frB_spec hfr
  rintro a w ⟨β, F, hβ, hfs, hlt, hn, hd, hs, hF, hM⟩
  have hb : ∀ j, j ∉ [k] → upd β k ⟨0, .slice none 0 0⟩ j = β j := fun j hj => upd_ne _ _ (by simpa using hj)
  refine h a w ⟨upd β k ⟨0, .slice none 0 0⟩, F, fun j hj => ?_, fun t' x hx => ?_, hlt, hn, hd, ?_, hF, hM⟩
  · rw [hb j (fun hm => by simp at hm; subst hm; exact Nat.lt_irrefl _ (Nat.lt_of_lt_of_le hj (f1 j (by simp)))), hβ j hj]
  · rw [hfs _ _ hx]
    exact SV.den_congr x (fun i hi => (hb i (f2 _ _ hx i hi)).symm)
  · rw [lkT_cons, lkT_cons]
    have hne : n ≠ k := by rintro rfl; rw [hL] at hl; cases hl
    refine (nil_star T f s hs hL f3).same (t := blk n l Tb) (by rw [upd_ne _ _ hne]; exact hl) ?_
    show blkRes _ _ _ = blkRes _ _ _
    congr 1
    apply List.ext_getElem?
    intro j
    simp only [List.getElem?_map, List.getElem?_set]
    by_cases ej : i = j
    · subst ej
      have : i < l.length := (List.getElem?_eq_some_iff.1 hi).1
      rw [if_pos rfl, hi, if_pos this]
      simp [Cl.den, one1, Value.oneCell']
    · rw [if_neg ej]
end
section
variable {P : Program} {n : Nat} {ops : Array Oper} {rest : List Oper} {fs : FL} {L : TL} {K : List Step → FL → TL → Prop}
theorem g0 {d : Option Nat} {op : Op} {T : TypeId} {pos : String} {after : Array Edge} : Gd ops ⟨d, op, T, pos, after, none⟩ fs [] := gd0 rfl
theorem g1 {d : Option Nat} {op : Op} {T : TypeId} {pos : String} {after : Array Edge} {j : Nat} {want b : Bool} {t : Nat} (hd : (ops[j]?).bind (·.dst) = some t) (hl : lk fs t = some (SV.b b)) (hb : b = want) : Gd ops ⟨d, op, T, pos, after, some (j, want)⟩ fs [(t, SV.b want)] := gd1 rfl hd hl hb
theorem K.mv {d : Nat} {x : Operand} {T : TypeId} {pos : String} {after : Array Edge} {y : SV} (hx : ev fs x = some y) (hn : Nat.blt d n = true)
    (h : RunK P n ops rest ((d, y) :: fs) L (fun ss fs' L' => K (⟨[] ++ opds [(x, y)], some d, y, [], [], [], []⟩ :: ss) fs' L')) : RunK P n ops (⟨some d, .move x, T, pos, after, none⟩ :: rest) fs L K := Sx.K.move (.inl rfl) g0 hx hn h
theorem K.as {d : Nat} {x : Operand} {T : TypeId} {pos : String} {after : Array Edge} {y : SV} (hx : ev fs x = some y) (hn : Nat.blt d n = true)
    (h : RunK P n ops rest ((d, y) :: fs) L (fun ss fs' L' => K (⟨[] ++ opds [(x, y)], some d, y, [], [], [], []⟩ :: ss) fs' L')) : RunK P n ops (⟨some d, .assign x, T, pos, after, none⟩ :: rest) fs L K := Sx.K.move (.inr rfl) g0 hx hn h
end
theorem la {α : Type} {e : α → List Value} {s : Nat} {l : List α} {k : Nat} {T : TypeId} {tr : List (Nat × Tok)} {β : Env} {w : World} {S : Foot} (j : Nat) (hj : tr[j]? = some (k, lrow k T e s l)) (hf : ∀ c, (e c).length = s) (hs : Nat.blt 0 s = true) (h : Star (tr.map fun p => p.2.r β) w S) : LArg S w ((lrowV k T e s l).s.den β) e s l :=
  (lrowV_isC hf (Nat.blt_eq ▸ hs)).larg ⟨k, List.mem_of_getElem? hj⟩ h
def avOf : Option SV → Av
  | some (.a y) => y
  | _ => .agg []
def isAv : Option SV → Bool
  | some (.a _) => true
  | _ => false
def getT (L : TL) : List Nat → List (Nat × Tok)
  | [] => []
  | k :: ks => match lkT L k with
    | some t => (k, t) :: getT L ks
    | none => getT L ks
theorem getT_all {L : TL} : ∀ ks, AllT L (getT L ks)
  | [] => trivial
  | k :: ks => by
    unfold getT
    split
    · rename_i t h; exact ⟨h, getT_all ks⟩
    · exact getT_all ks
theorem allR_of {Y : TypeId → TyI} {fs : FL} {L : TL} : ∀ ts : List Nat, ts.all (fun t => isAv (lk fs t)) = true → AllR Y fs L (ts.map fun t => (.tmp t, avOf (lk fs t)))
  | [], _ => trivial
  | t :: ts, h => by
    simp only [List.all_cons, Bool.and_eq_true] at h
    refine ⟨?_, allR_of ts h.2⟩
    obtain ⟨y, hy⟩ : ∃ y, lk fs t = some (.a y) := by
      have h1 := h.1
      cases hl : lk fs t with
      | none => rw [hl] at h1; cases h1
      | some x =>
        cases x with
        | a y => exact ⟨y, rfl⟩
        | _ => rw [hl] at h1; cases h1
    have e : avOf (lk fs t) = y := by rw [hy]; rfl
    show ResIs Y fs L (.tmp t) (avOf (lk fs t))
    rw [e]; exact .tmp hy
section
variable {fs : FL} {L : TL} {P : Program} {fn : Func} {to : List (Nat × Tok)} {ret : SV} {fr : List Nat} {F0 : Foot} {W : World} {β0 : Env} {N : Nat}
theorem At.dt (Y : Tys P) {e : Exit} (hx : e = .ret ∨ e = .normal) (ts : List Nat) (hr : fn.results = (ts.map ResultVar.tmp).toArray) (ha : ts.all (fun t => isAv (lk fs t)) = true) (hto : getT L (to.map (·.1)) = to) (he : retOf (ts.map fun t => avOf (lk fs t)) = ret)
    (hnd : ndB (to.map (·.1)) = true) (hfr : fr.all (fun k => Nat.ble 20 k) = true) (hks : ksB (ret.ks ++ to.flatMap (·.2.ks)) fr = true) :
    At ⟨W, F0, β0, N, []⟩ fs L (bodyPost P fn (Ret F0 W fr β0 ret to) e) := by
  have e1 : (ts.map fun t => ((.tmp t : ResultVar), avOf (lk fs t))).map (·.1) = ts.map ResultVar.tmp := by simp [Function.comp_def]
  have e2 : (ts.map fun t => ((.tmp t : ResultVar), avOf (lk fs t))).map (·.2) = ts.map fun t => avOf (lk fs t) := by simp [Function.comp_def]
  refine At.done (to' := getT L (to.map (·.1))) Y (ts.map fun t => (.tmp t, avOf (lk fs t))) ?_ (allR_of ts ha) (getT_all _) hto ?_ ?_ hfr ?_ hx
  · rw [e1]; exact hr
  · rw [e2]; exact he
  · rw [hto]; exact hnd
  · rw [e2, he, hto]; exact hks
theorem At.dr (Y : Tys P) (ts : List Nat) (hr : fn.results = (ts.map ResultVar.tmp).toArray) (ha : ts.all (fun t => isAv (lk fs t)) = true) (hto : getT L (to.map (·.1)) = to) (he : retOf (ts.map fun t => avOf (lk fs t)) = ret)
    (hnd : ndB (to.map (·.1)) = true) (hfr : fr.all (fun k => Nat.ble 20 k) = true) (hks : ksB (ret.ks ++ to.flatMap (·.2.ks)) fr = true) :
    At ⟨W, F0, β0, N, []⟩ fs L (bodyPost P fn (Ret F0 W fr β0 ret to) .ret) := At.dt Y (.inl rfl) ts hr ha hto he hnd hfr hks
theorem At.dn (Y : Tys P) (ts : List Nat) (hr : fn.results = (ts.map ResultVar.tmp).toArray) (ha : ts.all (fun t => isAv (lk fs t)) = true) (hto : getT L (to.map (·.1)) = to) (he : retOf (ts.map fun t => avOf (lk fs t)) = ret)
    (hnd : ndB (to.map (·.1)) = true) (hfr : fr.all (fun k => Nat.ble 20 k) = true) (hks : ksB (ret.ks ++ to.flatMap (·.2.ks)) fr = true) :
    At ⟨W, F0, β0, N, []⟩ fs L (bodyPost P fn (Ret F0 W fr β0 ret to) .normal) := At.dt Y (.inr rfl) ts hr ha hto he hnd hfr hks
end
theorem oi {α : Type} {a b : α} (h : some a = some b) : b = a := (Option.some.inj h).symm
def JP (C : Ctx) {σ : Type} (Fs : σ → FL) (Tl : σ → List (Nat × Tok)) : Act → World → Prop := fun a w => ∃ s', Holds C (lk (Fs s')) (lkT ((Tl s').map fun p => (p.1, some p.2))) a w
def LP (C : Ctx) {σ : Type} (Fs : σ → FL) (Tl : σ → List (Nat × Tok)) (μ : σ → Nat) (s : σ) : Act → World → Prop := fun a w => ∃ s', μ s' < μ s ∧ Holds C (lk (Fs s')) (lkT ((Tl s').map fun p => (p.1, some p.2))) a w
section
variable {C : Ctx} {P : Program} {fs : FL} {L : TL} {Q : Exit → Act → World → Prop}
theorem G.sJ {σ : Type} (Fs : σ → FL) (Tl : σ → List (Nat × Tok)) {x y : Code} (h : G C P fs L x (Exit.then (JP C Fs Tl) Q)) (hy : ∀ s : σ, G C P (Fs s) ((Tl s).map fun p => (p.1, some p.2)) y Q) : G C P fs L (.seq x y) Q := G.seqJ Fs Tl h hy
theorem At.jd {σ : Type} {Fs : σ → FL} {Tl : σ → List (Nat × Tok)} (s' : σ) (ρ : List (Nat × Nat)) (ts : List Tok) (hρ : ρ.all (fun p => Nat.ble 20 p.1) = true) (hf : RenF (rn ρ) fs (Fs s')) (hl : RenL (rn ρ) L (Tl s') ts) (hnd : ndB (((Tl s').map (·.1)).map (rn ρ)) = true) :
    At C fs L (Exit.then (JP C Fs Tl) Q .normal) := At.joined s' ρ ts hρ hf hl hnd
theorem G.lp {σ : Type} (Fs : σ → FL) (Tl : σ → List (Nat × Tok)) (μ : σ → Nat) (s0 : σ) {c : Code} (h0 : At C fs L (fun a w => Holds C (lk (Fs s0)) (lkT ((Tl s0).map fun p => (p.1, some p.2))) a w))
    (hr : ∀ s : σ, G C P (Fs s) ((Tl s).map fun p => (p.1, some p.2)) c (Exit.then (LP C Fs Tl μ s) Q)) : G C P fs L (.loop c) Q := G.loop Fs Tl μ s0 h0 hr
theorem At.ag {σ : Type} {Fs : σ → FL} {Tl : σ → List (Nat × Tok)} {μ : σ → Nat} {s : σ} (s' : σ) (ρ : List (Nat × Nat)) (ts : List Tok) (hμ : μ s' < μ s) (hρ : ρ.all (fun p => Nat.ble 20 p.1) = true) (hf : RenF (rn ρ) fs (Fs s')) (hl : RenL (rn ρ) L (Tl s') ts) (hnd : ndB (((Tl s').map (·.1)).map (rn ρ)) = true) :
    At C fs L (Exit.then (LP C Fs Tl μ s) Q .normal) := At.again s' ρ ts hμ hρ hf hl hnd
end
def evD (fs : FL) (o : Operand) : SV := (ev fs o).getD (SV.raw undef)
def opl (fs : FL) (az : Array Operand) : List (Operand × SV) := az.toList.map fun o => (o, evD fs o)
def fnl (f : FuncId) (fs : FL) (az : Array Operand) : List (Operand × SV) := (.func f, SV.raw (.func (.func f) #[] #[])) :: opl fs az
theorem fnl_all {f : FuncId} {fs : FL} {az : Array Operand} (h : az.toList.all (fun o => (ev fs o).isSome) = true) : AllE fs (fnl f fs az) := by
  refine ⟨rfl, ?_⟩
  unfold opl
  generalize az.toList = l at *
  induction l with
  | nil => trivial
  | cons o l ih =>
    simp only [List.all_cons, Bool.and_eq_true] at h
    refine ⟨?_, ih h.2⟩
    obtain ⟨x, hx⟩ := Option.isSome_iff_exists.1 h.1
    show ev fs o = some (evD fs o)
    simp [evD, hx]
theorem fnl_to {P : Program} {f : FuncId} {fs : FL} {az : Array Operand} {ats : Array TypeId} {ty : TypeId} (hf : fnB P f = true) : ToFn P ⟨.value (.func f), az, ats⟩ ty (fnl f fs az) f ((opl fs az).map (·.2)) :=
  toFn_func hf (by unfold opl; simp [Function.comp_def])
theorem getT_of {L : TL} {tr : List (Nat × Tok)} (h : getT L (tr.map (·.1)) = tr) : AllT L tr := h ▸ getT_all _
section
variable {P : Program} {n : Nat} {ops : Array Oper} {rest : List Oper} {fs : FL} {L : TL} {K : List Step → FL → TL → Prop} {d : Nat} {az : Array Operand} {ats : Array TypeId} {ty : TypeId} {pos : String} {after : Array Edge} {g : Option (Nat × Bool)} {gr : FL} {f : FuncId} {args : List SV} {ret : SV} {tr ti to : List (Nat × Tok)} {fr : List Nat} {args' : Env → List SV}
theorem K.cR (hf : fnB P f = true) (hs : SCon P f args tr ret tr fr) (hg : Gd ops ⟨some d, .call ⟨.value (.func f), az, ats⟩, ty, pos, after, g⟩ fs gr) (ha : (opl fs az).map (·.2) = args) (hev : az.toList.all (fun o => (ev fs o).isSome) = true) (htk : getT L (tr.map (·.1)) = tr) (hb : (ndB (tr.map (·.1)) && (frB fr fs L && Nat.blt d n)) = true)
    (h : RunK P n ops rest ((d, ret) :: fs) L (fun ss fs' L' => K (⟨gr ++ opds (fnl f fs az), some d, ret, tr, [], [], fr⟩ :: ss) fs' L')) : RunK P n ops (⟨some d, .call ⟨.value (.func f), az, ats⟩, ty, pos, after, g⟩ :: rest) fs L K := by
  subst ha
  simp only [Bool.and_eq_true] at hb
  exact Sx.K.callR (fnl f fs az) hs (fnl_to hf) hg (fnl_all hev) (getT_of htk) hb.1 hb.2.1 hb.2.2 h
theorem K.c0 (hf : fnB P f = true) (hs : SCon P f args ti ret to fr) (hg : Gd ops ⟨some d, .call ⟨.value (.func f), az, ats⟩, ty, pos, after, g⟩ fs gr) (ha : (opl fs az).map (·.2) = args) (hev : az.toList.all (fun o => (ev fs o).isSome) = true) (htk : getT L (ti.map (·.1)) = ti)
    (hb : (ndB (ti.map (·.1)) && (ndB (to.map (·.1)) && (ti.all (fun p => (to.map (·.1)).contains p.1) && (to.all (fun p => (ti.map (·.1)).contains p.1 || (lkT L p.1).isNone) && (frB fr fs L && Nat.blt d n))))) = true)
    (h : RunK P n ops rest ((d, ret) :: fs) (to.map (fun p => (p.1, some p.2)) ++ L) (fun ss fs' L' => K (⟨gr ++ opds (fnl f fs az), some d, ret, [], ti, to, fr⟩ :: ss) fs' L')) : RunK P n ops (⟨some d, .call ⟨.value (.func f), az, ats⟩, ty, pos, after, g⟩ :: rest) fs L K := by
  subst ha
  simp only [Bool.and_eq_true] at hb
  exact Sx.K.call0 (fnl f fs az) hs (fnl_to hf) hg (fnl_all hev) (getT_of htk) hb.1 hb.2.1 hb.2.2.1 hb.2.2.2.1 hb.2.2.2.2.1 hb.2.2.2.2.2 h
theorem K.cV (hf : fnB P f = true) (ks : List Nat) (hs : ∀ (β : Env) (w : World) (S : Foot), Star ((getT L ks).map fun p => p.2.r β) w S → SCon P f (args' β) ((0, rd S w) :: ti) ret ((0, rd S w) :: to) fr) (hg : Gd ops ⟨some d, .call ⟨.value (.func f), az, ats⟩, ty, pos, after, g⟩ fs gr) (ha : ∀ β, (args' β).map (SV.den β) = ((opl fs az).map (·.2)).map (SV.den β))
    (hev : az.toList.all (fun o => (ev fs o).isSome) = true) (htk : getT L (ti.map (·.1)) = ti)
    (hb : (ndB ((getT L ks ++ ti).map (·.1)) && (ndB ((getT L ks ++ to).map (·.1)) && (ti.all (fun p => (to.map (·.1)).contains p.1) && (to.all (fun p => (ti.map (·.1)).contains p.1 || (lkT L p.1).isNone) && (frB fr fs L && Nat.blt d n))))) = true)
    (h : RunK P n ops rest ((d, ret) :: fs) (to.map (fun p => (p.1, some p.2)) ++ L) (fun ss fs' L' => K (⟨gr ++ opds (fnl f fs az), some d, ret, getT L ks, ti, to, fr⟩ :: ss) fs' L')) : RunK P n ops (⟨some d, .call ⟨.value (.func f), az, ats⟩, ty, pos, after, g⟩ :: rest) fs L K := by
  simp only [Bool.and_eq_true] at hb
  have ht : AllT L (getT L ks ++ ti) := by
    have : ∀ l : List (Nat × Tok), AllT L l → AllT L (l ++ ti) := fun l => by
      induction l with
      | nil => intro _; exact getT_of htk
      | cons p l ih => intro h; exact ⟨h.1, ih h.2⟩
    exact this _ (getT_all _)
  exact Sx.K.callV (fnl f fs az) (getT L ks) ti to args' hs (fnl_to hf) hg (fnl_all hev) ha ht hb.1 hb.2.1 hb.2.2.1 hb.2.2.2.1 hb.2.2.2.2.1 hb.2.2.2.2.2 h
end
section
variable {C : Ctx} {P : Program} {fs : FL} {L : TL} {Q Q' : Exit → Act → World → Prop}
end
end Go.Proofs.Ytheopcgjdfckmaa.Sx
namespace Go.Proofs.Ytheopcgjdfckmaa.Sx
open Go
theorem flat_u8 : ∀ l : List Int, l.flatMap u8E = l.map (Value.int .u8)
  | [] => rfl
  | x :: l => by rw [List.flatMap_cons, flat_u8 l]; rfl
theorem run_bstr {P : Program} {V : Vw} {l : List Int} (hV : V.Is u8E l) {t t' e : TypeId} (hu : P.underlying t = some (.slice e)) (he : P.underlying e = some (.int .u8)) (hd : P.underlying t' = some .string) {β : Env} {w : World} {F : Foot} (hw : (V.t.r β).holds w F) :
    (convert t t' (V.s.den β)).run P w = .ok (.string (strOfNums l)) w := by
  obtain ⟨hx, ao, cap, h1, h2⟩ := hV.ok β w F hw
  have hm := hV.m
  rw [h1]
  by_cases h0 : 0 < V.m
  · obtain ⟨b, o, rfl, _, hc⟩ := h2 h0
    refine run_convert_bytes_arg w t e hu he b o V.m cap l hm.symm (fun i hi => hc i _ ?_) t' hd
    rw [hV.xs, flat_u8, List.getElem?_map]
    have : l[i]? = some (l.getD i 0) := by rw [List.getD_eq_getElem?_getD, List.getElem?_eq_getElem (by omega)]; rfl
    rw [this]; rfl
  · have hl : l = [] := List.eq_nil_of_length_eq_zero (by omega)
    have hm0 : V.m = 0 := by omega
    subst hl
    rw [hm0]
    cases ao with
    | none => rw [run_convert_bytes_nil w t e hu he 0 cap t' hd]; rfl
    | some a =>
      rw [run_convert_bytes_string w t t' e _ 0 cap hu he hd]
      exact run_bytesToString w a 0 cap [] rfl
def gseq (a b : ByteArray) : Bool := a.toList == b.toList
section
variable {P : Program} {n : Nat} {ops : Array Oper} {rest : List Oper} {fs fs' : FL} {L L' : TL} {ss : List Step}
theorem st_eql (t : TypeId) (x z : Operand) (a b : ByteArray) (w : World) : (do eqGuard .eql t x z (.string a) (.string b); binOp .eql t (.string a) (.string b) : Sem Value).run P w = .ok (.bool (gseq a b)) w := by
  rw [binOp_string_eql]; rfl
theorem st_add (t : TypeId) (x z : Operand) (a b : ByteArray) (h : a.size + b.size < 9223372036854775808) (w : World) : (do eqGuard .add t x z (.string a) (.string b); binOp .add t (.string a) (.string b) : Sem Value).run P w = .ok (.string (a ++ b)) w := by
  have : (Op.stringOp .add a b).run P w = .ok (.string (a ++ b)) w := by
    unfold Op.stringOp
    simp only
    have : ¬ ((a.size + b.size : Nat) : Int) > IntKind.i64.max := by
      have : IntKind.i64.max = 9223372036854775807 := by decide
      rw [this]; omega
    rw [if_neg this]; rfl
  rw [binOp_string_add]
  exact this
end
theorem K.bstr {P : Program} {n : Nat} {ops : Array Oper} {rest : List Oper} {fs : FL} {L : TL} {K : List Step → FL → TL → Prop} (V : Vw) {l : List Int} {d : Nat} {t t' e : TypeId} {x : Operand} {ty : TypeId} {pos : String} {after : Array Edge} {g : Option (Nat × Bool)} {gr : FL} (hV : V.Is u8E l) (hg : Gd ops ⟨some d, .convert t t' x, ty, pos, after, g⟩ fs gr)
    (hx : ev fs x = some (.a (.c V.s))) (hl : lkT L V.k = some V.t) (hu : P.underlying t = some (.slice e)) (he : P.underlying e = some (.int .u8)) (hd : P.underlying t' = some .string) (hn : Nat.blt d n = true)
    (h : RunK P n ops rest ((d, SV.raw (.string (strOfNums l))) :: fs) L (fun ss fs' L' => K (⟨gr ++ opds [(x, .a (.c V.s))], some d, SV.raw (.string (strOfNums l)), [(V.k, V.t)], [], [], []⟩ :: ss) fs' L')) : RunK P n ops (⟨some d, .convert t t' x, ty, pos, after, g⟩ :: rest) fs L K :=
  Sx.K.pureR [(x, .a (.c V.s))] (SV.raw (.string (strOfNums l))) [(V.k, V.t)] rfl hg (fun p hp => by simp at hp; subst hp; exact hx) (fun p hp => by simp at hp; subst hp; exact hl) (by simp) hn (fun β ρ w F hs hρ => by
    have h1 : ρ x = V.s.den β := hρ (x, .a (.c V.s)) (by simp)
    have h2 := run_bstr hV hu he hd (Star_one.1 hs)
    simp only [execOp, h1]
    rw [run_bind_ok h2]; rfl) h
def bAt (s : ByteArray) (i : Int) : Option Int := if 0 ≤ i then (s[i.toNat]?).map fun b => (b.toNat : Int) else none
theorem bAt_run {P : Program} {t : TypeId} (hu : P.underlying t = some .string) {s : ByteArray} {i x : Int} (h : bAt s i = some x) (w : World) : (Instr.index t (.string s) (.int .i64 i)).run P w = .ok (.int .u8 x) w := by
  unfold bAt at h
  split at h
  · rename_i h0
    obtain ⟨b, hb, rfl⟩ := Option.map_eq_some_iff.1 h
    simp [Instr.index, asIntOf, run_underlying hu, h0, hb, Sem.run_pure]
  · cases h
theorem K.sidx {P : Program} {n : Nat} {ops : Array Oper} {rest : List Oper} {fs : FL} {L : TL} {K : List Step → FL → TL → Prop} {d : Nat} {t : TypeId} {x io : Operand} {ty : TypeId} {pos : String} {after : Array Edge} {g : Option (Nat × Bool)} {gr : FL} {X I V : Value} (hg : Gd ops ⟨some d, .index t x io, ty, pos, after, g⟩ fs gr)
    (hx : ev fs x = some (SV.raw X)) (hi : ev fs io = some (SV.raw I)) (hr : ∀ w, (Instr.index t X I).run P w = .ok V w) (hn : Nat.blt d n = true)
    (h : RunK P n ops rest ((d, SV.raw V) :: fs) L (fun ss fs' L' => K (⟨gr ++ opds [(x, SV.raw X), (io, SV.raw I)], some d, SV.raw V, [], [], [], []⟩ :: ss) fs' L')) : RunK P n ops (⟨some d, .index t x io, ty, pos, after, g⟩ :: rest) fs L K :=
  Sx.K.pureR [(x, SV.raw X), (io, SV.raw I)] (SV.raw V) [] rfl hg (fun p hp => by simp at hp; rcases hp with rfl | rfl <;> assumption) (fun p hp => by simp at hp) (by simp) hn (fun β ρ w F hs hρ => by
    have h1 : ρ x = X := hρ (x, SV.raw X) (by simp)
    have h2 : ρ io = I := hρ (io, SV.raw I) (by simp)
    simp only [execOp, h1, h2]
    rw [run_bind_ok (hr w)]; rfl) h
end Go.Proofs.Ytheopcgjdfckmaa.Sx
namespace Go.Proofs.Ytheopcgjdfckmaa.Sx
open Go
def vE (v : Value) : List Value := [v]
theorem vE_len : ∀ v, (vE v).length = 1 := fun _ => rfl
theorem flat_vE : ∀ l : List Value, l.flatMap vE = l
  | [] => rfl
  | x :: l => by rw [List.flatMap_cons, flat_vE l]; rfl
section
variable {α : Type} {e : α → List Value} {s : Nat} {S : Foot} {W0 : World}
def LLI (S : Foot) (W0 : World) (e : α → List Value) (s : Nat) (vs : List Value) (ll : List (List α)) : Prop :=
  vs.length = ll.length ∧ ∀ (i : Nat) (v : Value) (l : List α), vs[i]? = some v → ll[i]? = some l → LArg S W0 v e s l
theorem LLI.nil : LLI S W0 e s [] ([] : List (List α)) := ⟨rfl, fun i v l h => by simp at h⟩
theorem LLI.cons {v : Value} {l : List α} {vs : List Value} {ll : List (List α)} (h : LArg S W0 v e s l) (h' : LLI S W0 e s vs ll) : LLI S W0 e s (v :: vs) (l :: ll) := by
  refine ⟨by simp [h'.1], fun i v' l' h1 h2 => ?_⟩
  cases i with
  | zero => simp at h1 h2; subst h1; subst h2; exact h
  | succ i => simp at h1 h2; exact h'.2 i v' l' h1 h2
theorem LLI.at {vs : List Value} {ll : List (List α)} (h : LLI S W0 e s vs ll) {ix : Int} {x : List α} (hx : atL ll ix = some x) : ∃ ao cap b o, vs[ix.toNat]? = some (.slice ao x.length cap) ∧ LAt S W0 (.slice ao x.length cap) b o e s x := by
  have h1 := atL_get hx
  have hlt : ix.toNat < vs.length := by rw [h.1]; exact (List.getElem?_eq_some_iff.1 h1).1
  obtain ⟨b, o, hL⟩ := h.2 ix.toNat _ x (List.getElem?_eq_getElem hlt) h1
  obtain ⟨ao, cap, h2, h3⟩ := hL.sl
  rw [h2] at hL
  exact ⟨ao, cap, b, o, by rw [List.getElem?_eq_getElem hlt, h2], hL⟩
theorem LLI.len {vs : List Value} {ll : List (List α)} (h : LLI S W0 e s vs ll) : (vs.length : Int) = (ll.length : Int) := by rw [h.1]
def LL (S : Foot) (W0 : World) (v : Value) (e : α → List Value) (s : Nat) (ll : List (List α)) : Prop := ∃ vs, LArg S W0 v vE 1 vs ∧ LLI S W0 e s vs ll
theorem blk_ll {T : TypeId} {k : Nat} {cs : List Cl} {ll : List (List α)} {tr : List (Nat × Tok)} (j : Nat) (hj : tr[j]? = some (k, blk k cs T)) {β : Env} {w : World} {S : Foot} (h : Star (tr.map fun p => p.2.r β) w S) {vs : List Value} (hvs : cs.map (Cl.den β) = vs) {n : Nat} (hn : cs.length = n) (hi : LLI S w e s vs ll) : LL S w (.slice (some ⟨(β k).b, 0, none⟩) n n) e s ll := by
  subst hvs; subst hn
  have hm : (k, blk k cs T) ∈ tr := List.mem_of_getElem? hj
  obtain ⟨F, hsub, h1, h2⟩ := Star_mem h (List.mem_map_of_mem (f := fun p : Nat × Tok => p.2.r β) hm)
  have hl : (cs.map (Cl.den β)).length = cs.length := by simp
  refine ⟨cs.map (Cl.den β), ⟨(β k).b, 0, vE_len, by decide, ⟨_, cs.length, by rw [hl], by simp, fun _ => rfl⟩, fun _ => hsub _ ((h1 _).2 rfl), fun j u hj => ?_⟩, hi⟩
  rw [flat_vE] at hj
  rw [Nat.zero_add]
  simp only [World.cell?, h2]
  simpa using hj
end
section
variable {P : Program} {n : Nat} {ops : Array Oper} {rest : List Oper} {fs fs' : FL} {L L' : TL} {ss : List Step}
theorem K.lenE {K : List Step → FL → TL → Prop} {α : Type} {f : α → List Value} {l : List α} (V : Vw) (N : Int) {d : Nat} {x : Operand} {t : TypeId} {ty : TypeId} {pos : String} {after : Array Edge} {g : Option (Nat × Bool)} {gr : FL} {e : TypeId} (hV : V.Is f l) (hN : (l.length : Int) = N) (hg : Gd ops ⟨some d, .call ⟨.builtin .len, #[x], #[t]⟩, ty, pos, after, g⟩ fs gr)
    (hx : ev fs x = some (.a (.c V.s))) (hl : lkT L V.k = some V.t) (hu : P.underlying t = some (.slice e)) (hn : Nat.blt d n = true)
    (h : RunK P n ops rest ((d, SV.i N) :: fs) L (fun ss fs' L' => K (⟨gr ++ opds [(x, .a (.c V.s))], some d, SV.i N, [(V.k, V.t)], [], [], []⟩ :: ss) fs' L')) : RunK P n ops (⟨some d, .call ⟨.builtin .len, #[x], #[t]⟩, ty, pos, after, g⟩ :: rest) fs L K := by
  subst hN
  exact RunK.of (fun _ _ _ h => Run.lenL V hV hg hx hl hu hn h) h
theorem Run.buildC (Y : Tys P) (k : Nat) (ys : List (Nat × Av)) (cs : List Cl) {d : Nat} {t e len : Nat} {ps : Array (Nat × Operand)} {ty : TypeId} {pos : String} {after : Array Edge} {g : Option (Nat × Bool)} {gr : FL} {z : Value} (l : List (Operand × SV)) (hg : Gd ops ⟨some d, .buildSlice t len ps, ty, pos, after, g⟩ fs gr)
    (hev : ∀ p ∈ l, ev fs p.1 = some p.2) (hps : ps.toList = (List.zip ys l).map fun q => (q.1.1, q.2.1)) (hys : l.map (·.2) = ys.map fun q => .a q.2) (hu : P.underlying t = some (.slice e)) (hT : Y.f e = .one z) (hpos : Nat.blt 0 len = true) (hs24 : Nat.ble len 16777216 = true) (hf : fillC (bfl 1 len) ((List.replicate len z).map .v) ys = some cs) (hxl : Nat.beq cs.length len = true) (hck : cs.all (fun c => !c.ks.contains k) = true)
    (hl : lkT L k = none) (hfr : frB [k] fs L = true) (hn : Nat.blt d n = true)
    (h : Run P n ops rest ((d, .a (.c (.sl k 0 len len))) :: fs) ((k, some (blk k cs e)) :: L) ss fs' L') : Run P n ops (⟨some d, .buildSlice t len ps, ty, pos, after, g⟩ :: rest) fs L (⟨gr ++ opds l, some d, .a (.c (.sl k 0 len len)), [], [], [(k, blk k cs e)], [k]⟩ :: ss) fs' L' := by
  obtain ⟨f1, f2, f3⟩ := frB_spec hfr
  have hxl' := Nat.eq_of_beq_eq_true hxl
  have hs24' := Nat.le_of_ble_eq_true hs24
  rw [Nat.blt_eq] at hpos
  have h1 : Ty1 P e z := by have := Y.ok e; rw [hT] at this; exact this
  refine Run.cons ?_ ?_ ?_ (fun j => ?_) h
  · intro β a w G K Q hrs hsz hst hK
    have hw := hg.wanted hrs hsz
    have hρ := opds_eval hg hev hrs
    have e0 : ps.map (fun (i, x) => (i, a.eval x)) = (ys.map fun p => (p.1, p.2.den β)).toArray := by
      apply Array.ext'
      simp only [Array.toList_map, hps, List.map_map]
      clear hps hf hev h hrs hsz hst hK hg
      induction ys generalizing l with
      | nil => simp
      | cons q ys ih =>
        cases l with
        | nil => simp at hys
        | cons p l =>
          simp only [List.map_cons, List.cons.injEq] at hys
          have h1 := hρ p (by simp)
          simp only [List.zip_cons_cons, List.map_cons, Function.comp, h1, hys.1]
          rw [show (SV.a q.2).den β = q.2.den β from rfl]
          congr 1
          exact ih l hys.2 (fun p hp => hρ p (by simp [hp]))
    have e1 : ((List.replicate len z).map Cl.v).map (Cl.den β) = List.replicate len z := by simp [Cl.den]
    have hfill := fill_run (P := P) (T := 0) (n := 0) (zs := []) β (fun i => some (i * 1, 1)) (fl := bfl 1 len) (fun i q hq => by
      simp only [bfl, List.getElem?_map, Option.map_eq_some_iff] at hq
      obtain ⟨j, hj, rfl⟩ := hq
      rw [List.getElem?_range] at hj
      · simp at hj; subst hj; rfl
      · by_cases hlt : i < len
        · exact hlt
        · rw [List.getElem?_eq_none (by simpa using hlt)] at hj; cases hj) ys _ _ hf
    rw [e1] at hfill
    have hrun : (execOp a.eval ⟨some d, .buildSlice t len ps, ty, pos, after, g⟩).run P w = .ok (.value (.slice (some ⟨w.heap.size, 0, none⟩) len len)) (w.alloc (.cells (cs.map (Cl.den β)).toArray e)) := by
      suffices hb : (Instr.buildSlice t len (ys.map fun p => (p.1, p.2.den β)).toArray).run P w = .ok (.slice (some ⟨w.heap.size, 0, none⟩) len len) (w.alloc (.cells (cs.map (Cl.den β)).toArray e)) by
        simp only [execOp, e0]
        rw [run_bind_ok hb]; rfl
      unfold Instr.buildSlice
      rw [run_bind_ok (run_und hu w)]
      simp only
      rw [run_bind_ok (h1.size w)]
      have hng : ¬ (len * 1 > 2 ^ 24) := by omega
      simp only [if_neg hng]
      have hzz : (Array.range (len * 1)).map ((#[z] : Array Value)[· % (#[z] : Array Value).size]!) = (List.replicate len z).toArray := by
        apply Array.ext
        · simp
        · intro i h1 h2
          simp [Nat.mod_one]
      have hne : ¬ (len * 1 = 0) := by omega
      simp only [if_neg hne, Sem.run_bind, h1.zero, Result.andThen_ok, Sem.run_pure, h1.zc, hzz, hfill]
      simp [newRow]
    unfold opW Oper.wp
    rw [if_pos hw, hrun]
    have hks : ∀ j, j ∉ [k] → upd β k ⟨w.heap.size, undef⟩ j = β j := fun j hj => upd_ne _ _ (by simpa using hj)
    have hcs : cs.map (Cl.den (upd β k ⟨w.heap.size, undef⟩)) = cs.map (Cl.den β) := by
      refine List.map_congr_left (fun c hc => Cl.den_congr c (fun j hj => hks j ?_))
      have := List.all_eq_true.1 hck c hc
      simp at this ⊢
      rintro rfl; exact this hj
    have := hK (upd β k ⟨w.heap.size, undef⟩) (w.alloc (.cells (cs.map (Cl.den β)).toArray e)) (fun b => b = w.heap.size) hks (Star_one.2 ⟨fun x => by simp, ?_⟩) (fun b hb => .inr (by omega))
      ⟨rfl, rfl, rfl, by simp, fun j hj _ => Go.RowKit.Below.heap_alloc _ _ _ hj, Nat.le_refl _⟩
    · have e : (SV.a (.c (.sl k 0 len len))).den (upd β k ⟨w.heap.size, undef⟩) = .slice (some ⟨w.heap.size, 0, none⟩) len len := by simp [SV.den, Av.den, Cl.den]
      rw [e] at this
      rw [Oper.upon_value]; exact this
    · simp only [upd_same, hcs]; exact heap_alloc_new w _
  · refine ⟨fun t y hy => ?_, fun d' hd' => ?_, fun p hp => by simp at hp, by simp, by simp, fun p hp => by simp at hp; subst hp; exact .inr hl, f1, f2, fun j t hj _ => f3 j t hj⟩
    · rw [lk_append] at hy
      cases hx' : lk gr t with
      | some z => rw [hx'] at hy; simp at hy; subst hy; exact hg.fs hx'
      | none => rw [hx'] at hy; simp at hy; exact opds_fs hev hy
    · simp at hd'; subst hd'
      rw [Nat.blt_eq] at hn
      exact hn
  · simp only [Step.outF, lk_cons]
  · rw [lkT_cons, Step.outM_eq]
    by_cases e : j = k
    · subst e; simp [lkP]
    · simp [lkP, e, upd]
theorem K.buildC {K : List Step → FL → TL → Prop} (Y : Tys P) (k : Nat) (ys : List (Nat × Av)) (cs : List Cl) {d : Nat} {t e len : Nat} {ps : Array (Nat × Operand)} {ty : TypeId} {pos : String} {after : Array Edge} {g : Option (Nat × Bool)} {gr : FL} {z : Value} (l : List (Operand × SV)) (hg : Gd ops ⟨some d, .buildSlice t len ps, ty, pos, after, g⟩ fs gr)
    (hev : ∀ p ∈ l, ev fs p.1 = some p.2) (hps : ps.toList = (List.zip ys l).map fun q => (q.1.1, q.2.1)) (hys : l.map (·.2) = ys.map fun q => .a q.2) (hu : P.underlying t = some (.slice e)) (hT : Y.f e = .one z) (hpos : Nat.blt 0 len = true) (hs24 : Nat.ble len 16777216 = true) (hf : fillC (bfl 1 len) ((List.replicate len z).map .v) ys = some cs) (hxl : Nat.beq cs.length len = true) (hck : cs.all (fun c => !c.ks.contains k) = true)
    (hl : lkT L k = none) (hfr : frB [k] fs L = true) (hn : Nat.blt d n = true)
    (h : RunK P n ops rest ((d, .a (.c (.sl k 0 len len))) :: fs) ((k, some (blk k cs e)) :: L) (fun ss fs' L' => K (⟨gr ++ opds l, some d, .a (.c (.sl k 0 len len)), [], [], [(k, blk k cs e)], [k]⟩ :: ss) fs' L')) : RunK P n ops (⟨some d, .buildSlice t len ps, ty, pos, after, g⟩ :: rest) fs L K :=
  RunK.of (fun _ _ _ h => Run.buildC Y k ys cs l hg hev hps hys hu hT hpos hs24 hf hxl hck hl hfr hn h) h
theorem Run.fresh {α : Type} {f : α → List Value} {s : Nat} {o : Oper} {d : Nat} {gr : FL} (k : Nat) (T : TypeId) (l' : List α) (l : List (Operand × SV)) (hd : o.dst = some d) (hg : Gd ops o fs gr) (hev : ∀ p ∈ l, ev fs p.1 = some p.2) (hl : lkT L k = none) (hfr : frB [k] fs L = true) (hn : Nat.blt d n = true)
    (hr : ∀ (β : Env) (ρ : Operand → Value) (w : World), (∀ p ∈ l, ρ p.1 = p.2.den β) → ∃ v w', (execOp ρ o).run P w = .ok (.value v) w' ∧ w'.ownsRow 0 T s v l'.length (l'.flatMap f) ∧ Mod (fun _ => False) w w' ∧ (∀ b, v.ownBlock = some b → w.heap.size ≤ b) ∧ v.oneCell' = true)
    (h : Run P n ops rest ((d, .a (.c (.nv k))) :: fs) ((k, some (lrow k T f s l')) :: L) ss fs' L') : Run P n ops (o :: rest) fs L (⟨gr ++ opds l, some d, .a (.c (.nv k)), [], [], [(k, lrow k T f s l')], [k]⟩ :: ss) fs' L' := by
  obtain ⟨f1, f2, f3⟩ := frB_spec hfr
  refine Run.cons ?_ ?_ ?_ (fun j => ?_) h
  · intro β a w G K Q hrs hsz hst hK
    have hw := hg.wanted hrs hsz
    obtain ⟨v, w', hrun, hown, hmod, hnew, hone⟩ := hr β a.eval w (opds_eval hg hev hrs)
    unfold opW Oper.wp
    rw [if_pos hw, hrun]
    have hks : ∀ j, j ∉ [k] → upd β k ⟨0, v⟩ j = β j := fun j hj => upd_ne _ _ (by simpa using hj)
    have o1 : one1 v = v := by unfold one1; rw [hone]
    have := hK (upd β k ⟨0, v⟩) w' (fun b => v.ownBlock = some b) hks (Star_one.2 ⟨fun x => by simp [o1], by simp only [upd_same, o1]; exact hown⟩) (fun b hb => .inr (hnew b hb)) (hmod.weaken (fun b _ hb => hb.elim))
    have e : (SV.a (.c (.nv k))).den (upd β k ⟨0, v⟩) = v := by simp [SV.den, Av.den, Cl.den, o1]
    rw [e] at this
    rw [Oper.upon_value, hd]; exact this
  · refine ⟨fun t y hy => ?_, fun d' hd' => ?_, fun p hp => by simp at hp, by simp, by simp, fun p hp => by simp at hp; subst hp; exact .inr hl, f1, f2, fun j t hj _ => f3 j t hj⟩
    · rw [lk_append] at hy
      cases hx' : lk gr t with
      | some z => rw [hx'] at hy; simp at hy; subst hy; exact hg.fs hx'
      | none => rw [hx'] at hy; simp at hy; exact opds_fs hev hy
    · simp at hd'; subst hd'
      rw [Nat.blt_eq] at hn
      exact hn
  · simp only [Step.outF, lk_cons]
  · rw [lkT_cons, Step.outM_eq]
    by_cases e : j = k
    · subst e; simp [lkP]
    · simp [lkP, e, upd]
theorem El.zero {t e bytes : Nat} {zv : Value} (hE : El P t e 1 bytes) (h1 : Ty1 P e zv) : ∃ i, P.info? e = some i ∧ i.zero = some zv ∧ i.size = 1 ∧ i.bytes = bytes := by
  obtain ⟨i, z, a1, a2, a3, a4, a5⟩ := hE.ex
  refine ⟨i, a1, ?_, a3, a4⟩
  have h2 := h1.zero default
  have h3 : (zeroValue e).run P default = .ok z default := by
    simp [zeroValue, typeInfo, a1, a2]
  rw [h3] at h2
  cases h2; exact a2
theorem made_rep (zv : Value) (n : Nat) : (madeCells #[zv] n).toList = List.replicate n zv := by
  apply List.ext_getElem
  · simp [madeCells]
  · intro i h1 h2
    simp [madeCells, Nat.mod_one]
theorem rep_flat {α : Type} {f : α → List Value} {c0 : α} {zv : Value} (hc : f c0 = [zv]) : ∀ n : Nat, (List.replicate n c0).flatMap f = List.replicate n zv
  | 0 => rfl
  | n + 1 => by rw [List.replicate_succ, List.flatMap_cons, rep_flat hc n, hc]; rfl
theorem Run.makeRow (Y : Tys P) {α : Type} {f : α → List Value} (k : Nat) (c0 : α) {d : Nat} {t e bytes : Nat} {zv : Value} {x : Operand} {m : Int} {ty : TypeId} {pos : String} {after : Array Edge} {g : Option (Nat × Bool)} {gr : FL} (hE : El P t e 1 bytes) (hT : Y.f e = .one zv) (hc : f c0 = [zv]) (hg : Gd ops ⟨some d, .makeSlice t x x, ty, pos, after, g⟩ fs gr)
    (hx : ev fs x = some (SV.i m)) (h0 : 0 ≤ m) (hm : m < 4294967296) (hb : bytes ≤ 65536) (hl : lkT L k = none) (hfr : frB [k] fs L = true) (hn : Nat.blt d n = true)
    (h : Run P n ops rest ((d, .a (.c (.nv k))) :: fs) ((k, some (lrow k e f 1 (List.replicate m.toNat c0))) :: L) ss fs' L') : Run P n ops (⟨some d, .makeSlice t x x, ty, pos, after, g⟩ :: rest) fs L (⟨gr ++ opds [(x, SV.i m)], some d, .a (.c (.nv k)), [], [], [(k, lrow k e f 1 (List.replicate m.toNat c0))], [k]⟩ :: ss) fs' L' :=
  Run.fresh k e (List.replicate m.toNat c0) [(x, SV.i m)] rfl hg (fun p hp => by simp at hp; subst hp; exact hx) hl hfr hn (fun β ρ w hρ => by
    have h1 : Ty1 P e zv := by have := Y.ok e; rw [hT] at this; exact this
    obtain ⟨i, i1, i2, i3, i4⟩ := hE.zero h1
    have e1 : ρ x = .int .i64 m := hρ (x, SV.i m) (by simp)
    have h48 : (i.bytes : Int) * m ≤ 281474976710656 := by
      rw [i4]
      have : (bytes : Int) * m ≤ 65536 * 4294967296 := Int.mul_le_mul (by omega) (by omega) h0 (by omega)
      omega
    have hr := run_make (P := P) w t e i zv hE.und i1 i2 .i64 .i64 m m h0 (Int.le_refl _) h48 (by omega)
    rw [i3, Nat.mul_one, h1.zc] at hr
    refine ⟨_, _, by simp only [execOp, e1]; rw [run_bind_ok hr]; rfl, ⟨?_, .inr ⟨w.heap.size, m.toNat, _, by rw [List.length_replicate], Nat.zero_le _, heap_alloc_new w _, by simp, ?_, ?_, ?_⟩⟩, ⟨rfl, rfl, rfl, by simp, fun j hj _ => Go.RowKit.Below.heap_alloc _ _ _ hj, Nat.le_refl _⟩, fun b hb => ?_, rfl⟩
    · rw [rep_flat hc]; simp
    · simp only [maxLen]; omega
    · rw [size_madeCells]; simp
    · rw [made_rep, rep_flat hc]; simp
    · simp [Value.ownBlock] at hb; omega) h
theorem K.makeRow {K : List Step → FL → TL → Prop} (Y : Tys P) {α : Type} {f : α → List Value} (k : Nat) (c0 : α) {d : Nat} {t e bytes : Nat} {zv : Value} {x : Operand} {m : Int} {ty : TypeId} {pos : String} {after : Array Edge} {g : Option (Nat × Bool)} {gr : FL} (hE : El P t e 1 bytes) (hT : Y.f e = .one zv) (hc : f c0 = [zv]) (hg : Gd ops ⟨some d, .makeSlice t x x, ty, pos, after, g⟩ fs gr)
    (hx : ev fs x = some (SV.i m)) (h0 : 0 ≤ m) (hm : m < 4294967296) (hb : bytes ≤ 65536) (hl : lkT L k = none) (hfr : frB [k] fs L = true) (hn : Nat.blt d n = true)
    (h : RunK P n ops rest ((d, .a (.c (.nv k))) :: fs) ((k, some (lrow k e f 1 (List.replicate m.toNat c0))) :: L) (fun ss fs' L' => K (⟨gr ++ opds [(x, SV.i m)], some d, .a (.c (.nv k)), [], [], [(k, lrow k e f 1 (List.replicate m.toNat c0))], [k]⟩ :: ss) fs' L')) : RunK P n ops (⟨some d, .makeSlice t x x, ty, pos, after, g⟩ :: rest) fs L K :=
  RunK.of (fun _ _ _ h => Run.makeRow Y k c0 hE hT hc hg hx h0 hm hb hl hfr hn h) h
theorem Run.appZ (Y : Tys P) {α : Type} {f : α → List Value} (k : Nat) (c0 : α) {d : Nat} {t tn e bytes : Nat} {kn : IntKind} {zv : Value} {s x : Operand} {m : Int} {ty : TypeId} {pos : String} {after : Array Edge} {g : Option (Nat × Bool)} {gr : FL} (hE : El P t e 1 bytes) (hT : Y.f e = .one zv) (hc : f c0 = [zv]) (htn : P.underlying tn = some (.int kn)) (hg : Gd ops ⟨some d, .call ⟨.builtin .append, #[s, x], #[t, tn]⟩, ty, pos, after, g⟩ fs gr)
    (hs : ev fs s = some (SV.raw (.slice none 0 0))) (hx : ev fs x = some (SV.i m)) (h0 : 0 < m) (hm : m < 4294967296) (hb : bytes ≤ 16384) (hl : lkT L k = none) (hfr : frB [k] fs L = true) (hn : Nat.blt d n = true)
    (h : Run P n ops rest ((d, .a (.c (.nv k))) :: fs) ((k, some (lrow k e f 1 (List.replicate m.toNat c0))) :: L) ss fs' L') : Run P n ops (⟨some d, .call ⟨.builtin .append, #[s, x], #[t, tn]⟩, ty, pos, after, g⟩ :: rest) fs L (⟨gr ++ opds [(s, SV.raw (.slice none 0 0)), (x, SV.i m)], some d, .a (.c (.nv k)), [], [], [(k, lrow k e f 1 (List.replicate m.toNat c0))], [k]⟩ :: ss) fs' L' :=
  Run.fresh k e (List.replicate m.toNat c0) [(s, SV.raw (.slice none 0 0)), (x, SV.i m)] rfl hg (fun p hp => by simp at hp; rcases hp with rfl | rfl <;> assumption) hl hfr hn (fun β ρ w hρ => by
    have h1 : Ty1 P e zv := by have := Y.ok e; rw [hT] at this; exact this
    obtain ⟨i, i1, i2, i3, i4⟩ := hE.zero h1
    have e1 : ρ s = .slice none 0 0 := hρ (s, SV.raw (.slice none 0 0)) (by simp)
    have e2 : ρ x = .int .i64 m := hρ (x, SV.i m) (by simp)
    obtain ⟨q, rfl⟩ : ∃ q : Nat, m = (q : Int) := ⟨m.toNat, by omega⟩
    have hqb : q * bytes ≤ 4294967296 * 16384 := Nat.mul_le_mul (by omega) hb
    have hr := Go.Lib.run_append_grow_zeros (P := P) w t tn ty e i zv .i64 kn hE.und htn i1 i2 none 0 0 [] (by rw [i3]; exact run_firstCells_none w.drew 1 0 0 0) q (by omega) (by omega) (by omega) (by omega) (by rw [i4]; omega) (growslice_fits (by omega) (by rw [i4, Nat.zero_add]; omega))
    refine ⟨_, _, by
      simp only [execOp, resolve, Sem.run_bind, Sem.run_pure, Result.andThen_ok, invoke, List.map_toArray, List.map_cons, List.map_nil, e1, e2]
      unfold builtin
      rw [run_bind_ok hr]; rfl, ⟨?_, .inr ⟨w.heap.size, grownCap w (0 + q) 0 e, _, by rw [List.length_replicate, Int.toNat_natCast, Nat.zero_add], Nat.zero_le _, heap_alloc_new w.drew _, ?_, grownCap_le_maxLen w _ 0 e (by simp only [maxLen]; omega), ?_, ?_⟩⟩, drewMod _ _ _, fun b hb => ?_, rfl⟩
    · rw [rep_flat hc]; simp
    · have := grownCap_ge w (0 + q) 0 e; simp at this ⊢; exact this
    · have := grownCap_ge w (0 + q) 0 e
      simp [zeroCells_size, h1.zc] at this ⊢; omega
    · rw [rep_flat hc, h1.zc]
      have e9 : (Builtin.zeroCells #[zv] q).toList = List.replicate q zv := by
        have := made_rep zv (q * 1)
        rw [Nat.mul_one] at this
        rw [← this]; simp [Builtin.zeroCells, madeCells]
      simp only [List.append_toArray, Array.toList_append, e9, List.nil_append, List.length_replicate, Nat.mul_one, Int.toNat_natCast]
      rw [List.take_append_of_le_length (by simp)]
      simp
    · simp [Value.ownBlock] at hb; omega) h
theorem K.appZ {K : List Step → FL → TL → Prop} (Y : Tys P) {α : Type} {f : α → List Value} (k : Nat) (c0 : α) {d : Nat} {t tn e bytes : Nat} {kn : IntKind} {zv : Value} {s x : Operand} {m : Int} {ty : TypeId} {pos : String} {after : Array Edge} {g : Option (Nat × Bool)} {gr : FL} (hE : El P t e 1 bytes) (hT : Y.f e = .one zv) (hc : f c0 = [zv]) (htn : P.underlying tn = some (.int kn)) (hg : Gd ops ⟨some d, .call ⟨.builtin .append, #[s, x], #[t, tn]⟩, ty, pos, after, g⟩ fs gr)
    (hs : ev fs s = some (SV.raw (.slice none 0 0))) (hx : ev fs x = some (SV.i m)) (h0 : 0 < m) (hm : m < 4294967296) (hb : bytes ≤ 16384) (hl : lkT L k = none) (hfr : frB [k] fs L = true) (hn : Nat.blt d n = true)
    (h : RunK P n ops rest ((d, .a (.c (.nv k))) :: fs) ((k, some (lrow k e f 1 (List.replicate m.toNat c0))) :: L) (fun ss fs' L' => K (⟨gr ++ opds [(s, SV.raw (.slice none 0 0)), (x, SV.i m)], some d, .a (.c (.nv k)), [], [], [(k, lrow k e f 1 (List.replicate m.toNat c0))], [k]⟩ :: ss) fs' L')) : RunK P n ops (⟨some d, .call ⟨.builtin .append, #[s, x], #[t, tn]⟩, ty, pos, after, g⟩ :: rest) fs L K :=
  RunK.of (fun _ _ _ h => Run.appZ Y k c0 hE hT hc htn hg hs hx h0 hm hb hl hfr hn h) h
theorem capS {P : Program} {t e T : TypeId} (h : P.underlying t = some (.slice e)) {ao : Option Addr} {len cap : Nat} (c : Array Bool) (w : World) : (builtin .cap #[t] T c #[.slice ao len cap]).run P w = .ok (.value (.int .i64 (cap : Int))) w := by
  have : (Builtin.cap_ #[t] T #[.slice ao len cap]).run P w = .ok (.int .i64 (cap : Int)) w := by
    unfold Builtin.cap_
    simp only [List.getElem?_toArray, List.getElem?_cons_zero]
    rw [run_bind_ok (run_und h w)]; rfl
  unfold builtin
  rw [run_bind_ok this]; rfl
theorem K.partN {K : List Step → FL → TL → Prop} {d : Nat} {t : TypeId} {x : Operand} {hi : Option Operand} {qh : List (Operand × SV)} {ty : TypeId} {pos : String} {after : Array Edge} {g : Option (Nat × Bool)} {gr : FL} {el s : TypeId} (hg : Gd ops ⟨some d, .slice t x none hi none, ty, pos, after, g⟩ fs gr)
    (hx : ev fs x = some (SV.raw (.slice none 0 0))) (hhi : Bnd fs 0 0 qh hi) (hu : P.underlying t = some (.slice el)) (hsz : ∀ w : World, (sizeOf el).run P w = .ok s w) (hn : Nat.blt d n = true)
    (h : RunK P n ops rest ((d, SV.raw (.slice none 0 0)) :: fs) L (fun ss fs' L' => K (⟨gr ++ opds ((x, SV.raw (.slice none 0 0)) :: ([] ++ qh)), some d, SV.raw (.slice none 0 0), [], [], [], []⟩ :: ss) fs' L')) : RunK P n ops (⟨some d, .slice t x none hi none, ty, pos, after, g⟩ :: rest) fs L K := by
  refine Sx.K.pureR ((x, SV.raw (.slice none 0 0)) :: ([] ++ qh)) (SV.raw (.slice none 0 0)) [] rfl hg (fun p hp => ?_) (fun p hp => by simp at hp) (by simp) hn (fun β ρ w F hs hρ => ?_) h
  · rcases List.mem_cons.1 hp with rfl | hp
    · exact hx
    · exact hhi.ev p (by simpa using hp)
  · have e1 : ρ x = .slice none 0 0 := hρ (x, SV.raw (.slice none 0 0)) (by simp)
    obtain ⟨hv, hhv, hh'⟩ := hhi.val (fun p hp => hρ p (List.mem_cons_of_mem _ (by simpa using hp)))
    simp only [execOp, e1, hhv, Option.map_none]
    have := run_part (P := P) hu hsz (a := none) (cap := 0) (lo := none) (l := 0) (.inl ⟨rfl, rfl⟩) hh' (Nat.le_refl _) (Nat.le_refl _) (Nat.le_refl _) w
    simp only [Option.map_none] at this
    rw [run_bind_ok this]; simp [sliced, SV.den, Av.den, Cl.den]
theorem run_spart {t : TypeId} (hu : P.underlying t = some .string) {b : ByteArray} {l h : Nat} {lo hi : Option Int} (hlo : lo = none ∧ l = 0 ∨ ∃ i, lo = some i ∧ 0 ≤ i ∧ l = i.toNat) (hhi : hi = none ∧ h = b.size ∨ ∃ i, hi = some i ∧ 0 ≤ i ∧ h = i.toNat)
    (hlh : l ≤ h) (hh : h ≤ b.size) (w : World) : (Instr.sliceAt t (.string b) (lo.map (Value.int .i64)) (hi.map (Value.int .i64)) none).run P w = .ok (.string (b.extract l h)) w := by
  rw [run_sliceAt_string (P := P) w t _ _ _ _ hu]
  rcases hlo with ⟨rfl, rfl⟩ | ⟨i, rfl, hi0, rfl⟩ <;> rcases hhi with ⟨rfl, rfl⟩ | ⟨j, rfl, hj0, rfl⟩
  · simp only [Option.map_none]
    rw [run_slice_string_all (P := P) w t b hu]
  · simp only [Option.map_none, Option.map_some]
    rw [run_slice_string_h (P := P) w t b hu .i64 j hj0 (by omega)]
  · simp only [Option.map_none, Option.map_some]
    rw [run_slice_string_l (P := P) w t b hu .i64 i hi0 (by omega)]
  · simp only [Option.map_some]
    rw [run_slice_string (P := P) w t b .i64 .i64 i j hu hi0 (by omega) (by omega)]
theorem K.ssub {K : List Step → FL → TL → Prop} {d : Nat} (lo' hi' : Nat) {b : ByteArray} {t : TypeId} {x : Operand} {lo hi : Option Operand} {ql qh : List (Operand × SV)} {ty : TypeId} {pos : String} {after : Array Edge} {g : Option (Nat × Bool)} {gr : FL} (hg : Gd ops ⟨some d, .slice t x lo hi none, ty, pos, after, g⟩ fs gr)
    (hx : ev fs x = some (SV.raw (.string b))) (hlo : Bnd fs 0 lo' ql lo) (hhi : Bnd fs b.size hi' qh hi) (hu : P.underlying t = some .string) (hlh : lo' ≤ hi') (hh : hi' ≤ b.size) (hn : Nat.blt d n = true)
    (h : RunK P n ops rest ((d, SV.raw (.string (b.extract lo' hi'))) :: fs) L (fun ss fs' L' => K (⟨gr ++ opds ((x, SV.raw (.string b)) :: (ql ++ qh)), some d, SV.raw (.string (b.extract lo' hi')), [], [], [], []⟩ :: ss) fs' L')) : RunK P n ops (⟨some d, .slice t x lo hi none, ty, pos, after, g⟩ :: rest) fs L K := by
  refine Sx.K.pureR ((x, SV.raw (.string b)) :: (ql ++ qh)) (SV.raw (.string (b.extract lo' hi'))) [] rfl hg (fun p hp => ?_) (fun p hp => by simp at hp) (by simp) hn (fun β ρ w F hs hρ => ?_) h
  · rcases List.mem_cons.1 hp with rfl | hp
    · exact hx
    · rcases List.mem_append.1 hp with hp | hp
      · exact hlo.ev p hp
      · exact hhi.ev p hp
  · have e1 : ρ x = .string b := hρ (x, SV.raw (.string b)) (by simp)
    obtain ⟨lv, hlv, hl'⟩ := hlo.val (fun p hp => hρ p (List.mem_cons_of_mem _ (List.mem_append_left _ hp)))
    obtain ⟨hv, hhv, hh'⟩ := hhi.val (fun p hp => hρ p (List.mem_cons_of_mem _ (List.mem_append_right _ hp)))
    simp only [execOp, e1, hlv, hhv, Option.map_none]
    rw [run_bind_ok (run_spart (P := P) hu hl' hh' hlh hh w)]; rfl
end
section
variable {H : Type} {enc : TypeId × Value → H} {P : Program} {w : World} {base : Nat} {spare : Nat → Bool} {held : Bool}
end
end Go.Proofs.Ytheopcgjdfckmaa.Sx
namespace Go.Proofs.Ytheopcgjdfckmaa
open Go Go.Proofs.Ytheopcgjdfckmaa.Sx
def tysF : TypeId → TyI
  | 1 => .one (.nilFunc)
  | 2 => .one (.int .i64 0)
  | 3 => .one (.int .i64 0)
  | 4 => .one (.bool false)
  | 5 => .one (.int .u8 0)
  | 6 => .one (.int .u8 0)
  | 7 => .st 4 [(0, 1, 2), (1, 1, 3), (2, 1, 4), (3, 1, 6)] [.int .i64 0, .int .i64 0, .bool false, .int .u8 0]
  | 8 => .st 4 [(0, 1, 2), (1, 1, 3), (2, 1, 4), (3, 1, 6)] [.int .i64 0, .int .i64 0, .bool false, .int .u8 0]
  | 9 => .one (.string ⟨#[]⟩)
  | 10 => .one (.string ⟨#[]⟩)
  | 11 => .one (.string ⟨#[]⟩)
  | 12 => .one (.int .u64 0)
  | 13 => .st 2 [(0, 1, 9), (1, 1, 12)] [.string ⟨#[]⟩, .int .u64 0]
  | 14 => .st 2 [(0, 1, 9), (1, 1, 12)] [.string ⟨#[]⟩, .int .u64 0]
  | 15 => .one (.pointer .none)
  | 16 => .one (.pointer .none)
  | 17 => .one (.pointer .none)
  | 18 => .st 1 [(0, 1, 17)] [.pointer .none]
  | 19 => .st 1 [(0, 1, 17)] [.pointer .none]
  | 20 => .one (.nilIface)
  | 21 => .one (.int .i32 0)
  | 22 => .one (.slice .none 0 0)
  | 23 => .one (.nilFunc)
  | 24 => .one (.nilFunc)
  | 25 => .st 3 [(0, 1, 3), (1, 1, 3), (2, 1, 3)] [.int .i64 0, .int .i64 0, .int .i64 0]
  | 26 => .st 3 [(0, 1, 3), (1, 1, 3), (2, 1, 3)] [.int .i64 0, .int .i64 0, .int .i64 0]
  | 27 => .one (.nilFunc)
  | 28 => .one (.nilFunc)
  | 29 => .one (.nilFunc)
  | 30 => .one (.nilFunc)
  | 31 => .one (.nilFunc)
  | 32 => .one (.nilFunc)
  | 33 => .one (.nilFunc)
  | 34 => .one (.nilFunc)
  | 35 => .one (.nilFunc)
  | 36 => .one (.slice .none 0 0)
  | 37 => .one (.int .u32 0)
  | 38 => .one (.nilFunc)
  | 39 => .one (.nilFunc)
  | 40 => .one (.nilFunc)
  | 41 => .one (.nilFunc)
  | 42 => .one (.nilFunc)
  | 43 => .one (.nilFunc)
  | 44 => .one (.slice .none 0 0)
  | 45 => .one (.nilFunc)
  | 46 => .one (.slice .none 0 0)
  | 47 => .one (.nilFunc)
  | 48 => .one (.nilFunc)
  | 49 => .one (.int .i64 0)
  | 51 => .one (.nilFunc)
  | 52 => .one (.nilFunc)
  | 54 => .one (.nilFunc)
  | 55 => .one (.nilFunc)
  | 56 => .one (.nilFunc)
  | 57 => .one (.nilFunc)
  | 59 => .one (.nilFunc)
  | 60 => .one (.nilFunc)
  | 61 => .one (.nilFunc)
  | 62 => .one (.nilFunc)
  | 63 => .one (.nilFunc)
  | 64 => .one (.int .u64 0)
  | 65 => .st 16 [] [.int .u32 0, .int .u32 0, .int .u32 0, .int .u32 0, .int .u32 0, .int .u32 0, .int .u32 0, .int .u32 0, .int .u32 0, .int .u32 0, .int .u32 0, .int .u32 0, .int .u32 0, .int .u32 0, .int .u32 0, .int .u32 0]
  | 66 => .one (.nilFunc)
  | 67 => .one (.nilFunc)
  | 68 => .one (.int .u64 0)
  | 69 => .one (.nilFunc)
  | 70 => .one (.nilFunc)
  | 71 => .one (.nilFunc)
  | 72 => .one (.nilFunc)
  | 73 => .one (.nilFunc)
  | 74 => .one (.nilFunc)
  | 75 => .one (.nilFunc)
  | 76 => .one (.nilFunc)
  | 77 => .one (.nilFunc)
  | 78 => .st 4 [(0, 1, 17), (1, 1, 17), (2, 1, 17), (3, 1, 9)] [.pointer .none, .pointer .none, .pointer .none, .string ⟨#[]⟩]
  | 79 => .st 4 [(0, 1, 17), (1, 1, 17), (2, 1, 17), (3, 1, 9)] [.pointer .none, .pointer .none, .pointer .none, .string ⟨#[]⟩]
  | 83 => .one (.nilFunc)
  | 84 => .one (.int .u8 0)
  | 85 => .one (.int .u8 0)
  | 86 => .one (.nilFunc)
  | 87 => .one (.pointer .none)
  | 88 => .one (.int .i32 0)
  | 89 => .one (.int .i32 0)
  | 90 => .st 11 [(0, 1, 12), (1, 1, 12), (2, 1, 37), (3, 1, 84), (4, 1, 5), (5, 1, 5), (6, 1, 85), (7, 1, 86), (8, 1, 87), (9, 1, 88), (10, 1, 89)] [.int .u64 0, .int .u64 0, .int .u32 0, .int .u8 0, .int .u8 0, .int .u8 0, .int .u8 0, .nilFunc, .pointer .none, .int .i32 0, .int .i32 0]
  | 91 => .st 11 [(0, 1, 12), (1, 1, 12), (2, 1, 37), (3, 1, 84), (4, 1, 5), (5, 1, 5), (6, 1, 85), (7, 1, 86), (8, 1, 87), (9, 1, 88), (10, 1, 89)] [.int .u64 0, .int .u64 0, .int .u32 0, .int .u8 0, .int .u8 0, .int .u8 0, .int .u8 0, .nilFunc, .pointer .none, .int .i32 0, .int .i32 0]
  | 92 => .one (.pointer .none)
  | _ => .none
theorem tysB : (List.range 93).all (fun T => tyB Try.prog T (tysF T)) = true := by kernel_rfl
def Y : Tys Try.prog := ⟨fun T => match Nat.blt T 93 with | true => tysF T | false => .none, fun T => by
  cases h : Nat.blt T 93 with
  | true =>
    rw [Nat.blt_eq] at h
    exact tyOk_of (List.all_eq_true.1 tysB T (List.mem_range.2 h))
  | false => trivial⟩
def cfL : List Nat := [3, 4, 5, 6, 7, 8, 9, 10, 11, 12, 13, 14, 15, 16, 17, 18, 19, 20, 21, 22, 23, 24, 25, 26, 27, 28, 29, 30, 31, 32, 33, 34, 35, 36, 37, 38, 39, 40, 41, 42, 43, 44, 45, 46, 47, 48]
theorem cfB : cfL.all (fun f => fnB Try.prog f) = true := by kernel_rfl
theorem cf (f : Nat) (h : cfL.contains f = true) : fnB Try.prog f = true := List.all_eq_true.1 cfB f (by simpa using h)
theorem mixed : Try.prog.follows .mixedOrders = true := by kernel_rfl
theorem t3 : Y.f 3 = .one (.int .i64 0) := by kernel_rfl
theorem t5 : Y.f 5 = .one (.int .u8 0) := by kernel_rfl
theorem t22 : Y.f 22 = .one (.slice .none 0 0) := by kernel_rfl
theorem t36 : Y.f 36 = .one (.slice .none 0 0) := by kernel_rfl
theorem t37 : Y.f 37 = .one (.int .u32 0) := by kernel_rfl
theorem t65 : Y.f 65 = .st 16 [] [.int .u32 0, .int .u32 0, .int .u32 0, .int .u32 0, .int .u32 0, .int .u32 0, .int .u32 0, .int .u32 0, .int .u32 0, .int .u32 0, .int .u32 0, .int .u32 0, .int .u32 0, .int .u32 0, .int .u32 0, .int .u32 0] := by kernel_rfl
theorem el22 : El Try.prog 22 3 1 8 := el_of (by kernel_rfl)
theorem el36 : El Try.prog 36 5 1 1 := el_of (by kernel_rfl)
theorem el44 : El Try.prog 44 36 1 24 := el_of (by kernel_rfl)
theorem tA65 : ArrT Try.prog 65 16 37 1 [.int .u32 0, .int .u32 0, .int .u32 0, .int .u32 0, .int .u32 0, .int .u32 0, .int .u32 0, .int .u32 0, .int .u32 0, .int .u32 0, .int .u32 0, .int .u32 0, .int .u32 0, .int .u32 0, .int .u32 0, .int .u32 0] := arr_of (by kernel_rfl)
end Go.Proofs.Ytheopcgjdfckmaa
namespace Go.Proofs.Ytheopcgjdfckmaa
open Go Go.Proofs.Ytheopcgjdfckmaa.Sx
structure TArr16Int where
  i0 : Int
  i1 : Int
  i2 : Int
  i3 : Int
  i4 : Int
  i5 : Int
  i6 : Int
  i7 : Int
  i8 : Int
  i9 : Int
  i10 : Int
  i11 : Int
  i12 : Int
  i13 : Int
  i14 : Int
  i15 : Int
def TArr16Int.st (a : TArr16Int) (o : Nat) (v : Int) : TArr16Int := ⟨if o = 0 then v else a.i0, if o = 1 then v else a.i1, if o = 2 then v else a.i2, if o = 3 then v else a.i3, if o = 4 then v else a.i4, if o = 5 then v else a.i5, if o = 6 then v else a.i6, if o = 7 then v else a.i7, if o = 8 then v else a.i8, if o = 9 then v else a.i9, if o = 10 then v else a.i10, if o = 11 then v else a.i11, if o = 12 then v else a.i12, if o = 13 then v else a.i13, if o = 14 then v else a.i14, if o = 15 then v else a.i15⟩
theorem TArr16Int_st_u32 (a : TArr16Int) (v : Int) (o : Nat) (h : o < 16) : setAt [.v (.int .u32 a.i0), .v (.int .u32 a.i1), .v (.int .u32 a.i2), .v (.int .u32 a.i3), .v (.int .u32 a.i4), .v (.int .u32 a.i5), .v (.int .u32 a.i6), .v (.int .u32 a.i7), .v (.int .u32 a.i8), .v (.int .u32 a.i9), .v (.int .u32 a.i10), .v (.int .u32 a.i11), .v (.int .u32 a.i12), .v (.int .u32 a.i13), .v (.int .u32 a.i14), .v (.int .u32 a.i15)] o [.v (.int .u32 v)] = [.v (.int .u32 (a.st o v).i0), .v (.int .u32 (a.st o v).i1), .v (.int .u32 (a.st o v).i2), .v (.int .u32 (a.st o v).i3), .v (.int .u32 (a.st o v).i4), .v (.int .u32 (a.st o v).i5), .v (.int .u32 (a.st o v).i6), .v (.int .u32 (a.st o v).i7), .v (.int .u32 (a.st o v).i8), .v (.int .u32 (a.st o v).i9), .v (.int .u32 (a.st o v).i10), .v (.int .u32 (a.st o v).i11), .v (.int .u32 (a.st o v).i12), .v (.int .u32 (a.st o v).i13), .v (.int .u32 (a.st o v).i14), .v (.int .u32 (a.st o v).i15)] := by
  have h' : o = 0 ∨ o = 1 ∨ o = 2 ∨ o = 3 ∨ o = 4 ∨ o = 5 ∨ o = 6 ∨ o = 7 ∨ o = 8 ∨ o = 9 ∨ o = 10 ∨ o = 11 ∨ o = 12 ∨ o = 13 ∨ o = 14 ∨ o = 15 := by omega
  rcases h' with rfl | rfl | rfl | rfl | rfl | rfl | rfl | rfl | rfl | rfl | rfl | rfl | rfl | rfl | rfl | rfl <;> rfl
def eTArr16Int (x : TArr16Int) : List Value := [.int .u32 x.i0, .int .u32 x.i1, .int .u32 x.i2, .int .u32 x.i3, .int .u32 x.i4, .int .u32 x.i5, .int .u32 x.i6, .int .u32 x.i7, .int .u32 x.i8, .int .u32 x.i9, .int .u32 x.i10, .int .u32 x.i11, .int .u32 x.i12, .int .u32 x.i13, .int .u32 x.i14, .int .u32 x.i15]
def crc_nibbles.l1 (k : Nat) : Nat → (Int × Int) → Option (Int)
  | 0, _ => none
  | n + 1, (v101, v102) => bif (decide (v102 < 4)) then (crc_nibbles.l1 k n ((gxor .u32 (gshr .u32 v101 1) (gand .u32 3988292384 (IntKind.u32.wrap (0 - (gand .u32 v101 1))))), (w64 (v102 + 1)))) else (some v101)
def crc_nibbles.l0 (k : Nat) : Nat → (TArr16Int × Int) → Option (TArr16Int)
  | 0, _ => none
  | n + 1, (v1, v2) => bif (decide (v2 < 16)) then (((crc_nibbles.l1 k k ((IntKind.u32.wrap v2), 0)).bind fun x3 => (atL ([v1.i0, v1.i1, v1.i2, v1.i3, v1.i4, v1.i5, v1.i6, v1.i7, v1.i8, v1.i9, v1.i10, v1.i11, v1.i12, v1.i13, v1.i14, v1.i15] : List Int) v2).bind fun x4 => some (TArr16Int.st v1 v2.toNat x3)).bind fun x2 => crc_nibbles.l0 k n (x2, (w64 (v2 + 1)))) else (some v1)
def crc_nibbles.f (k : Nat) : Option (TArr16Int) := (crc_nibbles.l0 k k ((TArr16Int.mk 0 0 0 0 0 0 0 0 0 0 0 0 0 0 0 0), 0)).bind fun x1 => some x1
def crc_More.l0 (k : Nat) (l1 : List Int) (x1 : TArr16Int) : Nat → (Int × Int) → Option (Int)
  | 0, _ => none
  | n + 1, (v1, v2) => bif (decide (v2 < (l1.length : Int))) then ((atL l1 v2).bind fun x3 => (atL ([x1.i0, x1.i1, x1.i2, x1.i3, x1.i4, x1.i5, x1.i6, x1.i7, x1.i8, x1.i9, x1.i10, x1.i11, x1.i12, x1.i13, x1.i14, x1.i15] : List Int) (gand .u32 (gxor .u32 v1 (IntKind.u32.wrap x3)) 15)).bind fun x4 => (atL ([x1.i0, x1.i1, x1.i2, x1.i3, x1.i4, x1.i5, x1.i6, x1.i7, x1.i8, x1.i9, x1.i10, x1.i11, x1.i12, x1.i13, x1.i14, x1.i15] : List Int) (gand .u32 (gxor .u32 (gshr .u32 (gxor .u32 v1 (IntKind.u32.wrap x3)) 4) x4) 15)).bind fun x5 => crc_More.l0 k l1 x1 n ((gxor .u32 (gshr .u32 (gxor .u32 (gshr .u32 (gxor .u32 v1 (IntKind.u32.wrap x3)) 4) x4) 4) x5), (w64 (v2 + 1)))) else (some v1)
def crc_More.f (k : Nat) (a0 : Int) (l1 : List Int) : Option (Int) := (crc_nibbles.f k).bind fun x1 => (crc_More.l0 k l1 x1 k ((gcom .u32 a0), 0)).bind fun x2 => some (gcom .u32 x2)
def crc_Sum.f (k : Nat) (l0 : List Int) : Option (Int) := (crc_More.f k 0 l0).bind fun x1 => some x1
def frame_little.l0 (k : Nat) (a0 : Int) (a1 : Int) : Nat → (List Int × Int) → Option (List Int)
  | 0, _ => none
  | n + 1, (v1, v2) => bif (decide (v2 < ((List.replicate (a1).toNat (0 : Int)).length : Int))) then (bif decide (0 ≤ (w64 (8 * v2))) then ((atL v1 v2).bind fun x2 => frame_little.l0 k a0 a1 n ((v1.set ((v2).toNat) (IntKind.u8.wrap (gshr .u64 a0 (w64 (8 * v2))))), (w64 (v2 + 1)))) else none) else (some v1)
def frame_little.f (k : Nat) (a0 : Int) (a1 : Int) : Option (List Int) := bif decide (0 ≤ a1 ∧ a1 < 4294967296) then ((frame_little.l0 k a0 a1 k ((List.replicate (a1).toNat (0 : Int)), 0)).bind fun x1 => some x1) else none
def slices_Grow.f (k : Nat) (l0 : List Int) (a1 : Int) : Option (List Int) := (bif (decide (a1 < 0)) then (none) else (some ())).bind fun x1 => bif (decide ((w64 (a1 - (w64 (0 - 0)))) > 0)) then (bif decide (0 < (w64 (a1 - (w64 (0 - 0)))) ∧ (w64 (a1 - (w64 (0 - 0)))) < 4294967296) then (some ((List.replicate ((w64 (a1 - (w64 (0 - 0))))).toNat (0 : Int)).take 0)) else none) else (some ([] : List Int))
def slices_Concat.l0 (k : Nat) (l0 : List (List Int)) : Nat → (Int × Int) → Option (Int)
  | 0, _ => none
  | n + 1, (v1, v2) => bif (decide (v2 < (l0.length : Int))) then ((atL l0 v2).bind fun x2 => bif (decide ((w64 (v1 + (x2.length : Int))) < 0)) then (none) else (slices_Concat.l0 k l0 n ((w64 (v1 + (x2.length : Int))), (w64 (v2 + 1))))) else (some v1)
def slices_Concat.l1 (k : Nat) (l0 : List (List Int)) : Nat → (List Int × Int) → Option (List Int)
  | 0, _ => none
  | n + 1, (v101, v102) => bif (decide (v102 < (l0.length : Int))) then ((atL l0 v102).bind fun x5 => bif decide (v101.length + x5.length < 4294967296) then (slices_Concat.l1 k l0 n ((v101 ++ x5), (w64 (v102 + 1)))) else none) else (some v101)
def slices_Concat.f (k : Nat) (l0 : List (List Int)) : Option (List Int) := (slices_Concat.l0 k l0 k (0, 0)).bind fun x1 => (slices_Grow.f k ([] : List Int) x1).bind fun x3 => (slices_Concat.l1 k l0 k (x3, 0)).bind fun x4 => some x4
def frame_Put.l0 (k : Nat) (l0 : List (List Int)) : Nat → (List Int × Int) → Option (List Int)
  | 0, _ => none
  | n + 1, (v1, v2) => bif (decide (v2 < (l0.length : Int))) then ((atL l0 v2).bind fun x2 => (frame_little.f k (IntKind.u64.wrap (x2.length : Int)) 4).bind fun x3 => (crc_Sum.f k x3).bind fun x4 => (crc_More.f k x4 x2).bind fun x5 => (frame_little.f k (IntKind.u64.wrap x5) 4).bind fun x6 => (slices_Concat.f k ([v1, x3, x2, x6])).bind fun x7 => frame_Put.l0 k l0 n (x7, (w64 (v2 + 1)))) else (some v1)
def frame_Put.f (k : Nat) (l0 : List (List Int)) : Option (List Int) := (frame_Put.l0 k l0 k (([] : List Int), 0)).bind fun x1 => some x1
def Lw19_awake.f (k : Nat) : Option (Bool) := (frame_Put.f k ([([] : List Int)])).bind fun x1 => some (gseq (strOfNums x1) (ByteArray.mk #[0, 0, 0, 0, 28, 223, 68, 33]))
def R19_Little.l0 (k : Nat) (a1 : Int) : Nat → (Int × ByteArray × Int) → Option (ByteArray)
  | 0, _ => none
  | n + 1, (v1, v2, v3) => bif (decide (v3 < a1)) then (bif decide (v2.size + (strOfNums ([(IntKind.u8.wrap (v1.tmod 256))] : List Int)).size < 9223372036854775808) then (R19_Little.l0 k a1 n ((IntKind.u64.wrap (v1.tdiv 256)), (v2 ++ (strOfNums ([(IntKind.u8.wrap (v1.tmod 256))] : List Int))), (w64 (v3 + 1)))) else none) else (some v2)
def R19_Little.f (k : Nat) (a0 : Int) (a1 : Int) : Option (ByteArray) := (R19_Little.l0 k a1 k (a0, (ByteArray.mk #[]), 0)).bind fun x1 => some x1
def frame_value.l0 (k : Nat) (l0 : List Int) : Nat → (Int × Int) → Option (Int)
  | 0, _ => none
  | n + 1, (v1, v2) => bif (decide (v2 < (l0.length : Int))) then ((atL l0 v2).bind fun x2 => bif decide (0 ≤ (w64 (8 * v2))) then (frame_value.l0 k l0 n ((gor .u64 v1 (gshl .u64 (IntKind.u64.wrap x2) (w64 (8 * v2)))), (w64 (v2 + 1)))) else none) else (some v1)
def frame_value.f (k : Nat) (l0 : List Int) : Option (Int) := (frame_value.l0 k l0 k (0, 0)).bind fun x1 => some x1
def slices_Clone.f (k : Nat) (l0 : List Int) : Option (List Int) := bif decide (([] : List Int).length + l0.length < 4294967296) then (some (([] : List Int) ++ l0)) else none
def frame_Get.l0 (k : Nat) : Nat → (List Int × List (List Int)) → Option (Sum (List (List Int) × Int) (List (List Int)))
  | 0, _ => none
  | n + 1, (v1, v2) => bif (decide ((v1.length : Int) > 0)) then (bif (decide ((v1.length : Int) < 8)) then (some (Sum.inl (([] : List (List Int)), 40))) else (bif decide (0 ≤ (4 : Int) ∧ (4 : Int) ≤ (v1.length : Int)) then ((frame_value.f k ((v1.drop 0).take (((4 : Int).toNat) - 0))).bind fun x2 => bif (decide (x2 > (IntKind.u64.wrap (w64 ((v1.length : Int) - 8))))) then (some (Sum.inl (([] : List (List Int)), 40))) else (bif decide (0 ≤ (w64 (4 + (w64 x2))) ∧ (w64 (4 + (w64 x2))) ≤ (v1.length : Int)) then ((crc_Sum.f k ((v1.drop 0).take ((((w64 (4 + (w64 x2)))).toNat) - 0))).bind fun x3 => bif decide (0 ≤ (w64 (4 + (w64 x2))) ∧ (w64 (4 + (w64 x2))) ≤ (w64 ((w64 (4 + (w64 x2))) + 4)) ∧ (w64 ((w64 (4 + (w64 x2))) + 4)) ≤ (v1.length : Int)) then ((frame_value.f k ((v1.drop (((w64 (4 + (w64 x2)))).toNat)).take ((((w64 ((w64 (4 + (w64 x2))) + 4))).toNat) - (((w64 (4 + (w64 x2)))).toNat)))).bind fun x4 => bif ((IntKind.u64.wrap x3) != x4) then (some (Sum.inl (([] : List (List Int)), 41))) else (bif decide (0 ≤ (4 : Int) ∧ (4 : Int) ≤ (w64 (4 + (w64 x2))) ∧ (w64 (4 + (w64 x2))) ≤ (v1.length : Int)) then ((slices_Clone.f k ((v1.drop ((4 : Int).toNat)).take ((((w64 (4 + (w64 x2)))).toNat) - ((4 : Int).toNat)))).bind fun x5 => bif decide (v2.length + 1 < 4294967296) then (bif decide (0 ≤ (w64 ((w64 (4 + (w64 x2))) + 4)) ∧ (w64 ((w64 (4 + (w64 x2))) + 4)) ≤ (v1.length : Int)) then (frame_Get.l0 k n (((v1.drop (((w64 ((w64 (4 + (w64 x2))) + 4))).toNat)).take (v1.length - (((w64 ((w64 (4 + (w64 x2))) + 4))).toNat))), (v2 ++ [x5]))) else none) else none) else none)) else none) else none)) else none)) else (some (Sum.inr v2))
def frame_Get.f (k : Nat) (l0 : List Int) : Option (List (List Int) × Int) := (frame_Get.l0 k k (l0, ([] : List (List Int)))).bind (Sum.elim (fun r => some r) (fun w1 => some (w1, 0)))
def R19_Value.l0 (k : Nat) (a0 : ByteArray) : Nat → (Int × Int) → Option (Int)
  | 0, _ => none
  | n + 1, (v1, v2) => bif (decide (v2 ≥ 0)) then ((bAt a0 v2).bind fun x2 => R19_Value.l0 k a0 n ((IntKind.u64.wrap ((IntKind.u64.wrap (v1 * 256)) + (IntKind.u64.wrap x2))), (w64 (v2 - 1)))) else (some v1)
def R19_Value.f (k : Nat) (a0 : ByteArray) : Option (Int) := (R19_Value.l0 k a0 k (0, (w64 ((a0.size : Int) - 1)))).bind fun x1 => some x1
end Go.Proofs.Ytheopcgjdfckmaa
namespace Go.Proofs.Ytheopcgjdfckmaa
theorem R {α : Sort _} {a : α} : a = a := rfl
open Go Go.Proofs.Ytheopcgjdfckmaa.Sx
abbrev crc_nibbles_st (r : TArr16Int) : Prop := SCon Try.prog 39 [] [] (.a (.agg ((eTArr16Int r).map .v))) [] []
theorem crc_nibbles_con0 {k : Nat}  {r : TArr16Int}  (H0 : crc_nibbles.f k = some r) : crc_nibbles_st r := by
  rw [crc_nibbles.f] at H0
  refine spec_of [] [] 24 Try.func39 R Try.ntmps39 R R R R (fun β W F => ?_)
  refine G.seq ?_
  refine G.rg ?_
  refine K.alloc Y 100 [_, _, _, _, _, _, _, _, _, _, _, _, _, _, _, _] (gd0 R) t65 R R R R R ?_
  refine K.nil ?_
  refine At.next ?_
  refine G.seq ?_
  refine G.rg ?_
  refine K.alloc Y 101 [_, _, _, _, _, _, _, _, _, _, _, _, _, _, _, _] (gd0 R) t65 R R R R R ?_
  refine K.nil ?_
  refine At.next ?_
  obtain ⟨x1, H1, H0⟩ := bnd H0
  refine G.sJ (σ := { v : TArr16Int // x1 = v }) (fun q => [(0, .a (.c (.p 102 0))), (1, .a (.c (.p 103 0)))]) (fun q => [(102, blk 102 [.v (.int .u32 0), .v (.int .u32 0), .v (.int .u32 0), .v (.int .u32 0), .v (.int .u32 0), .v (.int .u32 0), .v (.int .u32 0), .v (.int .u32 0), .v (.int .u32 0), .v (.int .u32 0), .v (.int .u32 0), .v (.int .u32 0), .v (.int .u32 0), .v (.int .u32 0), .v (.int .u32 0), .v (.int .u32 0)] 65), (103, blk 103 [.v (.int .u32 q.1.i0), .v (.int .u32 q.1.i1), .v (.int .u32 q.1.i2), .v (.int .u32 q.1.i3), .v (.int .u32 q.1.i4), .v (.int .u32 q.1.i5), .v (.int .u32 q.1.i6), .v (.int .u32 q.1.i7), .v (.int .u32 q.1.i8), .v (.int .u32 q.1.i9), .v (.int .u32 q.1.i10), .v (.int .u32 q.1.i11), .v (.int .u32 q.1.i12), .v (.int .u32 q.1.i13), .v (.int .u32 q.1.i14), .v (.int .u32 q.1.i15)] 65)]) ?_ ?_
  ·
    refine G.seq ?_
    refine G.rg ?_
    refine K.move (.inl R) (gd0 R) R R ?_
    refine K.nil ?_
    refine At.next ?_
    refine G.block ?_
    refine G.lp (σ := { q : Nat × (TArr16Int × Int) // crc_nibbles.l0 k q.1 q.2 = some x1 }) (fun q => [(0, .a (.c (.p 108 0))), (1, .a (.c (.p 109 0))), (4, .a (.c (.v (.int .i64 q.1.2.2))))]) (fun q => [(108, blk 108 [.v (.int .u32 0), .v (.int .u32 0), .v (.int .u32 0), .v (.int .u32 0), .v (.int .u32 0), .v (.int .u32 0), .v (.int .u32 0), .v (.int .u32 0), .v (.int .u32 0), .v (.int .u32 0), .v (.int .u32 0), .v (.int .u32 0), .v (.int .u32 0), .v (.int .u32 0), .v (.int .u32 0), .v (.int .u32 0)] 65), (109, blk 109 [.v (.int .u32 q.1.2.1.i0), .v (.int .u32 q.1.2.1.i1), .v (.int .u32 q.1.2.1.i2), .v (.int .u32 q.1.2.1.i3), .v (.int .u32 q.1.2.1.i4), .v (.int .u32 q.1.2.1.i5), .v (.int .u32 q.1.2.1.i6), .v (.int .u32 q.1.2.1.i7), .v (.int .u32 q.1.2.1.i8), .v (.int .u32 q.1.2.1.i9), .v (.int .u32 q.1.2.1.i10), .v (.int .u32 q.1.2.1.i11), .v (.int .u32 q.1.2.1.i12), .v (.int .u32 q.1.2.1.i13), .v (.int .u32 q.1.2.1.i14), .v (.int .u32 q.1.2.1.i15)] 65)]) (fun q => q.1.1) ⟨(k, ((TArr16Int.mk 0 0 0 0 0 0 0 0 0 0 0 0 0 0 0 0), 0)), H1⟩ ?_ ?_
    · exact At.into [(108, 100), (109, 101)] [_, _] R ⟨R, R, R, trivial⟩ ⟨R, (blk_ren R R), R, (blk_ren R R), trivial⟩ R
    ·
      rintro ⟨⟨n0, v1, v2⟩, H1⟩
      show G _ _ [(0, .a (.c (.p 108 0))), (1, .a (.c (.p 109 0))), (4, .a (.c (.v (.int .i64 v2))))] [(108, some (blk 108 [.v (.int .u32 0), .v (.int .u32 0), .v (.int .u32 0), .v (.int .u32 0), .v (.int .u32 0), .v (.int .u32 0), .v (.int .u32 0), .v (.int .u32 0), .v (.int .u32 0), .v (.int .u32 0), .v (.int .u32 0), .v (.int .u32 0), .v (.int .u32 0), .v (.int .u32 0), .v (.int .u32 0), .v (.int .u32 0)] 65)), (109, some (blk 109 [.v (.int .u32 v1.i0), .v (.int .u32 v1.i1), .v (.int .u32 v1.i2), .v (.int .u32 v1.i3), .v (.int .u32 v1.i4), .v (.int .u32 v1.i5), .v (.int .u32 v1.i6), .v (.int .u32 v1.i7), .v (.int .u32 v1.i8), .v (.int .u32 v1.i9), .v (.int .u32 v1.i10), .v (.int .u32 v1.i11), .v (.int .u32 v1.i12), .v (.int .u32 v1.i13), .v (.int .u32 v1.i14), .v (.int .u32 v1.i15)] 65))] _ _
      cases n0 with
      | zero => exact absurd H1 (by simp [crc_nibbles.l0])
      | succ n0 =>
        have HL0 := H1
        rw [crc_nibbles.l0] at H1
        refine G.seq ?_
        refine G.rg ?_
        refine K.bin (V := .bool (decide (v2 < 16))) (gd0 R) R R (fun _ => R) R ?_
        refine K.nil ?_
        refine At.next ?_
        refine G.seq ?_
        refine G.cond R (fun h1 => ?_) (fun h1 => ?_)
        ·
          replace H1 := bif_t H1 h1
          refine G.skip ?_
          refine At.next ?_
          obtain ⟨x2, H2, H1⟩ := bnd H1
          refine G.sJ (σ := { v : TArr16Int // x2 = v }) (fun q => [(0, .a (.c (.p 110 0))), (1, .a (.c (.p 111 0))), (4, .a (.c (.v (.int .i64 v2))))]) (fun q => [(110, blk 110 [.v (.int .u32 0), .v (.int .u32 0), .v (.int .u32 0), .v (.int .u32 0), .v (.int .u32 0), .v (.int .u32 0), .v (.int .u32 0), .v (.int .u32 0), .v (.int .u32 0), .v (.int .u32 0), .v (.int .u32 0), .v (.int .u32 0), .v (.int .u32 0), .v (.int .u32 0), .v (.int .u32 0), .v (.int .u32 0)] 65), (111, blk 111 [.v (.int .u32 q.1.i0), .v (.int .u32 q.1.i1), .v (.int .u32 q.1.i2), .v (.int .u32 q.1.i3), .v (.int .u32 q.1.i4), .v (.int .u32 q.1.i5), .v (.int .u32 q.1.i6), .v (.int .u32 q.1.i7), .v (.int .u32 q.1.i8), .v (.int .u32 q.1.i9), .v (.int .u32 q.1.i10), .v (.int .u32 q.1.i11), .v (.int .u32 q.1.i12), .v (.int .u32 q.1.i13), .v (.int .u32 q.1.i14), .v (.int .u32 q.1.i15)] 65)]) ?_ ?_
          ·
            refine G.block ?_
            refine G.seq ?_
            refine G.rg ?_
            refine K.move (.inl R) (gd0 R) R R ?_
            refine K.move (.inr R) (gd0 R) R R ?_
            refine K.nil ?_
            refine At.next ?_
            refine G.seq ?_
            refine G.rg ?_
            refine K.move (.inl R) (gd0 R) R R ?_
            refine K.conv (V := .int .u32 (IntKind.u32.wrap v2)) (gd0 R) R (cv_int (by rw [Try.underlying3]; rfl) Try.underlying37) R ?_
            refine K.move (.inr R) (gd0 R) R R ?_
            refine K.nil ?_
            refine At.next ?_
            obtain ⟨x3, H3, H2⟩ := bnd H2
            refine G.sJ (σ := { v : Int // x3 = v }) (fun q => [(0, .a (.c (.p 112 0))), (1, .a (.c (.p 113 0))), (2, .a (.c (.v (.int .i64 v2)))), (3, .a (.c (.v (.int .u32 q.1)))), (4, .a (.c (.v (.int .i64 v2))))]) (fun q => [(112, blk 112 [.v (.int .u32 0), .v (.int .u32 0), .v (.int .u32 0), .v (.int .u32 0), .v (.int .u32 0), .v (.int .u32 0), .v (.int .u32 0), .v (.int .u32 0), .v (.int .u32 0), .v (.int .u32 0), .v (.int .u32 0), .v (.int .u32 0), .v (.int .u32 0), .v (.int .u32 0), .v (.int .u32 0), .v (.int .u32 0)] 65), (113, blk 113 [.v (.int .u32 v1.i0), .v (.int .u32 v1.i1), .v (.int .u32 v1.i2), .v (.int .u32 v1.i3), .v (.int .u32 v1.i4), .v (.int .u32 v1.i5), .v (.int .u32 v1.i6), .v (.int .u32 v1.i7), .v (.int .u32 v1.i8), .v (.int .u32 v1.i9), .v (.int .u32 v1.i10), .v (.int .u32 v1.i11), .v (.int .u32 v1.i12), .v (.int .u32 v1.i13), .v (.int .u32 v1.i14), .v (.int .u32 v1.i15)] 65)]) ?_ ?_
            ·
              refine G.seq ?_
              refine G.rg ?_
              refine K.move (.inl R) (gd0 R) R R ?_
              refine K.nil ?_
              refine At.next ?_
              refine G.block ?_
              refine G.lp (σ := { q : Nat × (Int × Int) // crc_nibbles.l1 k q.1 q.2 = some x3 }) (fun q => [(0, .a (.c (.p 118 0))), (1, .a (.c (.p 119 0))), (2, .a (.c (.v (.int .i64 v2)))), (3, .a (.c (.v (.int .u32 q.1.2.1)))), (4, .a (.c (.v (.int .i64 v2)))), (9, .a (.c (.v (.int .i64 q.1.2.2))))]) (fun q => [(118, blk 118 [.v (.int .u32 0), .v (.int .u32 0), .v (.int .u32 0), .v (.int .u32 0), .v (.int .u32 0), .v (.int .u32 0), .v (.int .u32 0), .v (.int .u32 0), .v (.int .u32 0), .v (.int .u32 0), .v (.int .u32 0), .v (.int .u32 0), .v (.int .u32 0), .v (.int .u32 0), .v (.int .u32 0), .v (.int .u32 0)] 65), (119, blk 119 [.v (.int .u32 v1.i0), .v (.int .u32 v1.i1), .v (.int .u32 v1.i2), .v (.int .u32 v1.i3), .v (.int .u32 v1.i4), .v (.int .u32 v1.i5), .v (.int .u32 v1.i6), .v (.int .u32 v1.i7), .v (.int .u32 v1.i8), .v (.int .u32 v1.i9), .v (.int .u32 v1.i10), .v (.int .u32 v1.i11), .v (.int .u32 v1.i12), .v (.int .u32 v1.i13), .v (.int .u32 v1.i14), .v (.int .u32 v1.i15)] 65)]) (fun q => q.1.1) ⟨(k, ((IntKind.u32.wrap v2), 0)), H3⟩ ?_ ?_
              · exact At.into [(118, 108), (119, 109)] [_, _] R ⟨R, R, R, R, R, R, trivial⟩ ⟨R, (blk_ren R R), R, (blk_ren R R), trivial⟩ R
              ·
                rintro ⟨⟨n0, v101, v102⟩, H3⟩
                show G _ _ [(0, .a (.c (.p 118 0))), (1, .a (.c (.p 119 0))), (2, .a (.c (.v (.int .i64 v2)))), (3, .a (.c (.v (.int .u32 v101)))), (4, .a (.c (.v (.int .i64 v2)))), (9, .a (.c (.v (.int .i64 v102))))] [(118, some (blk 118 [.v (.int .u32 0), .v (.int .u32 0), .v (.int .u32 0), .v (.int .u32 0), .v (.int .u32 0), .v (.int .u32 0), .v (.int .u32 0), .v (.int .u32 0), .v (.int .u32 0), .v (.int .u32 0), .v (.int .u32 0), .v (.int .u32 0), .v (.int .u32 0), .v (.int .u32 0), .v (.int .u32 0), .v (.int .u32 0)] 65)), (119, some (blk 119 [.v (.int .u32 v1.i0), .v (.int .u32 v1.i1), .v (.int .u32 v1.i2), .v (.int .u32 v1.i3), .v (.int .u32 v1.i4), .v (.int .u32 v1.i5), .v (.int .u32 v1.i6), .v (.int .u32 v1.i7), .v (.int .u32 v1.i8), .v (.int .u32 v1.i9), .v (.int .u32 v1.i10), .v (.int .u32 v1.i11), .v (.int .u32 v1.i12), .v (.int .u32 v1.i13), .v (.int .u32 v1.i14), .v (.int .u32 v1.i15)] 65))] _ _
                cases n0 with
                | zero => exact absurd H3 (by simp [crc_nibbles.l1])
                | succ n0 =>
                  have HL1 := H3
                  rw [crc_nibbles.l1] at H3
                  refine G.seq ?_
                  refine G.rg ?_
                  refine K.bin (V := .bool (decide (v102 < 4))) (gd0 R) R R (fun _ => R) R ?_
                  refine K.nil ?_
                  refine At.next ?_
                  refine G.seq ?_
                  refine G.cond R (fun h2 => ?_) (fun h2 => ?_)
                  ·
                    replace H3 := bif_t H3 h2
                    refine G.skip ?_
                    refine At.next ?_
                    refine G.seq ?_
                    refine G.block ?_
                    refine G.rg ?_
                    refine K.move (.inl R) (gd0 R) R R ?_
                    refine K.bin (V := .int .u32 (gshr .u32 v101 1)) (gd0 R) R R (bt_shr _ _ _ _ (by decide)) R ?_
                    refine K.move (.inl R) (gd0 R) R R ?_
                    refine K.bin (V := .int .u32 (gand .u32 v101 1)) (gd0 R) R R (bt_and _ _ _) R ?_
                    refine K.un (V := .int .u32 (IntKind.u32.wrap (0 - (gand .u32 v101 1)))) (gd0 R) R (fun _ => R) R ?_
                    refine K.bin (V := .int .u32 (gand .u32 3988292384 (IntKind.u32.wrap (0 - (gand .u32 v101 1))))) (gd0 R) R R (bt_and _ _ _) R ?_
                    refine K.bin (V := .int .u32 (gxor .u32 (gshr .u32 v101 1) (gand .u32 3988292384 (IntKind.u32.wrap (0 - (gand .u32 v101 1)))))) (gd0 R) R R (bt_xor _ _ _) R ?_
                    refine K.move (.inr R) (gd0 R) R R ?_
                    refine K.nil ?_
                    refine At.block_normal ?_
                    refine At.next ?_
                    refine G.rg ?_
                    refine K.bin (V := .int .i64 (w64 (v102 + 1))) (gd0 R) R R (fun _ => R) R ?_
                    refine K.move (.inl R) (gd0 R) R R ?_
                    refine K.nil ?_
                    exact At.ag ⟨(n0, ((gxor .u32 (gshr .u32 v101 1) (gand .u32 3988292384 (IntKind.u32.wrap (0 - (gand .u32 v101 1))))), (w64 (v102 + 1)))), H3⟩ [] [_, _] (Nat.lt_succ_self _) R ⟨R, R, R, R, R, R, trivial⟩ ⟨R, (blk_ren R R), R, (blk_ren R R), trivial⟩ R
                  ·
                    replace H3 := bif_f H3 h2
                    refine G.exit ?_
                    refine At.over_exit ?_
                    refine At.over_exit ?_
                    refine At.block_hit ?_
                    exact At.jd ⟨v101, oi H3⟩ [(112, 118), (113, 119)] [_, _] R ⟨R, R, R, R, R, trivial⟩ ⟨R, (blk_ren R R), R, (blk_ren R R), trivial⟩ R
            ·
              rintro ⟨_, rfl⟩
              show G _ _ [(0, .a (.c (.p 112 0))), (1, .a (.c (.p 113 0))), (2, .a (.c (.v (.int .i64 v2)))), (3, .a (.c (.v (.int .u32 x3)))), (4, .a (.c (.v (.int .i64 v2))))] [(112, some (blk 112 [.v (.int .u32 0), .v (.int .u32 0), .v (.int .u32 0), .v (.int .u32 0), .v (.int .u32 0), .v (.int .u32 0), .v (.int .u32 0), .v (.int .u32 0), .v (.int .u32 0), .v (.int .u32 0), .v (.int .u32 0), .v (.int .u32 0), .v (.int .u32 0), .v (.int .u32 0), .v (.int .u32 0), .v (.int .u32 0)] 65)), (113, some (blk 113 [.v (.int .u32 v1.i0), .v (.int .u32 v1.i1), .v (.int .u32 v1.i2), .v (.int .u32 v1.i3), .v (.int .u32 v1.i4), .v (.int .u32 v1.i5), .v (.int .u32 v1.i6), .v (.int .u32 v1.i7), .v (.int .u32 v1.i8), .v (.int .u32 v1.i9), .v (.int .u32 v1.i10), .v (.int .u32 v1.i11), .v (.int .u32 v1.i12), .v (.int .u32 v1.i13), .v (.int .u32 v1.i14), .v (.int .u32 v1.i15)] 65))] _ _
              obtain ⟨x4, hx4, H2⟩ := bnd H2
              refine G.rg ?_
              refine K.move (.inl R) (gd0 R) R R ?_
              refine K.move (.inl R) (gd0 R) R R ?_
              refine K.idxD (off' := v2.toNat) _ tA65 (atL_lt hx4).1 (atL_lt hx4).2 (gd0 R) R R (by omega) R ?_
              refine K.store Y _ (gd0 R) R R R t37 R R R (TArr16Int_st_u32 v1 x3 _ (atL_lt hx4).2) (Nat.ble_eq_true_of_le (atL_lt hx4).2) ?_
              refine K.nil ?_
              refine At.block_normal ?_
              exact At.jd ⟨(TArr16Int.st v1 v2.toNat x3), oi H2⟩ [(110, 112), (111, 113)] [_, _] R ⟨R, R, R, trivial⟩ ⟨R, (blk_ren R R), R, (blk_ren R R), trivial⟩ R
          ·
            rintro ⟨_, rfl⟩
            show G _ _ [(0, .a (.c (.p 110 0))), (1, .a (.c (.p 111 0))), (4, .a (.c (.v (.int .i64 v2))))] [(110, some (blk 110 [.v (.int .u32 0), .v (.int .u32 0), .v (.int .u32 0), .v (.int .u32 0), .v (.int .u32 0), .v (.int .u32 0), .v (.int .u32 0), .v (.int .u32 0), .v (.int .u32 0), .v (.int .u32 0), .v (.int .u32 0), .v (.int .u32 0), .v (.int .u32 0), .v (.int .u32 0), .v (.int .u32 0), .v (.int .u32 0)] 65)), (111, some (blk 111 [.v (.int .u32 x2.i0), .v (.int .u32 x2.i1), .v (.int .u32 x2.i2), .v (.int .u32 x2.i3), .v (.int .u32 x2.i4), .v (.int .u32 x2.i5), .v (.int .u32 x2.i6), .v (.int .u32 x2.i7), .v (.int .u32 x2.i8), .v (.int .u32 x2.i9), .v (.int .u32 x2.i10), .v (.int .u32 x2.i11), .v (.int .u32 x2.i12), .v (.int .u32 x2.i13), .v (.int .u32 x2.i14), .v (.int .u32 x2.i15)] 65))] _ _
            refine G.rg ?_
            refine K.bin (V := .int .i64 (w64 (v2 + 1))) (gd0 R) R R (fun _ => R) R ?_
            refine K.move (.inl R) (gd0 R) R R ?_
            refine K.nil ?_
            exact At.ag ⟨(n0, (x2, (w64 (v2 + 1)))), H1⟩ [(108, 110), (109, 111)] [_, _] (Nat.lt_succ_self _) R ⟨R, R, R, trivial⟩ ⟨R, (blk_ren R R), R, (blk_ren R R), trivial⟩ R
        ·
          replace H1 := bif_f H1 h1
          refine G.exit ?_
          refine At.over_exit ?_
          refine At.over_exit ?_
          refine At.block_hit ?_
          exact At.jd ⟨v1, oi H1⟩ [(102, 108), (103, 109)] [_, _] R ⟨R, R, trivial⟩ ⟨R, (blk_ren R R), R, (blk_ren R R), trivial⟩ R
  ·
    rintro ⟨_, rfl⟩
    show G _ _ [(0, .a (.c (.p 102 0))), (1, .a (.c (.p 103 0)))] [(102, some (blk 102 [.v (.int .u32 0), .v (.int .u32 0), .v (.int .u32 0), .v (.int .u32 0), .v (.int .u32 0), .v (.int .u32 0), .v (.int .u32 0), .v (.int .u32 0), .v (.int .u32 0), .v (.int .u32 0), .v (.int .u32 0), .v (.int .u32 0), .v (.int .u32 0), .v (.int .u32 0), .v (.int .u32 0), .v (.int .u32 0)] 65)), (103, some (blk 103 [.v (.int .u32 x1.i0), .v (.int .u32 x1.i1), .v (.int .u32 x1.i2), .v (.int .u32 x1.i3), .v (.int .u32 x1.i4), .v (.int .u32 x1.i5), .v (.int .u32 x1.i6), .v (.int .u32 x1.i7), .v (.int .u32 x1.i8), .v (.int .u32 x1.i9), .v (.int .u32 x1.i10), .v (.int .u32 x1.i11), .v (.int .u32 x1.i12), .v (.int .u32 x1.i13), .v (.int .u32 x1.i14), .v (.int .u32 x1.i15)] 65))] _ _
    refine G.seq ?_
    refine G.rg ?_
    refine K.loadS Y [_, _, _, _, _, _, _, _, _, _, _, _, _, _, _, _] (gd0 R) R R t65 R R R ?_
    refine K.store Y [_, _, _, _, _, _, _, _, _, _, _, _, _, _, _, _] (gd0 R) R R R t65 R R R R R ?_
    refine K.nil ?_
    refine At.next ?_
    refine G.ret ?_
    refine At.done Y [(.cell 0 65, .agg [_, _, _, _, _, _, _, _, _, _, _, _, _, _, _, _])] R ⟨.st R R t65 R R, trivial⟩ (to' := []) trivial ?_ ?_ R R R (.inl R)
    · cases H0; rfl
    · cases H0; rfl
theorem crc_nibbles_con {k : Nat}  {r : TArr16Int}  (H0 : crc_nibbles.f k = some r) : crc_nibbles_st r :=
  SCon.ren (rn []) (crc_nibbles_con0 (k := k)   H0) trivial trivial (by simp) (by simp)
abbrev crc_More_st (S : Foot) (W0 : World) (s1 : Value) (a0 : Int) (r : Int) : Prop := SCon Try.prog 26 [.a (.c (.v (.int .u32 a0))), SV.raw s1] [(0, rd S W0)] (.a (.c (.v (.int .u32 r)))) [(0, rd S W0)] []
theorem crc_More_con0 {k : Nat}  {S : Foot} {W0 : World} {s1 : Value} {a0 : Int} {l1 : List Int} {r : Int} (hL1 : LArg S W0 s1 u8E 1 l1) (H0 : crc_More.f k a0 l1 = some r) : crc_More_st S W0 s1 a0 r := by
  rw [crc_More.f] at H0
  obtain ⟨b1, o1, hI1⟩ := hL1
  refine spec_of [(0, _), (1, _)] [(0, _)] 38 Try.func26 R Try.ntmps26 R R R R (fun β W F => ?_)
  refine G.seq ?_
  refine G.rg ?_
  refine K.move (.inr R) (gd0 R) R R ?_
  refine K.nil ?_
  refine At.next ?_
  refine G.seq ?_
  obtain ⟨x1, hx1, H0⟩ := bnd H0
  refine G.rg ?_
  refine K.cR (cf 39 R) (crc_nibbles_con (k := k) hx1) (gd0 R) R R R R ?_
  refine K.alloc Y 100 [_, _, _, _, _, _, _, _, _, _, _, _, _, _, _, _] (gd0 R) t65 R R R R R ?_
  refine K.store Y [_, _, _, _, _, _, _, _, _, _, _, _, _, _, _, _] (gd0 R) R R R t65 R R R R R ?_
  refine K.nil ?_
  refine At.next ?_
  refine G.seq ?_
  refine G.rg ?_
  refine K.move (.inl R) (gd0 R) R R ?_
  refine K.un (V := .int .u32 (gcom .u32 a0)) (gd0 R) R (bt_com _ _) R ?_
  refine K.move (.inr R) (gd0 R) R R ?_
  refine K.nil ?_
  refine At.next ?_
  obtain ⟨x2, H1, H0⟩ := bnd H0
  refine G.sJ (σ := { v : Int // x2 = v }) (fun q => [(0, .a (.c (.v (.int .u32 q.1))))]) (fun q => [(0, rd S W0)]) ?_ ?_
  ·
    refine G.seq ?_
    refine G.rg ?_
    refine K.move (.inl R) (gd0 R) R R ?_
    refine K.lenL (rV 0 S W0 s1 b1 o1 u8E 1 l1) (hI1.is 0) (gd0 R) R R Try.underlying36 R ?_
    refine K.move (.inl R) (gd0 R) R R ?_
    refine K.nil ?_
    refine At.next ?_
    refine G.block ?_
    refine G.lp (σ := { q : Nat × (Int × Int) // crc_More.l0 k l1 x1 q.1 q.2 = some x2 }) (fun q => [(0, .a (.c (.v (.int .u32 q.1.2.1)))), (5, .a (.c (.p 103 0))), (11, SV.raw s1), (12, .a (.c (.v (.int .i64 (l1.length : Int))))), (13, .a (.c (.v (.int .i64 q.1.2.2))))]) (fun q => [(0, rd S W0), (103, blk 103 [.v (.int .u32 x1.i0), .v (.int .u32 x1.i1), .v (.int .u32 x1.i2), .v (.int .u32 x1.i3), .v (.int .u32 x1.i4), .v (.int .u32 x1.i5), .v (.int .u32 x1.i6), .v (.int .u32 x1.i7), .v (.int .u32 x1.i8), .v (.int .u32 x1.i9), .v (.int .u32 x1.i10), .v (.int .u32 x1.i11), .v (.int .u32 x1.i12), .v (.int .u32 x1.i13), .v (.int .u32 x1.i14), .v (.int .u32 x1.i15)] 65)]) (fun q => q.1.1) ⟨(k, ((gcom .u32 a0), 0)), H1⟩ ?_ ?_
    · exact At.into [(103, 100)] [_, _] R ⟨R, R, R, R, R, trivial⟩ ⟨R, (fun _ => R), R, (blk_ren R R), trivial⟩ R
    ·
      rintro ⟨⟨n0, v1, v2⟩, H1⟩
      show G _ _ [(0, .a (.c (.v (.int .u32 v1)))), (5, .a (.c (.p 103 0))), (11, SV.raw s1), (12, .a (.c (.v (.int .i64 (l1.length : Int))))), (13, .a (.c (.v (.int .i64 v2))))] [(0, some (rd S W0)), (103, some (blk 103 [.v (.int .u32 x1.i0), .v (.int .u32 x1.i1), .v (.int .u32 x1.i2), .v (.int .u32 x1.i3), .v (.int .u32 x1.i4), .v (.int .u32 x1.i5), .v (.int .u32 x1.i6), .v (.int .u32 x1.i7), .v (.int .u32 x1.i8), .v (.int .u32 x1.i9), .v (.int .u32 x1.i10), .v (.int .u32 x1.i11), .v (.int .u32 x1.i12), .v (.int .u32 x1.i13), .v (.int .u32 x1.i14), .v (.int .u32 x1.i15)] 65))] _ _
      cases n0 with
      | zero => exact absurd H1 (by simp [crc_More.l0])
      | succ n0 =>
        have HL0 := H1
        rw [crc_More.l0] at H1
        refine G.seq ?_
        refine G.rg ?_
        refine K.bin (V := .bool (decide (v2 < (l1.length : Int)))) (gd0 R) R R (fun _ => R) R ?_
        refine K.nil ?_
        refine At.next ?_
        refine G.seq ?_
        refine G.cond R (fun h1 => ?_) (fun h1 => ?_)
        ·
          replace H1 := bif_t H1 h1
          refine G.skip ?_
          refine At.next ?_
          refine G.seq ?_
          refine G.block ?_
          refine G.seq ?_
          obtain ⟨x3, hx3, H1⟩ := bnd H1
          refine G.rg ?_
          refine K.idxL (rV 0 S W0 s1 b1 o1 u8E 1 l1) ((v2).toNat) (hI1.is 0) (atL_get hx3) (atL_nn hx3) (gd0 R) R R R Try.underlying36 el36.size_run R ?_
          refine K.load1L Y (rV 0 S W0 s1 b1 o1 u8E 1 l1) ((v2).toNat) 0 (hI1.is 0) (atL_get hx3) (gd0 R) R R t5 R R ?_
          refine K.move (.inr R) (gd0 R) R R ?_
          refine K.nil ?_
          refine At.next ?_
          refine G.seq ?_
          refine G.rg ?_
          refine K.move (.inl R) (gd0 R) R R ?_
          refine K.move (.inl R) (gd0 R) R R ?_
          refine K.conv (V := .int .u32 (IntKind.u32.wrap x3)) (gd0 R) R (cv_int (by rw [Try.underlying5]; rfl) Try.underlying37) R ?_
          refine K.bin (V := .int .u32 (gxor .u32 v1 (IntKind.u32.wrap x3))) (gd0 R) R R (bt_xor _ _ _) R ?_
          refine K.move (.inr R) (gd0 R) R R ?_
          refine K.nil ?_
          refine At.next ?_
          refine G.seq ?_
          obtain ⟨x4, hx4, H1⟩ := bnd H1
          refine G.rg ?_
          refine K.move (.inl R) (gd0 R) R R ?_
          refine K.bin (V := .int .u32 (gshr .u32 (gxor .u32 v1 (IntKind.u32.wrap x3)) 4)) (gd0 R) R R (bt_shr _ _ _ _ (by decide)) R ?_
          refine K.move (.inl R) (gd0 R) R R ?_
          refine K.bin (V := .int .u32 (gand .u32 (gxor .u32 v1 (IntKind.u32.wrap x3)) 15)) (gd0 R) R R (bt_and _ _ _) R ?_
          refine K.idxD (off' := (gand .u32 (gxor .u32 v1 (IntKind.u32.wrap x3)) 15).toNat) _ tA65 (atL_lt hx4).1 (atL_lt hx4).2 (gd0 R) R R (by omega) R ?_
          refine K.load1 Y (gd0 R) R R t37 (cells_at (f := fun z => .v (.int .u32 z)) hx4) R ?_
          refine K.bin (V := .int .u32 (gxor .u32 (gshr .u32 (gxor .u32 v1 (IntKind.u32.wrap x3)) 4) x4)) (gd0 R) R R (bt_xor _ _ _) R ?_
          refine K.move (.inr R) (gd0 R) R R ?_
          refine K.nil ?_
          refine At.next ?_
          obtain ⟨x5, hx5, H1⟩ := bnd H1
          refine G.rg ?_
          refine K.move (.inl R) (gd0 R) R R ?_
          refine K.bin (V := .int .u32 (gshr .u32 (gxor .u32 (gshr .u32 (gxor .u32 v1 (IntKind.u32.wrap x3)) 4) x4) 4)) (gd0 R) R R (bt_shr _ _ _ _ (by decide)) R ?_
          refine K.move (.inl R) (gd0 R) R R ?_
          refine K.bin (V := .int .u32 (gand .u32 (gxor .u32 (gshr .u32 (gxor .u32 v1 (IntKind.u32.wrap x3)) 4) x4) 15)) (gd0 R) R R (bt_and _ _ _) R ?_
          refine K.idxD (off' := (gand .u32 (gxor .u32 (gshr .u32 (gxor .u32 v1 (IntKind.u32.wrap x3)) 4) x4) 15).toNat) _ tA65 (atL_lt hx5).1 (atL_lt hx5).2 (gd0 R) R R (by omega) R ?_
          refine K.load1 Y (gd0 R) R R t37 (cells_at (f := fun z => .v (.int .u32 z)) hx5) R ?_
          refine K.bin (V := .int .u32 (gxor .u32 (gshr .u32 (gxor .u32 (gshr .u32 (gxor .u32 v1 (IntKind.u32.wrap x3)) 4) x4) 4) x5)) (gd0 R) R R (bt_xor _ _ _) R ?_
          refine K.move (.inr R) (gd0 R) R R ?_
          refine K.nil ?_
          refine At.block_normal ?_
          refine At.next ?_
          refine G.rg ?_
          refine K.bin (V := .int .i64 (w64 (v2 + 1))) (gd0 R) R R (fun _ => R) R ?_
          refine K.move (.inl R) (gd0 R) R R ?_
          refine K.nil ?_
          exact At.ag ⟨(n0, ((gxor .u32 (gshr .u32 (gxor .u32 (gshr .u32 (gxor .u32 v1 (IntKind.u32.wrap x3)) 4) x4) 4) x5), (w64 (v2 + 1)))), H1⟩ [] [_, _] (Nat.lt_succ_self _) R ⟨R, R, R, R, R, trivial⟩ ⟨R, (fun _ => R), R, (blk_ren R R), trivial⟩ R
        ·
          replace H1 := bif_f H1 h1
          refine G.exit ?_
          refine At.over_exit ?_
          refine At.over_exit ?_
          refine At.block_hit ?_
          exact At.jd ⟨v1, oi H1⟩ [] [_] R ⟨R, trivial⟩ ⟨R, (fun _ => R), trivial⟩ R
  ·
    rintro ⟨_, rfl⟩
    show G _ _ [(0, .a (.c (.v (.int .u32 x2))))] [(0, some (rd S W0))] _ _
    refine G.seq ?_
    refine G.rg ?_
    refine K.move (.inl R) (gd0 R) R R ?_
    refine K.un (V := .int .u32 (gcom .u32 x2)) (gd0 R) R (bt_com _ _) R ?_
    refine K.move (.inr R) (gd0 R) R R ?_
    refine K.nil ?_
    refine At.next ?_
    refine G.ret ?_
    exact At.dr Y [4] R R (by cases H0; rfl) (by cases H0; rfl) R R R
theorem crc_More_con {k : Nat}  {S : Foot} {W0 : World} {s1 : Value} {a0 : Int} {l1 : List Int} {r : Int} (hL1 : LArg S W0 s1 u8E 1 l1) (H0 : crc_More.f k a0 l1 = some r) : crc_More_st S W0 s1 a0 r :=
  SCon.ren (rn []) (crc_More_con0 (k := k)  hL1 H0) ⟨(fun _ => R), trivial⟩ ⟨(fun _ => R), trivial⟩ (by simp) (by simp)
abbrev crc_Sum_st (S : Foot) (W0 : World) (s0 : Value) (r : Int) : Prop := SCon Try.prog 24 [SV.raw s0] [(0, rd S W0)] (.a (.c (.v (.int .u32 r)))) [(0, rd S W0)] []
theorem crc_Sum_con0 {k : Nat}  {S : Foot} {W0 : World} {s0 : Value} {l0 : List Int} {r : Int} (hL0 : LArg S W0 s0 u8E 1 l0) (H0 : crc_Sum.f k l0 = some r) : crc_Sum_st S W0 s0 r := by
  rw [crc_Sum.f] at H0
  obtain ⟨b0, o0, hI0⟩ := hL0
  refine spec_of [(0, _)] [(0, _)] 5 Try.func24 R Try.ntmps24 R R R R (fun β W F => ?_)
  refine G.seq ?_
  refine G.rg ?_
  refine K.move (.inr R) (gd0 R) R R ?_
  refine K.nil ?_
  refine At.next ?_
  refine G.seq ?_
  obtain ⟨x1, hx1, H0⟩ := bnd H0
  refine G.rg ?_
  refine K.move (.inl R) (gd0 R) R R ?_
  refine K.cV (cf 26 R) [0] (fun β w S2 h => crc_More_con (k := k) ((hI0.isC 0).larg ⟨_, List.mem_cons_self⟩ h) hx1) (gd0 R) (fun _ => R) R R R ?_
  refine K.move (.inr R) (gd0 R) R R ?_
  refine K.nil ?_
  refine At.next ?_
  refine G.ret ?_
  exact At.dr Y [2] R R (by cases H0; rfl) (by cases H0; rfl) R R R
theorem crc_Sum_con {k : Nat}  {S : Foot} {W0 : World} {s0 : Value} {l0 : List Int} {r : Int} (hL0 : LArg S W0 s0 u8E 1 l0) (H0 : crc_Sum.f k l0 = some r) : crc_Sum_st S W0 s0 r :=
  SCon.ren (rn []) (crc_Sum_con0 (k := k)  hL0 H0) ⟨(fun _ => R), trivial⟩ ⟨(fun _ => R), trivial⟩ (by simp) (by simp)
abbrev frame_little_st (a0 : Int) (a1 : Int) (r : List Int) (m30 : Nat) : Prop := SCon Try.prog 41 [.a (.c (.v (.int .u64 a0))), .a (.c (.v (.int .i64 a1)))] [] (.a (.c (.nv m30))) [(m30, lrow m30 5 u8E 1 r)] [m30]
theorem frame_little_con0 {k : Nat}  {a0 : Int} {a1 : Int} {r : List Int}  (H0 : frame_little.f k a0 a1 = some r) : frame_little_st a0 a1 r 30 := by
  rw [frame_little.f] at H0
  refine spec_of [(0, _), (1, _)] [] 24 Try.func41 R Try.ntmps41 R R R R (fun β W F => ?_)
  refine G.seq ?_
  refine G.rg ?_
  refine K.nilRow 100 5 u8E 1 (.inl R) (gd0 R) R R R ?_
  refine K.nil ?_
  refine At.next ?_
  refine G.seq ?_
  obtain ⟨h1, H0⟩ := grd H0
  refine G.rg ?_
  refine K.move (.inl R) (gd0 R) R R ?_
  refine K.makeRow Y (f := u8E) 101 (0 : Int) el36 t5 R (gd0 R) R h1.1 h1.2 (by decide) R R R ?_
  refine K.move (.inr R) (gd0 R) R R ?_
  refine K.nil ?_
  refine At.next ?_
  obtain ⟨x1, H1, H0⟩ := bnd H0
  refine G.sJ (σ := { v : List Int // x1 = v }) (fun q => [(5, .a (.c (.nv 102)))]) (fun q => [(102, lrow 102 5 u8E 1 q.1)]) ?_ ?_
  ·
    refine G.seq ?_
    refine G.rg ?_
    refine K.move (.inl R) (gd0 R) R R ?_
    refine K.lenL (lrowV 101 5 u8E 1 (List.replicate (a1).toNat (0 : Int))) (lrowV_is u8E_len (by decide)) (gd0 R) R R Try.underlying36 R ?_
    refine K.move (.inl R) (gd0 R) R R ?_
    refine K.nil ?_
    refine At.next ?_
    refine G.block ?_
    refine G.lp (σ := { q : Nat × (List Int × Int) // frame_little.l0 k a0 a1 q.1 q.2 = some x1 }) (fun q => [(0, .a (.c (.v (.int .u64 a0)))), (5, .a (.c (.nv 105))), (10, .a (.c (.v (.int .i64 ((List.replicate (a1).toNat (0 : Int)).length : Int))))), (11, .a (.c (.v (.int .i64 q.1.2.2))))]) (fun q => [(105, lrow 105 5 u8E 1 q.1.2.1)]) (fun q => q.1.1) ⟨(k, ((List.replicate (a1).toNat (0 : Int)), 0)), H1⟩ ?_ ?_
    · exact At.into [(105, 101)] [_] R ⟨R, R, R, R, trivial⟩ ⟨R, (lrow_ren R), trivial⟩ R
    ·
      rintro ⟨⟨n0, v1, v2⟩, H1⟩
      show G _ _ [(0, .a (.c (.v (.int .u64 a0)))), (5, .a (.c (.nv 105))), (10, .a (.c (.v (.int .i64 ((List.replicate (a1).toNat (0 : Int)).length : Int))))), (11, .a (.c (.v (.int .i64 v2))))] [(105, some (lrow 105 5 u8E 1 v1))] _ _
      cases n0 with
      | zero => exact absurd H1 (by simp [frame_little.l0])
      | succ n0 =>
        have HL0 := H1
        rw [frame_little.l0] at H1
        refine G.seq ?_
        refine G.rg ?_
        refine K.bin (V := .bool (decide (v2 < ((List.replicate (a1).toNat (0 : Int)).length : Int)))) (gd0 R) R R (fun _ => R) R ?_
        refine K.nil ?_
        refine At.next ?_
        refine G.seq ?_
        refine G.cond R (fun h2 => ?_) (fun h2 => ?_)
        ·
          replace H1 := bif_t H1 h2
          refine G.skip ?_
          refine At.next ?_
          refine G.seq ?_
          refine G.block ?_
          refine G.seq ?_
          refine G.rg ?_
          refine K.move (.inl R) (gd0 R) R R ?_
          refine K.move (.inr R) (gd0 R) R R ?_
          refine K.nil ?_
          refine At.next ?_
          obtain ⟨h3, H1⟩ := grd H1
          obtain ⟨x2, hx2, H1⟩ := bnd H1
          refine G.rg ?_
          refine K.move (.inl R) (gd0 R) R R ?_
          refine K.move (.inl R) (gd0 R) R R ?_
          refine K.move (.inl R) (gd0 R) R R ?_
          refine K.move (.inl R) (gd0 R) R R ?_
          refine K.bin (V := .int .i64 (w64 (8 * v2))) (gd0 R) R R (fun _ => R) R ?_
          refine K.bin (V := .int .u64 (gshr .u64 a0 (w64 (8 * v2)))) (gd0 R) R R (bt_shr _ _ _ _ h3) R ?_
          refine K.conv (V := .int .u8 (IntKind.u8.wrap (gshr .u64 a0 (w64 (8 * v2))))) (gd0 R) R (cv_int (by rw [Try.underlying68]; rfl) Try.underlying5) R ?_
          refine K.idxL (lrowV 105 5 u8E 1 v1) ((v2).toNat) (lrowV_is u8E_len (by decide)) (atL_get hx2) (atL_nn hx2) (gd0 R) R R R Try.underlying36 el36.size_run R ?_
          refine K.storeL Y ((v2).toNat) 0 [_] (IntKind.u8.wrap (gshr .u64 a0 (w64 (8 * v2)))) u8E_len (by decide) (atL_get hx2) (gd0 R) R R R t5 R R R R R R ?_
          refine K.nil ?_
          refine At.block_normal ?_
          refine At.next ?_
          refine G.rg ?_
          refine K.bin (V := .int .i64 (w64 (v2 + 1))) (gd0 R) R R (fun _ => R) R ?_
          refine K.move (.inl R) (gd0 R) R R ?_
          refine K.nil ?_
          exact At.ag ⟨(n0, ((v1.set ((v2).toNat) (IntKind.u8.wrap (gshr .u64 a0 (w64 (8 * v2))))), (w64 (v2 + 1)))), H1⟩ [] [_] (Nat.lt_succ_self _) R ⟨R, R, R, R, trivial⟩ ⟨R, (lrow_ren R), trivial⟩ R
        ·
          replace H1 := bif_f H1 h2
          refine G.exit ?_
          refine At.over_exit ?_
          refine At.over_exit ?_
          refine At.block_hit ?_
          exact At.jd ⟨v1, oi H1⟩ [(102, 105)] [_] R ⟨R, trivial⟩ ⟨R, (lrow_ren R), trivial⟩ R
  ·
    rintro ⟨_, rfl⟩
    show G _ _ [(5, .a (.c (.nv 102)))] [(102, some (lrow 102 5 u8E 1 x1))] _ _
    refine G.seq ?_
    refine G.rg ?_
    refine K.move (.inl R) (gd0 R) R R ?_
    refine K.move (.inr R) (gd0 R) R R ?_
    refine K.nil ?_
    refine At.next ?_
    refine G.ret ?_
    refine At.ren (fs' := [(4, .a (.c (.nv 30)))]) (tl := [(30, lrow 30 5 u8E 1 x1)]) [(30, 102)] [_] R ⟨R, trivial⟩ ⟨R, (lrow_ren R), trivial⟩ R ?_
    exact At.dr Y [4] R R (by cases H0; rfl) (by cases H0; rfl) R R R
theorem frame_little_con {k : Nat}  {a0 : Int} {a1 : Int} {r : List Int}  (H0 : frame_little.f k a0 a1 = some r) (m30 : Nat) (hd : ndB [m30] = true) : frame_little_st a0 a1 r m30 :=
  SCon.ren (rn [(30, m30)]) (frame_little_con0 (k := k)   H0) trivial ⟨(lrow_ren R), trivial⟩ (rn_nd hd R R) (rn_ks hd R R R)
abbrev slices_Grow_n0_st (a1 : Int) (r : List Int) (m30 : Nat) : Prop := SCon Try.prog 47 [SV.raw (.slice none 0 0), .a (.c (.v (.int .i64 a1)))] [] (.a (.c (.nv m30))) [(m30, lrow m30 5 u8E 1 r)] [m30]
theorem slices_Grow_n0_con0 {k : Nat}  {a1 : Int} {r : List Int}  (H0 : slices_Grow.f k ([] : List Int) a1 = some r) : slices_Grow_n0_st a1 r 30 := by
  rw [slices_Grow.f] at H0
  refine spec_of [(0, _), (1, _)] [] 27 Try.func47 R Try.ntmps47 R R R R (fun β W F => ?_)
  refine G.seq ?_
  refine G.rg ?_
  refine K.nilRow 100 5 u8E 1 (.inl R) (gd0 R) R R R ?_
  refine K.nil ?_
  refine At.next ?_
  obtain ⟨x1, H1, H0⟩ := bnd H0
  refine G.sJ (σ := { v : Unit // x1 = v }) (fun q => [(0, SV.raw (.slice none 0 0)), (1, .a (.c (.v (.int .i64 a1))))]) (fun q => []) ?_ ?_
  ·
    refine G.seq ?_
    refine G.rg ?_
    refine K.move (.inl R) (gd0 R) R R ?_
    refine K.bin (V := .bool (decide (a1 < 0))) (gd0 R) R R (fun _ => R) R ?_
    refine K.nil ?_
    refine At.next ?_
    refine G.cond R (fun h1 => ?_) (fun h1 => ?_)
    ·
      replace H1 := bif_t H1 h1
      cases H1
    ·
      replace H1 := bif_f H1 h1
      refine G.skip ?_
      exact At.jd ⟨(), oi H1⟩ [] [] R ⟨R, R, trivial⟩ trivial R
  ·
    rintro ⟨_, rfl⟩
    show G _ _ [(0, SV.raw (.slice none 0 0)), (1, .a (.c (.v (.int .i64 a1))))] [] _ _
    refine G.seq ?_
    refine G.seq ?_
    refine G.rg ?_
    refine K.move (.inl R) (gd0 R) R R ?_
    refine K.move (.inl R) (gd0 R) R R ?_
    refine K.bi1 (X := SV.raw (.slice none 0 0)) (V := .int .i64 0) (gd0 R) R (fun _ _ w => capS Try.underlying36 _ w) R ?_
    refine K.move (.inl R) (gd0 R) R R ?_
    refine K.bi1 (X := SV.raw (.slice none 0 0)) (V := .int .i64 0) (gd0 R) R (fun _ _ w => lenS Try.underlying36 _ w) R ?_
    refine K.bin (V := .int .i64 (w64 (0 - 0))) (gd0 R) R R (fun _ => R) R ?_
    refine K.bin (V := .int .i64 (w64 (a1 - (w64 (0 - 0))))) (gd0 R) R R (fun _ => R) R ?_
    refine K.move (.inr R) (gd0 R) R R ?_
    refine K.nil ?_
    refine At.next ?_
    refine G.seq ?_
    refine G.rg ?_
    refine K.move (.inl R) (gd0 R) R R ?_
    refine K.bin (V := .bool (decide ((w64 (a1 - (w64 (0 - 0)))) > 0))) (gd0 R) R R (fun _ => R) R ?_
    refine K.nil ?_
    refine At.next ?_
    refine G.cond R (fun h2 => ?_) (fun h2 => ?_)
    ·
      replace H0 := bif_t H0 h2
      obtain ⟨h3, H0⟩ := grd H0
      refine G.rg ?_
      refine K.move (.inl R) (gd0 R) R R ?_
      refine K.move (.inl R) (gd0 R) R R ?_
      refine K.bi1 (X := SV.raw (.slice none 0 0)) (V := .int .i64 0) (gd0 R) R (fun _ _ w => capS Try.underlying36 _ w) R ?_
      refine K.partN (gd0 R) R (.at_ R (Int.le_refl _) R) Try.underlying36 el36.size_run R ?_
      refine K.move (.inl R) (gd0 R) R R ?_
      refine K.appZ Y (f := u8E) 101 (0 : Int) el36 t5 R Try.underlying3 (gd0 R) R R h3.1 h3.2 (by decide) R R R ?_
      refine K.move (.inl R) (gd0 R) R R ?_
      refine K.bi1 (X := SV.raw (.slice none 0 0)) (V := .int .i64 0) (gd0 R) R (fun _ _ w => lenS Try.underlying36 _ w) R ?_
      refine K.cutL 102 0 u8E_len (gd0 R) R (.at_ R (Int.le_refl _) R) R Try.underlying36 el36.size_run (Nat.zero_le _) R R R R ?_
      refine K.move (.inr R) (gd0 R) R R ?_
      refine K.nil ?_
      refine At.next ?_
      refine G.seq ?_
      refine G.rg ?_
      refine K.move (.inl R) (gd0 R) R R ?_
      refine K.move (.inr R) (gd0 R) R R ?_
      refine K.nil ?_
      refine At.next ?_
      refine G.ret ?_
      refine At.ren (fs' := [(4, .a (.c (.nv 30)))]) (tl := [(30, lrow 30 5 u8E 1 ((List.replicate ((w64 (a1 - (w64 (0 - 0))))).toNat (0 : Int)).take 0))]) [(30, 102)] [_] R ⟨R, trivial⟩ ⟨R, (lrow_ren R), trivial⟩ R ?_
      exact At.dr Y [4] R R (by cases H0; rfl) (by cases H0; rfl) R R R
    ·
      replace H0 := bif_f H0 h2
      refine G.skip ?_
      refine At.next ?_
      refine G.seq ?_
      refine G.rg ?_
      refine K.move (.inl R) (gd0 R) R R ?_
      refine K.nilRowS 103 5 u8E 1 (.inl R) (gd0 R) R R R R ?_
      refine K.nil ?_
      refine At.next ?_
      refine G.ret ?_
      refine At.ren (fs' := [(4, .a (.c (.nv 30)))]) (tl := [(30, lrow 30 5 u8E 1 ([] : List Int))]) [(30, 103)] [_] R ⟨R, trivial⟩ ⟨R, (lrow_ren R), trivial⟩ R ?_
      exact At.dr Y [4] R R (by cases H0; rfl) (by cases H0; rfl) R R R
theorem slices_Grow_n0_con {k : Nat}  {a1 : Int} {r : List Int}  (H0 : slices_Grow.f k ([] : List Int) a1 = some r) (m30 : Nat) (hd : ndB [m30] = true) : slices_Grow_n0_st a1 r m30 :=
  SCon.ren (rn [(30, m30)]) (slices_Grow_n0_con0 (k := k)   H0) trivial ⟨(lrow_ren R), trivial⟩ (rn_nd hd R R) (rn_ks hd R R R)
abbrev slices_Concat_st (S : Foot) (W0 : World) (s0 : Value) (r : List Int) (m30 : Nat) : Prop := SCon Try.prog 42 [SV.raw s0] [(0, rd S W0)] (.a (.c (.nv m30))) [(0, rd S W0), (m30, lrow m30 5 u8E 1 r)] [m30]
theorem slices_Concat_con0 {k : Nat}  {S : Foot} {W0 : World} {s0 : Value} {l0 : List (List Int)} {r : List Int} (hL0 : LL S W0 s0 u8E 1 l0) (H0 : slices_Concat.f k l0 = some r) : slices_Concat_st S W0 s0 r 30 := by
  rw [slices_Concat.f] at H0
  obtain ⟨vs0, ⟨b0, o0, hI0⟩, hin0⟩ := hL0
  refine spec_of [(0, _)] [(0, _)] 36 Try.func42 R Try.ntmps42 R R R R (fun β W F => ?_)
  refine G.seq ?_
  refine G.rg ?_
  refine K.nilRow 100 5 u8E 1 (.inl R) (gd0 R) R R R ?_
  refine K.nil ?_
  refine At.next ?_
  refine G.seq ?_
  refine G.rg ?_
  refine K.move (.inr R) (gd0 R) R R ?_
  refine K.nil ?_
  refine At.next ?_
  obtain ⟨x1, H1, H0⟩ := bnd H0
  refine G.sJ (σ := { v : Int // x1 = v }) (fun q => [(0, SV.raw s0), (3, .a (.c (.v (.int .i64 q.1))))]) (fun q => [(0, rd S W0)]) ?_ ?_
  ·
    refine G.seq ?_
    refine G.rg ?_
    refine K.move (.inl R) (gd0 R) R R ?_
    refine K.lenE (rV 0 S W0 s0 b0 o0 vE 1 vs0) (l0.length : Int) (hI0.is 0) hin0.len (gd0 R) R R Try.underlying44 R ?_
    refine K.move (.inl R) (gd0 R) R R ?_
    refine K.nil ?_
    refine At.next ?_
    refine G.block ?_
    refine G.lp (σ := { q : Nat × (Int × Int) // slices_Concat.l0 k l0 q.1 q.2 = some x1 }) (fun q => [(0, SV.raw s0), (3, .a (.c (.v (.int .i64 q.1.2.1)))), (9, SV.raw s0), (10, .a (.c (.v (.int .i64 (l0.length : Int))))), (11, .a (.c (.v (.int .i64 q.1.2.2))))]) (fun q => [(0, rd S W0)]) (fun q => q.1.1) ⟨(k, (0, 0)), H1⟩ ?_ ?_
    · exact At.into [] [_] R ⟨R, R, R, R, R, trivial⟩ ⟨R, (fun _ => R), trivial⟩ R
    ·
      rintro ⟨⟨n0, v1, v2⟩, H1⟩
      show G _ _ [(0, SV.raw s0), (3, .a (.c (.v (.int .i64 v1)))), (9, SV.raw s0), (10, .a (.c (.v (.int .i64 (l0.length : Int))))), (11, .a (.c (.v (.int .i64 v2))))] [(0, some (rd S W0))] _ _
      cases n0 with
      | zero => exact absurd H1 (by simp [slices_Concat.l0])
      | succ n0 =>
        have HL0 := H1
        rw [slices_Concat.l0] at H1
        refine G.seq ?_
        refine G.rg ?_
        refine K.bin (V := .bool (decide (v2 < (l0.length : Int)))) (gd0 R) R R (fun _ => R) R ?_
        refine K.nil ?_
        refine At.next ?_
        refine G.seq ?_
        refine G.cond R (fun h1 => ?_) (fun h1 => ?_)
        ·
          replace H1 := bif_t H1 h1
          refine G.skip ?_
          refine At.next ?_
          refine G.seq ?_
          refine G.block ?_
          refine G.seq ?_
          obtain ⟨x2, hx2, H1⟩ := bnd H1
          obtain ⟨ao_h2, cap_h2, b_h2, o_h2, hw_h2, hI_h2⟩ := hin0.at hx2
          refine G.rg ?_
          refine K.idxL (rV 0 S W0 s0 b0 o0 vE 1 vs0) ((v2).toNat) (hI0.is 0) hw_h2 (atL_nn hx2) (gd0 R) R R R Try.underlying44 el44.size_run R ?_
          refine K.load1L Y (rV 0 S W0 s0 b0 o0 vE 1 vs0) ((v2).toNat) 0 (hI0.is 0) hw_h2 (gd0 R) R R t36 R R ?_
          refine K.move (.inr R) (gd0 R) R R ?_
          refine K.nil ?_
          refine At.next ?_
          refine G.seq ?_
          refine G.rg ?_
          refine K.move (.inl R) (gd0 R) R R ?_
          refine K.move (.inl R) (gd0 R) R R ?_
          refine K.lenL (rV 0 S W0 (Value.slice ao_h2 x2.length cap_h2) b_h2 o_h2 u8E 1 x2) (hI_h2.is 0) (gd0 R) R R Try.underlying36 R ?_
          refine K.bin (V := .int .i64 (w64 (v1 + (x2.length : Int)))) (gd0 R) R R (fun _ => R) R ?_
          refine K.move (.inr R) (gd0 R) R R ?_
          refine K.nil ?_
          refine At.next ?_
          refine G.seq ?_
          refine G.rg ?_
          refine K.move (.inl R) (gd0 R) R R ?_
          refine K.bin (V := .bool (decide ((w64 (v1 + (x2.length : Int))) < 0))) (gd0 R) R R (fun _ => R) R ?_
          refine K.nil ?_
          refine At.next ?_
          refine G.cond R (fun h4 => ?_) (fun h4 => ?_)
          ·
            replace H1 := bif_t H1 h4
            cases H1
          ·
            replace H1 := bif_f H1 h4
            refine G.skip ?_
            refine At.block_normal ?_
            refine At.next ?_
            refine G.rg ?_
            refine K.bin (V := .int .i64 (w64 (v2 + 1))) (gd0 R) R R (fun _ => R) R ?_
            refine K.move (.inl R) (gd0 R) R R ?_
            refine K.nil ?_
            exact At.ag ⟨(n0, ((w64 (v1 + (x2.length : Int))), (w64 (v2 + 1)))), H1⟩ [] [_] (Nat.lt_succ_self _) R ⟨R, R, R, R, R, trivial⟩ ⟨R, (fun _ => R), trivial⟩ R
        ·
          replace H1 := bif_f H1 h1
          refine G.exit ?_
          refine At.over_exit ?_
          refine At.over_exit ?_
          refine At.block_hit ?_
          exact At.jd ⟨v1, oi H1⟩ [] [_] R ⟨R, R, trivial⟩ ⟨R, (fun _ => R), trivial⟩ R
  ·
    rintro ⟨_, rfl⟩
    show G _ _ [(0, SV.raw s0), (3, .a (.c (.v (.int .i64 x1))))] [(0, some (rd S W0))] _ _
    refine G.seq ?_
    obtain ⟨x3, hx3, H0⟩ := bnd H0
    refine G.rg ?_
    refine K.move (.inl R) (gd0 R) R R ?_
    refine K.c0 (cf 47 R) (slices_Grow_n0_con (k := k) hx3 101 R) (gd0 R) R R R R ?_
    refine K.move (.inr R) (gd0 R) R R ?_
    refine K.nil ?_
    refine At.next ?_
    obtain ⟨x4, H1, H0⟩ := bnd H0
    refine G.sJ (σ := { v : List Int // x4 = v }) (fun q => [(6, .a (.c (.nv 102)))]) (fun q => [(0, rd S W0), (102, lrow 102 5 u8E 1 q.1)]) ?_ ?_
    ·
      refine G.seq ?_
      refine G.rg ?_
      refine K.move (.inl R) (gd0 R) R R ?_
      refine K.lenE (rV 0 S W0 s0 b0 o0 vE 1 vs0) (l0.length : Int) (hI0.is 0) hin0.len (gd0 R) R R Try.underlying44 R ?_
      refine K.move (.inl R) (gd0 R) R R ?_
      refine K.nil ?_
      refine At.next ?_
      refine G.block ?_
      refine G.lp (σ := { q : Nat × (List Int × Int) // slices_Concat.l1 k l0 q.1 q.2 = some x4 }) (fun q => [(6, .a (.c (.nv 105))), (25, SV.raw s0), (26, .a (.c (.v (.int .i64 (l0.length : Int))))), (27, .a (.c (.v (.int .i64 q.1.2.2))))]) (fun q => [(0, rd S W0), (105, lrow 105 5 u8E 1 q.1.2.1)]) (fun q => q.1.1) ⟨(k, (x3, 0)), H1⟩ ?_ ?_
      · exact At.into [(105, 101)] [_, _] R ⟨R, R, R, R, trivial⟩ ⟨R, (fun _ => R), R, (lrow_ren R), trivial⟩ R
      ·
        rintro ⟨⟨n0, v101, v102⟩, H1⟩
        show G _ _ [(6, .a (.c (.nv 105))), (25, SV.raw s0), (26, .a (.c (.v (.int .i64 (l0.length : Int))))), (27, .a (.c (.v (.int .i64 v102))))] [(0, some (rd S W0)), (105, some (lrow 105 5 u8E 1 v101))] _ _
        cases n0 with
        | zero => exact absurd H1 (by simp [slices_Concat.l1])
        | succ n0 =>
          have HL1 := H1
          rw [slices_Concat.l1] at H1
          refine G.seq ?_
          refine G.rg ?_
          refine K.bin (V := .bool (decide (v102 < (l0.length : Int)))) (gd0 R) R R (fun _ => R) R ?_
          refine K.nil ?_
          refine At.next ?_
          refine G.seq ?_
          refine G.cond R (fun h5 => ?_) (fun h5 => ?_)
          ·
            replace H1 := bif_t H1 h5
            refine G.skip ?_
            refine At.next ?_
            refine G.seq ?_
            refine G.block ?_
            refine G.seq ?_
            obtain ⟨x5, hx5, H1⟩ := bnd H1
            obtain ⟨ao_h6, cap_h6, b_h6, o_h6, hw_h6, hI_h6⟩ := hin0.at hx5
            refine G.rg ?_
            refine K.idxL (rV 0 S W0 s0 b0 o0 vE 1 vs0) ((v102).toNat) (hI0.is 0) hw_h6 (atL_nn hx5) (gd0 R) R R R Try.underlying44 el44.size_run R ?_
            refine K.load1L Y (rV 0 S W0 s0 b0 o0 vE 1 vs0) ((v102).toNat) 0 (hI0.is 0) hw_h6 (gd0 R) R R t36 R R ?_
            refine K.move (.inr R) (gd0 R) R R ?_
            refine K.nil ?_
            refine At.next ?_
            obtain ⟨h8, H1⟩ := grd H1
            refine G.rg ?_
            refine K.move (.inl R) (gd0 R) R R ?_
            refine K.move (.inl R) (gd0 R) R R ?_
            refine K.appendL 106 (rV 0 S W0 (Value.slice ao_h6 x5.length cap_h6) b_h6 o_h6 u8E 1 x5) _ el36 (hI_h6.is 0) u8E_one (gd0 R) R R R R R (ap_m h8) (ap_b h8 (by decide)) R R R R R R ?_
            refine K.move (.inr R) (gd0 R) R R ?_
            refine K.nil ?_
            refine At.block_normal ?_
            refine At.next ?_
            refine G.rg ?_
            refine K.bin (V := .int .i64 (w64 (v102 + 1))) (gd0 R) R R (fun _ => R) R ?_
            refine K.move (.inl R) (gd0 R) R R ?_
            refine K.nil ?_
            exact At.ag ⟨(n0, ((v101 ++ x5), (w64 (v102 + 1)))), H1⟩ [(105, 106)] [_, _] (Nat.lt_succ_self _) R ⟨R, R, R, R, trivial⟩ ⟨R, (fun _ => R), R, (lrow_ren R), trivial⟩ R
          ·
            replace H1 := bif_f H1 h5
            refine G.exit ?_
            refine At.over_exit ?_
            refine At.over_exit ?_
            refine At.block_hit ?_
            exact At.jd ⟨v101, oi H1⟩ [(102, 105)] [_, _] R ⟨R, trivial⟩ ⟨R, (fun _ => R), R, (lrow_ren R), trivial⟩ R
    ·
      rintro ⟨_, rfl⟩
      show G _ _ [(6, .a (.c (.nv 102)))] [(0, some (rd S W0)), (102, some (lrow 102 5 u8E 1 x4))] _ _
      refine G.seq ?_
      refine G.rg ?_
      refine K.move (.inl R) (gd0 R) R R ?_
      refine K.move (.inr R) (gd0 R) R R ?_
      refine K.nil ?_
      refine At.next ?_
      refine G.ret ?_
      refine At.ren (fs' := [(2, .a (.c (.nv 30)))]) (tl := [(0, rd S W0), (30, lrow 30 5 u8E 1 x4)]) [(30, 102)] [_, _] R ⟨R, trivial⟩ ⟨R, (fun _ => R), R, (lrow_ren R), trivial⟩ R ?_
      exact At.dr Y [2] R R (by cases H0; rfl) (by cases H0; rfl) R R R
theorem slices_Concat_con {k : Nat}  {S : Foot} {W0 : World} {s0 : Value} {l0 : List (List Int)} {r : List Int} (hL0 : LL S W0 s0 u8E 1 l0) (H0 : slices_Concat.f k l0 = some r) (m30 : Nat) (hd : ndB [m30] = true) : slices_Concat_st S W0 s0 r m30 :=
  SCon.ren (rn [(30, m30)]) (slices_Concat_con0 (k := k)  hL0 H0) ⟨(fun _ => R), trivial⟩ ⟨(fun _ => R), (lrow_ren R), trivial⟩ (rn_nd hd R R) (rn_ks hd R R R)
abbrev frame_Put_st (S : Foot) (W0 : World) (s0 : Value) (r : List Int) (m30 : Nat) : Prop := SCon Try.prog 30 [SV.raw s0] [(0, rd S W0)] (.a (.c (.nv m30))) [(0, rd S W0), (m30, lrow m30 5 u8E 1 r)] [m30]
theorem frame_Put_con0 {k : Nat}  {S : Foot} {W0 : World} {s0 : Value} {l0 : List (List Int)} {r : List Int} (hL0 : LL S W0 s0 u8E 1 l0) (H0 : frame_Put.f k l0 = some r) : frame_Put_st S W0 s0 r 30 := by
  rw [frame_Put.f] at H0
  obtain ⟨vs0, ⟨b0, o0, hI0⟩, hin0⟩ := hL0
  refine spec_of [(0, _)] [(0, _)] 32 Try.func30 R Try.ntmps30 R R R R (fun β W F => ?_)
  refine G.seq ?_
  refine G.rg ?_
  refine K.nilRow 100 5 u8E 1 (.inl R) (gd0 R) R R R ?_
  refine K.nil ?_
  refine At.next ?_
  refine G.seq ?_
  refine G.rg ?_
  refine K.nilRow 101 5 u8E 1 (.inl R) (gd0 R) R R R ?_
  refine K.nil ?_
  refine At.next ?_
  obtain ⟨x1, H1, H0⟩ := bnd H0
  refine G.sJ (σ := { v : List Int // x1 = v }) (fun q => [(3, .a (.c (.nv 102)))]) (fun q => [(0, rd S W0), (102, lrow 102 5 u8E 1 q.1)]) ?_ ?_
  ·
    refine G.seq ?_
    refine G.rg ?_
    refine K.move (.inl R) (gd0 R) R R ?_
    refine K.lenE (rV 0 S W0 s0 b0 o0 vE 1 vs0) (l0.length : Int) (hI0.is 0) hin0.len (gd0 R) R R Try.underlying44 R ?_
    refine K.move (.inl R) (gd0 R) R R ?_
    refine K.nil ?_
    refine At.next ?_
    refine G.block ?_
    refine G.lp (σ := { q : Nat × (List Int × Int) // frame_Put.l0 k l0 q.1 q.2 = some x1 }) (fun q => [(3, .a (.c (.nv 105))), (8, SV.raw s0), (9, .a (.c (.v (.int .i64 (l0.length : Int))))), (10, .a (.c (.v (.int .i64 q.1.2.2))))]) (fun q => [(0, rd S W0), (105, lrow 105 5 u8E 1 q.1.2.1)]) (fun q => q.1.1) ⟨(k, (([] : List Int), 0)), H1⟩ ?_ ?_
    · exact At.into [(105, 101)] [_, _] R ⟨R, R, R, R, trivial⟩ ⟨R, (fun _ => R), R, (lrow_ren R), trivial⟩ R
    ·
      rintro ⟨⟨n0, v1, v2⟩, H1⟩
      show G _ _ [(3, .a (.c (.nv 105))), (8, SV.raw s0), (9, .a (.c (.v (.int .i64 (l0.length : Int))))), (10, .a (.c (.v (.int .i64 v2))))] [(0, some (rd S W0)), (105, some (lrow 105 5 u8E 1 v1))] _ _
      cases n0 with
      | zero => exact absurd H1 (by simp [frame_Put.l0])
      | succ n0 =>
        have HL0 := H1
        rw [frame_Put.l0] at H1
        refine G.seq ?_
        refine G.rg ?_
        refine K.bin (V := .bool (decide (v2 < (l0.length : Int)))) (gd0 R) R R (fun _ => R) R ?_
        refine K.nil ?_
        refine At.next ?_
        refine G.seq ?_
        refine G.cond R (fun h1 => ?_) (fun h1 => ?_)
        ·
          replace H1 := bif_t H1 h1
          refine G.skip ?_
          refine At.next ?_
          refine G.seq ?_
          refine G.block ?_
          refine G.seq ?_
          obtain ⟨x2, hx2, H1⟩ := bnd H1
          obtain ⟨ao_h2, cap_h2, b_h2, o_h2, hw_h2, hI_h2⟩ := hin0.at hx2
          refine G.rg ?_
          refine K.idxL (rV 0 S W0 s0 b0 o0 vE 1 vs0) ((v2).toNat) (hI0.is 0) hw_h2 (atL_nn hx2) (gd0 R) R R R Try.underlying44 el44.size_run R ?_
          refine K.load1L Y (rV 0 S W0 s0 b0 o0 vE 1 vs0) ((v2).toNat) 0 (hI0.is 0) hw_h2 (gd0 R) R R t36 R R ?_
          refine K.move (.inr R) (gd0 R) R R ?_
          refine K.nil ?_
          refine At.next ?_
          refine G.seq ?_
          obtain ⟨x3, hx3, H1⟩ := bnd H1
          refine G.rg ?_
          refine K.move (.inl R) (gd0 R) R R ?_
          refine K.lenL (rV 0 S W0 (Value.slice ao_h2 x2.length cap_h2) b_h2 o_h2 u8E 1 x2) (hI_h2.is 0) (gd0 R) R R Try.underlying36 R ?_
          refine K.conv (V := .int .u64 (IntKind.u64.wrap (x2.length : Int))) (gd0 R) R (cv_int (by rw [Try.underlying3]; rfl) Try.underlying68) R ?_
          refine K.c0 (cf 41 R) (frame_little_con (k := k) hx3 106 R) (gd0 R) R R R R ?_
          refine K.move (.inr R) (gd0 R) R R ?_
          refine K.nil ?_
          refine At.next ?_
          refine G.seq ?_
          obtain ⟨x4, hx4, H1⟩ := bnd H1
          obtain ⟨x5, hx5, H1⟩ := bnd H1
          refine G.rg ?_
          refine K.move (.inl R) (gd0 R) R R ?_
          refine K.cV (cf 24 R) [106] (fun β w S2 h => crc_Sum_con (k := k) (la 0 R u8E_len R h) hx4) (gd0 R) (fun _ => R) R R R ?_
          refine K.move (.inl R) (gd0 R) R R ?_
          refine K.cV (cf 26 R) [0] (fun β w S2 h => crc_More_con (k := k) ((hI_h2.isC 0).larg ⟨_, List.mem_cons_self⟩ h) hx5) (gd0 R) (fun _ => R) R R R ?_
          refine K.move (.inr R) (gd0 R) R R ?_
          refine K.nil ?_
          refine At.next ?_
          obtain ⟨x6, hx6, H1⟩ := bnd H1
          obtain ⟨x7, hx7, H1⟩ := bnd H1
          refine G.rg ?_
          refine K.move (.inl R) (gd0 R) R R ?_
          refine K.move (.inl R) (gd0 R) R R ?_
          refine K.move (.inl R) (gd0 R) R R ?_
          refine K.move (.inl R) (gd0 R) R R ?_
          refine K.conv (V := .int .u64 (IntKind.u64.wrap x5)) (gd0 R) R (cv_int (by rw [Try.underlying37]; rfl) Try.underlying68) R ?_
          refine K.c0 (cf 41 R) (frame_little_con (k := k) hx6 107 R) (gd0 R) R R R R ?_
          refine K.buildC Y 108 [(0, _), (1, _), (2, _), (3, _)] [_, _, _, _] [((.tmp 22), _), ((.tmp 23), _), ((.tmp 24), _), ((.tmp 27), _)] (gd0 R) (AllE.spec ⟨R, R, R, R, trivial⟩) R R Try.underlying44 t36 R R R R R R R R ?_
          refine K.cV (cf 42 R) [108, 105, 106, 0, 107] (fun β w S2 h => slices_Concat_con (k := k) (blk_ll 0 R h (by rfl) R (LLI.cons (la 1 R u8E_len R h) (LLI.cons (la 2 R u8E_len R h) (LLI.cons ((hI_h2.isC 0).larg ⟨_, (List.mem_cons_of_mem _ (List.mem_cons_of_mem _ (List.mem_cons_of_mem _ List.mem_cons_self)))⟩ h) (LLI.cons (la 4 R u8E_len R h) LLI.nil))))) hx7 109 R) (gd0 R) (fun _ => R) R R R ?_
          refine K.move (.inr R) (gd0 R) R R ?_
          refine K.nil ?_
          refine At.block_normal ?_
          refine At.next ?_
          refine G.rg ?_
          refine K.bin (V := .int .i64 (w64 (v2 + 1))) (gd0 R) R R (fun _ => R) R ?_
          refine K.move (.inl R) (gd0 R) R R ?_
          refine K.nil ?_
          exact At.ag ⟨(n0, (x7, (w64 (v2 + 1)))), H1⟩ [(105, 109)] [_, _] (Nat.lt_succ_self _) R ⟨R, R, R, R, trivial⟩ ⟨R, (fun _ => R), R, (lrow_ren R), trivial⟩ R
        ·
          replace H1 := bif_f H1 h1
          refine G.exit ?_
          refine At.over_exit ?_
          refine At.over_exit ?_
          refine At.block_hit ?_
          exact At.jd ⟨v1, oi H1⟩ [(102, 105)] [_, _] R ⟨R, trivial⟩ ⟨R, (fun _ => R), R, (lrow_ren R), trivial⟩ R
  ·
    rintro ⟨_, rfl⟩
    show G _ _ [(3, .a (.c (.nv 102)))] [(0, some (rd S W0)), (102, some (lrow 102 5 u8E 1 x1))] _ _
    refine G.seq ?_
    refine G.rg ?_
    refine K.move (.inl R) (gd0 R) R R ?_
    refine K.move (.inr R) (gd0 R) R R ?_
    refine K.nil ?_
    refine At.next ?_
    refine G.ret ?_
    refine At.ren (fs' := [(2, .a (.c (.nv 30)))]) (tl := [(0, rd S W0), (30, lrow 30 5 u8E 1 x1)]) [(30, 102)] [_, _] R ⟨R, trivial⟩ ⟨R, (fun _ => R), R, (lrow_ren R), trivial⟩ R ?_
    exact At.dr Y [2] R R (by cases H0; rfl) (by cases H0; rfl) R R R
theorem frame_Put_con {k : Nat}  {S : Foot} {W0 : World} {s0 : Value} {l0 : List (List Int)} {r : List Int} (hL0 : LL S W0 s0 u8E 1 l0) (H0 : frame_Put.f k l0 = some r) (m30 : Nat) (hd : ndB [m30] = true) : frame_Put_st S W0 s0 r m30 :=
  SCon.ren (rn [(30, m30)]) (frame_Put_con0 (k := k)  hL0 H0) ⟨(fun _ => R), trivial⟩ ⟨(fun _ => R), (lrow_ren R), trivial⟩ (rn_nd hd R R) (rn_ks hd R R R)
abbrev R19_Little_st (a0 : Int) (a1 : Int) (r : ByteArray) : Prop := SCon Try.prog 40 [.a (.c (.v (.int .u64 a0))), .a (.c (.v (.int .i64 a1)))] [] (.a (.c (.v (.string r)))) [] []
theorem R19_Little_con0 {k : Nat}  {a0 : Int} {a1 : Int} {r : ByteArray}  (H0 : R19_Little.f k a0 a1 = some r) : R19_Little_st a0 a1 r := by
  rw [R19_Little.f] at H0
  refine spec_of [(0, _), (1, _)] [] 22 Try.func40 R Try.ntmps40 R R R R (fun β W F => ?_)
  refine G.seq ?_
  refine G.rg ?_
  refine K.move (.inr R) (gd0 R) R R ?_
  refine K.nil ?_
  refine At.next ?_
  refine G.seq ?_
  refine G.rg ?_
  refine K.move (.inr R) (gd0 R) R R ?_
  refine K.nil ?_
  refine At.next ?_
  obtain ⟨x1, H1, H0⟩ := bnd H0
  refine G.sJ (σ := { v : ByteArray // x1 = v }) (fun q => [(5, .a (.c (.v (.string q.1))))]) (fun q => []) ?_ ?_
  ·
    refine G.seq ?_
    refine G.rg ?_
    refine K.move (.inr R) (gd0 R) R R ?_
    refine K.nil ?_
    refine At.next ?_
    refine G.block ?_
    refine G.lp (σ := { q : Nat × (Int × ByteArray × Int) // R19_Little.l0 k a1 q.1 q.2 = some x1 }) (fun q => [(0, .a (.c (.v (.int .u64 q.1.2.1)))), (1, .a (.c (.v (.int .i64 a1)))), (5, .a (.c (.v (.string q.1.2.2.1)))), (6, .a (.c (.v (.int .i64 q.1.2.2.2))))]) (fun q => []) (fun q => q.1.1) ⟨(k, (a0, (ByteArray.mk #[]), 0)), H1⟩ ?_ ?_
    · exact At.into [] [] R ⟨R, R, R, R, trivial⟩ trivial R
    ·
      rintro ⟨⟨n0, v1, v2, v3⟩, H1⟩
      show G _ _ [(0, .a (.c (.v (.int .u64 v1)))), (1, .a (.c (.v (.int .i64 a1)))), (5, .a (.c (.v (.string v2)))), (6, .a (.c (.v (.int .i64 v3))))] [] _ _
      cases n0 with
      | zero => exact absurd H1 (by simp [R19_Little.l0])
      | succ n0 =>
        have HL0 := H1
        rw [R19_Little.l0] at H1
        refine G.seq ?_
        refine G.seq ?_
        refine G.rg ?_
        refine K.move (.inl R) (gd0 R) R R ?_
        refine K.move (.inl R) (gd0 R) R R ?_
        refine K.bin (V := .bool (decide (v3 < a1))) (gd0 R) R R (fun _ => R) R ?_
        refine K.nil ?_
        refine At.next ?_
        refine G.cond R (fun h1 => ?_) (fun h1 => ?_)
        ·
          replace H1 := bif_t H1 h1
          refine G.skip ?_
          refine At.next ?_
          refine G.seq ?_
          refine G.block ?_
          refine G.seq ?_
          obtain ⟨h2, H1⟩ := grd H1
          refine G.rg ?_
          refine K.move (.inl R) (gd0 R) R R ?_
          refine K.move (.inl R) (gd0 R) R R ?_
          refine K.bin (V := .int .u64 (v1.tmod 256)) (gd0 R) R R (rem_run (by decide)) R ?_
          refine K.conv (V := .int .u8 (IntKind.u8.wrap (v1.tmod 256))) (gd0 R) R (cv_int (by rw [Try.underlying68]; rfl) Try.underlying5) R ?_
          refine K.buildL Y 100 ([(IntKind.u8.wrap (v1.tmod 256))] : List Int) [(0, _)] [((.tmp 15), _)] u8E_len (gd0 R) (AllE.spec ⟨R, trivial⟩) R R Try.underlying36 t5 R R R R R R R R ?_
          refine K.bstr (lrowV 100 5 u8E 1 ([(IntKind.u8.wrap (v1.tmod 256))] : List Int)) (lrowV_is u8E_len (by decide)) (gd0 R) R R Try.underlying36 Try.underlying5 Try.underlying9 R ?_
          refine K.bin (V := .string (v2 ++ (strOfNums ([(IntKind.u8.wrap (v1.tmod 256))] : List Int)))) (gd0 R) R R (st_add _ _ _ _ _ h2) R ?_
          refine K.move (.inr R) (gd0 R) R R ?_
          refine K.nil ?_
          refine At.next ?_
          refine G.rg ?_
          refine K.move (.inl R) (gd0 R) R R ?_
          refine K.bin (V := .int .u64 (IntKind.u64.wrap (v1.tdiv 256))) (gd0 R) R R (quo_run (by decide)) R ?_
          refine K.move (.inr R) (gd0 R) R R ?_
          refine K.nil ?_
          refine At.block_normal ?_
          refine At.next ?_
          refine G.rg ?_
          refine K.move (.inl R) (gd0 R) R R ?_
          refine K.bin (V := .int .i64 (w64 (v3 + 1))) (gd0 R) R R (fun _ => R) R ?_
          refine K.move (.inr R) (gd0 R) R R ?_
          refine K.nil ?_
          exact At.ag ⟨(n0, ((IntKind.u64.wrap (v1.tdiv 256)), (v2 ++ (strOfNums ([(IntKind.u8.wrap (v1.tmod 256))] : List Int))), (w64 (v3 + 1)))), H1⟩ [] [] (Nat.lt_succ_self _) R ⟨R, R, R, R, trivial⟩ trivial R
        ·
          replace H1 := bif_f H1 h1
          refine G.exit ?_
          refine At.over_exit ?_
          refine At.over_exit ?_
          refine At.block_hit ?_
          exact At.jd ⟨v2, oi H1⟩ [] [] R ⟨R, trivial⟩ trivial R
  ·
    rintro ⟨_, rfl⟩
    show G _ _ [(5, .a (.c (.v (.string x1))))] [] _ _
    refine G.seq ?_
    refine G.rg ?_
    refine K.move (.inl R) (gd0 R) R R ?_
    refine K.move (.inr R) (gd0 R) R R ?_
    refine K.nil ?_
    refine At.next ?_
    refine G.ret ?_
    exact At.dr Y [4] R R (by cases H0; rfl) (by cases H0; rfl) R R R
theorem R19_Little_con {k : Nat}  {a0 : Int} {a1 : Int} {r : ByteArray}  (H0 : R19_Little.f k a0 a1 = some r) : R19_Little_st a0 a1 r :=
  SCon.ren (rn []) (R19_Little_con0 (k := k)   H0) trivial trivial (by simp) (by simp)
abbrev frame_value_st (S : Foot) (W0 : World) (s0 : Value) (r : Int) : Prop := SCon Try.prog 43 [SV.raw s0] [(0, rd S W0)] (.a (.c (.v (.int .u64 r)))) [(0, rd S W0)] []
theorem frame_value_con0 {k : Nat}  {S : Foot} {W0 : World} {s0 : Value} {l0 : List Int} {r : Int} (hL0 : LArg S W0 s0 u8E 1 l0) (H0 : frame_value.f k l0 = some r) : frame_value_st S W0 s0 r := by
  rw [frame_value.f] at H0
  obtain ⟨b0, o0, hI0⟩ := hL0
  refine spec_of [(0, _)] [(0, _)] 22 Try.func43 R Try.ntmps43 R R R R (fun β W F => ?_)
  refine G.seq ?_
  refine G.rg ?_
  refine K.move (.inr R) (gd0 R) R R ?_
  refine K.nil ?_
  refine At.next ?_
  refine G.seq ?_
  refine G.rg ?_
  refine K.move (.inr R) (gd0 R) R R ?_
  refine K.nil ?_
  refine At.next ?_
  obtain ⟨x1, H1, H0⟩ := bnd H0
  refine G.sJ (σ := { v : Int // x1 = v }) (fun q => [(3, .a (.c (.v (.int .u64 q.1))))]) (fun q => [(0, rd S W0)]) ?_ ?_
  ·
    refine G.seq ?_
    refine G.rg ?_
    refine K.move (.inl R) (gd0 R) R R ?_
    refine K.lenL (rV 0 S W0 s0 b0 o0 u8E 1 l0) (hI0.is 0) (gd0 R) R R Try.underlying36 R ?_
    refine K.move (.inl R) (gd0 R) R R ?_
    refine K.nil ?_
    refine At.next ?_
    refine G.block ?_
    refine G.lp (σ := { q : Nat × (Int × Int) // frame_value.l0 k l0 q.1 q.2 = some x1 }) (fun q => [(3, .a (.c (.v (.int .u64 q.1.2.1)))), (6, SV.raw s0), (7, .a (.c (.v (.int .i64 (l0.length : Int))))), (8, .a (.c (.v (.int .i64 q.1.2.2))))]) (fun q => [(0, rd S W0)]) (fun q => q.1.1) ⟨(k, (0, 0)), H1⟩ ?_ ?_
    · exact At.into [] [_] R ⟨R, R, R, R, trivial⟩ ⟨R, (fun _ => R), trivial⟩ R
    ·
      rintro ⟨⟨n0, v1, v2⟩, H1⟩
      show G _ _ [(3, .a (.c (.v (.int .u64 v1)))), (6, SV.raw s0), (7, .a (.c (.v (.int .i64 (l0.length : Int))))), (8, .a (.c (.v (.int .i64 v2))))] [(0, some (rd S W0))] _ _
      cases n0 with
      | zero => exact absurd H1 (by simp [frame_value.l0])
      | succ n0 =>
        have HL0 := H1
        rw [frame_value.l0] at H1
        refine G.seq ?_
        refine G.rg ?_
        refine K.bin (V := .bool (decide (v2 < (l0.length : Int)))) (gd0 R) R R (fun _ => R) R ?_
        refine K.nil ?_
        refine At.next ?_
        refine G.seq ?_
        refine G.cond R (fun h1 => ?_) (fun h1 => ?_)
        ·
          replace H1 := bif_t H1 h1
          refine G.skip ?_
          refine At.next ?_
          refine G.seq ?_
          refine G.block ?_
          refine G.seq ?_
          obtain ⟨x2, hx2, H1⟩ := bnd H1
          refine G.rg ?_
          refine K.move (.inl R) (gd0 R) R R ?_
          refine K.idxL (rV 0 S W0 s0 b0 o0 u8E 1 l0) ((v2).toNat) (hI0.is 0) (atL_get hx2) (atL_nn hx2) (gd0 R) R R R Try.underlying36 el36.size_run R ?_
          refine K.load1L Y (rV 0 S W0 s0 b0 o0 u8E 1 l0) ((v2).toNat) 0 (hI0.is 0) (atL_get hx2) (gd0 R) R R t5 R R ?_
          refine K.move (.inr R) (gd0 R) R R ?_
          refine K.move (.inr R) (gd0 R) R R ?_
          refine K.nil ?_
          refine At.next ?_
          obtain ⟨h2, H1⟩ := grd H1
          refine G.rg ?_
          refine K.move (.inl R) (gd0 R) R R ?_
          refine K.move (.inl R) (gd0 R) R R ?_
          refine K.conv (V := .int .u64 (IntKind.u64.wrap x2)) (gd0 R) R (cv_int (by rw [Try.underlying5]; rfl) Try.underlying68) R ?_
          refine K.move (.inl R) (gd0 R) R R ?_
          refine K.bin (V := .int .i64 (w64 (8 * v2))) (gd0 R) R R (fun _ => R) R ?_
          refine K.bin (V := .int .u64 (gshl .u64 (IntKind.u64.wrap x2) (w64 (8 * v2)))) (gd0 R) R R (bt_shl _ _ _ _ h2) R ?_
          refine K.bin (V := .int .u64 (gor .u64 v1 (gshl .u64 (IntKind.u64.wrap x2) (w64 (8 * v2))))) (gd0 R) R R (bt_or _ _ _) R ?_
          refine K.move (.inr R) (gd0 R) R R ?_
          refine K.nil ?_
          refine At.block_normal ?_
          refine At.next ?_
          refine G.rg ?_
          refine K.bin (V := .int .i64 (w64 (v2 + 1))) (gd0 R) R R (fun _ => R) R ?_
          refine K.move (.inl R) (gd0 R) R R ?_
          refine K.nil ?_
          exact At.ag ⟨(n0, ((gor .u64 v1 (gshl .u64 (IntKind.u64.wrap x2) (w64 (8 * v2)))), (w64 (v2 + 1)))), H1⟩ [] [_] (Nat.lt_succ_self _) R ⟨R, R, R, R, trivial⟩ ⟨R, (fun _ => R), trivial⟩ R
        ·
          replace H1 := bif_f H1 h1
          refine G.exit ?_
          refine At.over_exit ?_
          refine At.over_exit ?_
          refine At.block_hit ?_
          exact At.jd ⟨v1, oi H1⟩ [] [_] R ⟨R, trivial⟩ ⟨R, (fun _ => R), trivial⟩ R
  ·
    rintro ⟨_, rfl⟩
    show G _ _ [(3, .a (.c (.v (.int .u64 x1))))] [(0, some (rd S W0))] _ _
    refine G.seq ?_
    refine G.rg ?_
    refine K.move (.inl R) (gd0 R) R R ?_
    refine K.move (.inr R) (gd0 R) R R ?_
    refine K.nil ?_
    refine At.next ?_
    refine G.ret ?_
    exact At.dr Y [2] R R (by cases H0; rfl) (by cases H0; rfl) R R R
theorem frame_value_con {k : Nat}  {S : Foot} {W0 : World} {s0 : Value} {l0 : List Int} {r : Int} (hL0 : LArg S W0 s0 u8E 1 l0) (H0 : frame_value.f k l0 = some r) : frame_value_st S W0 s0 r :=
  SCon.ren (rn []) (frame_value_con0 (k := k)  hL0 H0) ⟨(fun _ => R), trivial⟩ ⟨(fun _ => R), trivial⟩ (by simp) (by simp)
abbrev R19_Value_st (a0 : ByteArray) (r : Int) : Prop := SCon Try.prog 45 [.a (.c (.v (.string a0)))] [] (.a (.c (.v (.int .u64 r)))) [] []
theorem R19_Value_con0 {k : Nat}  {a0 : ByteArray} {r : Int}  (H0 : R19_Value.f k a0 = some r) : R19_Value_st a0 r := by
  rw [R19_Value.f] at H0
  refine spec_of [(0, _)] [] 20 Try.func45 R Try.ntmps45 R R R R (fun β W F => ?_)
  refine G.seq ?_
  refine G.rg ?_
  refine K.move (.inr R) (gd0 R) R R ?_
  refine K.nil ?_
  refine At.next ?_
  refine G.seq ?_
  refine G.rg ?_
  refine K.move (.inr R) (gd0 R) R R ?_
  refine K.nil ?_
  refine At.next ?_
  obtain ⟨x1, H1, H0⟩ := bnd H0
  refine G.sJ (σ := { v : Int // x1 = v }) (fun q => [(3, .a (.c (.v (.int .u64 q.1))))]) (fun q => []) ?_ ?_
  ·
    refine G.seq ?_
    refine G.rg ?_
    refine K.move (.inl R) (gd0 R) R R ?_
    refine K.bi1 (X := SV.raw (.string a0)) (V := .int .i64 (a0.size : Int)) (gd0 R) R (fun _ _ w => lenStr Try.underlying9 _ w) R ?_
    refine K.bin (V := .int .i64 (w64 ((a0.size : Int) - 1))) (gd0 R) R R (fun _ => R) R ?_
    refine K.move (.inr R) (gd0 R) R R ?_
    refine K.nil ?_
    refine At.next ?_
    refine G.block ?_
    refine G.lp (σ := { q : Nat × (Int × Int) // R19_Value.l0 k a0 q.1 q.2 = some x1 }) (fun q => [(0, .a (.c (.v (.string a0)))), (3, .a (.c (.v (.int .u64 q.1.2.1)))), (4, .a (.c (.v (.int .i64 q.1.2.2))))]) (fun q => []) (fun q => q.1.1) ⟨(k, (0, (w64 ((a0.size : Int) - 1)))), H1⟩ ?_ ?_
    · exact At.into [] [] R ⟨R, R, R, trivial⟩ trivial R
    ·
      rintro ⟨⟨n0, v1, v2⟩, H1⟩
      show G _ _ [(0, .a (.c (.v (.string a0)))), (3, .a (.c (.v (.int .u64 v1)))), (4, .a (.c (.v (.int .i64 v2))))] [] _ _
      cases n0 with
      | zero => exact absurd H1 (by simp [R19_Value.l0])
      | succ n0 =>
        have HL0 := H1
        rw [R19_Value.l0] at H1
        refine G.seq ?_
        refine G.seq ?_
        refine G.rg ?_
        refine K.move (.inl R) (gd0 R) R R ?_
        refine K.bin (V := .bool (decide (v2 ≥ 0))) (gd0 R) R R (fun _ => R) R ?_
        refine K.nil ?_
        refine At.next ?_
        refine G.cond R (fun h1 => ?_) (fun h1 => ?_)
        ·
          replace H1 := bif_t H1 h1
          refine G.skip ?_
          refine At.next ?_
          refine G.seq ?_
          refine G.block ?_
          obtain ⟨x2, hx2, H1⟩ := bnd H1
          refine G.rg ?_
          refine K.move (.inl R) (gd0 R) R R ?_
          refine K.bin (V := .int .u64 (IntKind.u64.wrap (v1 * 256))) (gd0 R) R R (fun _ => R) R ?_
          refine K.move (.inl R) (gd0 R) R R ?_
          refine K.move (.inl R) (gd0 R) R R ?_
          refine K.sidx (gd0 R) R R (bAt_run Try.underlying9 hx2) R ?_
          refine K.conv (V := .int .u64 (IntKind.u64.wrap x2)) (gd0 R) R (cv_int (by rw [Try.underlying5]; rfl) Try.underlying68) R ?_
          refine K.bin (V := .int .u64 (IntKind.u64.wrap ((IntKind.u64.wrap (v1 * 256)) + (IntKind.u64.wrap x2)))) (gd0 R) R R (fun _ => R) R ?_
          refine K.move (.inr R) (gd0 R) R R ?_
          refine K.nil ?_
          refine At.block_normal ?_
          refine At.next ?_
          refine G.rg ?_
          refine K.move (.inl R) (gd0 R) R R ?_
          refine K.bin (V := .int .i64 (w64 (v2 - 1))) (gd0 R) R R (fun _ => R) R ?_
          refine K.move (.inr R) (gd0 R) R R ?_
          refine K.nil ?_
          exact At.ag ⟨(n0, ((IntKind.u64.wrap ((IntKind.u64.wrap (v1 * 256)) + (IntKind.u64.wrap x2))), (w64 (v2 - 1)))), H1⟩ [] [] (Nat.lt_succ_self _) R ⟨R, R, R, trivial⟩ trivial R
        ·
          replace H1 := bif_f H1 h1
          refine G.exit ?_
          refine At.over_exit ?_
          refine At.over_exit ?_
          refine At.block_hit ?_
          exact At.jd ⟨v1, oi H1⟩ [] [] R ⟨R, trivial⟩ trivial R
  ·
    rintro ⟨_, rfl⟩
    show G _ _ [(3, .a (.c (.v (.int .u64 x1))))] [] _ _
    refine G.seq ?_
    refine G.rg ?_
    refine K.move (.inl R) (gd0 R) R R ?_
    refine K.move (.inr R) (gd0 R) R R ?_
    refine K.nil ?_
    refine At.next ?_
    refine G.ret ?_
    exact At.dr Y [2] R R (by cases H0; rfl) (by cases H0; rfl) R R R
theorem R19_Value_con {k : Nat}  {a0 : ByteArray} {r : Int}  (H0 : R19_Value.f k a0 = some r) : R19_Value_st a0 r :=
  SCon.ren (rn []) (R19_Value_con0 (k := k)   H0) trivial trivial (by simp) (by simp)
end Go.Proofs.Ytheopcgjdfckmaa
namespace Go.Proofs.Ytheopcgjdfckmaa
open Go Go.Proofs.Ytheopcgjdfckmaa.Sx
abbrev Lw19_awake_st (r : Bool) : Prop := SCon Try.prog 27 [] [] (.a (.c (.v (.bool r)))) [] []
theorem Lw19_awake_con0 {k : Nat}  {r : Bool}  (H0 : Lw19_awake.f k = some r) : Lw19_awake_st r := by
  rw [Lw19_awake.f] at H0
  refine spec_of [] [] 6 Try.func27 R Try.ntmps27 R R R R (fun β W F => ?_)
  refine G.seq ?_
  refine G.rg ?_
  refine K.move (.inr R) (gd0 R) R R ?_
  refine K.nil ?_
  refine At.next ?_
  refine G.seq ?_
  obtain ⟨x1, hx1, H0⟩ := bnd H0
  refine G.rg ?_
  refine K.buildL Y 100 ([] : List Int) [] [] u8E_len (gd0 R) (AllE.spec trivial) R R Try.underlying36 t5 R R R R R R R R ?_
  refine K.buildC Y 101 [(0, _)] [_] [((.tmp 1), _)] (gd0 R) (AllE.spec ⟨R, trivial⟩) R R Try.underlying44 t36 R R R R R R R R ?_
  refine K.cV (cf 30 R) [101, 100] (fun β w S2 h => frame_Put_con (k := k) (blk_ll 0 R h (by rfl) R (LLI.cons (la 1 R u8E_len R h) LLI.nil)) hx1 102 R) (gd0 R) (fun _ => R) R R R ?_
  refine K.bstr (lrowV 102 5 u8E 1 x1) (lrowV_is u8E_len (by decide)) (gd0 R) R R Try.underlying36 Try.underlying5 Try.underlying9 R ?_
  refine K.bin (V := .bool (gseq (strOfNums x1) (ByteArray.mk #[0, 0, 0, 0, 28, 223, 68, 33]))) (gd0 R) R R (st_eql _ _ _ _ _) R ?_
  refine K.move (.inr R) (gd0 R) R R ?_
  refine K.nil ?_
  refine At.next ?_
  refine G.ret ?_
  exact At.dr Y [0] R R (by cases H0; rfl) (by cases H0; rfl) R R R
theorem Lw19_awake_con {k : Nat}  {r : Bool}  (H0 : Lw19_awake.f k = some r) : Lw19_awake_st r :=
  SCon.ren (rn []) (Lw19_awake_con0 (k := k)   H0) trivial trivial (by simp) (by simp)
end Go.Proofs.Ytheopcgjdfckmaa
namespace Go.Proofs.Ytheopcgjdfckmaa.Sx
open Go
def starRes (L : List Res) : Res where
  holds := Star L
  loc hw h := h.loc hw
  lt h hb := h.lt hb
def adEnv (a : Nat → Nat) : Env := fun k => ⟨a k, undef⟩
def eltRes (l : List (Nat × Tok)) (a : Nat → Nat) : Res := starRes (l.map fun p => p.2.r (adEnv a))
section
variable {σ : Type}
def hpL (toks : σ → List (Nat × Tok)) (A : List (Nat → Nat)) (Q : List σ) : List Res := List.zipWith (fun a q => eltRes (toks q) a) A Q
def hp (k : Nat) (toks : σ → List (Nat × Tok)) (A : List (Nat → Nat)) (Q : List σ) : Tok where
  ks := []
  r _ := starRes (hpL toks A Q)
  sup _ := rfl
end
end Go.Proofs.Ytheopcgjdfckmaa.Sx
namespace Go.Proofs.Ytheopcgjdfckmaa.Sx
open Go Go.RowKit
def Wd (ro : Option Nat) : Fence := { Fence.wide with round := ro }
theorem wd_calls {ro : Option Nat} {n : Nat} {P : Program} {f : FuncId} {args : Array Value} {w : World} {R : Ending → World → Prop} (h : Calls P f args w R) : CallsIn (Wd ro) n P f args w R := (callsIn_wide (n := n)).2 h
theorem wd_rows {ro : Option Nat} {n : Nat} {P : Program} {row : String} {args : Array Value} {w : World} {R : Value → World → Prop} (h : Rows P row args w R) : RowsIn (Wd ro) n P row args w R := by
  intro c cs _
  obtain ⟨v, w', hr, hs⟩ := h c cs
  exact ⟨v, w', hr, stepsIn_wide.2 hs⟩
def plainB (o : Oper) : Bool := match o.op with
  | .defer _ => false
  | _ => true
theorem wp_in {ro : Option Nat} {n : Nat} {P : Program} {o : Oper} {a : Act} {w : World} {K : Act → World → Prop} {Q : Exit → Act → World → Prop} (hp : plainB o = true) (h : o.wp P a w K Q) : o.wpIn (Wd ro) n P a w K Q := by
  refine ⟨fun _ _ => trivial, ?_⟩
  unfold Oper.wp at h
  have hd : ∀ c, o.op ≠ .defer c := fun c e => by unfold plainB at hp; rw [e] at hp; cases hp
  rw [Oper.semAt_eq _ _ _ hd]
  generalize (execOp a.eval o).run P w = r at h
  cases r with
  | halt x w' => cases x <;> first | exact h | exact h.elim
  | ok x w' =>
    cases x with
    | value v => exact h
    | skip => exact h
    | defer d => exact h
    | enter f args => exact ⟨fun h => (by cases h), wd_calls h⟩
    | row r args => exact ⟨fun h => (by cases h), wd_rows h⟩
    | _ => exact h.elim
theorem opW_in {ro : Option Nat} {n : Nat} {P : Program} {ops : Array Oper} {Q : Exit → Act → World → Prop} {o : Oper} {rest : List Oper} {a : Act} {w : World} (hp : plainB o = true) (h : opW P ops Q o (wpListIn (Wd ro) n P ops Q rest) a w) : wpListIn (Wd ro) n P ops Q (o :: rest) a w := by
  unfold wpListIn; unfold opW at h
  split
  · rename_i hw; rw [if_pos hw] at h; exact wp_in hp h
  · rename_i hw; rw [if_neg hw] at h; exact ⟨fun _ _ => trivial, h⟩
theorem Run.soundI {C : Ctx} {P : Program} {ops : Array Oper} {Q : Exit → Act → World → Prop} {ro : Option Nat} {m : Nat} {rest : List Oper} {l : List Oper} {fs fs' : FL} {L L' : TL} {ss : List Step} (h : Run P C.n ops l fs L ss fs' L') :
    l.all plainB = true → ∀ {a : Act} {w : World}, Holds C (lk fs) (lkT L) a w → (∀ a' w', Holds C (lk fs') (lkT L') a' w' → wpListIn (Wd ro) m P ops Q rest a' w') → wpListIn (Wd ro) m P ops Q (l ++ rest) a w := by
  induction h with
  | nil => intro _ a w hh hq; exact hq _ _ hh
  | cons hv hf h1 h2 _ ih =>
    intro hp a w hh hq
    rw [List.all_cons, Bool.and_eq_true] at hp
    refine opW_in hp.1 (step_state hv hf hh (fun a' w' hh' => ih hp.2 ?_ hq))
    have e2 := funext h2
    rw [h1, e2]; exact hh'
def obRes (b : Nat) (o : Obj) : Res where
  holds w F := (∀ x, F x ↔ x = b) ∧ w.heap[b]? = some o
  loc hw h := ⟨h.1, (hw b ((h.1 b).2 rfl)).trans h.2⟩
  lt h hb := by
    rename_i w F x
    have := (h.1 x).1 hb
    subst this
    exact (Array.getElem?_eq_some_iff.1 h.2).1
def ob (b : Nat) (o : Obj) : Tok := ⟨[], fun _ => obRes b o, fun _ => rfl⟩
def jt (J : Res) : Tok := ⟨[], fun _ => J, fun _ => rfl⟩
def Yld (P : Program) (l : Nat) (v : Value) (J J' : Res) : Prop :=
  ∀ (w : World) (F : Foot), J.holds w F → YieldAt Fence.wide 0 P l #[v] w fun e w' => e = .returned (.bool true) ∧ ∃ F', J'.holds w' F' ∧ (∀ b, F' b → F b ∨ w.heap.size ≤ b) ∧ Mod F w w'
theorem yield_step {C : Ctx} {P : Program} {ops : Array Oper} {Q : Exit → Act → World → Prop} {rest : List Oper} {fs : FL} {L : TL} {d : Nat} {co x : Operand} {ats : Array TypeId} {ty : TypeId} {pos : String} {after : Array Edge} {l kJ : Nat} {v : SV} {J J' : Res}
    (hc : ev fs co = some (SV.raw (.func (.yield l) #[] #[]))) (hx : ev fs x = some v) (hv : v.ks = []) (hJ : lkT L kJ = some (jt J)) (hy : Yld P l (v.den C.β0) J J') (hn : Nat.blt d C.n = true)
    {a : Act} {w : World} (hh : Holds C (lk fs) (lkT L) a w)
    (hq : ∀ a' w', Holds C (lk ((d, SV.b true) :: fs)) (lkT ((kJ, some (jt J')) :: L)) a' w' → wpListIn Fence.wide 0 P ops Q rest a' w') :
    wpListIn Fence.wide 0 P ops Q (⟨some d, .call ⟨.value co, #[x], ats⟩, ty, pos, after, none⟩ :: rest) a w := by
  obtain ⟨β, F, hβ, hfs, hlt, hsz, hd, hs, hF, hM⟩ := hh
  obtain ⟨F1, F2, e1, dj, h1, h2⟩ := hs.take hJ
  have ev_eval : ∀ {o : Operand} {y : SV}, ev fs o = some y → a.eval o = y.den β := fun {o y} h => by
    cases o with
    | tmp t => exact hfs t y h
    | const v => simp only [ev, Option.some.injEq] at h; subst h; rfl
    | func f => simp only [ev, Option.some.injEq] at h; subst h; rfl
    | global g => simp only [ev, Option.some.injEq] at h; subst h; rfl
  have ec : a.eval co = .func (.yield l) #[] #[] := ev_eval hc
  have ex : a.eval x = v.den C.β0 := by
    rw [ev_eval hx]; exact SV.den_congr v (fun k hk => by rw [hv] at hk; cases hk)
  obtain ⟨fn, tmps, assign, body, hy1, hy2⟩ := hy w F1 h1
  refine wpListIn_plain rfl (fun K hK => ?_)
  refine ⟨fun _ _ => trivial, ?_⟩
  have e0 : (Oper.semAt Fence.wide.round a.eval ⟨some d, .call ⟨.value co, #[x], ats⟩, ty, pos, after, none⟩).run P w = .ok (.round l fn tmps assign body) w := by
    rw [show Fence.wide.round = none from rfl, Oper.semAt_none]
    simp only [execOp, resolve, ec, Deferred.ofValue, Sem.run_bind, Sem.run_pure, Result.andThen_ok, invoke, List.map_toArray, List.map_cons, List.map_nil, ex]
    rw [Array.empty_append]; exact hy1
  rw [e0]
  refine ⟨fun h => (by cases h), hy2.mono (fun e w' he => ?_)⟩
  obtain ⟨rfl, F', hj, hf', hm⟩ := he
  refine hK _ _ (hq _ _ ?_)
  have hlt2 : ∀ b, F2 b → b < w.heap.size := fun b hb => h2.lt hb
  have h3 := h2.loc (fun b hb => hm.block b (hlt2 b hb) (fun h => dj b h hb))
  have dj' : ∀ b, F' b → ¬ F2 b := fun b hb h2' => (hf' b hb).elim (fun h => dj b h h2') (fun h => Nat.lt_irrefl _ (Nat.lt_of_lt_of_le (hlt2 b h2') h))
  have h4 := h3.put (k := kJ) (t := jt J') (F := fun b => F' b ∨ F2 b) (by simp [upd]) hj dj' (fun b => Iff.rfl)
  refine ⟨β, fun b => F' b ∨ F2 b, hβ, ?_, ?_, (put_size _ _ _).trans hsz, (put_defers _ _ _).trans hd, h4.congr (fun j => ?_), ?_, ?_⟩
  · intro t y hy'
    rw [lk_cons] at hy'
    simp only [upd] at hy'
    by_cases ed : t = d
    · subst ed
      simp at hy'; subst hy'
      exact getD_put_same (by rw [hsz]; rwa [Nat.blt_eq] at hn)
    · rw [if_neg ed] at hy'
      exact (getD_put (fun k h => by cases h; exact Ne.symm ed)).trans (hfs t y hy')
  · intro t ht
    rw [put_size]
    rw [lk_cons] at ht
    simp only [upd] at ht
    by_cases ed : t = d
    · subst ed; rw [hsz]; rwa [Nat.blt_eq] at hn
    · rw [if_neg ed] at ht; exact hlt t ht
  · rw [lkT_cons]; unfold upd; split <;> rfl
  · rintro b (hb | hb)
    · rcases hf' b hb with h | h
      · exact hF b ((e1 b).2 (.inl h))
      · exact .inr (Nat.le_trans hM.size h)
    · exact hF b ((e1 b).2 (.inr hb))
  · exact hM.trans hm (fun k hk => hF k ((e1 k).2 (.inl hk)))
def YK (C : Ctx) (P : Program) (d : Nat) (co x : Operand) (l2 : List Oper) (Q : Exit → Act → World → Prop) (fs1 : FL) (L1 : TL) : Prop :=
  ∃ (l kJ : Nat) (v : SV) (J J' : Res), ev fs1 co = some (SV.raw (.func (.yield l) #[] #[])) ∧ ev fs1 x = some v ∧ v.ks = [] ∧ lkT L1 kJ = some (jt J) ∧ Yld P l (v.den C.β0) J J' ∧ Nat.blt d C.n = true ∧
    ∀ ops, RunK P C.n ops l2 ((d, SV.b true) :: fs1) ((kJ, some (jt J')) :: L1) (fun _ fs2 L2 => At C fs2 L2 (Q .normal))
theorem G.regionY {C : Ctx} {P : Program} {fs : FL} {L : TL} {Q : Exit → Act → World → Prop} {id : Nat} {l1 l2 : List Oper} {d : Nat} {co x : Operand} {ats : Array TypeId} {ty : TypeId} {pos : String} {after : Array Edge}
    (h : ∀ ops, RunK P C.n ops l1 fs L (fun _ fs1 L1 => YK C P d co x l2 Q fs1 L1)) (p1 : l1.all plainB = true) (p2 : l2.all plainB = true) :
    G C P fs L (.region id (l1 ++ ⟨some d, .call ⟨.value co, #[x], ats⟩, ty, pos, after, none⟩ :: l2).toArray false) Q := by
  intro a w hh
  refine (wpIn_wide (n := 0)).1 (wpIn_region_lit ?_)
  obtain ⟨ss, fs1, L1, h1, l, kJ, v, J, J', hc, hx, hv, hJ, hy, hn, h2⟩ := h (l1 ++ ⟨some d, .call ⟨.value co, #[x], ats⟩, ty, pos, after, none⟩ :: l2).toArray
  obtain ⟨ss2, fs2, L2, h3, hq⟩ := h2 (l1 ++ ⟨some d, .call ⟨.value co, #[x], ats⟩, ty, pos, after, none⟩ :: l2).toArray
  refine Run.soundI (ro := none) h1 p1 hh (fun a' w' hh' => ?_)
  refine yield_step (rest := l2) hc hx hv hJ hy hn hh' (fun a2 w2 hh2 => ?_)
  have := Run.soundI (ro := none) (m := 0) (rest := []) (Q := Q) h3 p2 hh2 (fun a3 w3 hh3 => wpListIn_nil (hq a3 w3 hh3))
  rwa [List.append_nil] at this
def GR (ro : Nat) (C : Ctx) (P : Program) (fs : FL) (L : TL) (c : Code) (Q : Exit → Act → World → Prop) : Prop :=
  ∀ a w, Holds C (lk fs) (lkT L) a w → c.wpIn (Wd (some ro)) 0 P Q a w
section
variable {ro : Nat} {C : Ctx} {P : Program} {fs fs' : FL} {L L' : TL} {Q : Exit → Act → World → Prop}
theorem GR.rg {id : Nat} {l : List Oper} (hp : l.all plainB = true) (h : RunK P C.n l.toArray l fs L (fun _ fs' L' => At C fs' L' (Q .normal))) : GR ro C P fs L (.region id l.toArray false) Q := by
  intro a w hh
  obtain ⟨ss, fs', L', h1, h2⟩ := h
  refine wpIn_region_lit ?_
  have := Run.soundI (ro := some ro) (m := 0) (rest := []) (Q := Q) h1 hp hh (fun a3 w3 hh3 => wpListIn_nil (h2 a3 w3 hh3))
  rwa [List.append_nil] at this
theorem GR.block {id : Nat} {c : Code} (h : GR ro C P fs L c (Exit.inBlock id Q)) : GR ro C P fs L (.block id c) Q := fun a w hh => wpIn_block (h a w hh)
end
theorem starM_of {β : Env} {w : World} {F : Foot} {ti : List (Nat × Tok)} (hs : Star (ti.map fun p => p.2.r β) w F) (hnd : (ti.map (·.1)).Nodup) : StarM (lkT (ti.map fun p => (p.1, some p.2))) β w F := by
  have h0 : StarM (fun _ => none) β w (fun _ => False) := ⟨fun _ _ => False, ⟨fun _ _ h => (by cases h), fun _ _ _ h => h, fun _ _ _ _ h => False.elim h, fun b => by simp⟩⟩
  have := StarM.puts (l := ti) (F := F) h0 (fun _ _ => rfl) hnd hs (fun _ _ h => h) (fun b => by simp)
  refine this.congr (fun k => ?_)
  have e1 : ∀ (to : List (Nat × Tok)), lkT (to.map (fun p => (p.1, some p.2))) k = lkP to k := by
    intro to
    induction to with
    | nil => rfl
    | cons p to ih =>
      rw [List.map_cons, lkT_cons]
      simp only [upd, lkP]
      split <;> simp [ih]
  rw [e1, puts_eq]; simp
theorem star_ren {L : TL} {β : Env} {w : World} {F : Foot} {f : Nat → Nat} {tl : List (Nat × Tok)} {ts : List Tok} (hs : StarM (lkT L) β w F) (hl : RenL f L tl ts) (hnd : ((tl.map (·.1)).map f).Nodup) :
    ∃ F' : Foot, Star (tl.map fun p => p.2.r (fun k => β (f k))) w F' ∧ ∀ b, F' b → F b := by
  obtain ⟨to, h1, h2, h3⟩ : ∃ to : List (Nat × Tok), (∀ p ∈ to, lkT L p.1 = some p.2) ∧ to.map (·.1) = (tl.map (·.1)).map f ∧ (to.map fun p => p.2.r β) = (tl.map fun p => p.2.r (fun k => β (f k))) := by
    clear hnd
    induction tl generalizing ts with
    | nil => exact ⟨[], fun p h => (by cases h), rfl, rfl⟩
    | cons p tl ih =>
      cases ts with
      | nil => exact hl.elim
      | cons t ts =>
        obtain ⟨to, h1, h2, h3⟩ := ih hl.2.2
        refine ⟨(f p.1, t) :: to, fun q hq => ?_, ?_, ?_⟩
        · rcases List.mem_cons.1 hq with rfl | hq
          · exact hl.1
          · exact h1 q hq
        · simp only [List.map_cons]; rw [← h2]
        · simp only [List.map_cons]; rw [← h3, hl.2.1 β]
  obtain ⟨F', g1, g2⟩ := star_end hs h1 (by rw [h2]; exact hnd)
  exact ⟨F', by rw [← h3]; exact g1, g2⟩
def jl (l D : Nat) (r : Loop) (T : List (Nat × Tok)) : List (Nat × Tok) := (16, ob l (.loop r)) :: (17, ob D (.deferred (some []))) :: T
def JRes (βr : Env) (l D : Nat) (r : Loop) (T : List (Nat × Tok)) : Res where
  holds w F := ∃ β : Env, (∀ k, k < 20 → β k = βr k) ∧ Star ((jl l D r T).map fun p => p.2.r β) w F
  loc := by
    intro w w' F hw h
    obtain ⟨β, h1, h2⟩ := h
    exact ⟨β, h1, h2.loc hw⟩
  lt := by
    intro w F b h hb
    obtain ⟨β, h1, h2⟩ := h
    exact h2.lt hb
def BR (P : Program) (l : Nat) (body : Code) (Q : Exit → Act → World → Prop) : Act → World → Prop := fun a w => ∃ w₂, (Instr.beginRound l).run P w = .ok () w₂ ∧ body.wpIn (Wd (some l)) 0 P Q a w₂
def ER (C : Ctx) (P : Program) (l D : Nat) (r : Loop) (T : List (Nat × Tok)) : Exit → Act → World → Prop
  | .normal, _, w => ∃ w', (Instr.endRound l none).run P w = .ok (.bool true) w' ∧ ∃ F', (JRes C.β0 l D r T).holds w' F' ∧ (∀ b, F' b → C.F0 b ∨ C.W.heap.size ≤ b) ∧ Mod C.F0 C.W w'
  | _, _, _ => False
def RoundOk (P : Program) (N : Nat) (fs0 : FL) (p : Nat) (assign body : Code) (v : SV) (T T' : List (Nat × Tok)) : Prop :=
  ∀ (C : Ctx) (l D : Nat) (r : Loop), C.n = N → r.state = .ready → r.pending = none → GR l C P ((p, v) :: fs0) ((jl l D r T).map fun p => (p.1, some p.2)) assign (Exit.then (BR P l body (ER C P l D r T')) (fun _ _ _ => False))
theorem putObj_mod {w : World} {l : Nat} {o : Obj} {F : Foot} (hF : F l) : Mod F w (w.putObj l o) :=
  ⟨rfl, rfl, rfl, by rw [World.putObj_size]; exact Nat.le_refl _, fun k _ hk => World.putObj_heap_other (fun e => hk (e ▸ hF)), Nat.le_refl _⟩
section
variable {C : Ctx} {P : Program} {fs : FL} {L : TL} {QF : Exit → Act → World → Prop}
theorem At.begin {l : Nat} {r : Loop} {body : Code} {Q : Exit → Act → World → Prop} (hL : lkT L 16 = some (ob l (.loop r))) (hr : r.state = .ready) (h : GR l C P fs ((16, some (ob l (.loop { r with state := .busy }))) :: L) body Q) :
    At C fs L (Exit.then (BR P l body Q) QF .normal) := by
  intro a w hh
  obtain ⟨β, F, hβ, hfs, hlt, hsz, hd, hs, hF, hM⟩ := hh
  obtain ⟨F1, F2, e1, dj, h1, h2⟩ := hs.take hL
  have hl1 : F1 l := (h1.1 l).2 rfl
  refine ⟨_, run_beginRound h1.2 hr, h a _ ⟨β, F, hβ, hfs, hlt, hsz, hd, ?_, hF, hM.trans (putObj_mod (F := fun b => b = l) rfl) (fun k hk => by subst hk; exact hF _ ((e1 _).2 (.inl hl1)))⟩⟩
  have hl : l < w.heap.size := (Array.getElem?_eq_some_iff.1 h1.2).1
  have h3 := h2.loc (w' := w.putObj l (.loop { r with state := .busy })) (fun b hb => World.putObj_heap_other (fun e => dj b ((h1.1 b).2 e) hb))
  have h4 := h3.put (k := 16) (t := ob l (.loop { r with state := .busy })) (F1 := F1) (F := F) (by simp [upd]) ⟨h1.1, World.putObj_heap_same hl⟩ dj e1
  exact h4.congr (fun j => by rw [lkT_cons]; unfold upd; split <;> rfl)
theorem At.er {l D : Nat} {r : Loop} {T' : List (Nat × Tok)} (ρ : List (Nat × Nat)) (ts : List Tok) (hL : lkT L 16 = some (ob l (.loop { r with state := .busy }))) (hD : lkT L 17 = some (ob D (.deferred (some [])))) (hr : r.state = .ready) (hp : r.pending = none)
    (hρ : ρ.all (fun p => Nat.ble 20 p.1) = true) (hl : RenL (rn ρ) L T' ts) (hnd : ndB (16 :: 17 :: (T'.map (·.1)).map (rn ρ)) = true) :
    At C fs L (ER C P l D r T' .normal) := by
  intro a w hh
  obtain ⟨β, F, hβ, hfs, hlt, hsz, hd, hs, hF, hM⟩ := hh
  have hk20 : ∀ k, k < 20 → rn ρ k = k := by
    intro k hk
    unfold rn
    cases hl : lk ρ k with
    | none => rfl
    | some j =>
      have := List.all_eq_true.1 hρ _ (lk_mem hl)
      have := Nat.le_of_ble_eq_true this
      simp at this; omega
  have hl' : RenL (rn ρ) L ((16, ob l (.loop { r with state := .busy })) :: (17, ob D (.deferred (some []))) :: T') (ob l (.loop { r with state := .busy }) :: ob D (.deferred (some [])) :: ts) :=
    ⟨by rw [hk20 16 (by decide)]; exact hL, fun _ => rfl, by rw [hk20 17 (by decide)]; exact hD, fun _ => rfl, hl⟩
  obtain ⟨F', h1, h2⟩ := star_ren hs hl' (by simp only [List.map_cons, hk20 16 (by decide), hk20 17 (by decide)]; exact ndB_spec hnd)
  obtain ⟨F1, F2, e1, dj, h3, h4⟩ := h1
  have hl1 : F1 l := (h3.1 l).2 rfl
  have hlt' : l < w.heap.size := (Array.getElem?_eq_some_iff.1 h3.2).1
  have er := run_endRound (P := P) none h3.2
  have e2 : ({ { r with state := LoopState.busy } with state := if (none : Option Code).isNone = true then LoopState.ready else LoopState.done, pending := none } : Loop) = r := by
    obtain ⟨s, pe, a1, a2, a3, a4, a5, a6⟩ := r
    simp only at hr hp; subst hr hp; rfl
  rw [e2] at er
  refine ⟨_, er, F', ⟨fun k => β (rn ρ k), fun k hk => by show β (rn ρ k) = _; rw [hk20 k hk, hβ k hk], F1, F2, e1, dj, ⟨h3.1, World.putObj_heap_same hlt'⟩, h4.loc (fun b hb => World.putObj_heap_other (fun e => dj b ((h3.1 b).2 e) hb))⟩, fun b hb => hF b (h2 b hb), hM.trans (putObj_mod (F := fun b => b = l) rfl) (fun k hk => by subst hk; exact hF _ (h2 _ ((e1 _).2 (.inl hl1))))⟩
end
def chkN (τ ρ : List (Nat × Nat)) (k : Nat) : Bool := match lk τ k with
  | some j => Nat.blt j 20 && Nat.beq (rn ρ j) k
  | none => true
theorem lk_rn {ρ : List (Nat × Nat)} {k j : Nat} (h : lk ρ k = some j) : rn ρ k = j := by unfold rn; rw [h]
theorem G.rangeF {α : Type} {C : Ctx} {P : Program} {fs fs0 : FL} {L : TL} {Q : Exit → Act → World → Prop} {g : Operand} {p : Nat} {assign body : Code} {f : FuncId} {ks : List Nat} {ret : SV}
    (xs : List α) (val : α → SV) (T : Nat → List (Nat × Tok)) (I : List (Nat × Tok)) (hdf : C.df = []) (hg : ev fs0 g = some (.a (.c (.fn (.func f) ks)))) (hfn : fnB P f = true)
    (ρ : List (Nat × Nat)) (ts0 : List Tok) (hf : RenF (rn ρ) fs fs0) (hl : RenL (rn ρ) L (T 0 ++ I) ts0) (hnd : ndB (((T 0 ++ I).map (·.1)).map (rn ρ)) = true)
    (hIk : I.all (fun q => q.2.ks.all (fun k => Nat.blt k 20)) = true) (hsk : ks.all (fun k => Nat.blt k 20) = true) (hfk : fs0.all (fun q => q.2.ks.all (fun k => Nat.blt k 20)) = true) (hvk : ∀ x, (val x).ks = []) (hpn : Nat.blt p C.n = true)
    (hTn : ∀ i, ndB (16 :: 17 :: (T i ++ I).map (·.1)) = true)
    (hit : ∀ (l : Nat) (J : Nat → Res) (β : Env), (∀ i x, xs[i]? = some x → Yld P l ((val x).den β) (J i) (J (i + 1))) → SCon P f (SV.raw (.func (.yield l) #[] #[]) :: ks.map fun k => SV.p k 0) ((18, jt (J 0)) :: I) ret ((18, jt (J xs.length)) :: I) [])
    (hr : ∀ i x, xs[i]? = some x → RoundOk P C.n fs0 p assign body (val x) (T i) (T (i + 1)))
    (τ : List (Nat × Nat)) (Tout : List (Nat × Tok)) (tsN : List Tok) (hl' : RenL (rn τ) ((T xs.length ++ I).map fun p => (p.1, some p.2)) Tout tsN) (hnd' : ndB ((Tout.map (·.1)).map (rn τ)) = true) (hnd2 : ndB (60 :: Tout.map (·.1)) = true)
    (hc1 : (List.range 20).all (chkN τ ρ) = true) (hc2 : fs.all (fun q => q.2.ks.all (chkN τ ρ)) = true) (hc3 : Tout.all (fun q => q.2.ks.all (fun k => (lk τ k).isSome)) = true)
    (h : ∀ D, At { C with df := [{ target := .collected D, args := #[] }] } fs ((60, some (ob D (.deferred (some [])))) :: Tout.map fun p => (p.1, some p.2)) (Q .normal)) :
    G C P fs L (.rangeFunc g #[p] assign body) Q := by
  intro a w hh
  refine (wpIn_wide (n := 0)).1 (wpIn_rangeFunc ?_)
  intro fn _
  obtain ⟨β, F, hβ, hfs, hlt, hsz, hd, hs, hF, hM⟩ := hh
  obtain ⟨βr, hβr⟩ : ∃ βr : Env, βr = fun k => β (rn ρ k) := ⟨_, rfl⟩
  have hfs0 : ∀ t x, lk fs0 t = some x → a.tmps.getD t undef = x.den βr := fun t x hx => by rw [hfs t _ (hf.spec t x hx), SV.den_ren, hβr]
  have hlt0 : ∀ t, (lk fs0 t).isSome → t < a.tmps.size := fun t ht => by
    obtain ⟨x, hx⟩ := Option.isSome_iff_exists.1 ht
    exact hlt t (by rw [hf.spec t x hx]; rfl)
  obtain ⟨F1, hst, hF1⟩ := star_ren hs hl (ndB_spec hnd)
  rw [← hβr] at hst
  have small : ∀ {β1 β2 : Env}, (∀ k, k < 20 → β1 k = β2 k) → (I.map fun q => q.2.r β1) = (I.map fun q => q.2.r β2) := fun {β1 β2} hb =>
    List.map_congr_left (fun q hq => q.2.sup (fun k hk => hb k (by have := List.all_eq_true.1 (List.all_eq_true.1 hIk q hq) k hk; rwa [Nat.blt_eq] at this)))
  -- the record
  obtain ⟨rec, hrec⟩ : ∃ rec : Loop, rec = { state := .ready, pending := none, fn, tmps := a.tmps, params := #[p], assign, body, defers := w.heap.size } := ⟨_, rfl⟩
  obtain ⟨W1, hW1⟩ : ∃ W1, (w.alloc (.deferred (some []))).alloc (.loop rec) = W1 := ⟨_, rfl⟩
  have hL1 : W1.heap[w.heap.size + 1]? = some (.loop rec) := by
    rw [← hW1]; have := World.alloc_heap_new (w.alloc (.deferred (some []))) (.loop rec); rwa [World.size_alloc] at this
  have hK1 : W1.heap[w.heap.size]? = some (.deferred (some [])) := by
    rw [← hW1]; exact (Below.heap_alloc _ _ _ (by simp)).trans (World.alloc_heap_new w _)
  have hS1 : W1.heap.size = w.heap.size + 2 := by rw [← hW1]; simp
  have hold : ∀ k, k < w.heap.size → W1.heap[k]? = w.heap[k]? := fun k hk => by
    rw [← hW1]; exact (Below.heap_alloc _ _ k (by simp; omega)).trans (Below.heap_alloc _ _ k hk)
  have hM1 : Mod (fun _ => False) w W1 := by
    refine ⟨?_, ?_, ?_, by omega, fun k hk _ => hold k hk, Nat.le_of_eq ?_⟩ <;> rw [← hW1] <;> rfl
  have hgv : a.eval g = .func (.func f) #[] ((ks.map fun k => ptr (βr k).b 0).toArray) := by
    cases g with
    | tmp t => exact hfs0 t _ hg
    | const v => simp only [ev, Option.some.injEq, SV.a.injEq, Av.c.injEq] at hg; cases hg
    | func q => simp only [ev, Option.some.injEq, SV.a.injEq, Av.c.injEq] at hg; cases hg
    | global q => simp only [ev, Option.some.injEq, SV.a.injEq, Av.c.injEq] at hg; cases hg
  refine ⟨w.heap.size + 1, [{ target := .collected w.heap.size, args := #[] }], W1, { target := .fn (.func f) ((ks.map fun k => ptr (βr k).b 0).toArray), args := #[.func (.yield (w.heap.size + 1)) #[] #[]] }, W1, f,
    #[.func (.yield (w.heap.size + 1)) #[] #[]] ++ (ks.map fun k => ptr (βr k).b 0).toArray, W1, ?_, ?_, ?_, ?_, fun h => (by cases h), ?_⟩
  · rw [← hW1, hrec]; exact run_enterLoop_outer _ _ _ _ _
  · simp only [resolve, hgv]
    simp [go_sem]
  · intro f' _; trivial
  · simp [invoke, go_sem, callFunc_run hfn]
  · -- the function's contract
    refine (callsIn_wide (n := 0 - 1)).2 ?_
    have hst1 := hst.loc (w' := W1) (fun b hb => hold b (hst.lt hb))
    rw [List.map_append] at hst1
    obtain ⟨FT, FI, e1, dj, hT, hI⟩ := Star_append.1 hst1
    have hFlt : ∀ b, FT b → b < w.heap.size := fun b hb => hst.lt ((e1 b).2 (.inl hb))
    have hIlt : ∀ b, FI b → b < w.heap.size := fun b hb => hst.lt ((e1 b).2 (.inr hb))
    -- one round
    have hround : ∀ i x, xs[i]? = some x → Yld P (w.heap.size + 1) ((val x).den βr) (JRes βr (w.heap.size + 1) w.heap.size rec (T i)) (JRes βr (w.heap.size + 1) w.heap.size rec (T (i + 1))) := by
      intro i x hx w2 F2 hJ
      obtain ⟨β2, hb2, hs2⟩ := id hJ
      obtain ⟨G1, G2, g1, g2, g3, g4⟩ := hs2
      have hy := run_yield (P := P) (args := #[(val x).den βr]) g3.2 (by rw [hrec]; rfl)
      have hpt : ((rec.params.zip #[(val x).den βr]).foldl (fun tmps (t, a) => tmps.setIfInBounds t a) rec.tmps) = (⟨a.tmps, []⟩ : Act).tmps.setIfInBounds p ((val x).den βr) := by rw [hrec]; simp
      rw [hpt] at hy
      refine ⟨_, _, _, _, hy, roundIn_of_wpIn trivial ?_⟩
      have hR := hr i x hx ⟨w2, F2, β2, C.n, []⟩ (w.heap.size + 1) w.heap.size rec rfl (by rw [hrec]) (by rw [hrec])
      have hasg : rec.assign = assign := by rw [hrec]
      have hbod : rec.body = body := by rw [hrec]
      rw [hasg, hbod]
      refine wpIn_mono (hR { tmps := a.tmps.setIfInBounds p ((val x).den βr), defers := [] } w2 ?_) ?_
      · refine ⟨β2, F2, fun _ _ => rfl, ?_, ?_, by simp only [Array.size_setIfInBounds]; exact hsz, rfl, starM_of ⟨G1, G2, g1, g2, g3, g4⟩ ?_, fun b hb => .inl hb, Mod.refl _ _⟩
        · intro t y hy'
          rw [lk_cons] at hy'
          simp only [upd] at hy'
          by_cases et : t = p
          · subst et
            rw [if_pos rfl] at hy'
            cases hy'
            have := getD_put_same (a := ⟨a.tmps, []⟩) (k := t) (v := (val x).den βr) (by show t < a.tmps.size; rw [hsz]; rwa [Nat.blt_eq] at hpn)
            exact this.trans (SV.den_congr _ (fun k hk => by rw [hvk] at hk; cases hk))
          · rw [if_neg et] at hy'
            have h1 : (a.tmps.setIfInBounds p ((val x).den βr)).getD t undef = a.tmps.getD t undef := getD_put (a := ⟨a.tmps, []⟩) (d := some p) (v := (val x).den βr) (fun k h => by cases h; exact Ne.symm et)
            show (a.tmps.setIfInBounds p ((val x).den βr)).getD t undef = _
            rw [h1, hfs0 t y hy']
            refine SV.den_congr y (fun k hk => (hb2 k ?_).symm)
            have := List.all_eq_true.1 (List.all_eq_true.1 hfk (t, y) (lk_mem hy')) k hk
            rwa [Nat.blt_eq] at this
        · intro t ht
          simp only [Array.size_setIfInBounds]
          rw [lk_cons] at ht
          simp only [upd] at ht
          by_cases et : t = p
          · subst et; rw [hsz]; rwa [Nat.blt_eq] at hpn
          · rw [if_neg et] at ht; exact hlt0 t ht
        · have := ndB_spec (hTn i)
          rw [List.map_append] at this
          simp only [jl, List.map_cons]
          exact this.sublist (by simp)
      · intro e a3 w3 he
        cases e with
        | normal =>
          obtain ⟨w4, hb4, hbody⟩ := he
          refine ⟨w4, hb4, wpIn_mono hbody ?_⟩
          intro e2 a5 w5 he2
          cases e2 with
          | normal =>
            obtain ⟨w6, h6, F6, ⟨β6, hb6, hs6⟩, hF6, hM6⟩ := he2
            exact ⟨_, _, h6, rfl, F6, ⟨β6, fun k hk => (hb6 k hk).trans (hb2 k hk), hs6⟩, hF6, hM6⟩
          | _ => exact he2.elim
        | _ => exact he.elim
    have hJ0 : (JRes βr (w.heap.size + 1) w.heap.size rec (T 0)).holds W1 (fun b => b = w.heap.size + 1 ∨ (b = w.heap.size ∨ FT b)) :=
      ⟨βr, fun _ _ => rfl, fun b => b = w.heap.size + 1, fun b => b = w.heap.size ∨ FT b, fun b => Iff.rfl, fun b hb hb2 => by
        rcases hb2 with h2 | h2
        · omega
        · have := hFlt b h2; omega, ⟨fun b => Iff.rfl, hL1⟩, fun b => b = w.heap.size, FT, fun b => Iff.rfl, fun b hb hb2 => by have := hFlt b hb2; omega, ⟨fun b => Iff.rfl, hK1⟩, hT⟩
    have hcall := hit (w.heap.size + 1) (fun i => JRes βr (w.heap.size + 1) w.heap.size rec (T i)) βr hround βr W1 (fun b => (b = w.heap.size + 1 ∨ (b = w.heap.size ∨ FT b)) ∨ FI b)
      ⟨_, FI, fun b => Iff.rfl, fun b hb hb2 => by
        rcases hb with hb | hb | hb
        · have := hIlt b hb2; omega
        · have := hIlt b hb2; omega
        · exact dj b hb hb2, hJ0, hI⟩
    have eargs : (List.map (SV.den βr) (SV.raw (.func (.yield (w.heap.size + 1)) #[] #[]) :: ks.map fun k => SV.p k 0)).toArray = #[.func (.yield (w.heap.size + 1)) #[] #[]] ++ (ks.map fun k => ptr (βr k).b 0).toArray := by
      apply Array.ext'
      simp [SV.den, Av.den, Cl.den, ptr, Function.comp_def]
    rw [eargs] at hcall
    refine hcall.mono ?_
    rintro e w3 ⟨β3, hb3, rfl, F3, hs3, hF3, hM3⟩
    obtain ⟨G1, G2, g1, g2, ⟨β4, hb4, hs4⟩, g4⟩ := hs3
    obtain ⟨H1, H2, k1, k2, k3, k4⟩ := hs4
    have hend := run_endLoop (P := P) k3.2 (by rw [hrec]; simp)
    obtain ⟨W4, hW4⟩ : ∃ W4, w3.putObj (w.heap.size + 1) (.loop { rec with state := .exhausted }) = W4 := ⟨_, rfl⟩
    rw [hW4] at hend
    refine ⟨none, W4, by rw [hrec] at hend; exact hend, ?_⟩
    show Q .normal _ W4
    have hwW : C.W.heap.size ≤ w.heap.size := hM.size
    have hl1 : H1 (w.heap.size + 1) := (k3.1 _).2 rfl
    obtain ⟨M1, M2, m1, m2, m3, m4⟩ := k4
    rw [small (β1 := β3) (β2 := β4) (fun k hk => (hb3 k (by simp)).trans (hb4 k hk).symm)] at g4
    have hMG : ∀ b, M2 b → ¬ G2 b := fun b hb => g2 b ((k1 b).2 (.inr ((m1 b).2 (.inr hb))))
    have hTI : Star ((T xs.length ++ I).map fun q => q.2.r β4) w3 (fun b => M2 b ∨ G2 b) := by
      rw [List.map_append]; exact Star_append.2 ⟨M2, G2, fun b => Iff.rfl, hMG, m4, g4⟩
    have hMH : ∀ b, M2 b ∨ G2 b → b ≠ w.heap.size + 1 := fun b hb e => by
      subst e
      rcases hb with hb | hb
      · exact k2 _ hl1 ((m1 _).2 (.inr hb))
      · exact g2 _ ((k1 _).2 (.inl hl1)) hb
    have hoth : ∀ b, b ≠ w.heap.size + 1 → W4.heap[b]? = w3.heap[b]? := fun b hb => by rw [← hW4]; exact World.putObj_heap_other hb
    have hTI4 := hTI.loc (w' := W4) (fun b hb => hoth b (hMH b hb))
    have hD1 : M1 w.heap.size := (m3.1 _).2 rfl
    have hD4 : (obRes w.heap.size (.deferred (some []))).holds W4 M1 := ⟨m3.1, (hoth _ (by omega)).trans m3.2⟩
    have hTn' : ((T xs.length ++ I).map (·.1)).Nodup := (List.nodup_cons.1 (List.nodup_cons.1 (ndB_spec (hTn xs.length))).2).2
    obtain ⟨F', s1, s2⟩ := star_ren (starM_of hTI4 hTn') hl' (ndB_spec hnd')
    obtain ⟨βo, hβo⟩ : ∃ βo : Env, βo = fun k => if (lk τ k).isSome then β4 (rn τ k) else β k := ⟨_, rfl⟩
    have same : ∀ k, chkN τ ρ k = true → βo k = β k := fun k hk => by
      unfold chkN at hk
      cases hlk : lk τ k with
      | none => rw [hβo]; simp [hlk]
      | some j =>
        rw [hlk] at hk
        simp only [Bool.and_eq_true] at hk
        have h1 := hk.1
        rw [Nat.blt_eq] at h1
        have h2 := Nat.eq_of_beq_eq_true hk.2
        have h3 : βo k = β4 (rn τ k) := by rw [hβo]; simp [hlk]
        rw [h3, lk_rn hlk, hb4 j h1, hβr]
        show β (rn ρ j) = β k
        rw [h2]
    have eT : (Tout.map fun q => q.2.r (fun k => β4 (rn τ k))) = (Tout.map fun q => q.2.r βo) := List.map_congr_left (fun q hq => q.2.sup (fun k hk => by
      have := List.all_eq_true.1 (List.all_eq_true.1 hc3 q hq) k hk
      rw [hβo]
      show β4 (rn τ k) = if (lk τ k).isSome = true then β4 (rn τ k) else β k
      rw [if_pos this]))
    rw [eT] at s1
    have hsub : ∀ b, F' b → F3 b := fun b hb => by
      rcases s2 b hb with h | h
      · exact (g1 b).2 (.inl ((k1 b).2 (.inr ((m1 b).2 (.inr h)))))
      · exact (g1 b).2 (.inr h)
    have hdj : ∀ b, M1 b → ¬ F' b := fun b hb hb' => by
      rcases s2 b hb' with h | h
      · exact m2 b hb h
      · exact g2 b ((k1 b).2 (.inr ((m1 b).2 (.inl hb)))) h
    have hst5 : Star (((60, ob w.heap.size (.deferred (some []))) :: Tout).map fun q => q.2.r βo) W4 (fun b => M1 b ∨ F' b) := ⟨M1, F', fun b => Iff.rfl, hdj, hD4, s1⟩
    have hFX : ∀ k, (k = w.heap.size + 1 ∨ k = w.heap.size ∨ FT k) ∨ FI k → C.F0 k ∨ C.W.heap.size ≤ k := fun k hk => by
      rcases hk with (hk | hk | hk) | hk
      · right; omega
      · right; omega
      · exact hF k (hF1 k ((e1 k).2 (.inl hk)))
      · exact hF k (hF1 k ((e1 k).2 (.inr hk)))
    refine h w.heap.size _ W4 ⟨βo, fun b => M1 b ∨ F' b, fun k hk => ?_, fun t x hx => ?_, hlt, hsz, by show [_] ++ a.defers = [_]; rw [hd, hdf]; rfl, starM_of hst5 (ndB_spec hnd2), fun b hb => ?_, ?_⟩
    · rw [same k (List.all_eq_true.1 hc1 k (List.mem_range.2 hk))]; exact hβ k hk
    · rw [hfs t x hx]
      exact SV.den_congr x (fun k hk => (same k (List.all_eq_true.1 (List.all_eq_true.1 hc2 (t, x) (lk_mem hx)) k hk)).symm)
    · rcases hb with hb | hb
      · have := (m3.1 b).1 hb; subst this; exact .inr hwW
      · rcases hF3 b (hsub b hb) with h' | h'
        · exact hFX b h'
        · right; show C.W.heap.size ≤ b; omega
    · have A := hM.trans hM1 (fun k hk => hk.elim)
      have B := A.trans hM3 (fun k hk => hFX k hk)
      rw [← hW4]
      exact B.trans (putObj_mod (F := fun b => b = w.heap.size + 1) rfl) (fun k hk => .inr (by show C.W.heap.size ≤ k; omega))
end Go.Proofs.Ytheopcgjdfckmaa.Sx
namespace Go.Proofs.Ytheopcgjdfckmaa.Sx
open Go Go.RowKit Go.Sort Go.Lib
section
variable {α : Type} [Inhabited α] {enc : α → List Value} {k : Nat}
end
section
variable {P : Program}
theorem spec_ofM (fs0 : FL) (L0 : TL) (N : Nat) {f : FuncId} {fn : Func} {c : Code} {args : List SV} {ti to : List (Nat × Tok)} {ret : SV} {fr : List Nat} (hf : P.funcs[f]? = some fn) (hb : fn.body = some c) (hN : fn.ntmps = N) (h0 : (List.range args.length).zip args = fs0) (h1 : ti.map (fun p => (p.1, some p.2)) = L0)
    (hn : Nat.ble args.length N = true) (hnd : ndB (ti.map (·.1)) = true) (h : ∀ (β : Env) (W : World) (F : Foot), G ⟨W, F, β, N, []⟩ P fs0 L0 c (bodyPostM Fence.wide 0 P fn (Ret F W fr β ret to))) : SCon P f args ti ret to fr := by
  intro β w F hs
  subst h0 h1 hN
  refine (callsIn_wide (n := 0)).1 (callsIn_of_wp_marks hf hb trivial ?_ rfl)
  refine (wpIn_wide (n := 0)).2 ?_
  exact h β w F _ _ (holds_enter hs hn (ndB_spec hnd))
theorem At.mark {W : World} {F0 : Foot} {β0 : Env} {N : Nat} {D : Nat} {fs : FL} {L : TL} {fn : Func} {R : Ending → World → Prop} (hD : lkT L 60 = some (ob D (.deferred (some [])))) (h : At ⟨W, F0, β0, N, []⟩ fs ((60, none) :: L) (bodyPost P fn R .ret)) :
    At ⟨W, F0, β0, N, [{ target := .collected D, args := #[] }]⟩ fs L (bodyPostM Fence.wide 0 P fn R .ret) := by
  intro a w hh
  obtain ⟨β, F, hβ, hfs, hlt, hsz, hd, hs, hF, hM⟩ := hh
  obtain ⟨F1, F2, e1, dj, h1, h2⟩ := hs.take hD
  have hD1 : F1 D := (h1.1 D).2 rfl
  have h3 := h2.loc (w' := w.putObj D (.deferred none)) (fun b hb => World.putObj_heap_other (fun e => dj b ((h1.1 b).2 e) hb))
  obtain ⟨_, v, hv, hR⟩ := h { a with defers := [] } (w.putObj D (.deferred none)) ⟨β, F2, hβ, hfs, hlt, hsz, rfl, h3.congr (fun j => by rw [lkT_cons]), fun b hb => hF b ((e1 b).2 (.inr hb)), hM.trans (putObj_mod (F := fun b => b = D) rfl) (fun k hk => by subst hk; exact hF _ ((e1 _).2 (.inl hD1)))⟩
  show LeavesInM Fence.wide 0 P fn a.tmps R a.defers .returning w
  rw [hd]
  exact ⟨by simp, .inl ⟨D, _, rfl, run_takeDeferred h1.2, v, hv, hR⟩⟩
end
end Go.Proofs.Ytheopcgjdfckmaa.Sx
namespace Go.Proofs.Ytheopcgjdfckmaa.Sx
open Go Go.RowKit
section
variable {P : Program} {n : Nat} {l : List Oper} {fs fs' : FL} {L L' : TL} {ss : List Step}
theorem wpAny_par {C : Ctx} {Q : Exit → Act → World → Prop} (h : Run P C.n l.toArray l fs L ss fs' L') (hp : parB l ss fs L = true)
    (hq : ∀ a w, Holds C (lk fs') (lkT L') a w → Q .normal a w) {a : Act} {w : World} (hh : Holds C (lk fs) (lkT L) a w) : wpAny P .any l.toArray Q l.toArray.size (Array.replicate l.toArray.size false) a { w with drawn := w.drawn + 1 } := by
  refine wpAny_run h hp hq l.toArray.size _ (fun _ => false) (by simp) (fun j hj => by simp [hj]) (fun _ _ _ h => by cases h) ?_ a _ ?_
  · have := List.length_filter_le (fun j => !(fun _ => false) j) (List.range l.length)
    simpa using this
  · have z : ∀ (r : List Step) (j : Nat) (f : Nat → Option SV), foldF (fun _ => false) j r f = f := by
      intro r
      induction r with
      | nil => intro j f; rfl
      | cons s r ihr => intro j f; unfold foldF; exact ihr (j + 1) f
    have z' : ∀ (r : List Step) (j : Nat) (f : Nat → Option Tok), foldM (fun _ => false) j r f = f := by
      intro r
      induction r with
      | nil => intro j f; rfl
      | cons s r ihr => intro j f; unfold foldM; exact ihr (j + 1) f
    rw [z, z']
    obtain ⟨β, F, h1, h2, h3, h4, h5, h6, h7, h8⟩ := hh
    exact ⟨β, F, h1, h2, h3, h4, h5, h6.loc (fun _ _ => rfl), h7, h8.trans (Mod.drew (fun _ => False) w) (fun _ h => h.elim)⟩
end
theorem wpOp_in {ro : Option Nat} {n : Nat} {P : Program} {ops : Array Oper} {Q : Exit → Act → World → Prop} {i : Nat} {K : Act → World → Prop} {a : Act} {w : World} (hL : ¬ LetsOut Q) (hp : ops.toList.all plainB = true) (h : wpOp P ops Q i K a w) : wpOpIn (Wd ro) n P ops Q i K a w := by
  unfold wpOp at h; unfold wpOpIn
  cases ho : ops[i]? with
  | none => rw [ho] at h; exact h
  | some o =>
    rw [ho] at h
    simp only at h ⊢
    split
    · rename_i hw
      rw [if_pos hw] at h
      replace h := h.resolve_right (fun h => hL h.2)
      exact wp_in (List.all_eq_true.1 hp o (Array.mem_toList_iff.2 (Array.mem_of_getElem? ho))) h
    · rename_i hw
      rw [if_neg hw] at h
      exact ⟨fun _ _ => trivial, h⟩
theorem wpAny_in {ro : Option Nat} {n : Nat} {P : Program} {md : Region.Mode} {ops : Array Oper} {Q : Exit → Act → World → Prop} (hL : ¬ LetsOut Q) (hp : ops.toList.all plainB = true) : ∀ (fuel : Nat) (listed : Array Bool) (a : Act) (w : World), wpAny P md ops Q fuel listed a w → wpAnyIn (Wd ro) n P md ops Q fuel listed a w
  | 0, _, _, _, h => h
  | fuel + 1, listed, a, w, h => ⟨h.1, fun i hi => wpOp_in hL hp (wpOp_mono (fun a w => wpAny_in hL hp fuel _ a w) (h.2 i hi))⟩
theorem GR.rd {ro : Nat} {C : Ctx} {P : Program} {fs : FL} {L : TL} {Q : Exit → Act → World → Prop} {id : Nat} {l : List Oper} (hm : P.follows .mixedOrders = true) (hp : l.all plainB = true) (h : RunK P C.n l.toArray l fs L (fun ss fs' L' => parB l ss fs L = true ∧ At C fs' L' (Q .normal))) : GR ro C P fs L (.region id l.toArray true) Q := by
  intro a w hh
  obtain ⟨ss, fs', L', h1, h2, h3⟩ := h
  have key : (Code.region id l.toArray true).wpIn (Wd (some ro)) 0 P (fun e a w => e = .normal ∧ Q .normal a w) a w :=
    wpIn_region_any hm (wpAny_in (fun ⟨_, _, h⟩ => by cases h.1) (by simpa using hp) _ _ _ _ (wpAny_par h1 h2 (fun a' w' hh' => ⟨rfl, h3 a' w' hh'⟩) hh))
  exact wpIn_mono key (fun e a' w' he => by obtain ⟨rfl, h⟩ := he; exact h)
def part3 (l h s : Nat) : Value → Value
  | .slice a _ _ => sliced a l h h s
  | _ => .bool false
theorem LAt.part3 {α : Type} {e : α → List Value} {s : Nat} {l : List α} {S : Foot} {W0 : World} {v : Value} {b o : Nat} (h : LAt S W0 v b o e s l) {lo hi : Nat} (h1 : lo ≤ hi) (h2 : hi ≤ l.length) : LAt S W0 (Sx.part3 lo hi s v) b (o + lo * s) e s ((l.drop lo).take (hi - lo)) := by
  obtain ⟨ao, cap, h3, h4, h5⟩ := h.sl
  have hl : ((l.drop lo).take (hi - lo)).length = hi - lo := by rw [List.length_take, List.length_drop, Nat.min_eq_left (by omega)]
  refine ⟨h.len, h.pos, ⟨if hi = lo then ao else ao.map (·.add (lo * s)), hi - lo, ?_, ?_, ?_⟩, fun hm => h.inn (by omega), fun j u hj => ?_⟩
  · rw [h3, Sx.part3, sliced, hl]
  · rw [hl]; exact Nat.le_refl _
  · intro hm
    rw [hl] at hm
    rw [if_neg (by omega), h5 (by omega)]
    unfold Addr.add
    simp only [Option.map_some]
    split
    · rename_i h0; rw [h0]; simp
    · rfl
  · rw [← chunk_take h.len, ← chunk_drop h.len, List.getElem?_take, List.getElem?_drop] at hj
    split at hj
    · have := h.cells _ u hj
      rw [Nat.add_assoc]; exact this
    · cases hj
theorem run_part3 {P : Program} {t e size : Nat} (hu : P.underlying t = some (.slice e)) (hsz : ∀ w : World, (sizeOf e).run P w = .ok size w) {a : Option Addr} {len cap : Nat} {l h : Int} (h0 : 0 ≤ l) (hlh : l ≤ h) (hh : h ≤ len) (hc : len ≤ cap) (w : World) : (Instr.sliceAt t (.slice a len cap) (some (Value.int .i64 l)) (some (Value.int .i64 h)) (some (Value.int .i64 h))).run P w = .ok (sliced a l.toNat h.toNat h.toNat size) w := by
  have he : P.elem t = e := by simp [Program.elem, hu]
  have hu' : P.underlying t = some (.slice (P.elem t)) := by rw [he]; exact hu
  rw [run_sliceAt_slice (P := P) w t _ _ _ _ hu', run_slice_lhm (P := P) w t a len cap hu' .i64 .i64 .i64 l h h h0 hlh (Int.le_refl _) (by omega), he, hsz w]; rfl
section
variable {P : Program} {n : Nat} {ops : Array Oper} {rest : List Oper} {fs fs' : FL} {L L' : TL} {ss : List Step}
theorem K.part3 {K : List Step → FL → TL → Prop} {α : Type} {e : α → List Value} {s : Nat} {ls : List α} {S : Foot} {W0 : World} {v : Value} {b o : Nat} {d : Nat} {l h' : Int} {t : TypeId} {x lo hi mx : Operand} {ty : TypeId} {pos : String} {after : Array Edge} {g : Option (Nat × Bool)} {gr : FL} {el : TypeId} (hI : LAt S W0 v b o e s ls) (hg : Gd ops ⟨some d, .slice t x (some lo) (some hi) (some mx), ty, pos, after, g⟩ fs gr)
    (hx : ev fs x = some (SV.raw v)) (hlo : ev fs lo = some (SV.i l)) (hhi : ev fs hi = some (SV.i h')) (hmx : ev fs mx = some (SV.i h')) (hu : P.underlying t = some (.slice el)) (hsz : ∀ w : World, (sizeOf el).run P w = .ok s w) (h0 : 0 ≤ l) (hlh : l ≤ h') (hh : h' ≤ ls.length) (hn : Nat.blt d n = true)
    (h : RunK P n ops rest ((d, SV.raw (Sx.part3 l.toNat h'.toNat s v)) :: fs) L (fun ss fs' L' => K (⟨gr ++ opds [(x, SV.raw v), (lo, SV.i l), (hi, SV.i h'), (mx, SV.i h')], some d, SV.raw (Sx.part3 l.toNat h'.toNat s v), [], [], [], []⟩ :: ss) fs' L')) : RunK P n ops (⟨some d, .slice t x (some lo) (some hi) (some mx), ty, pos, after, g⟩ :: rest) fs L K :=
  RunK.of (fun _ _ _ h => Run.pure [(x, SV.raw v), (lo, SV.i l), (hi, SV.i h'), (mx, SV.i h')] (SV.raw (Sx.part3 l.toNat h'.toNat s v)) rfl hg (fun p hp => by
    simp at hp
    rcases hp with rfl | rfl | rfl | rfl
    · exact hx
    · exact hlo
    · exact hhi
    · exact hmx) hn (fun β ρ w hρ => by
    have e1 : ρ x = v := hρ (x, SV.raw v) (by simp)
    have e2 : ρ lo = .int .i64 l := hρ (lo, SV.i l) (by simp)
    have e3 : ρ hi = .int .i64 h' := hρ (hi, SV.i h') (by simp)
    have e4 : ρ mx = .int .i64 h' := hρ (mx, SV.i h') (by simp)
    obtain ⟨ao, cap, h3, hc, _⟩ := hI.sl
    simp only [execOp, e1, h3, Option.map_some, e2, e3, e4]
    rw [run_bind_ok (run_part3 (P := P) hu hsz h0 hlh hh hc w)]
    simp only [SV.den, Sx.part3]; rfl) h) h
theorem K.mkFn2 {K : List Step → FL → TL → Prop} {d f : Nat} {x y : Operand} {ty : TypeId} {pos : String} {after : Array Edge} {g : Option (Nat × Bool)} {gr : FL} {k j : Nat} (hg : Gd ops ⟨some d, .makeFunc (.func f) #[] #[x, y], ty, pos, after, g⟩ fs gr)
    (hx : ev fs x = some (SV.p k 0)) (hy : ev fs y = some (SV.p j 0)) (hn : Nat.blt d n = true)
    (h : RunK P n ops rest ((d, .a (.c (.fn (.func f) [k, j]))) :: fs) L (fun ss fs' L' => K (⟨gr ++ opds [(x, SV.p k 0), (y, SV.p j 0)], some d, .a (.c (.fn (.func f) [k, j])), [], [], [], []⟩ :: ss) fs' L')) : RunK P n ops (⟨some d, .makeFunc (.func f) #[] #[x, y], ty, pos, after, g⟩ :: rest) fs L K :=
  RunK.of (fun _ _ _ h => Run.pure [(x, SV.p k 0), (y, SV.p j 0)] (.a (.c (.fn (.func f) [k, j]))) rfl hg (fun p hp => by
    simp at hp
    rcases hp with rfl | rfl
    · exact hx
    · exact hy) hn (fun β ρ w hρ => by
    have h1 : ρ x = .pointer (some ⟨(β k).b, 0, none⟩) := hρ (x, SV.p k 0) (by simp)
    have h2 : ρ y = .pointer (some ⟨(β j).b, 0, none⟩) := hρ (y, SV.p j 0) (by simp)
    simp only [execOp, List.map_toArray, List.map_cons, List.map_nil, h1, h2]; rfl) h) h
theorem At.mark0 {W : World} {F0 : Foot} {β0 : Env} {N : Nat} {fs : FL} {L : TL} {fn : Func} {R : Ending → World → Prop} (h : At ⟨W, F0, β0, N, []⟩ fs L (bodyPost P fn R .ret)) :
    At ⟨W, F0, β0, N, []⟩ fs L (bodyPostM Fence.wide 0 P fn R .ret) := by
  intro a w hh
  obtain ⟨_, v, hv, hR⟩ := h a w hh
  obtain ⟨β, F, hβ, hfs, hlt, hsz, hd, hs, hF, hM⟩ := hh
  show LeavesInM Fence.wide 0 P fn a.tmps R a.defers .returning w
  rw [hd]
  exact ⟨v, hv, hR⟩
end
end Go.Proofs.Ytheopcgjdfckmaa.Sx
namespace Go.Proofs.Ytheopcgjdfckmaa
open Go Go.Proofs.Ytheopcgjdfckmaa.Sx
theorem chW {c : Nat} (h : 8 * c < 4294967296) : w64 (((8 * c : Nat) : Int) + 8) = ((8 * (c + 1) : Nat) : Int) := by simp only [w64, IntKind.wrap_i64]; omega
theorem chunk_con {s0 : Value} (h1 : s0.oneCell' = true) : SCon Try.prog 46 [SV.raw s0, SV.i 8] [] (.a (.c (.fn (.func 48) [50, 51]))) [(50, blk 50 [.v s0] 36), (51, blk 51 [.v (.int .i64 8)] 3)] [50, 51] := by
  refine spec_of [(0, _), (1, _)] [] 9 Try.func46 rfl Try.ntmps46 rfl rfl rfl rfl (fun β W F => ?_)
  exact G.seq <| G.rg <| K.box Y 50 _ g0 rfl rfl (by show (s0.oneCell' && true) = true; rw [h1]; rfl) rfl rfl rfl <| K.box Y 51 _ g0 rfl rfl rfl rfl rfl rfl <| K.as rfl rfl <| K.nil <| At.next <| G.seq <| G.seq <| G.rg <| K.load1 Y g0 rfl rfl t3 rfl rfl <| K.bin (V := .bool false) g0 rfl rfl (fun _ => rfl) rfl <| K.nil <| At.next <| G.cond rfl (fun h => by cases h) (fun _ => G.skip <| At.next <| G.seq <| G.rg <| K.mkFn2 g0 rfl rfl rfl <| K.as rfl rfl <| K.nil <| At.next <| G.ret <| At.dr Y [4] rfl rfl (by rfl) (by rfl) rfl rfl rfl)
theorem chunk_it {S : Foot} {W0 : World} {ao : Option Addr} {cap b0 o0 : Nat} {l0 : List Int} (hI : LAt S W0 (.slice ao l0.length cap) b0 o0 u8E 1 l0) {m : Nat} (hm : l0.length = 8 * m) (hb : l0.length < 4294967296) (l : Nat) (J : Nat → Res) (β0 : Env) (hy : ∀ i, i < m → Yld Try.prog l (part3 (8 * i) (8 * (i + 1)) 1 (.slice ao l0.length cap)) (J i) (J (i + 1))) :
    SCon Try.prog 48 [SV.raw (.func (.yield l) #[] #[]), SV.p 1 0, SV.p 2 0] [(18, jt (J 0)), (1, blk 1 [.v (.slice ao l0.length cap)] 36), (2, blk 2 [.v (.int .i64 8)] 3)] (.tup []) [(18, jt (J m)), (1, blk 1 [.v (.slice ao l0.length cap)] 36), (2, blk 2 [.v (.int .i64 8)] 3)] [] := by
  refine spec_of [(0, _), (1, _), (2, _)] [(18, _), (1, _), (2, _)] 31 Try.func48 rfl Try.ntmps48 rfl rfl rfl rfl (fun β W F => ?_)
  refine G.seq <| G.rg <| K.as rfl rfl <| K.nil <| At.next <| G.block <| G.lp (σ := { i : Nat // i ≤ m }) (fun q => [(0, SV.raw (.func (.yield l) #[] #[])), (1, SV.p 1 0), (2, SV.p 2 0), (4, SV.i ((8 * q.1 : Nat) : Int))]) (fun q => [(18, jt (J q.1)), (1, blk 1 [.v (.slice ao l0.length cap)] 36), (2, blk 2 [.v (.int .i64 8)] 3)]) (fun q => m - q.1) ⟨0, Nat.zero_le _⟩ ?_ ?_
  · exact At.into [] [_, _, _] rfl ⟨rfl, rfl, rfl, rfl, trivial⟩ ⟨rfl, (fun _ => rfl), rfl, (blk_ren rfl rfl), rfl, (blk_ren rfl rfl), trivial⟩ rfl
  · rintro ⟨i, hi⟩
    show G _ _ [(0, SV.raw (.func (.yield l) #[] #[])), (1, SV.p 1 0), (2, SV.p 2 0), (4, SV.i ((8 * i : Nat) : Int))] [(18, some (jt (J i))), (1, some (blk 1 [.v (.slice ao l0.length cap)] 36)), (2, some (blk 2 [.v (.int .i64 8)] 3))] _ _
    refine G.seq <| G.seq <| G.rg <| K.mv rfl rfl <| K.load1 Y g0 rfl rfl t36 rfl rfl <| K.bi1 (X := .a (.c (.v (.slice ao l0.length cap)))) (V := .int .i64 (l0.length : Int)) g0 rfl (fun _ _ w => lenS Try.underlying36 _ w) rfl <| K.bin (V := .bool (decide (((8 * i : Nat) : Int) < (l0.length : Int)))) g0 rfl rfl (fun _ => rfl) rfl <| K.nil <| At.next <| G.cond rfl (fun h1 => ?_) (fun h1 => ?_)
    · have hlt : i < m := by have := of_decide_eq_true h1; omega
      have hlen : ((l0.drop (8 * i)).take (l0.length - 8 * i)).length = l0.length - 8 * i := by rw [List.length_take, List.length_drop, Nat.min_self]
      have hmin : gmin 8 ((((l0.drop (8 * i)).take (l0.length - 8 * i)).length : Nat) : Int) = 8 := by rw [hlen]; unfold gmin; split <;> omega
      have hw := chW (c := i) (by omega)
      obtain ⟨ao2, cap2, hs2, _⟩ := (hI.part (lo := 8 * i) (hi := l0.length) (by omega) (Nat.le_refl _)).sl
      refine G.skip <| At.next <| G.seq <| G.block <| G.seq <| G.rd mixed <| K.load1 Y g0 rfl rfl t3 rfl rfl <| K.load1 Y g0 rfl rfl t36 rfl rfl <| K.mv rfl rfl <| K.partR (8 * i) l0.length hI g0 rfl (.at_ rfl (by omega) rfl) .no Try.underlying36 el36.size_run (by omega) (Nat.le_refl _) rfl <| K.bi1 (X := SV.raw (partOf (8 * i) l0.length 1 (.slice ao l0.length cap))) (V := .int .i64 ((((l0.drop (8 * i)).take (l0.length - 8 * i)).length : Nat) : Int)) g0 rfl (fun _ _ w => by rw [show (SV.raw (partOf (8 * i) l0.length 1 (.slice ao l0.length cap))).den _ = partOf (8 * i) l0.length 1 (.slice ao l0.length cap) from rfl, hs2]; exact lenS Try.underlying36 _ w) rfl <| K.bi2 (V := .int .i64 (gmin 8 ((((l0.drop (8 * i)).take (l0.length - 8 * i)).length : Nat) : Int))) g0 rfl rfl (fun _ _ => rfl) rfl <| K.as rfl rfl <| K.nil <| And.intro (by kernel_rfl) <| At.next ?_
      rw [hmin]
      refine G.seq ?_
      refine G.regionY (l1 := [_, _, _, _, _, _, _, _, _, _]) (l2 := [_]) (fun ops => K.mv rfl rfl <| K.load1 Y g0 rfl rfl t36 rfl rfl <| K.mv rfl rfl <| K.mv rfl rfl <| K.mv rfl rfl <| K.bin (V := .int .i64 ((8 * (i + 1) : Nat) : Int)) g0 rfl rfl (fun _ => by rw [← hw]; rfl) rfl <| K.mv rfl rfl <| K.mv rfl rfl <| K.bin (V := .int .i64 ((8 * (i + 1) : Nat) : Int)) g0 rfl rfl (fun _ => by rw [← hw]; rfl) rfl <| K.part3 hI g0 rfl rfl rfl rfl Try.underlying36 el36.size_run (by omega) (by omega) (by omega) rfl <| K.nil ?_) rfl rfl
      refine ⟨_, 18, SV.raw (part3 (8 * i) (8 * (i + 1)) 1 (.slice ao l0.length cap)), J i, J (i + 1), rfl, rfl, rfl, rfl, hy i hlt, rfl, fun ops => K.un (V := .bool false) g0 rfl (fun _ => rfl) rfl <| K.nil <| At.next <| G.cond rfl (fun h => by cases h) (fun _ => G.skip <| At.block_normal <| At.next <| G.rg <| K.mv rfl rfl <| K.load1 Y g0 rfl rfl t3 rfl rfl <| K.bin (V := .int .i64 ((8 * (i + 1) : Nat) : Int)) g0 rfl rfl (fun _ => by rw [← hw]; rfl) rfl <| K.as rfl rfl <| K.nil <| At.ag ⟨i + 1, hlt⟩ [] [_, _, _] (by show m - (i + 1) < m - i; omega) rfl ⟨rfl, rfl, rfl, rfl, trivial⟩ ⟨rfl, (fun _ => rfl), rfl, (blk_ren rfl rfl), rfl, (blk_ren rfl rfl), trivial⟩ rfl)⟩
    · have he : i = m := by have := of_decide_eq_false h1; omega
      subst he
      exact G.exit <| At.over_exit <| At.over_exit <| At.block_hit <| At.dn Y [] rfl rfl rfl rfl rfl rfl rfl
def rdVals (k : Nat) (l0 : List Int) : Nat → Option (List Int)
  | 0 => some []
  | i + 1 => (rdVals k l0 i).bind fun a => (frame_value.f k ((l0.drop (8 * i)).take 8)).bind fun v => some (a ++ [w64 v])
theorem rdVals_spec {k : Nat} {l0 : List Int} : ∀ {m : Nat} {r : List Int}, rdVals k l0 m = some r → r.length = m ∧ ∀ i, i < m → ∃ v, frame_value.f k ((l0.drop (8 * i)).take 8) = some v ∧ r[i]? = some (w64 v)
  | 0, r, h => by cases h; exact ⟨rfl, fun i hi => absurd hi (by omega)⟩
  | m + 1, r, h => by
    obtain ⟨a, ha, h⟩ := bnd h
    obtain ⟨v, hv, h⟩ := bnd h
    cases h
    obtain ⟨h1, h2⟩ := rdVals_spec ha
    refine ⟨by simp [h1], fun i hi => ?_⟩
    by_cases e : i = m
    · subst e
      exact ⟨v, hv, by rw [← h1]; simp⟩
    · obtain ⟨u, hu, hr⟩ := h2 i (by omega)
      exact ⟨u, hu, by rw [List.getElem?_append_left (by omega)]; exact hr⟩
def frame_Read.f (k : Nat) (l0 : List Int) : Option (List Int × Bool) := bif ((l0.length : Int).tmod 8 != 0) then some ([], false) else bif decide (l0.length < 4294967296) then (rdVals k l0 (l0.length / 8)).bind fun a => some (a, true) else none
theorem rdS {α : Type} {l : List α} {i : Nat} {x : α} (h : l[i]? = some x) : l.take (i + 1) = l.take i ++ [x] := by rw [List.take_add_one, h]; rfl
abbrev frame_Read_st (S : Foot) (W0 : World) (s0 : Value) (r : List Int × Bool) (m30 : Nat) : Prop := SCon Try.prog 35 [SV.raw s0] [(0, rd S W0)] (.tup [.c (.nv m30), .c (.v (.bool r.2))]) [(0, rd S W0), (m30, lrow m30 3 intE 1 r.1)] [m30]
theorem frame_Read_con0 {k : Nat} {S : Foot} {W0 : World} {s0 : Value} {l0 : List Int} {r : List Int × Bool} (hL0 : LArg S W0 s0 u8E 1 l0) (H0 : frame_Read.f k l0 = some r) : frame_Read_st S W0 s0 r 30 := by
  obtain ⟨b0, o0, hI⟩ := hL0
  obtain ⟨ao, cap, hq, _⟩ := hI.sl
  subst hq
  refine spec_ofM [(0, _)] [(0, _)] 20 Try.func35 rfl Try.ntmps35 rfl rfl rfl rfl (fun β W F => ?_)
  refine G.seq <| G.rg <| K.as rfl rfl <| K.as rfl rfl <| K.nil <| At.next <| G.seq <| G.seq <| G.rg <| K.mv rfl rfl <| K.bi1 (X := SV.raw (.slice ao l0.length cap)) (V := .int .i64 (l0.length : Int)) g0 rfl (fun _ _ w => lenS Try.underlying36 _ w) rfl <| K.bin (V := .int .i64 ((l0.length : Int).tmod 8)) g0 rfl rfl (fun w => rem_run (by decide) w) rfl <| K.bin (V := .bool ((l0.length : Int).tmod 8 != 0)) g0 rfl rfl (fun _ => rfl) rfl <| K.nil <| At.next <| G.cond rfl (fun h1 => ?_) (fun h1 => ?_)
  · replace H0 := bif_t H0 h1
    cases H0
    exact G.seq <| G.rg <| K.nilRow 100 3 intE 1 (.inl rfl) g0 rfl rfl rfl <| K.as rfl rfl <| K.nil <| At.next <| G.ret <| At.over_ret <| At.mark0 <| At.ren (fs' := [(2, .a (.c (.nv 30))), (3, SV.b false)]) (tl := [(0, rd S W0), (30, lrow 30 3 intE 1 ([] : List Int))]) [(30, 100)] [_, _] rfl ⟨rfl, rfl, trivial⟩ ⟨rfl, (fun _ => rfl), rfl, (lrow_ren rfl), trivial⟩ rfl <| At.dr Y [2, 3] rfl rfl (by rfl) (by rfl) rfl rfl rfl
  · replace H0 := bif_f H0 h1
    obtain ⟨hb, H0⟩ := grd H0
    obtain ⟨a, ha, H0⟩ := bnd H0
    cases H0
    have hmod : l0.length = 8 * (l0.length / 8) := by
      have h2 : (l0.length : Int).tmod 8 = 0 := by simpa using h1
      rw [Int.tmod_eq_emod_of_nonneg (by omega)] at h2
      omega
    obtain ⟨xs, hx, hxl⟩ : ∃ xs : List Nat, (∀ (i x : Nat), xs[i]? = some x → x = i) ∧ xs.length = l0.length / 8 := ⟨List.range (l0.length / 8), fun i x h => by
      rw [List.getElem?_range (by have := (List.getElem?_eq_some_iff.1 h).1; simpa using this)] at h
      cases h; rfl, List.length_range⟩
    rw [← hxl] at ha hmod
    obtain ⟨hal, hav⟩ := rdVals_spec ha
    have h1c : (Value.slice ao l0.length cap).oneCell' = true := rfl
    have hc : SCon Try.prog 46 [SV.raw (.slice ao l0.length cap), SV.i 8] [] (.a (.c (.fn (.func 48) [102, 103]))) [(102, blk 102 [.v (.slice ao l0.length cap)] 36), (103, blk 103 [.v (.int .i64 8)] 3)] [102, 103] := SCon.ren (rn [(50, 102), (51, 103)]) (chunk_con h1c) trivial ⟨(blk_ren rfl rfl), (blk_ren rfl rfl), trivial⟩ (rn_nd rfl rfl rfl) (rn_ks rfl rfl rfl rfl)
    refine G.skip <| At.next <| G.seq <| G.rg <| K.alloc Y 100 _ g0 t22 rfl rfl rfl rfl rfl <| K.nil <| At.nilBlk (n := 100) (l' := [_]) 0 101 3 intE 1 rfl rfl rfl rfl rfl <| At.next <| G.seq <| G.seq <| G.rg <| K.mv rfl rfl <| K.c0 (cf 46 rfl) hc g0 rfl rfl rfl rfl <| K.nil <| At.next <| G.block ?_
    refine G.rangeF (fs0 := [(4, SV.p 4 0), (11, .a (.c (.fn (.func 48) [1, 2])))]) (f := 48) (ks := [1, 2]) xs (fun x => SV.raw (part3 (8 * x) (8 * (x + 1)) 1 (.slice ao l0.length cap))) (fun i => [(0, rd S W0), (4, blk 4 [.nv 23] 22), (23, lrow 23 3 intE 1 (a.take i))]) [(1, blk 1 [.v (.slice ao l0.length cap)] 36), (2, blk 2 [.v (.int .i64 8)] 3)] rfl rfl (cf 48 rfl)
      [(4, 100), (23, 101), (1, 102), (2, 103)] [_, _, _, _, _] ⟨rfl, rfl, trivial⟩ ⟨rfl, (fun _ => rfl), rfl, (blk_ren rfl rfl), rfl, (lrow_ren rfl), rfl, (blk_ren rfl rfl), rfl, (blk_ren rfl rfl), trivial⟩ rfl rfl rfl rfl (fun _ => rfl) rfl (fun _ => rfl)
      (fun l J β1 hy => chunk_it hI hmod hb l J β1 (fun i hi => by
        have e : xs[i]? = some i := by
          have := List.getElem?_eq_getElem hi
          rw [this, hx i _ this]
        exact hy i i e)) (fun i x hxi => ?_)
      [(100, 4), (101, 23), (0, 0), (102, 1), (103, 2)] [(0, rd S W0), (100, blk 100 [.nv 101] 22), (101, lrow 101 3 intE 1 (a.take xs.length)), (102, blk 102 [.v (.slice ao l0.length cap)] 36), (103, blk 103 [.v (.int .i64 8)] 3)] [_, _, _, _, _]
      ⟨rfl, (fun _ => rfl), rfl, (blk_ren rfl rfl), rfl, (lrow_ren rfl), rfl, (blk_ren rfl rfl), rfl, (blk_ren rfl rfl), trivial⟩ rfl rfl rfl rfl rfl (fun D => ?_)
    · have hi := (List.getElem?_eq_some_iff.1 hxi).1
      have := hx i x hxi
      subst this
      obtain ⟨v, hv, hr⟩ := hav x hi
      show RoundOk _ _ _ _ _ _ _ [(0, rd S W0), (4, blk 4 [.nv 23] 22), (23, lrow 23 3 intE 1 (a.take x))] [(0, rd S W0), (4, blk 4 [.nv 23] 22), (23, lrow 23 3 intE 1 (a.take (x + 1)))]
      have hle : (a.take x).length + 1 < 4294967296 := by rw [List.length_take]; omega
      have hp := hI.part3 (lo := 8 * x) (hi := 8 * (x + 1)) (by omega) (by omega)
      rw [show 8 * (x + 1) - 8 * x = 8 from by omega] at hp
      rw [rdS hr]
      intro C l D r hn hr2 hp2
      refine GR.rg rfl <| K.as rfl (by rw [hn]; rfl) <| K.nil <| At.begin rfl hr2 <| GR.block <| GR.rd mixed rfl <| K.load1 Y g0 rfl rfl t22 rfl (by rw [hn]; rfl) <| K.mv rfl (by rw [hn]; rfl) <| K.cV (cf 43 rfl) [0] (fun β w S2 h => frame_value_con (k := k) ((hp.isC 0).larg ⟨_, List.mem_cons_self⟩ h) hv) g0 (fun _ => rfl) rfl rfl (by rw [hn]; rfl) <| K.conv (V := .int .i64 (w64 v)) g0 rfl (cv_int (by rw [Try.underlying68]; rfl) Try.underlying3) (by rw [hn]; rfl) <| K.buildL Y 102 ([w64 v] : List Int) [(0, _)] [((.tmp 16), _)] intE_len g0 (AllE.spec ⟨rfl, trivial⟩) rfl rfl Try.underlying22 t3 rfl rfl rfl rfl rfl rfl rfl (by rw [hn]; rfl) <| K.appendL 103 (lrowV 102 3 intE 1 ([w64 v] : List Int)) _ el22 (lrowV_is intE_len (by decide)) intE_one g0 rfl rfl rfl rfl rfl (ap_m hle) (ap_b hle (by decide)) rfl rfl rfl rfl rfl (by rw [hn]; rfl) <| K.store Y _ g0 rfl rfl rfl t22 rfl rfl rfl rfl rfl <| K.nil <| And.intro (by kernel_rfl) <| At.block_normal ?_
      exact At.er [(23, 103)] [_, _, _] rfl rfl hr2 hp2 rfl ⟨rfl, (fun _ => rfl), rfl, (blk_ren rfl rfl), rfl, (lrow_ren rfl), trivial⟩ rfl
    · rw [← hal, List.take_length]
      exact At.block_normal <| At.next <| G.seq <| G.rg <| K.load1 Y g0 rfl rfl t22 rfl rfl <| K.as rfl rfl <| K.as rfl rfl <| K.nil <| At.next <| G.ret <| At.mark rfl <| At.ren (fs' := [(2, .a (.c (.nv 30))), (3, SV.b true)]) (tl := [(0, rd S W0), (30, lrow 30 3 intE 1 a)]) [(30, 101)] [_, _] rfl ⟨rfl, rfl, trivial⟩ ⟨rfl, (fun _ => rfl), rfl, (lrow_ren rfl), trivial⟩ rfl <| At.dr Y [2, 3] rfl rfl (by rfl) (by rfl) rfl rfl rfl
theorem frame_Read_con {k : Nat} {S : Foot} {W0 : World} {s0 : Value} {l0 : List Int} {r : List Int × Bool} (hL0 : LArg S W0 s0 u8E 1 l0) (H0 : frame_Read.f k l0 = some r) (m30 : Nat) (hd : ndB [m30] = true) : frame_Read_st S W0 s0 r m30 :=
  SCon.ren (rn [(30, m30)]) (frame_Read_con0 (k := k) hL0 H0) ⟨(fun _ => rfl), trivial⟩ ⟨(fun _ => rfl), (lrow_ren rfl), trivial⟩ (rn_nd hd rfl rfl) (rn_ks hd rfl rfl rfl)
end Go.Proofs.Ytheopcgjdfckmaa
namespace Go.Proofs.Ytheopcgjdfckmaa
open Go Go.Proofs.Ytheopcgjdfckmaa.Sx
def frame_Numbers.l0 (k : Nat) (l0 : List Int) : Nat → (List Int × Int) → Option (List Int)
  | 0, _ => none
  | n + 1, (v1, v2) => bif (decide (v2 < (l0.length : Int))) then ((atL l0 v2).bind fun x2 => (frame_little.f k (IntKind.u64.wrap x2) 8).bind fun x3 => bif decide (v1.length + x3.length < 4294967296) then (frame_Numbers.l0 k l0 n ((v1 ++ x3), (w64 (v2 + 1)))) else none) else (some v1)
def frame_Numbers.f (k : Nat) (l0 : List Int) : Option (List Int) := (frame_Numbers.l0 k l0 k (([] : List Int), 0)).bind fun x1 => some x1
def R19_Read.l0 (k : Nat) (a0 : ByteArray) : Nat → (List Int × Int) → Option (List Int)
  | 0, _ => none
  | n + 1, (v1, v2) => bif (decide (v2 < (a0.size : Int))) then (bif decide (0 ≤ v2 ∧ v2 ≤ (w64 (v2 + 8)) ∧ (w64 (v2 + 8)) ≤ (a0.size : Int)) then ((R19_Value.f k (a0.extract ((v2).toNat) (((w64 (v2 + 8))).toNat))).bind fun x2 => bif decide (v1.length + ([(w64 x2)] : List Int).length < 4294967296) then (R19_Read.l0 k a0 n ((v1 ++ ([(w64 x2)] : List Int)), (w64 (v2 + 8)))) else none) else none) else (some v1)
def R19_Read.f (k : Nat) (a0 : ByteArray) : Option (List Int × Bool) := bif (((a0.size : Int).tmod 8) != 0) then (some (([] : List Int), false)) else ((R19_Read.l0 k a0 k (([] : List Int), 0)).bind fun x1 => some (x1, true))
def R19_Numbers.l0 (k : Nat) (l0 : List Int) : Nat → (ByteArray × Int) → Option (ByteArray)
  | 0, _ => none
  | n + 1, (v1, v2) => bif (decide (v2 < (l0.length : Int))) then ((atL l0 v2).bind fun x2 => (R19_Little.f k (IntKind.u64.wrap x2) 8).bind fun x3 => bif decide (v1.size + x3.size < 9223372036854775808) then (R19_Numbers.l0 k l0 n ((v1 ++ x3), (w64 (v2 + 1)))) else none) else (some v1)
def R19_Numbers.f (k : Nat) (l0 : List Int) : Option (ByteArray) := (R19_Numbers.l0 k l0 k ((ByteArray.mk #[]), 0)).bind fun x1 => some x1
def R01_Ints.l0 (k : Nat) (l0 : List Int) (l1 : List Int) : Nat → Int → Option (Sum (Bool) (Unit))
  | 0, _ => none
  | n + 1, v1 => bif (decide (v1 < (l0.length : Int))) then ((atL l0 v1).bind fun x2 => (atL l1 v1).bind fun x3 => bif (x2 != x3) then (some (Sum.inl false)) else (R01_Ints.l0 k l0 l1 n (w64 (v1 + 1)))) else (some (Sum.inr ()))
def R01_Ints.f (k : Nat) (l0 : List Int) (l1 : List Int) : Option (Bool) := bif ((l0.length : Int) != (l1.length : Int)) then (some false) else ((R01_Ints.l0 k l0 l1 k 0).bind (Sum.elim (fun r => some r) (fun w1 => some true)))
def Lw19_FrameNumbers.f (k : Nat) (l0 : List Int) (l1 : List Int) : Option (Bool) := ((Lw19_awake.f k).bind fun x2 => bif (!x2) then ((Lw19_awake.f k).bind fun x3 => some (Sum.inl x3)) else (bif (decide ((l0.length : Int) > 100)) then ((Lw19_awake.f k).bind fun x4 => some (Sum.inl x4)) else (bif (decide ((l1.length : Int) > 500)) then ((Lw19_awake.f k).bind fun x5 => some (Sum.inl x5)) else (some (Sum.inr ()))))).bind (Sum.elim (fun r => some r) (fun w1 => (frame_Numbers.f k l0).bind fun x6 => (frame_Read.f k x6).bind fun x7 => (frame_Read.f k l1).bind fun x8 => (R19_Read.f k (strOfNums l1)).bind fun x9 => (R19_Numbers.f k l0).bind fun x10 => bif (gseq (strOfNums x6) x10) then (bif x7.2 then ((R01_Ints.f k x7.1 l0).bind fun x11 => bif x11 then (bif (x8.2 == x9.2) then ((R01_Ints.f k x8.1 x9.1).bind fun x12 => some x12) else (some false)) else (some false)) else (some false)) else (some false)))
abbrev frame_Numbers_st (S : Foot) (W0 : World) (s0 : Value) (r : List Int) (m30 : Nat) : Prop := SCon Try.prog 34 [SV.raw s0] [(0, rd S W0)] (.a (.c (.nv m30))) [(0, rd S W0), (m30, lrow m30 5 u8E 1 r)] [m30]
theorem frame_Numbers_con0 {k : Nat}  {S : Foot} {W0 : World} {s0 : Value} {l0 : List Int} {r : List Int} (hL0 : LArg S W0 s0 intE 1 l0) (H0 : frame_Numbers.f k l0 = some r) : frame_Numbers_st S W0 s0 r 30 := by
  rw [frame_Numbers.f] at H0
  obtain ⟨b0, o0, hI0⟩ := hL0
  refine spec_of [(0, _)] [(0, _)] 19 Try.func34 R Try.ntmps34 R R R R (fun β W F => ?_)
  refine G.seq ?_
  refine G.rg ?_
  refine K.nilRow 100 5 u8E 1 (.inl R) (gd0 R) R R R ?_
  refine K.nil ?_
  refine At.next ?_
  refine G.seq ?_
  refine G.rg ?_
  refine K.nilRow 101 5 u8E 1 (.inl R) (gd0 R) R R R ?_
  refine K.nil ?_
  refine At.next ?_
  obtain ⟨x1, H1, H0⟩ := bnd H0
  refine G.sJ (σ := { v : List Int // x1 = v }) (fun q => [(3, .a (.c (.nv 102)))]) (fun q => [(0, rd S W0), (102, lrow 102 5 u8E 1 q.1)]) ?_ ?_
  ·
    refine G.seq ?_
    refine G.rg ?_
    refine K.move (.inl R) (gd0 R) R R ?_
    refine K.lenL (rV 0 S W0 s0 b0 o0 intE 1 l0) (hI0.is 0) (gd0 R) R R Try.underlying22 R ?_
    refine K.move (.inl R) (gd0 R) R R ?_
    refine K.nil ?_
    refine At.next ?_
    refine G.block ?_
    refine G.lp (σ := { q : Nat × (List Int × Int) // frame_Numbers.l0 k l0 q.1 q.2 = some x1 }) (fun q => [(3, .a (.c (.nv 105))), (6, SV.raw s0), (7, .a (.c (.v (.int .i64 (l0.length : Int))))), (8, .a (.c (.v (.int .i64 q.1.2.2))))]) (fun q => [(0, rd S W0), (105, lrow 105 5 u8E 1 q.1.2.1)]) (fun q => q.1.1) ⟨(k, (([] : List Int), 0)), H1⟩ ?_ ?_
    · exact At.into [(105, 101)] [_, _] R ⟨R, R, R, R, trivial⟩ ⟨R, (fun _ => R), R, (lrow_ren R), trivial⟩ R
    ·
      rintro ⟨⟨n0, v1, v2⟩, H1⟩
      show G _ _ [(3, .a (.c (.nv 105))), (6, SV.raw s0), (7, .a (.c (.v (.int .i64 (l0.length : Int))))), (8, .a (.c (.v (.int .i64 v2))))] [(0, some (rd S W0)), (105, some (lrow 105 5 u8E 1 v1))] _ _
      cases n0 with
      | zero => exact absurd H1 (by simp [frame_Numbers.l0])
      | succ n0 =>
        have HL0 := H1
        rw [frame_Numbers.l0] at H1
        refine G.seq ?_
        refine G.rg ?_
        refine K.bin (V := .bool (decide (v2 < (l0.length : Int)))) (gd0 R) R R (fun _ => R) R ?_
        refine K.nil ?_
        refine At.next ?_
        refine G.seq ?_
        refine G.cond R (fun h1 => ?_) (fun h1 => ?_)
        ·
          replace H1 := bif_t H1 h1
          refine G.skip ?_
          refine At.next ?_
          refine G.seq ?_
          refine G.block ?_
          refine G.seq ?_
          obtain ⟨x2, hx2, H1⟩ := bnd H1
          refine G.rg ?_
          refine K.idxL (rV 0 S W0 s0 b0 o0 intE 1 l0) ((v2).toNat) (hI0.is 0) (atL_get hx2) (atL_nn hx2) (gd0 R) R R R Try.underlying22 el22.size_run R ?_
          refine K.load1L Y (rV 0 S W0 s0 b0 o0 intE 1 l0) ((v2).toNat) 0 (hI0.is 0) (atL_get hx2) (gd0 R) R R t3 R R ?_
          refine K.move (.inr R) (gd0 R) R R ?_
          refine K.nil ?_
          refine At.next ?_
          obtain ⟨x3, hx3, H1⟩ := bnd H1
          obtain ⟨h2, H1⟩ := grd H1
          refine G.rg ?_
          refine K.move (.inl R) (gd0 R) R R ?_
          refine K.move (.inl R) (gd0 R) R R ?_
          refine K.conv (V := .int .u64 (IntKind.u64.wrap x2)) (gd0 R) R (cv_int (by rw [Try.underlying3]; rfl) Try.underlying68) R ?_
          refine K.c0 (cf 41 R) (frame_little_con (k := k) hx3 106 R) (gd0 R) R R R R ?_
          refine K.appendL 107 (lrowV 106 5 u8E 1 x3) _ el36 (lrowV_is u8E_len (by decide)) u8E_one (gd0 R) R R R R R (ap_m h2) (ap_b h2 (by decide)) R R R R R R ?_
          refine K.move (.inr R) (gd0 R) R R ?_
          refine K.nil ?_
          refine At.block_normal ?_
          refine At.next ?_
          refine G.rg ?_
          refine K.bin (V := .int .i64 (w64 (v2 + 1))) (gd0 R) R R (fun _ => R) R ?_
          refine K.move (.inl R) (gd0 R) R R ?_
          refine K.nil ?_
          exact At.ag ⟨(n0, ((v1 ++ x3), (w64 (v2 + 1)))), H1⟩ [(105, 107)] [_, _] (Nat.lt_succ_self _) R ⟨R, R, R, R, trivial⟩ ⟨R, (fun _ => R), R, (lrow_ren R), trivial⟩ R
        ·
          replace H1 := bif_f H1 h1
          refine G.exit ?_
          refine At.over_exit ?_
          refine At.over_exit ?_
          refine At.block_hit ?_
          exact At.jd ⟨v1, oi H1⟩ [(102, 105)] [_, _] R ⟨R, trivial⟩ ⟨R, (fun _ => R), R, (lrow_ren R), trivial⟩ R
  ·
    rintro ⟨_, rfl⟩
    show G _ _ [(3, .a (.c (.nv 102)))] [(0, some (rd S W0)), (102, some (lrow 102 5 u8E 1 x1))] _ _
    refine G.seq ?_
    refine G.rg ?_
    refine K.move (.inl R) (gd0 R) R R ?_
    refine K.move (.inr R) (gd0 R) R R ?_
    refine K.nil ?_
    refine At.next ?_
    refine G.ret ?_
    refine At.ren (fs' := [(2, .a (.c (.nv 30)))]) (tl := [(0, rd S W0), (30, lrow 30 5 u8E 1 x1)]) [(30, 102)] [_, _] R ⟨R, trivial⟩ ⟨R, (fun _ => R), R, (lrow_ren R), trivial⟩ R ?_
    exact At.dr Y [2] R R (by cases H0; rfl) (by cases H0; rfl) R R R
theorem frame_Numbers_con {k : Nat}  {S : Foot} {W0 : World} {s0 : Value} {l0 : List Int} {r : List Int} (hL0 : LArg S W0 s0 intE 1 l0) (H0 : frame_Numbers.f k l0 = some r) (m30 : Nat) (hd : ndB [m30] = true) : frame_Numbers_st S W0 s0 r m30 :=
  SCon.ren (rn [(30, m30)]) (frame_Numbers_con0 (k := k)  hL0 H0) ⟨(fun _ => R), trivial⟩ ⟨(fun _ => R), (lrow_ren R), trivial⟩ (rn_nd hd R R) (rn_ks hd R R R)
abbrev R19_Read_st (a0 : ByteArray) (r : List Int × Bool) (m30 : Nat) : Prop := SCon Try.prog 36 [.a (.c (.v (.string a0)))] [] (.tup [.c (.nv m30), .c (.v (.bool r.2))]) [(m30, lrow m30 3 intE 1 r.1)] [m30]
theorem R19_Read_con0 {k : Nat}  {a0 : ByteArray} {r : List Int × Bool}  (H0 : R19_Read.f k a0 = some r) : R19_Read_st a0 r 30 := by
  rw [R19_Read.f] at H0
  refine spec_of [(0, _)] [] 27 Try.func36 R Try.ntmps36 R R R R (fun β W F => ?_)
  refine G.seq ?_
  refine G.rg ?_
  refine K.nilRow 100 3 intE 1 (.inl R) (gd0 R) R R R ?_
  refine K.move (.inr R) (gd0 R) R R ?_
  refine K.nil ?_
  refine At.next ?_
  refine G.seq ?_
  refine G.seq ?_
  refine G.rg ?_
  refine K.move (.inl R) (gd0 R) R R ?_
  refine K.bi1 (X := SV.raw (.string a0)) (V := .int .i64 (a0.size : Int)) (gd0 R) R (fun _ _ w => lenStr Try.underlying9 _ w) R ?_
  refine K.bin (V := .int .i64 ((a0.size : Int).tmod 8)) (gd0 R) R R (rem_run (by decide)) R ?_
  refine K.bin (V := .bool (((a0.size : Int).tmod 8) != 0)) (gd0 R) R R (fun _ => R) R ?_
  refine K.nil ?_
  refine At.next ?_
  refine G.cond R (fun h1 => ?_) (fun h1 => ?_)
  ·
    replace H0 := bif_t H0 h1
    refine G.seq ?_
    refine G.rg ?_
    refine K.nilRow 101 3 intE 1 (.inl R) (gd0 R) R R R ?_
    refine K.move (.inr R) (gd0 R) R R ?_
    refine K.nil ?_
    refine At.next ?_
    refine G.ret ?_
    refine At.over_ret ?_
    refine At.ren (fs' := [(2, .a (.c (.nv 30))), (3, .a (.c (.v (.bool false))))]) (tl := [(30, lrow 30 3 intE 1 ([] : List Int))]) [(30, 101)] [_] R ⟨R, R, trivial⟩ ⟨R, (lrow_ren R), trivial⟩ R ?_
    exact At.dr Y [2, 3] R R (by cases H0; rfl) (by cases H0; rfl) R R R
  ·
    replace H0 := bif_f H0 h1
    refine G.skip ?_
    refine At.next ?_
    refine G.seq ?_
    refine G.rg ?_
    refine K.nilRow 102 3 intE 1 (.inl R) (gd0 R) R R R ?_
    refine K.nil ?_
    refine At.next ?_
    obtain ⟨x1, H1, H0⟩ := bnd H0
    refine G.sJ (σ := { v : List Int // x1 = v }) (fun q => [(4, .a (.c (.nv 103)))]) (fun q => [(103, lrow 103 3 intE 1 q.1)]) ?_ ?_
    ·
      refine G.seq ?_
      refine G.rg ?_
      refine K.move (.inr R) (gd0 R) R R ?_
      refine K.nil ?_
      refine At.next ?_
      refine G.block ?_
      refine G.lp (σ := { q : Nat × (List Int × Int) // R19_Read.l0 k a0 q.1 q.2 = some x1 }) (fun q => [(0, .a (.c (.v (.string a0)))), (4, .a (.c (.nv 106))), (5, .a (.c (.v (.int .i64 q.1.2.2))))]) (fun q => [(106, lrow 106 3 intE 1 q.1.2.1)]) (fun q => q.1.1) ⟨(k, (([] : List Int), 0)), H1⟩ ?_ ?_
      · exact At.into [(106, 102)] [_] R ⟨R, R, R, trivial⟩ ⟨R, (lrow_ren R), trivial⟩ R
      ·
        rintro ⟨⟨n0, v1, v2⟩, H1⟩
        show G _ _ [(0, .a (.c (.v (.string a0)))), (4, .a (.c (.nv 106))), (5, .a (.c (.v (.int .i64 v2))))] [(106, some (lrow 106 3 intE 1 v1))] _ _
        cases n0 with
        | zero => exact absurd H1 (by simp [R19_Read.l0])
        | succ n0 =>
          have HL0 := H1
          rw [R19_Read.l0] at H1
          refine G.seq ?_
          refine G.seq ?_
          refine G.rg ?_
          refine K.move (.inl R) (gd0 R) R R ?_
          refine K.move (.inl R) (gd0 R) R R ?_
          refine K.bi1 (X := SV.raw (.string a0)) (V := .int .i64 (a0.size : Int)) (gd0 R) R (fun _ _ w => lenStr Try.underlying9 _ w) R ?_
          refine K.bin (V := .bool (decide (v2 < (a0.size : Int)))) (gd0 R) R R (fun _ => R) R ?_
          refine K.nil ?_
          refine At.next ?_
          refine G.cond R (fun h2 => ?_) (fun h2 => ?_)
          ·
            replace H1 := bif_t H1 h2
            refine G.skip ?_
            refine At.next ?_
            refine G.seq ?_
            refine G.block ?_
            obtain ⟨h3, H1⟩ := grd H1
            obtain ⟨x2, hx2, H1⟩ := bnd H1
            obtain ⟨h4, H1⟩ := grd H1
            refine G.rg ?_
            refine K.move (.inl R) (gd0 R) R R ?_
            refine K.move (.inl R) (gd0 R) R R ?_
            refine K.move (.inl R) (gd0 R) R R ?_
            refine K.move (.inl R) (gd0 R) R R ?_
            refine K.bin (V := .int .i64 (w64 (v2 + 8))) (gd0 R) R R (fun _ => R) R ?_
            refine K.ssub ((v2).toNat) (((w64 (v2 + 8))).toNat) (gd0 R) R (.at_ R h3.1 R) (.at_ R (Int.le_trans h3.1 h3.2.1) R) Try.underlying9 (tn_le h3.2.1) (tn_len h3.2.2) R ?_
            refine K.cR (cf 45 R) (R19_Value_con (k := k) hx2) (gd0 R) R R R R ?_
            refine K.conv (V := .int .i64 (w64 x2)) (gd0 R) R (cv_int (by rw [Try.underlying68]; rfl) Try.underlying3) R ?_
            refine K.buildL Y 107 ([(w64 x2)] : List Int) [(0, _)] [((.tmp 23), _)] intE_len (gd0 R) (AllE.spec ⟨R, trivial⟩) R R Try.underlying22 t3 R R R R R R R R ?_
            refine K.appendL 108 (lrowV 107 3 intE 1 ([(w64 x2)] : List Int)) _ el22 (lrowV_is intE_len (by decide)) intE_one (gd0 R) R R R R R (ap_m h4) (ap_b h4 (by decide)) R R R R R R ?_
            refine K.move (.inr R) (gd0 R) R R ?_
            refine K.nil ?_
            refine At.block_normal ?_
            refine At.next ?_
            refine G.rg ?_
            refine K.move (.inl R) (gd0 R) R R ?_
            refine K.bin (V := .int .i64 (w64 (v2 + 8))) (gd0 R) R R (fun _ => R) R ?_
            refine K.move (.inr R) (gd0 R) R R ?_
            refine K.nil ?_
            exact At.ag ⟨(n0, ((v1 ++ ([(w64 x2)] : List Int)), (w64 (v2 + 8)))), H1⟩ [(106, 108)] [_] (Nat.lt_succ_self _) R ⟨R, R, R, trivial⟩ ⟨R, (lrow_ren R), trivial⟩ R
          ·
            replace H1 := bif_f H1 h2
            refine G.exit ?_
            refine At.over_exit ?_
            refine At.over_exit ?_
            refine At.block_hit ?_
            exact At.jd ⟨v1, oi H1⟩ [(103, 106)] [_] R ⟨R, trivial⟩ ⟨R, (lrow_ren R), trivial⟩ R
    ·
      rintro ⟨_, rfl⟩
      show G _ _ [(4, .a (.c (.nv 103)))] [(103, some (lrow 103 3 intE 1 x1))] _ _
      refine G.seq ?_
      refine G.rg ?_
      refine K.move (.inl R) (gd0 R) R R ?_
      refine K.move (.inr R) (gd0 R) R R ?_
      refine K.move (.inr R) (gd0 R) R R ?_
      refine K.nil ?_
      refine At.next ?_
      refine G.ret ?_
      refine At.ren (fs' := [(2, .a (.c (.nv 30))), (3, .a (.c (.v (.bool true))))]) (tl := [(30, lrow 30 3 intE 1 x1)]) [(30, 103)] [_] R ⟨R, R, trivial⟩ ⟨R, (lrow_ren R), trivial⟩ R ?_
      exact At.dr Y [2, 3] R R (by cases H0; rfl) (by cases H0; rfl) R R R
theorem R19_Read_con {k : Nat}  {a0 : ByteArray} {r : List Int × Bool}  (H0 : R19_Read.f k a0 = some r) (m30 : Nat) (hd : ndB [m30] = true) : R19_Read_st a0 r m30 :=
  SCon.ren (rn [(30, m30)]) (R19_Read_con0 (k := k)   H0) trivial ⟨(lrow_ren R), trivial⟩ (rn_nd hd R R) (rn_ks hd R R R)
abbrev R19_Numbers_st (S : Foot) (W0 : World) (s0 : Value) (r : ByteArray) : Prop := SCon Try.prog 37 [SV.raw s0] [(0, rd S W0)] (.a (.c (.v (.string r)))) [(0, rd S W0)] []
theorem R19_Numbers_con0 {k : Nat}  {S : Foot} {W0 : World} {s0 : Value} {l0 : List Int} {r : ByteArray} (hL0 : LArg S W0 s0 intE 1 l0) (H0 : R19_Numbers.f k l0 = some r) : R19_Numbers_st S W0 s0 r := by
  rw [R19_Numbers.f] at H0
  obtain ⟨b0, o0, hI0⟩ := hL0
  refine spec_of [(0, _)] [(0, _)] 20 Try.func37 R Try.ntmps37 R R R R (fun β W F => ?_)
  refine G.seq ?_
  refine G.rg ?_
  refine K.move (.inr R) (gd0 R) R R ?_
  refine K.nil ?_
  refine At.next ?_
  refine G.seq ?_
  refine G.rg ?_
  refine K.move (.inr R) (gd0 R) R R ?_
  refine K.nil ?_
  refine At.next ?_
  obtain ⟨x1, H1, H0⟩ := bnd H0
  refine G.sJ (σ := { v : ByteArray // x1 = v }) (fun q => [(3, .a (.c (.v (.string q.1))))]) (fun q => [(0, rd S W0)]) ?_ ?_
  ·
    refine G.seq ?_
    refine G.rg ?_
    refine K.move (.inr R) (gd0 R) R R ?_
    refine K.nil ?_
    refine At.next ?_
    refine G.block ?_
    refine G.lp (σ := { q : Nat × (ByteArray × Int) // R19_Numbers.l0 k l0 q.1 q.2 = some x1 }) (fun q => [(0, SV.raw s0), (3, .a (.c (.v (.string q.1.2.1)))), (4, .a (.c (.v (.int .i64 q.1.2.2))))]) (fun q => [(0, rd S W0)]) (fun q => q.1.1) ⟨(k, ((ByteArray.mk #[]), 0)), H1⟩ ?_ ?_
    · exact At.into [] [_] R ⟨R, R, R, trivial⟩ ⟨R, (fun _ => R), trivial⟩ R
    ·
      rintro ⟨⟨n0, v1, v2⟩, H1⟩
      show G _ _ [(0, SV.raw s0), (3, .a (.c (.v (.string v1)))), (4, .a (.c (.v (.int .i64 v2))))] [(0, some (rd S W0))] _ _
      cases n0 with
      | zero => exact absurd H1 (by simp [R19_Numbers.l0])
      | succ n0 =>
        have HL0 := H1
        rw [R19_Numbers.l0] at H1
        refine G.seq ?_
        refine G.seq ?_
        refine G.rg ?_
        refine K.move (.inl R) (gd0 R) R R ?_
        refine K.move (.inl R) (gd0 R) R R ?_
        refine K.lenL (rV 0 S W0 s0 b0 o0 intE 1 l0) (hI0.is 0) (gd0 R) R R Try.underlying22 R ?_
        refine K.bin (V := .bool (decide (v2 < (l0.length : Int)))) (gd0 R) R R (fun _ => R) R ?_
        refine K.nil ?_
        refine At.next ?_
        refine G.cond R (fun h1 => ?_) (fun h1 => ?_)
        ·
          replace H1 := bif_t H1 h1
          refine G.skip ?_
          refine At.next ?_
          refine G.seq ?_
          refine G.block ?_
          obtain ⟨x2, hx2, H1⟩ := bnd H1
          obtain ⟨x3, hx3, H1⟩ := bnd H1
          obtain ⟨h2, H1⟩ := grd H1
          refine G.rg ?_
          refine K.move (.inl R) (gd0 R) R R ?_
          refine K.move (.inl R) (gd0 R) R R ?_
          refine K.move (.inl R) (gd0 R) R R ?_
          refine K.idxL (rV 0 S W0 s0 b0 o0 intE 1 l0) ((v2).toNat) (hI0.is 0) (atL_get hx2) (atL_nn hx2) (gd0 R) R R R Try.underlying22 el22.size_run R ?_
          refine K.load1L Y (rV 0 S W0 s0 b0 o0 intE 1 l0) ((v2).toNat) 0 (hI0.is 0) (atL_get hx2) (gd0 R) R R t3 R R ?_
          refine K.conv (V := .int .u64 (IntKind.u64.wrap x2)) (gd0 R) R (cv_int (by rw [Try.underlying3]; rfl) Try.underlying68) R ?_
          refine K.cR (cf 40 R) (R19_Little_con (k := k) hx3) (gd0 R) R R R R ?_
          refine K.bin (V := .string (v1 ++ x3)) (gd0 R) R R (st_add _ _ _ _ _ h2) R ?_
          refine K.move (.inr R) (gd0 R) R R ?_
          refine K.nil ?_
          refine At.block_normal ?_
          refine At.next ?_
          refine G.rg ?_
          refine K.move (.inl R) (gd0 R) R R ?_
          refine K.bin (V := .int .i64 (w64 (v2 + 1))) (gd0 R) R R (fun _ => R) R ?_
          refine K.move (.inr R) (gd0 R) R R ?_
          refine K.nil ?_
          exact At.ag ⟨(n0, ((v1 ++ x3), (w64 (v2 + 1)))), H1⟩ [] [_] (Nat.lt_succ_self _) R ⟨R, R, R, trivial⟩ ⟨R, (fun _ => R), trivial⟩ R
        ·
          replace H1 := bif_f H1 h1
          refine G.exit ?_
          refine At.over_exit ?_
          refine At.over_exit ?_
          refine At.block_hit ?_
          exact At.jd ⟨v1, oi H1⟩ [] [_] R ⟨R, trivial⟩ ⟨R, (fun _ => R), trivial⟩ R
  ·
    rintro ⟨_, rfl⟩
    show G _ _ [(3, .a (.c (.v (.string x1))))] [(0, some (rd S W0))] _ _
    refine G.seq ?_
    refine G.rg ?_
    refine K.move (.inl R) (gd0 R) R R ?_
    refine K.move (.inr R) (gd0 R) R R ?_
    refine K.nil ?_
    refine At.next ?_
    refine G.ret ?_
    exact At.dr Y [2] R R (by cases H0; rfl) (by cases H0; rfl) R R R
theorem R19_Numbers_con {k : Nat}  {S : Foot} {W0 : World} {s0 : Value} {l0 : List Int} {r : ByteArray} (hL0 : LArg S W0 s0 intE 1 l0) (H0 : R19_Numbers.f k l0 = some r) : R19_Numbers_st S W0 s0 r :=
  SCon.ren (rn []) (R19_Numbers_con0 (k := k)  hL0 H0) ⟨(fun _ => R), trivial⟩ ⟨(fun _ => R), trivial⟩ (by simp) (by simp)
abbrev R01_Ints_st (S : Foot) (W0 : World) (s0 : Value) (s1 : Value) (r : Bool) : Prop := SCon Try.prog 38 [SV.raw s0, SV.raw s1] [(0, rd S W0)] (.a (.c (.v (.bool r)))) [(0, rd S W0)] []
theorem R01_Ints_con0 {k : Nat}  {S : Foot} {W0 : World} {s0 : Value} {s1 : Value} {l0 : List Int} {l1 : List Int} {r : Bool} (hL0 : LArg S W0 s0 intE 1 l0) (hL1 : LArg S W0 s1 intE 1 l1) (H0 : R01_Ints.f k l0 l1 = some r) : R01_Ints_st S W0 s0 s1 r := by
  rw [R01_Ints.f] at H0
  obtain ⟨b0, o0, hI0⟩ := hL0
  obtain ⟨b1, o1, hI1⟩ := hL1
  refine spec_of [(0, _), (1, _)] [(0, _)] 26 Try.func38 R Try.ntmps38 R R R R (fun β W F => ?_)
  refine G.seq ?_
  refine G.rg ?_
  refine K.move (.inr R) (gd0 R) R R ?_
  refine K.nil ?_
  refine At.next ?_
  refine G.seq ?_
  refine G.seq ?_
  refine G.rg ?_
  refine K.move (.inl R) (gd0 R) R R ?_
  refine K.lenL (rV 0 S W0 s0 b0 o0 intE 1 l0) (hI0.is 0) (gd0 R) R R Try.underlying22 R ?_
  refine K.move (.inl R) (gd0 R) R R ?_
  refine K.lenL (rV 0 S W0 s1 b1 o1 intE 1 l1) (hI1.is 0) (gd0 R) R R Try.underlying22 R ?_
  refine K.bin (V := .bool ((l0.length : Int) != (l1.length : Int))) (gd0 R) R R (fun _ => R) R ?_
  refine K.nil ?_
  refine At.next ?_
  refine G.cond R (fun h1 => ?_) (fun h1 => ?_)
  ·
    replace H0 := bif_t H0 h1
    refine G.seq ?_
    refine G.rg ?_
    refine K.move (.inr R) (gd0 R) R R ?_
    refine K.nil ?_
    refine At.next ?_
    refine G.ret ?_
    refine At.over_ret ?_
    exact At.dr Y [4] R R (by cases H0; rfl) (by cases H0; rfl) R R R
  ·
    replace H0 := bif_f H0 h1
    refine G.skip ?_
    refine At.next ?_
    obtain ⟨x1, H1, H0⟩ := bnd H0
    refine G.sJ (σ := { v : Unit // x1 = Sum.inr v }) (fun q => []) (fun q => [(0, rd S W0)]) ?_ ?_
    ·
      refine G.seq ?_
      refine G.rg ?_
      refine K.move (.inr R) (gd0 R) R R ?_
      refine K.nil ?_
      refine At.next ?_
      refine G.block ?_
      refine G.lp (σ := { q : Nat × (Int) // R01_Ints.l0 k l0 l1 q.1 q.2 = some x1 }) (fun q => [(0, SV.raw s0), (1, SV.raw s1), (5, .a (.c (.v (.int .i64 q.1.2))))]) (fun q => [(0, rd S W0)]) (fun q => q.1.1) ⟨(k, 0), H1⟩ ?_ ?_
      · exact At.into [] [_] R ⟨R, R, R, trivial⟩ ⟨R, (fun _ => R), trivial⟩ R
      ·
        rintro ⟨⟨n0, v1⟩, H1⟩
        show G _ _ [(0, SV.raw s0), (1, SV.raw s1), (5, .a (.c (.v (.int .i64 v1))))] [(0, some (rd S W0))] _ _
        cases n0 with
        | zero => exact absurd H1 (by simp [R01_Ints.l0])
        | succ n0 =>
          have HL0 := H1
          rw [R01_Ints.l0] at H1
          refine G.seq ?_
          refine G.seq ?_
          refine G.rg ?_
          refine K.move (.inl R) (gd0 R) R R ?_
          refine K.move (.inl R) (gd0 R) R R ?_
          refine K.lenL (rV 0 S W0 s0 b0 o0 intE 1 l0) (hI0.is 0) (gd0 R) R R Try.underlying22 R ?_
          refine K.bin (V := .bool (decide (v1 < (l0.length : Int)))) (gd0 R) R R (fun _ => R) R ?_
          refine K.nil ?_
          refine At.next ?_
          refine G.cond R (fun h2 => ?_) (fun h2 => ?_)
          ·
            replace H1 := bif_t H1 h2
            refine G.skip ?_
            refine At.next ?_
            refine G.seq ?_
            refine G.block ?_
            refine G.seq ?_
            obtain ⟨x2, hx2, H1⟩ := bnd H1
            obtain ⟨x3, hx3, H1⟩ := bnd H1
            refine G.rd mixed ?_
            refine K.move (.inl R) (gd0 R) R R ?_
            refine K.move (.inl R) (gd0 R) R R ?_
            refine K.idxL (rV 0 S W0 s0 b0 o0 intE 1 l0) ((v1).toNat) (hI0.is 0) (atL_get hx2) (atL_nn hx2) (gd0 R) R R R Try.underlying22 el22.size_run R ?_
            refine K.load1L Y (rV 0 S W0 s0 b0 o0 intE 1 l0) ((v1).toNat) 0 (hI0.is 0) (atL_get hx2) (gd0 R) R R t3 R R ?_
            refine K.move (.inl R) (gd0 R) R R ?_
            refine K.move (.inl R) (gd0 R) R R ?_
            refine K.idxL (rV 0 S W0 s1 b1 o1 intE 1 l1) ((v1).toNat) (hI1.is 0) (atL_get hx3) (atL_nn hx3) (gd0 R) R R R Try.underlying22 el22.size_run R ?_
            refine K.load1L Y (rV 0 S W0 s1 b1 o1 intE 1 l1) ((v1).toNat) 0 (hI1.is 0) (atL_get hx3) (gd0 R) R R t3 R R ?_
            refine K.bin (V := .bool (x2 != x3)) (gd0 R) R R (fun _ => R) R ?_
            refine K.nil ?_
            refine ⟨by kernel_rfl, ?_⟩
            refine At.next ?_
            refine G.cond R (fun h3 => ?_) (fun h3 => ?_)
            ·
              replace H1 := bif_t H1 h3
              refine G.seq ?_
              refine G.rg ?_
              refine K.move (.inr R) (gd0 R) R R ?_
              refine K.nil ?_
              refine At.next ?_
              refine G.ret ?_
              refine At.block_ret ?_
              refine At.over_ret ?_
              refine At.over_ret ?_
              refine At.block_ret ?_
              refine At.over_ret ?_
              cases H1
              replace H0 := sum_l H0
              exact At.dr Y [4] R R (by cases H0; rfl) (by cases H0; rfl) R R R
            ·
              replace H1 := bif_f H1 h3
              refine G.skip ?_
              refine At.block_normal ?_
              refine At.next ?_
              refine G.rg ?_
              refine K.move (.inl R) (gd0 R) R R ?_
              refine K.bin (V := .int .i64 (w64 (v1 + 1))) (gd0 R) R R (fun _ => R) R ?_
              refine K.move (.inr R) (gd0 R) R R ?_
              refine K.nil ?_
              exact At.ag ⟨(n0, (w64 (v1 + 1))), H1⟩ [] [_] (Nat.lt_succ_self _) R ⟨R, R, R, trivial⟩ ⟨R, (fun _ => R), trivial⟩ R
          ·
            replace H1 := bif_f H1 h2
            refine G.exit ?_
            refine At.over_exit ?_
            refine At.over_exit ?_
            refine At.block_hit ?_
            exact At.jd ⟨(), oi H1⟩ [] [_] R trivial ⟨R, (fun _ => R), trivial⟩ R
    ·
      rintro ⟨w1, rfl⟩
      replace H0 := sum_r H0
      show G _ _ [] [(0, some (rd S W0))] _ _
      refine G.seq ?_
      refine G.rg ?_
      refine K.move (.inr R) (gd0 R) R R ?_
      refine K.nil ?_
      refine At.next ?_
      refine G.ret ?_
      exact At.dr Y [4] R R (by cases H0; rfl) (by cases H0; rfl) R R R
theorem R01_Ints_con {k : Nat}  {S : Foot} {W0 : World} {s0 : Value} {s1 : Value} {l0 : List Int} {l1 : List Int} {r : Bool} (hL0 : LArg S W0 s0 intE 1 l0) (hL1 : LArg S W0 s1 intE 1 l1) (H0 : R01_Ints.f k l0 l1 = some r) : R01_Ints_st S W0 s0 s1 r :=
  SCon.ren (rn []) (R01_Ints_con0 (k := k)  hL0 hL1 H0) ⟨(fun _ => R), trivial⟩ ⟨(fun _ => R), trivial⟩ (by simp) (by simp)
abbrev Lw19_FrameNumbers_st (S : Foot) (W0 : World) (s0 : Value) (s1 : Value) (r : Bool) : Prop := SCon Try.prog 14 [SV.raw s0, SV.raw s1] [(0, rd S W0)] (.a (.c (.v (.bool r)))) [(0, rd S W0)] []
set_option maxHeartbeats 4000000 in
theorem Lw19_FrameNumbers_con0 {k : Nat}  {S : Foot} {W0 : World} {s0 : Value} {s1 : Value} {l0 : List Int} {l1 : List Int} {r : Bool} (hL0 : LArg S W0 s0 intE 1 l0) (hL1 : LArg S W0 s1 u8E 1 l1) (H0 : Lw19_FrameNumbers.f k l0 l1 = some r) : Lw19_FrameNumbers_st S W0 s0 s1 r := by
  rw [Lw19_FrameNumbers.f] at H0
  obtain ⟨b0, o0, hI0⟩ := hL0
  obtain ⟨b1, o1, hI1⟩ := hL1
  refine spec_of [(0, _), (1, _)] [(0, _)] 66 Try.func14 R Try.ntmps14 R R R R (fun β W F => ?_)
  refine G.seq ?_
  refine G.rg ?_
  refine K.move (.inr R) (gd0 R) R R ?_
  refine K.nil ?_
  refine At.next ?_
  obtain ⟨x1, H1, H0⟩ := bnd H0
  refine G.sJ (σ := { v : Unit // x1 = Sum.inr v }) (fun q => [(0, SV.raw s0), (1, SV.raw s1)]) (fun q => [(0, rd S W0)]) ?_ ?_
  ·
    refine G.seq ?_
    obtain ⟨x2, hx2, H1⟩ := bnd H1
    rcases Bool.eq_false_or_eq_true (!x2) with h1 | h1
    ·
      replace H1 := bif_t H1 h1
      refine G.rg ?_
      refine K.cR (cf 27 R) (Lw19_awake_con (k := k) hx2) (gd0 R) R R R R ?_
      refine K.un (V := .bool (!x2)) (gd0 R) R (fun _ => R) R ?_
      refine K.move (.inl R) (gd0 R) R R ?_
      refine K.skip R R R R (h1) R ?_
      refine K.skip R R R R (h1) R ?_
      refine K.skip R R R R (h1) R ?_
      refine K.pickT (gd0 R) R (h1) R R ?_
      refine K.move (.inl R) (gd0 R) R R ?_
      refine K.skip R R R R (R) R ?_
      refine K.skip R R R R (R) R ?_
      refine K.skip R R R R (R) R ?_
      refine K.pickT (gd0 R) R (R) R R ?_
      refine K.nil ?_
      refine At.next ?_
      refine G.cond R (fun h2 => ?_) (fun h2 => ?_)
      ·
        refine G.seq ?_
        obtain ⟨x3, hx3, H1⟩ := bnd H1
        refine G.rg ?_
        refine K.cR (cf 27 R) (Lw19_awake_con (k := k) hx3) (gd0 R) R R R R ?_
        refine K.move (.inr R) (gd0 R) R R ?_
        refine K.nil ?_
        refine At.next ?_
        refine G.ret ?_
        refine At.over_ret ?_
        cases H1
        replace H0 := sum_l H0
        exact At.dr Y [4] R R (by cases H0; rfl) (by cases H0; rfl) R R R
      · cases h2
    ·
      replace H1 := bif_f H1 h1
      rcases Bool.eq_false_or_eq_true (decide ((l0.length : Int) > 100)) with h3 | h3
      ·
        replace H1 := bif_t H1 h3
        refine G.rg ?_
        refine K.cR (cf 27 R) (Lw19_awake_con (k := k) hx2) (gd0 R) R R R R ?_
        refine K.un (V := .bool (!x2)) (gd0 R) R (fun _ => R) R ?_
        refine K.move (.inl R) (gd0 R) R R ?_
        refine K.move (.inl R) (gd1 R R R (h1)) R R ?_
        refine K.lenL (rV 0 S W0 s0 b0 o0 intE 1 l0) (hI0.is 0) (gd1 R R R (h1)) R R Try.underlying22 R ?_
        refine K.bin (V := .bool (decide ((l0.length : Int) > 100))) (gd1 R R R (h1)) R R (fun _ => R) R ?_
        refine K.pickF (gd0 R) R (h1) R R ?_
        refine K.move (.inl R) (gd0 R) R R ?_
        refine K.skip R R R R (h3) R ?_
        refine K.skip R R R R (h3) R ?_
        refine K.skip R R R R (h3) R ?_
        refine K.pickT (gd0 R) R (h3) R R ?_
        refine K.nil ?_
        refine At.next ?_
        refine G.cond R (fun h4 => ?_) (fun h4 => ?_)
        ·
          refine G.seq ?_
          obtain ⟨x4, hx4, H1⟩ := bnd H1
          refine G.rg ?_
          refine K.cR (cf 27 R) (Lw19_awake_con (k := k) hx4) (gd0 R) R R R R ?_
          refine K.move (.inr R) (gd0 R) R R ?_
          refine K.nil ?_
          refine At.next ?_
          refine G.ret ?_
          refine At.over_ret ?_
          cases H1
          replace H0 := sum_l H0
          exact At.dr Y [4] R R (by cases H0; rfl) (by cases H0; rfl) R R R
        · cases h4
      ·
        replace H1 := bif_f H1 h3
        refine G.rg ?_
        refine K.cR (cf 27 R) (Lw19_awake_con (k := k) hx2) (gd0 R) R R R R ?_
        refine K.un (V := .bool (!x2)) (gd0 R) R (fun _ => R) R ?_
        refine K.move (.inl R) (gd0 R) R R ?_
        refine K.move (.inl R) (gd1 R R R (h1)) R R ?_
        refine K.lenL (rV 0 S W0 s0 b0 o0 intE 1 l0) (hI0.is 0) (gd1 R R R (h1)) R R Try.underlying22 R ?_
        refine K.bin (V := .bool (decide ((l0.length : Int) > 100))) (gd1 R R R (h1)) R R (fun _ => R) R ?_
        refine K.pickF (gd0 R) R (h1) R R ?_
        refine K.move (.inl R) (gd0 R) R R ?_
        refine K.move (.inl R) (gd1 R R R (h3)) R R ?_
        refine K.lenL (rV 0 S W0 s1 b1 o1 u8E 1 l1) (hI1.is 0) (gd1 R R R (h3)) R R Try.underlying36 R ?_
        refine K.bin (V := .bool (decide ((l1.length : Int) > 500))) (gd1 R R R (h3)) R R (fun _ => R) R ?_
        refine K.pickF (gd0 R) R (h3) R R ?_
        refine K.nil ?_
        refine At.next ?_
        refine G.cond R (fun h5 => ?_) (fun h5 => ?_)
        ·
          replace H1 := bif_t H1 h5
          refine G.seq ?_
          obtain ⟨x5, hx5, H1⟩ := bnd H1
          refine G.rg ?_
          refine K.cR (cf 27 R) (Lw19_awake_con (k := k) hx5) (gd0 R) R R R R ?_
          refine K.move (.inr R) (gd0 R) R R ?_
          refine K.nil ?_
          refine At.next ?_
          refine G.ret ?_
          refine At.over_ret ?_
          cases H1
          replace H0 := sum_l H0
          exact At.dr Y [4] R R (by cases H0; rfl) (by cases H0; rfl) R R R
        ·
          replace H1 := bif_f H1 h5
          refine G.skip ?_
          exact At.jd ⟨(), oi H1⟩ [] [_] R ⟨R, R, trivial⟩ ⟨R, (fun _ => R), trivial⟩ R
  ·
    rintro ⟨w1, rfl⟩
    replace H0 := sum_r H0
    show G _ _ [(0, SV.raw s0), (1, SV.raw s1)] [(0, some (rd S W0))] _ _
    refine G.seq ?_
    obtain ⟨x6, hx6, H0⟩ := bnd H0
    refine G.rg ?_
    refine K.move (.inl R) (gd0 R) R R ?_
    refine K.cV (cf 34 R) [0] (fun β w S2 h => frame_Numbers_con (k := k) ((hI0.isC 0).larg ⟨_, List.mem_cons_self⟩ h) hx6 100 R) (gd0 R) (fun _ => R) R R R ?_
    refine K.move (.inr R) (gd0 R) R R ?_
    refine K.nil ?_
    refine At.next ?_
    refine G.seq ?_
    obtain ⟨x7, hx7, H0⟩ := bnd H0
    refine G.rg ?_
    refine K.move (.inl R) (gd0 R) R R ?_
    refine K.cV (cf 35 R) [100] (fun β w S2 h => frame_Read_con (k := k) (la 0 R u8E_len R h) hx7 101 R) (gd0 R) (fun _ => R) R R R ?_
    refine K.move (.inl R) (gd0 R) R R ?_
    refine K.extract (gd0 R) R R R ?_
    refine K.extract (gd0 R) R R R ?_
    refine K.move (.inr R) (gd0 R) R R ?_
    refine K.move (.inr R) (gd0 R) R R ?_
    refine K.nil ?_
    refine At.next ?_
    refine G.seq ?_
    obtain ⟨x8, hx8, H0⟩ := bnd H0
    refine G.rg ?_
    refine K.move (.inl R) (gd0 R) R R ?_
    refine K.cV (cf 35 R) [0] (fun β w S2 h => frame_Read_con (k := k) ((hI1.isC 0).larg ⟨_, List.mem_cons_self⟩ h) hx8 102 R) (gd0 R) (fun _ => R) R R R ?_
    refine K.move (.inl R) (gd0 R) R R ?_
    refine K.extract (gd0 R) R R R ?_
    refine K.extract (gd0 R) R R R ?_
    refine K.move (.inr R) (gd0 R) R R ?_
    refine K.move (.inr R) (gd0 R) R R ?_
    refine K.nil ?_
    refine At.next ?_
    refine G.seq ?_
    obtain ⟨x9, hx9, H0⟩ := bnd H0
    refine G.rg ?_
    refine K.move (.inl R) (gd0 R) R R ?_
    refine K.bstr (rV 0 S W0 s1 b1 o1 u8E 1 l1) (hI1.is 0) (gd0 R) R R Try.underlying36 Try.underlying5 Try.underlying9 R ?_
    refine K.c0 (cf 36 R) (R19_Read_con (k := k) hx9 103 R) (gd0 R) R R R R ?_
    refine K.move (.inl R) (gd0 R) R R ?_
    refine K.extract (gd0 R) R R R ?_
    refine K.extract (gd0 R) R R R ?_
    refine K.move (.inr R) (gd0 R) R R ?_
    refine K.move (.inr R) (gd0 R) R R ?_
    refine K.nil ?_
    refine At.next ?_
    refine G.seq ?_
    obtain ⟨x10, hx10, H0⟩ := bnd H0
    rcases Bool.eq_false_or_eq_true (gseq (strOfNums x6) x10) with h6 | h6
    ·
      replace H0 := bif_t H0 h6
      rcases Bool.eq_false_or_eq_true x7.2 with h7 | h7
      ·
        replace H0 := bif_t H0 h7
        obtain ⟨x11, hx11, H0⟩ := bnd H0
        rcases Bool.eq_false_or_eq_true x11 with h8 | h8
        ·
          replace H0 := bif_t H0 h8
          rcases Bool.eq_false_or_eq_true (x8.2 == x9.2) with h9 | h9
          ·
            replace H0 := bif_t H0 h9
            obtain ⟨x12, hx12, H0⟩ := bnd H0
            refine G.rd mixed ?_
            refine K.move (.inl R) (gd0 R) R R ?_
            refine K.bstr (lrowV 100 5 u8E 1 x6) (lrowV_is u8E_len (by decide)) (gd0 R) R R Try.underlying36 Try.underlying5 Try.underlying9 R ?_
            refine K.move (.inl R) (gd0 R) R R ?_
            refine K.cV (cf 37 R) [0] (fun β w S2 h => R19_Numbers_con (k := k) ((hI0.isC 0).larg ⟨_, List.mem_cons_self⟩ h) hx10) (gd0 R) (fun _ => R) R R R ?_
            refine K.bin (V := .bool (gseq (strOfNums x6) x10)) (gd0 R) R R (st_eql _ _ _ _ _) R ?_
            refine K.move (.inl R) (gd0 R) R R ?_
            refine K.move (.inl R) (gd1 R R R (h6)) R R ?_
            refine K.pickT (gd0 R) R (h6) R R ?_
            refine K.move (.inl R) (gd0 R) R R ?_
            refine K.move (.inl R) (gd1 R R R (h7)) R R ?_
            refine K.move (.inl R) (gd1 R R R (h7)) R R ?_
            refine K.cV (cf 38 R) [101, 0] (fun β w S2 h => R01_Ints_con (k := k) (la 0 R intE_len R h) ((hI0.isC 0).larg ⟨_, (List.mem_cons_of_mem _ List.mem_cons_self)⟩ h) hx11) (gd1 R R R (h7)) (fun _ => R) R R R ?_
            refine K.pickT (gd0 R) R (h7) R R ?_
            refine K.move (.inl R) (gd0 R) R R ?_
            refine K.move (.inl R) (gd1 R R R (h8)) R R ?_
            refine K.move (.inl R) (gd1 R R R (h8)) R R ?_
            refine K.bin (V := .bool (x8.2 == x9.2)) (gd1 R R R (h8)) R R (bq_eql Try.underlying4 _ _) R ?_
            refine K.pickT (gd0 R) R (h8) R R ?_
            refine K.move (.inl R) (gd0 R) R R ?_
            refine K.move (.inl R) (gd1 R R R (h9)) R R ?_
            refine K.move (.inl R) (gd1 R R R (h9)) R R ?_
            refine K.cV (cf 38 R) [102, 103] (fun β w S2 h => R01_Ints_con (k := k) (la 0 R intE_len R h) (la 1 R intE_len R h) hx12) (gd1 R R R (h9)) (fun _ => R) R R R ?_
            refine K.pickT (gd0 R) R (h9) R R ?_
            refine K.move (.inr R) (gd0 R) R R ?_
            refine K.nil ?_
            refine ⟨by kernel_rfl, ?_⟩
            refine At.next ?_
            refine G.ret ?_
            exact At.dr Y [4] R R (by cases H0; rfl) (by cases H0; rfl) R R R
          ·
            replace H0 := bif_f H0 h9
            refine G.rd mixed ?_
            refine K.move (.inl R) (gd0 R) R R ?_
            refine K.bstr (lrowV 100 5 u8E 1 x6) (lrowV_is u8E_len (by decide)) (gd0 R) R R Try.underlying36 Try.underlying5 Try.underlying9 R ?_
            refine K.move (.inl R) (gd0 R) R R ?_
            refine K.cV (cf 37 R) [0] (fun β w S2 h => R19_Numbers_con (k := k) ((hI0.isC 0).larg ⟨_, List.mem_cons_self⟩ h) hx10) (gd0 R) (fun _ => R) R R R ?_
            refine K.bin (V := .bool (gseq (strOfNums x6) x10)) (gd0 R) R R (st_eql _ _ _ _ _) R ?_
            refine K.move (.inl R) (gd0 R) R R ?_
            refine K.move (.inl R) (gd1 R R R (h6)) R R ?_
            refine K.pickT (gd0 R) R (h6) R R ?_
            refine K.move (.inl R) (gd0 R) R R ?_
            refine K.move (.inl R) (gd1 R R R (h7)) R R ?_
            refine K.move (.inl R) (gd1 R R R (h7)) R R ?_
            refine K.cV (cf 38 R) [101, 0] (fun β w S2 h => R01_Ints_con (k := k) (la 0 R intE_len R h) ((hI0.isC 0).larg ⟨_, (List.mem_cons_of_mem _ List.mem_cons_self)⟩ h) hx11) (gd1 R R R (h7)) (fun _ => R) R R R ?_
            refine K.pickT (gd0 R) R (h7) R R ?_
            refine K.move (.inl R) (gd0 R) R R ?_
            refine K.move (.inl R) (gd1 R R R (h8)) R R ?_
            refine K.move (.inl R) (gd1 R R R (h8)) R R ?_
            refine K.bin (V := .bool (x8.2 == x9.2)) (gd1 R R R (h8)) R R (bq_eql Try.underlying4 _ _) R ?_
            refine K.pickT (gd0 R) R (h8) R R ?_
            refine K.move (.inl R) (gd0 R) R R ?_
            refine K.skip R R R R (h9) R ?_
            refine K.skip R R R R (h9) R ?_
            refine K.skip R R R R (h9) R ?_
            refine K.pickF (gd0 R) R (h9) R R ?_
            refine K.move (.inr R) (gd0 R) R R ?_
            refine K.nil ?_
            refine ⟨by kernel_rfl, ?_⟩
            refine At.next ?_
            refine G.ret ?_
            exact At.dr Y [4] R R (by cases H0; rfl) (by cases H0; rfl) R R R
        ·
          replace H0 := bif_f H0 h8
          refine G.rd mixed ?_
          refine K.move (.inl R) (gd0 R) R R ?_
          refine K.bstr (lrowV 100 5 u8E 1 x6) (lrowV_is u8E_len (by decide)) (gd0 R) R R Try.underlying36 Try.underlying5 Try.underlying9 R ?_
          refine K.move (.inl R) (gd0 R) R R ?_
          refine K.cV (cf 37 R) [0] (fun β w S2 h => R19_Numbers_con (k := k) ((hI0.isC 0).larg ⟨_, List.mem_cons_self⟩ h) hx10) (gd0 R) (fun _ => R) R R R ?_
          refine K.bin (V := .bool (gseq (strOfNums x6) x10)) (gd0 R) R R (st_eql _ _ _ _ _) R ?_
          refine K.move (.inl R) (gd0 R) R R ?_
          refine K.move (.inl R) (gd1 R R R (h6)) R R ?_
          refine K.pickT (gd0 R) R (h6) R R ?_
          refine K.move (.inl R) (gd0 R) R R ?_
          refine K.move (.inl R) (gd1 R R R (h7)) R R ?_
          refine K.move (.inl R) (gd1 R R R (h7)) R R ?_
          refine K.cV (cf 38 R) [101, 0] (fun β w S2 h => R01_Ints_con (k := k) (la 0 R intE_len R h) ((hI0.isC 0).larg ⟨_, (List.mem_cons_of_mem _ List.mem_cons_self)⟩ h) hx11) (gd1 R R R (h7)) (fun _ => R) R R R ?_
          refine K.pickT (gd0 R) R (h7) R R ?_
          refine K.move (.inl R) (gd0 R) R R ?_
          refine K.skip R R R R (h8) R ?_
          refine K.skip R R R R (h8) R ?_
          refine K.skip R R R R (h8) R ?_
          refine K.pickF (gd0 R) R (h8) R R ?_
          refine K.move (.inl R) (gd0 R) R R ?_
          refine K.skip R R R R (R) R ?_
          refine K.skip R R R R (R) R ?_
          refine K.skip R R R R (R) R ?_
          refine K.pickF (gd0 R) R (R) R R ?_
          refine K.move (.inr R) (gd0 R) R R ?_
          refine K.nil ?_
          refine ⟨by kernel_rfl, ?_⟩
          refine At.next ?_
          refine G.ret ?_
          exact At.dr Y [4] R R (by cases H0; rfl) (by cases H0; rfl) R R R
      ·
        replace H0 := bif_f H0 h7
        refine G.rd mixed ?_
        refine K.move (.inl R) (gd0 R) R R ?_
        refine K.bstr (lrowV 100 5 u8E 1 x6) (lrowV_is u8E_len (by decide)) (gd0 R) R R Try.underlying36 Try.underlying5 Try.underlying9 R ?_
        refine K.move (.inl R) (gd0 R) R R ?_
        refine K.cV (cf 37 R) [0] (fun β w S2 h => R19_Numbers_con (k := k) ((hI0.isC 0).larg ⟨_, List.mem_cons_self⟩ h) hx10) (gd0 R) (fun _ => R) R R R ?_
        refine K.bin (V := .bool (gseq (strOfNums x6) x10)) (gd0 R) R R (st_eql _ _ _ _ _) R ?_
        refine K.move (.inl R) (gd0 R) R R ?_
        refine K.move (.inl R) (gd1 R R R (h6)) R R ?_
        refine K.pickT (gd0 R) R (h6) R R ?_
        refine K.move (.inl R) (gd0 R) R R ?_
        refine K.skip R R R R (h7) R ?_
        refine K.skip R R R R (h7) R ?_
        refine K.skip R R R R (h7) R ?_
        refine K.pickF (gd0 R) R (h7) R R ?_
        refine K.move (.inl R) (gd0 R) R R ?_
        refine K.skip R R R R (R) R ?_
        refine K.skip R R R R (R) R ?_
        refine K.skip R R R R (R) R ?_
        refine K.pickF (gd0 R) R (R) R R ?_
        refine K.move (.inl R) (gd0 R) R R ?_
        refine K.skip R R R R (R) R ?_
        refine K.skip R R R R (R) R ?_
        refine K.skip R R R R (R) R ?_
        refine K.pickF (gd0 R) R (R) R R ?_
        refine K.move (.inr R) (gd0 R) R R ?_
        refine K.nil ?_
        refine ⟨by kernel_rfl, ?_⟩
        refine At.next ?_
        refine G.ret ?_
        exact At.dr Y [4] R R (by cases H0; rfl) (by cases H0; rfl) R R R
    ·
      replace H0 := bif_f H0 h6
      refine G.rd mixed ?_
      refine K.move (.inl R) (gd0 R) R R ?_
      refine K.bstr (lrowV 100 5 u8E 1 x6) (lrowV_is u8E_len (by decide)) (gd0 R) R R Try.underlying36 Try.underlying5 Try.underlying9 R ?_
      refine K.move (.inl R) (gd0 R) R R ?_
      refine K.cV (cf 37 R) [0] (fun β w S2 h => R19_Numbers_con (k := k) ((hI0.isC 0).larg ⟨_, List.mem_cons_self⟩ h) hx10) (gd0 R) (fun _ => R) R R R ?_
      refine K.bin (V := .bool (gseq (strOfNums x6) x10)) (gd0 R) R R (st_eql _ _ _ _ _) R ?_
      refine K.move (.inl R) (gd0 R) R R ?_
      refine K.skip R R R R (h6) R ?_
      refine K.pickF (gd0 R) R (h6) R R ?_
      refine K.move (.inl R) (gd0 R) R R ?_
      refine K.skip R R R R (R) R ?_
      refine K.skip R R R R (R) R ?_
      refine K.skip R R R R (R) R ?_
      refine K.pickF (gd0 R) R (R) R R ?_
      refine K.move (.inl R) (gd0 R) R R ?_
      refine K.skip R R R R (R) R ?_
      refine K.skip R R R R (R) R ?_
      refine K.skip R R R R (R) R ?_
      refine K.pickF (gd0 R) R (R) R R ?_
      refine K.move (.inl R) (gd0 R) R R ?_
      refine K.skip R R R R (R) R ?_
      refine K.skip R R R R (R) R ?_
      refine K.skip R R R R (R) R ?_
      refine K.pickF (gd0 R) R (R) R R ?_
      refine K.move (.inr R) (gd0 R) R R ?_
      refine K.nil ?_
      refine ⟨by kernel_rfl, ?_⟩
      refine At.next ?_
      refine G.ret ?_
      exact At.dr Y [4] R R (by cases H0; rfl) (by cases H0; rfl) R R R
end Go.Proofs.Ytheopcgjdfckmaa
namespace Go.Proofs.Ytheopcgjdfckmaa
open Go Go.Proofs.Ytheopcgjdfckmaa.Sx
theorem w64_id {x : Int} (h0 : -9223372036854775808 ≤ x) (h1 : x < 9223372036854775808) : w64 x = x := by simp only [w64, IntKind.wrap_i64]; omega
theorem w64_succ {i : Nat} (h : i < 4611686018427387904) : w64 ((i : Int) + 1) = ((i + 1 : Nat) : Int) := by rw [w64_id (by omega) (by omega)]; omega
theorem atL_nat {α : Type} {l : List α} {i : Nat} {x : α} (h : l[i]? = some x) : atL l (i : Int) = some x := by
  unfold atL
  have : ¬ ((i : Int) < 0) := by omega
  simp [this, h]
theorem drop_cons {α : Type} {l : List α} {i : Nat} (h : i < l.length) : ∃ x, l[i]? = some x ∧ l.drop i = x :: l.drop (i + 1) :=
  ⟨l[i], List.getElem?_eq_getElem h, List.drop_eq_getElem_cons h⟩
theorem dec_lt {i n : Nat} (h : i < n) : decide ((i : Int) < (n : Int)) = true := by simp; omega
theorem dec_nlt {i n : Nat} (h : n ≤ i) : decide ((i : Int) < (n : Int)) = false := by simp; omega
end Go.Proofs.Ytheopcgjdfckmaa
namespace Go.Proofs.Ytheopcgjdfckmaa
open Go Go.Proofs.Ytheopcgjdfckmaa.Sx
end Go.Proofs.Ytheopcgjdfckmaa
namespace Go.Proofs.Ytheopcgjdfckmaa
open Go Go.Proofs.Ytheopcgjdfckmaa.Sx
abbrev K1 : Nat := 1000001
end Go.Proofs.Ytheopcgjdfckmaa
namespace Go.Proofs.Ytheopcgjdfckmaa
open Go Go.Proofs.Ytheopcgjdfckmaa.Sx
def Lb (x : BitVec 32) : BitVec 32 := (x >>> 1) ^^^ (if x.getLsbD 0 then 0xedb88320#32 else 0#32)
def Lp : Nat → BitVec 32 → BitVec 32
  | 0, x => x
  | n + 1, x => Lp n (Lb x)
end Go.Proofs.Ytheopcgjdfckmaa
namespace Go.Proofs.Ytheopcgjdfckmaa
open Go Go.Proofs.Ytheopcgjdfckmaa.Sx
def St (v : BitVec 32) (l : List Int) : BitVec 32 := l.foldl (fun s c => Lp 8 (s ^^^ BitVec.ofInt 32 c)) v
end Go.Proofs.Ytheopcgjdfckmaa
namespace Go.Proofs.Ytheopcgjdfckmaa
open Go Go.Proofs.Ytheopcgjdfckmaa.Sx
theorem wf_u8 {n : Int} (h : (Lit.int .u8 n).wf = true) : 0 ≤ n ∧ n < 256 := by
  unfold Lit.wf at h
  obtain ⟨h1, h2⟩ := (Bool.and_eq_true _ _).mp h
  have h3 := of_decide_eq_true h1
  have h4 := of_decide_eq_true h2
  have e1 : IntKind.u8.min = 0 := by decide
  have e2 : IntKind.u8.max = 255 := by decide
  omega
theorem bAt_str {l : List Int} (hl : ∀ x ∈ l, 0 ≤ x ∧ x < 256) {i : Nat} {c : Int} (h : l[i]? = some c) : bAt (strOfNums l) (i : Int) = some c := by
  have hlt := (List.getElem?_eq_some_iff.1 h).1
  have hr := hl c (List.mem_of_getElem? h)
  unfold bAt
  rw [if_pos (by omega), Int.toNat_natCast]
  have hsz : (strOfNums l).size = l.length := strOfNums_size l
  have h1 : (strOfNums l)[i]? = some (UInt8.ofNat c.toNat) := by
    rw [ByteArray.getElem?_lt' _ _ (by omega)]
    congr 1
    have h2 : (strOfNums l).data.toList[i]? = some (UInt8.ofNat c.toNat) := by rw [strOfNums_data, List.getElem?_map, h]; rfl
    obtain ⟨h3, h4⟩ := List.getElem?_eq_some_iff.1 h2
    rw [← h4]; rfl
  rw [h1, Option.map_some, UInt8.toNat_ofNat']
  congr 1
  have : c.toNat % 2 ^ 8 = c.toNat := Nat.mod_eq_of_lt (by omega)
  rw [this]; omega
end Go.Proofs.Ytheopcgjdfckmaa
namespace Go.Proofs.Ytheopcgjdfckmaa
open Go Go.Proofs.Ytheopcgjdfckmaa.Sx
abbrev Oct (l : List Int) : Prop := ∀ x ∈ l, 0 ≤ x ∧ x < 256
def le (n : Nat) : Nat → List Int
  | 0 => []
  | c + 1 => ((n % 256 : Nat) : Int) :: le (n / 256) c
def val : List Int → Nat
  | [] => 0
  | x :: l => x.toNat + 256 * val l
theorem le_len : ∀ (c n : Nat), (le n c).length = c
  | 0, _ => rfl
  | c + 1, n => by rw [le, List.length_cons, le_len c]
theorem le_oct : ∀ (c n : Nat), Oct (le n c)
  | 0, _ => fun x hx => by simp [le] at hx
  | c + 1, n => by
    intro x hx
    rw [le] at hx
    rcases List.mem_cons.1 hx with rfl | h
    · omega
    · exact le_oct c _ x h
theorem val_le : ∀ (c n : Nat), n < 256 ^ c → val (le n c) = n
  | 0, n, h => by simp at h; subst h; rfl
  | c + 1, n, h => by
    rw [Nat.pow_succ] at h
    rw [le, val, val_le c (n / 256) (by omega)]
    omega
theorem val_lt : ∀ (l : List Int), Oct l → val l < 256 ^ l.length
  | [], _ => by simp [val]
  | x :: l, h => by
    have h1 := h x (by simp)
    have h2 := val_lt l (fun y hy => h y (by simp [hy]))
    rw [List.length_cons, val, Nat.pow_succ]; omega
theorem val_snoc : ∀ (l : List Int) (x : Int), val (l ++ [x]) = val l + 256 ^ l.length * x.toNat
  | [], x => by simp [val]
  | y :: l, x => by
    rw [List.cons_append, val, val_snoc l x, val, List.length_cons, Nat.pow_succ, Nat.mul_add, ← Nat.mul_assoc, Nat.mul_comm (256 ^ l.length) 256]; omega
theorem wrap64 {n : Nat} (h : n < 18446744073709551616) : IntKind.u64.wrap (n : Int) = (n : Int) := by
  simp [IntKind.wrap, IntKind.signed, IntKind.bits]; omega
theorem wrap64i {x : Int} (h0 : 0 ≤ x) (h : x < 18446744073709551616) : IntKind.u64.wrap x = x := by
  obtain ⟨n, rfl⟩ := Int.eq_ofNat_of_zero_le h0
  exact wrap64 (by omega)
theorem wrap8 (n : Nat) : IntKind.u8.wrap (n : Int) = ((n % 256 : Nat) : Int) := by
  simp [IntKind.wrap, IntKind.signed, IntKind.bits]
theorem gor64 {a b : Nat} (ha : a < 18446744073709551616) (hb : b < 18446744073709551616) : gor .u64 (a : Int) (b : Int) = ((a ||| b : Nat) : Int) := by
  have h : (a ||| b) < 2 ^ 64 := Nat.or_lt_two_pow (by omega) (by omega)
  unfold gor
  rw [BitVec.toNat_or]
  have e1 : (BitVec.ofInt IntKind.u64.bits (a : Int)).toNat = a := by simp [IntKind.bits]; omega
  have e2 : (BitVec.ofInt IntKind.u64.bits (b : Int)).toNat = b := by simp [IntKind.bits]; omega
  rw [e1, e2, wrap64 (by omega)]
theorem or_add {a i c : Nat} (h : a < 2 ^ i) : (a ||| (c * 2 ^ i)) = a + 2 ^ i * c := by
  have := Nat.two_pow_add_eq_or_of_lt h c
  rw [Nat.or_comm, Nat.mul_comm c, ← this, Nat.add_comm]
theorem gshl64 {c i : Nat} (hc : c < 256) (hi : i ≤ 7) : gshl .u64 (c : Int) (8 * (i : Int)) = ((c * 2 ^ (8 * i) : Nat) : Int) := by
  have h : c * 2 ^ (8 * i) < 18446744073709551616 := by
    have h1 : 2 ^ (8 * i) ≤ 2 ^ 56 := Nat.pow_le_pow_right (by decide) (by omega)
    have := Nat.mul_lt_mul_of_lt_of_le hc h1 (by decide)
    omega
  unfold gshl
  have e : min (8 * (i : Int)).toNat IntKind.u64.bits = 8 * i := by
    have : (8 * (i : Int)).toNat = 8 * i := by omega
    rw [this]; simp [IntKind.bits]; omega
  rw [e, ← wrap64 h]
  congr 1
theorem pow_256 (i : Nat) : 2 ^ (8 * i) = 256 ^ i := by rw [Nat.pow_mul]
theorem val_loop (l : List Int) (hl : Oct l) (h8 : l.length ≤ 8) : ∀ (d i n : Nat), i + d = l.length → d < n → frame_value.l0 K1 l n (((val (l.take i) : Nat) : Int), (i : Int)) = some ((val l : Nat) : Int)
  | d, i, 0, _, h => by omega
  | 0, i, n + 1, hi, _ => by
    simp only [frame_value.l0]
    rw [dec_nlt (by omega), List.take_of_length_le (by omega)]; rfl
  | d + 1, i, n + 1, hi, hn => by
    obtain ⟨c, hc, hd⟩ := drop_cons (l := l) (i := i) (by omega)
    have hr := hl c (List.mem_of_getElem? hc)
    have ht : l.take (i + 1) = l.take i ++ [c] := by rw [List.take_add_one, hc]; rfl
    have hv := val_lt (l.take i) (fun x hx => hl x (List.mem_of_mem_take hx))
    have hti : (l.take i).length = i := by rw [List.length_take]; omega
    rw [hti, ← pow_256] at hv
    have hp : 2 ^ (8 * i) ≤ 2 ^ 56 := Nat.pow_le_pow_right (by decide) (by omega)
    have hc' : ((c.toNat : Nat) : Int) = c := by omega
    have hb : c.toNat * 2 ^ (8 * i) < 18446744073709551616 := by
      have : c.toNat * 2 ^ (8 * i) ≤ 255 * 2 ^ 56 := Nat.mul_le_mul (by omega) hp
      omega
    simp only [frame_value.l0]
    rw [dec_lt (by omega), w64_id (x := 8 * (i : Int)) (by omega) (by omega), decide_eq_true (by omega : (0 : Int) ≤ 8 * (i : Int))]
    simp only [cond_true, atL_nat hc, Option.bind_some]
    rw [wrap64i (x := c) (by omega) (by omega), w64_succ (by omega)]
    have e1 := gshl64 (c := c.toNat) (i := i) (by omega) (by omega)
    rw [hc'] at e1
    rw [e1, gor64 (by omega) hb, or_add hv, pow_256]
    have e2 := val_snoc (l.take i) c
    rw [hti, ← ht] at e2
    rw [← e2]
    exact val_loop l hl h8 d (i + 1) n (by omega) (by omega)
theorem value_eq (l : List Int) (hl : Oct l) (h8 : l.length ≤ 8) : frame_value.f K1 l = some ((val l : Nat) : Int) := by
  have := val_loop l hl h8 l.length 0 K1 (by omega) (by unfold K1; omega)
  unfold frame_value.f
  replace this : frame_value.l0 K1 l K1 (0, 0) = some ((val l : Nat) : Int) := this
  rw [this]; rfl
abbrev str (l : List Int) : ByteArray := strOfNums l
theorem ba_ext {a b : ByteArray} (h : a.data.toList = b.data.toList) : a = b := by
  cases a; cases b
  congr 1
  exact Array.ext' h
theorem str_append (a b : List Int) : str a ++ str b = str (a ++ b) := by
  apply ba_ext
  rw [strOfNums_data, List.map_append, ← strOfNums_data, ← strOfNums_data]
  simp
theorem gseq_iff (a b : ByteArray) : gseq a b = true ↔ a = b := by
  unfold gseq
  rw [beq_iff_eq]
  constructor
  · intro h
    rw [ByteArray.toList_eq, ByteArray.toList_eq] at h
    exact ba_ext h
  · rintro rfl; rfl
theorem str_extract (l : List Int) (i j : Nat) : (str l).extract i j = str ((l.drop i).take (j - i)) := by
  apply ba_ext
  rw [strOfNums_data, List.map_take, List.map_drop, ← strOfNums_data]
  simp [ByteArray.data_extract, Array.toList_extract, List.extract_eq_take_drop]
end Go.Proofs.Ytheopcgjdfckmaa
namespace Go.Proofs.Ytheopcgjdfckmaa
open Go Go.Proofs.Ytheopcgjdfckmaa.Sx
theorem shr_le {n i : Nat} (hi : i ≤ 7) : IntKind.u8.wrap (gshr .u64 (n : Int) (w64 (8 * (i : Int)))) = ((n / 256 ^ i % 256 : Nat) : Int) := by
  rw [w64_id (by omega) (by omega)]
  have h : gshr .u64 (n : Int) (8 * (i : Int)) = ((n / 256 ^ i : Nat) : Int) := by
    unfold gshr
    have e : min (8 * (i : Int)).toNat IntKind.u64.bits = 8 * i := by
      have : (8 * (i : Int)).toNat = 8 * i := by omega
      rw [this]; simp [IntKind.bits]; omega
    rw [e, ← pow_256, Int.fdiv_eq_ediv_of_nonneg _ (by exact Int.le_of_lt (Int.pow_pos (by decide)))]
    norm_cast
  rw [h, wrap8]
theorem le_get : ∀ (c n i : Nat), i < c → (le n c)[i]? = some ((n / 256 ^ i % 256 : Nat) : Int)
  | 0, n, i, h => by omega
  | c + 1, n, 0, _ => by simp [le]
  | c + 1, n, i + 1, h => by
    rw [le, List.getElem?_cons_succ, le_get c (n / 256) i (by omega), Nat.div_div_eq_div_mul, Nat.pow_succ, Nat.mul_comm 256]
theorem little_loop (c : Nat) (hc : c ≤ 8) (m : Nat) : ∀ (d i n : Nat) (v : List Int), i + d = c → d < n → v.length = c → v.take i = (le m c).take i → frame_little.l0 K1 (m : Int) (c : Int) n (v, (i : Int)) = some (le m c)
  | d, i, 0, _, _, h, _, _ => by omega
  | 0, i, n + 1, v, hi, _, hv, ht => by
    simp only [frame_little.l0, List.length_replicate, Int.toNat_natCast]
    rw [dec_nlt (by omega), cond_false]
    rw [List.take_of_length_le (by omega), List.take_of_length_le (by rw [le_len]; omega)] at ht
    rw [ht]
  | d + 1, i, n + 1, v, hi, hn, hv, ht => by
    simp only [frame_little.l0, List.length_replicate, Int.toNat_natCast]
    have hx : v[i]? = some v[i] := List.getElem?_eq_getElem (by omega)
    rw [dec_lt (by omega), decide_eq_true (by rw [w64_id (by omega) (by omega)]; omega : (0 : Int) ≤ w64 (8 * (i : Int)))]
    simp only [cond_true, atL_nat hx, Option.bind_some, shr_le (n := m) (i := i) (by omega), w64_succ (i := i) (by omega)]
    refine little_loop c hc m d (i + 1) n _ (by omega) (by omega) (by simp [hv]) ?_
    rw [List.take_add_one, List.take_add_one, List.take_set_of_le (Nat.le_refl _), ht, List.getElem?_set_self (by omega), le_get c m i (by omega)]
theorem little_eq (c m : Nat) (hc : c ≤ 8) : frame_little.f K1 (m : Int) (c : Int) = some (le m c) := by
  unfold frame_little.f
  rw [decide_eq_true (by omega : (0 : Int) ≤ (c : Int) ∧ (c : Int) < 4294967296), cond_true]
  have := little_loop c hc m c 0 K1 (List.replicate c 0) (by omega) (by unfold K1; omega) (by simp) (by simp)
  simp only [Int.toNat_natCast]
  replace this : frame_little.l0 K1 (m : Int) (c : Int) K1 (List.replicate c 0, 0) = some (le m c) := this
  rw [this]; rfl
theorem Little_loop (c : Nat) (hc : c ≤ 8) : ∀ (d i n m : Nat) (v : List Int), i + d = c → d < n → m < 18446744073709551616 → v.length = i → R19_Little.l0 K1 (c : Int) n ((m : Int), str v, (i : Int)) = some (str (v ++ le m d))
  | d, i, 0, _, _, _, h, _, _ => by omega
  | 0, i, n + 1, m, v, hi, _, _, _ => by
    simp only [R19_Little.l0]
    rw [dec_nlt (by omega), cond_false, le, List.append_nil]
  | d + 1, i, n + 1, m, v, hi, hn, hm, hv => by
    have e1 : (m : Int).tmod 256 = ((m % 256 : Nat) : Int) := by rw [Int.tmod_eq_emod_of_nonneg (by omega)]; omega
    have e2 : (m : Int).tdiv 256 = ((m / 256 : Nat) : Int) := by rw [Int.tdiv_eq_ediv_of_nonneg (by omega)]; omega
    simp only [R19_Little.l0, e1, e2, wrap8, wrap64 (n := m / 256) (by omega), Nat.mod_mod, w64_succ (i := i) (by omega)]
    rw [dec_lt (by omega), decide_eq_true (by rw [strOfNums_size, strOfNums_size]; simp; omega), cond_true, cond_true, str_append]
    rw [Little_loop c hc d (i + 1) n (m / 256) _ (by omega) (by omega) (by omega) (by simp [hv]), le]
    simp
theorem Little_eq (c m : Nat) (hc : c ≤ 8) (hm : m < 18446744073709551616) : R19_Little.f K1 (m : Int) (c : Int) = some (str (le m c)) := by
  have := Little_loop c hc c 0 K1 m [] (by omega) (by unfold K1; omega) hm rfl
  unfold R19_Little.f
  replace this : R19_Little.l0 K1 (c : Int) K1 ((m : Int), (ByteArray.mk #[]), 0) = some (str (le m c)) := this
  rw [this]; rfl
def crc (l : List Int) : Nat := (gxor .u32 ((St (BitVec.allOnes 32) l).toNat : Int) 4294967295).toNat
def fr (b : List Int) : List Int := le b.length 4 ++ b ++ le (crc (le b.length 4 ++ b)) 4
end Go.Proofs.Ytheopcgjdfckmaa
namespace Go.Proofs.Ytheopcgjdfckmaa
open Go Go.Proofs.Ytheopcgjdfckmaa.Sx
end Go.Proofs.Ytheopcgjdfckmaa
namespace Go.Proofs.Ytheopcgjdfckmaa
open Go Go.Proofs.Ytheopcgjdfckmaa.Sx
theorem awake19 : Lw19_awake.f K1 = some true := by kernel_rfl
end Go.Proofs.Ytheopcgjdfckmaa
namespace Go.Proofs.Ytheopcgjdfckmaa
open Go Go.Proofs.Ytheopcgjdfckmaa.Sx
theorem Value_loop (l : List Int) (hl : Oct l) (h8 : l.length ≤ 8) : ∀ (i n : Nat), i ≤ l.length → i < n → R19_Value.l0 K1 (str l) n (((val (l.drop i) : Nat) : Int), (i : Int) - 1) = some ((val l : Nat) : Int)
  | i, 0, _, h => by omega
  | 0, n + 1, _, _ => by
    rw [R19_Value.l0, decide_eq_false (by omega), cond_false]; rfl
  | i + 1, n + 1, hi, hn => by
    obtain ⟨c, hc, hd⟩ := drop_cons (l := l) (i := i) (by omega)
    have hr := hl c (List.mem_of_getElem? hc)
    have e0 : (((i + 1 : Nat) : Int) - 1) = (i : Int) := by omega
    have hv := val_lt (l.drop (i + 1)) (fun x hx => hl x (List.mem_of_mem_drop hx))
    have hp : 256 ^ (l.drop (i + 1)).length ≤ 256 ^ 7 := Nat.pow_le_pow_right (by decide) (by rw [List.length_drop]; omega)
    have e1 : IntKind.u64.wrap (((val (l.drop (i + 1)) : Nat) : Int) * 256) = ((val (l.drop (i + 1)) : Nat) : Int) * 256 := wrap64i (by omega) (by omega)
    have e2 : IntKind.u64.wrap c = c := wrap64i (by omega) (by omega)
    have e3 : IntKind.u64.wrap (((val (l.drop (i + 1)) : Nat) : Int) * 256 + c) = ((val (l.drop i) : Nat) : Int) := by
      rw [wrap64i (by omega) (by omega), hd, val]; omega
    rw [R19_Value.l0, e0, decide_eq_true (by omega), cond_true, bAt_str hl hc, Option.bind_some, e1, e2, e3, w64_id (by omega) (by omega)]
    exact Value_loop l hl h8 i n (by omega) (by omega)
theorem Value_eq (l : List Int) (hl : Oct l) (h8 : l.length ≤ 8) : R19_Value.f K1 (str l) = some ((val l : Nat) : Int) := by
  have h := Value_loop l hl h8 l.length K1 (Nat.le_refl _) (by unfold K1; omega)
  rw [List.drop_length] at h
  replace h : R19_Value.l0 K1 (str l) K1 (0, (l.length : Int) - 1) = some ((val l : Nat) : Int) := h
  unfold R19_Value.f
  rw [strOfNums_size, w64_id (by omega) (by omega), h]; rfl
end Go.Proofs.Ytheopcgjdfckmaa
namespace Go.Proofs.Ytheopcgjdfckmaa
open Go Go.Proofs.Ytheopcgjdfckmaa.Sx
theorem wf_i64 {n : Int} (h : (Lit.int .i64 n).wf = true) : -9223372036854775808 ≤ n ∧ n < 9223372036854775808 := by
  unfold Lit.wf at h
  obtain ⟨h1, h2⟩ := (Bool.and_eq_true _ _).mp h
  have h3 := of_decide_eq_true h1
  have h4 := of_decide_eq_true h2
  have e1 : IntKind.i64.min = -9223372036854775808 := by decide
  have e2 : IntKind.i64.max = 9223372036854775807 := by decide
  omega
def nx (x : Int) : Nat := (x % 18446744073709551616).toNat
theorem nx_wrap (x : Int) : IntKind.u64.wrap x = ((nx x : Nat) : Int) := by
  unfold nx
  simp [IntKind.wrap, IntKind.signed, IntKind.bits]; omega
theorem nx_lt (x : Int) : nx x < 18446744073709551616 := by unfold nx; omega
theorem nx_back {x : Int} (h1 : -9223372036854775808 ≤ x) (h2 : x < 9223372036854775808) : w64 ((nx x : Nat) : Int) = x := by
  simp only [w64, IntKind.wrap_i64]; unfold nx; omega
def nums (ns : List Int) : List Int := ns.flatMap fun x => le (nx x) 8
theorem nums_cons (x : Int) (ns : List Int) : nums (x :: ns) = le (nx x) 8 ++ nums ns := rfl
theorem nums_len : ∀ ns : List Int, (nums ns).length = 8 * ns.length
  | [] => rfl
  | x :: ns => by rw [nums_cons, List.length_append, le_len, nums_len ns, List.length_cons]; omega
theorem nums_oct : ∀ ns : List Int, Oct (nums ns)
  | [] => fun x hx => by cases hx
  | x :: ns => fun y hy => by
    rw [nums_cons] at hy
    exact (List.mem_append.1 hy).elim (le_oct 8 _ y) (nums_oct ns y)
theorem numbers_loop (ns : List Int) (hl : ns.length < 1000) : ∀ (d i n : Nat) (v : List Int), i + d = ns.length → d < n → v ++ nums (ns.drop i) = nums ns →
    frame_Numbers.l0 K1 ns n (v, (i : Int)) = some (nums ns)
  | d, i, 0, _, _, h, _ => by omega
  | 0, i, n + 1, v, hi, _, hv => by
    simp only [frame_Numbers.l0]
    rw [List.drop_eq_nil_of_le (by omega)] at hv
    rw [dec_nlt (by omega), cond_false, ← hv]; simp [nums]
  | d + 1, i, n + 1, v, hi, hn, hv => by
    obtain ⟨c, hc, hd⟩ := drop_cons (l := ns) (i := i) (by omega)
    rw [hd, nums_cons] at hv
    have hlen : v.length + 8 ≤ (nums ns).length := by rw [← hv]; simp only [List.length_append, le_len]; omega
    rw [nums_len] at hlen
    have h8 : ((8 : Int)) = ((8 : Nat) : Int) := rfl
    simp only [frame_Numbers.l0]
    rw [dec_lt (by omega), cond_true, atL_nat hc, Option.bind_some, nx_wrap, h8, little_eq 8 _ (by decide), Option.bind_some, decide_eq_true (by rw [le_len]; omega), cond_true, w64_succ (by omega)]
    exact numbers_loop ns hl d (i + 1) n _ (by omega) (by omega) (by rw [← hv, List.append_assoc])
theorem numbers_eq (ns : List Int) (hl : ns.length < 1000) : frame_Numbers.f K1 ns = some (nums ns) := by
  have := numbers_loop ns hl ns.length 0 K1 [] (by omega) (by unfold K1; omega) rfl
  unfold frame_Numbers.f
  replace this : frame_Numbers.l0 K1 ns K1 (([] : List Int), 0) = _ := this
  rw [this]; rfl
theorem Numbers_loop (ns : List Int) (hl : ns.length < 1000) : ∀ (d i n : Nat) (v : List Int), i + d = ns.length → d < n → v ++ nums (ns.drop i) = nums ns →
    R19_Numbers.l0 K1 ns n (str v, (i : Int)) = some (str (nums ns))
  | d, i, 0, _, _, h, _ => by omega
  | 0, i, n + 1, v, hi, _, hv => by
    simp only [R19_Numbers.l0]
    rw [List.drop_eq_nil_of_le (by omega)] at hv
    rw [dec_nlt (by omega), cond_false, ← hv]; simp [nums]
  | d + 1, i, n + 1, v, hi, hn, hv => by
    obtain ⟨c, hc, hd⟩ := drop_cons (l := ns) (i := i) (by omega)
    rw [hd, nums_cons] at hv
    have hlen : v.length + 8 ≤ (nums ns).length := by rw [← hv]; simp only [List.length_append, le_len]; omega
    rw [nums_len] at hlen
    have h8 : ((8 : Int)) = ((8 : Nat) : Int) := rfl
    simp only [R19_Numbers.l0]
    rw [dec_lt (by omega), cond_true, atL_nat hc, Option.bind_some, nx_wrap, h8, Little_eq 8 _ (by decide) (nx_lt c), Option.bind_some, decide_eq_true (by rw [strOfNums_size, strOfNums_size, le_len]; omega), cond_true, str_append, w64_succ (by omega)]
    exact Numbers_loop ns hl d (i + 1) n _ (by omega) (by omega) (by rw [← hv, List.append_assoc])
theorem Numbers_eq (ns : List Int) (hl : ns.length < 1000) : R19_Numbers.f K1 ns = some (str (nums ns)) := by
  have := Numbers_loop ns hl ns.length 0 K1 [] (by omega) (by unfold K1; omega) rfl
  unfold R19_Numbers.f
  replace this : R19_Numbers.l0 K1 ns K1 ((ByteArray.mk #[]), 0) = _ := this
  rw [this]; rfl
def vals (l : List Int) (m : Nat) : List Int := (List.range m).map fun i => w64 ((val ((l.drop (8 * i)).take 8) : Nat) : Int)
theorem vals_succ (l : List Int) (m : Nat) : vals l (m + 1) = vals l m ++ [w64 ((val ((l.drop (8 * m)).take 8) : Nat) : Int)] := by
  unfold vals; rw [List.range_succ, List.map_append]; rfl
theorem vals_len (l : List Int) (m : Nat) : (vals l m).length = m := by unfold vals; simp
theorem vals_cons (a l : List Int) (ha : a.length = 8) (m : Nat) : vals (a ++ l) (m + 1) = w64 ((val a : Nat) : Int) :: vals l m := by
  unfold vals
  rw [List.range_succ_eq_map, List.map_cons, List.map_map]
  congr 1
  · congr 3
    rw [Nat.mul_zero, List.drop_zero, ← ha, List.take_left]
  · refine List.map_congr_left (fun i _ => ?_)
    show w64 ((val (((a ++ l).drop (8 * (i + 1))).take 8) : Nat) : Int) = _
    rw [show 8 * (i + 1) = a.length + 8 * i from by omega, ← List.drop_drop, List.drop_left]
theorem oct_part {l : List Int} (h : Oct l) (i n : Nat) : Oct ((l.drop i).take n) := fun x hx => h x (List.mem_of_mem_drop (List.mem_of_mem_take hx))
theorem rdVals_eq (l : List Int) (hl : Oct l) : ∀ m, rdVals K1 l m = some (vals l m)
  | 0 => rfl
  | m + 1 => by
    rw [rdVals, rdVals_eq l hl m, Option.bind_some, value_eq _ (oct_part hl _ _) (List.length_take_le _ _), Option.bind_some, vals_succ]
theorem read_eq (l : List Int) (hl : Oct l) (hb : l.length < 4294967296) : frame_Read.f K1 l = if l.length % 8 = 0 then some (vals l (l.length / 8), true) else some ([], false) := by
  unfold frame_Read.f
  rw [Int.tmod_eq_emod_of_nonneg (by omega), rdVals_eq l hl]
  by_cases h : l.length % 8 = 0
  · have e : ((l.length : Int) % 8 != 0) = false := by simp; omega
    rw [e, cond_false, if_pos h, decide_eq_true hb, cond_true]; rfl
  · have e : ((l.length : Int) % 8 != 0) = true := by simp; omega
    rw [e, cond_true, if_neg h]
theorem Read_loop (l : List Int) (hl : Oct l) (m : Nat) (hm : l.length = 8 * m) (hs : m < 1000) : ∀ (d i n : Nat), i + d = m → d < n →
    R19_Read.l0 K1 (str l) n (vals l i, ((8 * i : Nat) : Int)) = some (vals l m)
  | d, i, 0, _, h => by omega
  | 0, i, n + 1, hi, _ => by
    have : i = m := by omega
    subst this
    simp only [R19_Read.l0]
    rw [dec_nlt (by rw [strOfNums_size]; omega)]; rfl
  | d + 1, i, n + 1, hi, hn => by
    have hv := vals_len l i
    simp only [R19_Read.l0]
    have e1 : w64 (((8 * i : Nat) : Int) + 8) = ((8 * (i + 1) : Nat) : Int) := by rw [w64_id (by omega) (by omega)]; omega
    rw [e1, dec_lt (by rw [strOfNums_size]; omega), cond_true, decide_eq_true (by rw [strOfNums_size]; omega), cond_true, Int.toNat_natCast, Int.toNat_natCast, str_extract, show 8 * (i + 1) - 8 * i = 8 from by omega,
      Value_eq _ (oct_part hl _ _) (List.length_take_le _ _), Option.bind_some, decide_eq_true (by simp; omega), cond_true, ← vals_succ]
    exact Read_loop l hl m hm hs d (i + 1) n (by omega) (by omega)
theorem Read_eq (l : List Int) (hl : Oct l) (hb : l.length < 8000) : R19_Read.f K1 (str l) = if l.length % 8 = 0 then some (vals l (l.length / 8), true) else some ([], false) := by
  unfold R19_Read.f
  rw [strOfNums_size, Int.tmod_eq_emod_of_nonneg (by omega)]
  by_cases h : l.length % 8 = 0
  · have e : ((l.length : Int) % 8 != 0) = false := by simp; omega
    have := Read_loop l hl (l.length / 8) (by omega) (by omega) (l.length / 8) 0 K1 (by omega) (by unfold K1; omega)
    replace this : R19_Read.l0 K1 (str l) K1 (([] : List Int), 0) = _ := this
    rw [e, cond_false, if_pos h, this]; rfl
  · have e : ((l.length : Int) % 8 != 0) = true := by simp; omega
    rw [e, cond_true, if_neg h]
theorem Ints_loop (l : List Int) (hl : l.length < 1000000) : ∀ (d i n : Nat), i + d = l.length → d < n → R01_Ints.l0 K1 l l n (i : Int) = some (Sum.inr ())
  | d, i, 0, _, h => by omega
  | 0, i, n + 1, hi, _ => by
    simp only [R01_Ints.l0]; rw [dec_nlt (by omega)]; rfl
  | d + 1, i, n + 1, hi, hn => by
    obtain ⟨c, hc, hd⟩ := drop_cons (l := l) (i := i) (by omega)
    simp only [R01_Ints.l0]
    rw [dec_lt (by omega), cond_true, atL_nat hc, Option.bind_some, Option.bind_some, bne_self_eq_false, cond_false, w64_succ (by omega)]
    exact Ints_loop l hl d (i + 1) n (by omega) (by omega)
theorem Ints_eq (l : List Int) (hl : l.length < 1000000) : R01_Ints.f K1 l l = some true := by
  have := Ints_loop l hl l.length 0 K1 (by omega) (by unfold K1; omega)
  replace this : R01_Ints.l0 K1 l l K1 0 = _ := this
  unfold R01_Ints.f
  rw [bne_self_eq_false, cond_false, this]; rfl
theorem vals_nums : ∀ (ns : List Int), (∀ x ∈ ns, -9223372036854775808 ≤ x ∧ x < 9223372036854775808) → vals (nums ns) ns.length = ns
  | [], _ => rfl
  | x :: ns, h => by
    have h1 := h x (by simp)
    have h2 := nx_lt x
    rw [nums_cons, List.length_cons, vals_cons _ _ (le_len 8 _), val_le 8 _ (by have : (256 : Nat) ^ 8 = 18446744073709551616 := rfl; omega), nx_back h1.1 h1.2, vals_nums ns (fun y hy => h y (by simp [hy]))]
theorem FrameNumbers_pure (ns b : List Int) (hn : ∀ x ∈ ns, -9223372036854775808 ≤ x ∧ x < 9223372036854775808) (hb : Oct b) : Lw19_FrameNumbers.f K1 ns b = some true := by
  unfold Lw19_FrameNumbers.f
  rw [awake19, Option.bind_some, Bool.not_true, cond_false]
  by_cases h1 : (ns.length : Int) > 100
  · rw [decide_eq_true h1]; rfl
  · rw [decide_eq_false h1, cond_false]
    by_cases h2 : (b.length : Int) > 500
    · rw [decide_eq_true h2]; rfl
    · rw [decide_eq_false h2, cond_false]
      have hl := nums_len ns
      have r1 := read_eq (nums ns) (nums_oct ns) (by omega)
      rw [hl, if_pos (by omega), show 8 * ns.length / 8 = ns.length from by omega, vals_nums ns hn] at r1
      have r2 := read_eq b hb (by omega)
      have r3 := Read_eq b hb (by omega)
      have g : gseq (str (nums ns)) (str (nums ns)) = true := (gseq_iff _ _).2 rfl
      simp only [Option.bind_some, Sum.elim_inr, numbers_eq ns (by omega), Numbers_eq ns (by omega), r1, r2, r3, g, cond_true, Ints_eq ns (by omega)]
      by_cases h8 : b.length % 8 = 0
      · simp only [h8, if_true, Option.bind_some, beq_self_eq_true, cond_true, Ints_eq _ (show (vals b (b.length / 8)).length < 1000000 by rw [vals_len]; omega)]
      · simp only [h8, if_false, Option.bind_some, beq_self_eq_true, cond_true, Ints_eq [] (by decide)]
end Go.Proofs.Ytheopcgjdfckmaa

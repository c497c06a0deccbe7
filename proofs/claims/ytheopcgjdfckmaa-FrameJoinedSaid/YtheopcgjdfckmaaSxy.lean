/- Nil slices in records, under names of their own. -/
import Derived.Test.YtheopcgjdfckmaaSxx
namespace Go.Proofs.Ytheopcgjdfckmaa.Sx
open Go
set_option linter.unusedVariables false
set_option linter.unusedSimpArgs false

theorem StarM.same {m : Nat → Option Tok} {β : Env} {w : World} {F : Foot} {n : Nat} {t t' : Tok} (h : StarM m β w F) (hm : m n = some t) (hr : t'.r β = t.r β) : StarM (upd m n (some t')) β w F := by
  obtain ⟨φ, h1, h2, h3, h4⟩ := h
  refine ⟨φ, fun k u hk => ?_, fun k hk => ?_, h3, h4⟩
  · by_cases e : k = n
    · subst e
      rw [upd_same] at hk; cases hk
      rw [hr]; exact h1 k t hm
    · rw [upd_ne _ _ e] at hk; exact h1 k u hk
  · by_cases e : k = n
    · subst e; rw [upd_same] at hk; cases hk
    · rw [upd_ne _ _ e] at hk; exact h2 k hk
section
variable {C : Ctx} {fs : FL} {L : TL} {R : Act → World → Prop} {α : Type}
theorem nil_star {β : Env} {w : World} {F : Foot} {k : Nat} (T : TypeId) (f : α → List Value) (s : Nat) (hs : StarM (lkT L) β w F) (hL : lkT L k = none) (f3 : ∀ j t, lkT L j = some t → ∀ i ∈ t.ks, i ∉ [k]) :
    StarM (upd (lkT L) k (some (lrow k T f s ([] : List α)))) (upd β k ⟨0, .slice none 0 0⟩) w F := by
  have hb : ∀ j, j ∉ [k] → upd β k ⟨0, .slice none 0 0⟩ j = β j := fun j hj => upd_ne _ _ (by simpa using hj)
  have h1 := hs.env (β' := upd β k ⟨0, .slice none 0 0⟩) (fun j tk hj i hi => (hb i (f3 j tk hj i hi)).symm)
  have h2 : Star [((lrow k T f s ([] : List α)).r (upd β k ⟨0, .slice none 0 0⟩))] w (fun _ => False) := Star_one.2 ⟨fun x => by simp [one1, Value.oneCell', Value.ownBlock], by simp, .inl ⟨by simp [one1, Value.oneCell'], by simp⟩⟩
  exact h1.put hL (Star_one.1 h2) (fun _ h => h.elim) (fun b => by simp)
theorem At.nilAgg {l l' : List Cl} {t : Nat} (i k : Nat) (T : TypeId) (f : α → List Value) (s : Nat) (hl : lk fs t = some (.a (.agg l))) (hi : l[i]? = some (.v (.slice none 0 0))) (hL : lkT L k = none) (hfr : frB [k] fs L = true) (hl' : l.set i (.nv k) = l')
    (h : At C ((t, .a (.agg l')) :: fs) ((k, some (lrow k T f s ([] : List α))) :: L) R) : At C fs L R := by
  subst hl'
  obtain ⟨f1, f2, f3⟩ := frB_spec hfr
  rintro a w ⟨β, F, hβ, hfs, hlt, hn, hd, hs, hF, hM⟩
  have hb : ∀ j, j ∉ [k] → upd β k ⟨0, .slice none 0 0⟩ j = β j := fun j hj => upd_ne _ _ (by simpa using hj)
  refine h a w ⟨upd β k ⟨0, .slice none 0 0⟩, F, fun j hj => ?_, fun t' x hx => ?_, fun t' ht => ?_, hn, hd, ?_, hF, hM⟩
  · rw [hb j (fun hm => by simp at hm; subst hm; exact Nat.lt_irrefl _ (Nat.lt_of_lt_of_le hj (f1 j (by simp)))), hβ j hj]
  · rw [lk_cons] at hx
    by_cases e : t' = t
    · subst e
      simp at hx; subst hx
      rw [hfs _ _ hl]
      have h0 : SV.den β (.a (.agg l)) = SV.den (upd β k ⟨0, .slice none 0 0⟩) (.a (.agg l)) := SV.den_congr _ (fun i hi => (hb i (f2 _ _ hl i hi)).symm)
      rw [h0]
      simp only [SV.den, Av.den]
      congr 2
      apply List.ext_getElem?
      intro j
      simp only [List.getElem?_map, List.getElem?_set]
      by_cases ej : i = j
      · subst ej
        rw [if_pos rfl, hi]
        have : i < l.length := (List.getElem?_eq_some_iff.1 hi).1
        rw [if_pos this]
        simp [Cl.den, one1, Value.oneCell']
      · rw [if_neg ej]
    · rw [upd_ne _ _ e] at hx
      rw [hfs _ _ hx]
      exact SV.den_congr x (fun i hi => (hb i (f2 _ _ hx i hi)).symm)
  · rw [lk_cons] at ht
    by_cases e : t' = t
    · subst e; exact hlt _ (by rw [hl]; rfl)
    · rw [upd_ne _ _ e] at ht; exact hlt _ ht
  · rw [lkT_cons]; exact nil_star T f s hs hL f3
theorem At.nilBlk {l l' : List Cl} {n : Nat} {Tb : TypeId} (i k : Nat) (T : TypeId) (f : α → List Value) (s : Nat) (hl : lkT L n = some (blk n l Tb)) (hi : l[i]? = some (.v (.slice none 0 0))) (hL : lkT L k = none) (hfr : frB [k] fs L = true) (hl' : l.set i (.nv k) = l')
    (h : At C fs ((n, some (blk n l' Tb)) :: (k, some (lrow k T f s ([] : List α))) :: L) R) : At C fs L R := by
  subst hl'
  obtain ⟨f1, f2, f3⟩ := frB_spec hfr
  rintro a w ⟨β, F, hβ, hfs, hlt, hn, hd, hs, hF, hM⟩
  have hb : ∀ j, j ∉ [k] → upd β k ⟨0, .slice none 0 0⟩ j = β j := fun j hj => upd_ne _ _ (by simpa using hj)
  refine h a w ⟨upd β k ⟨0, .slice none 0 0⟩, F, fun j hj => ?_, fun t' x hx => ?_, hlt, hn, hd, ?_, hF, hM⟩
  · rw [hb j (fun hm => by simp at hm; subst hm; exact Nat.lt_irrefl _ (Nat.lt_of_lt_of_le hj (f1 j (by simp)))), hβ j hj]
  · rw [hfs _ _ hx]
    exact SV.den_congr x (fun i hi => (hb i (f2 _ _ hx i hi)).symm)
  · rw [lkT_cons, lkT_cons]
    have hne : n ≠ k := by rintro rfl; rw [hL] at hl; cases hl
    refine (nil_star T f s hs hL f3).same (t := blk n l Tb) (by rw [upd_ne _ _ hne]; exact hl) ?_
    show blkRes _ _ _ = blkRes _ _ _
    congr 1
    apply List.ext_getElem?
    intro j
    simp only [List.getElem?_map, List.getElem?_set]
    by_cases ej : i = j
    · subst ej
      have : i < l.length := (List.getElem?_eq_some_iff.1 hi).1
      rw [if_pos rfl, hi, if_pos this]
      simp [Cl.den, one1, Value.oneCell']
    · rw [if_neg ej]
end
/-! ### what follows from what is known -/
theorem kn_of {x c : Int} (h : (x == c) = true) : x = c := eq_of_beq h
theorem kn_of' {x c : Int} (h : (x != c) = false) : x = c := by simpa using h
theorem kn_lt {x c d : Int} {b : Bool} (h : x = c) (hd : decide (c < d) = b) : decide (x < d) = b := by rw [h]; exact hd
theorem kn_le {x c d : Int} {b : Bool} (h : x = c) (hd : decide (c ≤ d) = b) : decide (x ≤ d) = b := by rw [h]; exact hd
theorem kn_ge {x c d : Int} {b : Bool} (h : x = c) (hd : decide (c ≥ d) = b) : decide (x ≥ d) = b := by rw [h]; exact hd
theorem kn_gt {x c d : Int} {b : Bool} (h : x = c) (hd : decide (c > d) = b) : decide (x > d) = b := by rw [h]; exact hd
theorem kn_eq {x c d : Int} {b : Bool} (h : x = c) (hd : (c == d) = b) : (x == d) = b := by rw [h]; exact hd
theorem kn_ne {x c d : Int} {b : Bool} (h : x = c) (hd : (c != d) = b) : (x != d) = b := by rw [h]; exact hd
theorem kn_not_ge {x d : Int} {b : Bool} (h : decide (x < d) = b) : decide (x ≥ d) = !b := by
  subst h; by_cases e : x < d <;> simp [e] <;> omega
theorem kn_not_lt {x d : Int} {b : Bool} (h : decide (x ≥ d) = b) : decide (x < d) = !b := by
  subst h; by_cases e : x < d <;> simp [e] <;> omega
theorem kn_not_gt {x d : Int} {b : Bool} (h : decide (x ≤ d) = b) : decide (x > d) = !b := by
  subst h; by_cases e : x ≤ d <;> simp [e] <;> omega
theorem kn_not_le {x d : Int} {b : Bool} (h : decide (x > d) = b) : decide (x ≤ d) = !b := by
  subst h; by_cases e : x ≤ d <;> simp [e] <;> omega
/-! ### short words -/
section
variable {P : Program} {n : Nat} {ops : Array Oper} {rest : List Oper} {fs : FL} {L : TL} {K : List Step → FL → TL → Prop}
theorem g0 {d : Option Nat} {op : Op} {T : TypeId} {pos : String} {after : Array Edge} : Gd ops ⟨d, op, T, pos, after, none⟩ fs [] := gd0 rfl
theorem g1 {d : Option Nat} {op : Op} {T : TypeId} {pos : String} {after : Array Edge} {j : Nat} {want b : Bool} {t : Nat} (hd : (ops[j]?).bind (·.dst) = some t) (hl : lk fs t = some (SV.b b)) (hb : b = want) : Gd ops ⟨d, op, T, pos, after, some (j, want)⟩ fs [(t, SV.b want)] := gd1 rfl hd hl hb
theorem K.mv {d : Nat} {x : Operand} {T : TypeId} {pos : String} {after : Array Edge} {y : SV} (hx : ev fs x = some y) (hn : Nat.blt d n = true)
    (h : RunK P n ops rest ((d, y) :: fs) L (fun ss fs' L' => K (⟨[] ++ opds [(x, y)], some d, y, [], [], [], []⟩ :: ss) fs' L')) : RunK P n ops (⟨some d, .move x, T, pos, after, none⟩ :: rest) fs L K := Sx.K.move (.inl rfl) g0 hx hn h
theorem K.as {d : Nat} {x : Operand} {T : TypeId} {pos : String} {after : Array Edge} {y : SV} (hx : ev fs x = some y) (hn : Nat.blt d n = true)
    (h : RunK P n ops rest ((d, y) :: fs) L (fun ss fs' L' => K (⟨[] ++ opds [(x, y)], some d, y, [], [], [], []⟩ :: ss) fs' L')) : RunK P n ops (⟨some d, .assign x, T, pos, after, none⟩ :: rest) fs L K := Sx.K.move (.inr rfl) g0 hx hn h
theorem K.sk {op : Op} {d : Nat} {T : TypeId} {pos : String} {after : Array Edge} {j : Nat} {want b : Bool} {t : Nat} (hdj : (ops[j]?).bind (·.dst) = some t) (hl : lk fs t = some (SV.b b)) (hb : b = !want) (hn : Nat.blt d n = true)
    (h : RunK P n ops rest ((d, SV.raw undef) :: fs) L (fun ss fs' L' => K (⟨[(t, SV.b b)], some d, SV.raw undef, [], [], [], []⟩ :: ss) fs' L')) : RunK P n ops (⟨some d, op, T, pos, after, some (j, want)⟩ :: rest) fs L K := Sx.K.skip rfl rfl hdj hl hb hn h
end
/-- What a row shows may be handed on. -/
theorem la {α : Type} {e : α → List Value} {s : Nat} {l : List α} {k : Nat} {T : TypeId} {tr : List (Nat × Tok)} {β : Env} {w : World} {S : Foot} (j : Nat) (hj : tr[j]? = some (k, lrow k T e s l)) (hf : ∀ c, (e c).length = s) (hs : Nat.blt 0 s = true) (h : Star (tr.map fun p => p.2.r β) w S) : LArg S w ((lrowV k T e s l).s.den β) e s l :=
  (lrowV_isC hf (Nat.blt_eq ▸ hs)).larg ⟨k, List.mem_of_getElem? hj⟩ h
/-! ### the end, in short -/
def avOf : Option SV → Av
  | some (.a y) => y
  | _ => .agg []
def isAv : Option SV → Bool
  | some (.a _) => true
  | _ => false
def getT (L : TL) : List Nat → List (Nat × Tok)
  | [] => []
  | k :: ks => match lkT L k with
    | some t => (k, t) :: getT L ks
    | none => getT L ks
theorem getT_all {L : TL} : ∀ ks, AllT L (getT L ks)
  | [] => trivial
  | k :: ks => by
    unfold getT
    split
    · rename_i t h; exact ⟨h, getT_all ks⟩
    · exact getT_all ks
theorem allR_of {Y : TypeId → TyI} {fs : FL} {L : TL} : ∀ ts : List Nat, ts.all (fun t => isAv (lk fs t)) = true → AllR Y fs L (ts.map fun t => (.tmp t, avOf (lk fs t)))
  | [], _ => trivial
  | t :: ts, h => by
    simp only [List.all_cons, Bool.and_eq_true] at h
    refine ⟨?_, allR_of ts h.2⟩
    obtain ⟨y, hy⟩ : ∃ y, lk fs t = some (.a y) := by
      have h1 := h.1
      cases hl : lk fs t with
      | none => rw [hl] at h1; cases h1
      | some x =>
        cases x with
        | a y => exact ⟨y, rfl⟩
        | _ => rw [hl] at h1; cases h1
    have e : avOf (lk fs t) = y := by rw [hy]; rfl
    show ResIs Y fs L (.tmp t) (avOf (lk fs t))
    rw [e]; exact .tmp hy
section
variable {fs : FL} {L : TL} {P : Program} {fn : Func} {to : List (Nat × Tok)} {ret : SV} {fr : List Nat} {F0 : Foot} {W : World} {β0 : Env} {N : Nat}
theorem At.dt (Y : Tys P) {e : Exit} (hx : e = .ret ∨ e = .normal) (ts : List Nat) (hr : fn.results = (ts.map ResultVar.tmp).toArray) (ha : ts.all (fun t => isAv (lk fs t)) = true) (hto : getT L (to.map (·.1)) = to) (he : retOf (ts.map fun t => avOf (lk fs t)) = ret)
    (hnd : ndB (to.map (·.1)) = true) (hfr : fr.all (fun k => Nat.ble 20 k) = true) (hks : ksB (ret.ks ++ to.flatMap (·.2.ks)) fr = true) :
    At ⟨W, F0, β0, N⟩ fs L (bodyPost P fn (Ret F0 W fr β0 ret to) e) := by
  have e1 : (ts.map fun t => ((.tmp t : ResultVar), avOf (lk fs t))).map (·.1) = ts.map ResultVar.tmp := by simp [Function.comp_def]
  have e2 : (ts.map fun t => ((.tmp t : ResultVar), avOf (lk fs t))).map (·.2) = ts.map fun t => avOf (lk fs t) := by simp [Function.comp_def]
  refine At.done (to' := getT L (to.map (·.1))) Y (ts.map fun t => (.tmp t, avOf (lk fs t))) ?_ (allR_of ts ha) (getT_all _) hto ?_ ?_ hfr ?_ hx
  · rw [e1]; exact hr
  · rw [e2]; exact he
  · rw [hto]; exact hnd
  · rw [e2, he, hto]; exact hks
theorem At.dr (Y : Tys P) (ts : List Nat) (hr : fn.results = (ts.map ResultVar.tmp).toArray) (ha : ts.all (fun t => isAv (lk fs t)) = true) (hto : getT L (to.map (·.1)) = to) (he : retOf (ts.map fun t => avOf (lk fs t)) = ret)
    (hnd : ndB (to.map (·.1)) = true) (hfr : fr.all (fun k => Nat.ble 20 k) = true) (hks : ksB (ret.ks ++ to.flatMap (·.2.ks)) fr = true) :
    At ⟨W, F0, β0, N⟩ fs L (bodyPost P fn (Ret F0 W fr β0 ret to) .ret) := At.dt Y (.inl rfl) ts hr ha hto he hnd hfr hks
theorem At.dn (Y : Tys P) (ts : List Nat) (hr : fn.results = (ts.map ResultVar.tmp).toArray) (ha : ts.all (fun t => isAv (lk fs t)) = true) (hto : getT L (to.map (·.1)) = to) (he : retOf (ts.map fun t => avOf (lk fs t)) = ret)
    (hnd : ndB (to.map (·.1)) = true) (hfr : fr.all (fun k => Nat.ble 20 k) = true) (hks : ksB (ret.ks ++ to.flatMap (·.2.ks)) fr = true) :
    At ⟨W, F0, β0, N⟩ fs L (bodyPost P fn (Ret F0 W fr β0 ret to) .normal) := At.dt Y (.inr rfl) ts hr ha hto he hnd hfr hks
end
abbrev sm (l : List (Nat × Tok)) : TL := l.map fun p => (p.1, some p.2)
/-! ### ways that meet, rounds, in short -/
theorem oi {α : Type} {a b : α} (h : some a = some b) : b = a := (Option.some.inj h).symm
def JP (C : Ctx) {σ : Type} (Fs : σ → FL) (Tl : σ → List (Nat × Tok)) : Act → World → Prop := fun a w => ∃ s', Holds C (lk (Fs s')) (lkT ((Tl s').map fun p => (p.1, some p.2))) a w
def LP (C : Ctx) {σ : Type} (Fs : σ → FL) (Tl : σ → List (Nat × Tok)) (μ : σ → Nat) (s : σ) : Act → World → Prop := fun a w => ∃ s', μ s' < μ s ∧ Holds C (lk (Fs s')) (lkT ((Tl s').map fun p => (p.1, some p.2))) a w
section
variable {C : Ctx} {P : Program} {fs : FL} {L : TL} {Q : Exit → Act → World → Prop}
theorem G.sJ {σ : Type} (Fs : σ → FL) (Tl : σ → List (Nat × Tok)) {x y : Code} (h : G C P fs L x (Exit.then (JP C Fs Tl) Q)) (hy : ∀ s : σ, G C P (Fs s) ((Tl s).map fun p => (p.1, some p.2)) y Q) : G C P fs L (.seq x y) Q := G.seqJ Fs Tl h hy
theorem At.jd {σ : Type} {Fs : σ → FL} {Tl : σ → List (Nat × Tok)} (s' : σ) (ρ : List (Nat × Nat)) (ts : List Tok) (hρ : ρ.all (fun p => Nat.ble 20 p.1) = true) (hf : RenF (rn ρ) fs (Fs s')) (hl : RenL (rn ρ) L (Tl s') ts) (hnd : ndB (((Tl s').map (·.1)).map (rn ρ)) = true) :
    At C fs L (Exit.then (JP C Fs Tl) Q .normal) := At.joined s' ρ ts hρ hf hl hnd
theorem G.lp {σ : Type} (Fs : σ → FL) (Tl : σ → List (Nat × Tok)) (μ : σ → Nat) (s0 : σ) {c : Code} (h0 : At C fs L (fun a w => Holds C (lk (Fs s0)) (lkT ((Tl s0).map fun p => (p.1, some p.2))) a w))
    (hr : ∀ s : σ, G C P (Fs s) ((Tl s).map fun p => (p.1, some p.2)) c (Exit.then (LP C Fs Tl μ s) Q)) : G C P fs L (.loop c) Q := G.loop Fs Tl μ s0 h0 hr
theorem At.ag {σ : Type} {Fs : σ → FL} {Tl : σ → List (Nat × Tok)} {μ : σ → Nat} {s : σ} (s' : σ) (ρ : List (Nat × Nat)) (ts : List Tok) (hμ : μ s' < μ s) (hρ : ρ.all (fun p => Nat.ble 20 p.1) = true) (hf : RenF (rn ρ) fs (Fs s')) (hl : RenL (rn ρ) L (Tl s') ts) (hnd : ndB (((Tl s').map (·.1)).map (rn ρ)) = true) :
    At C fs L (Exit.then (LP C Fs Tl μ s) Q .normal) := At.again s' ρ ts hμ hρ hf hl hnd
end
/-! ### calls, in short -/
def evD (fs : FL) (o : Operand) : SV := (ev fs o).getD (SV.raw undef)
def opl (fs : FL) (az : Array Operand) : List (Operand × SV) := az.toList.map fun o => (o, evD fs o)
def fnl (f : FuncId) (fs : FL) (az : Array Operand) : List (Operand × SV) := (.func f, SV.raw (.func (.func f) #[] #[])) :: opl fs az
theorem fnl_all {f : FuncId} {fs : FL} {az : Array Operand} (h : az.toList.all (fun o => (ev fs o).isSome) = true) : AllE fs (fnl f fs az) := by
  refine ⟨rfl, ?_⟩
  unfold opl
  generalize az.toList = l at *
  induction l with
  | nil => trivial
  | cons o l ih =>
    simp only [List.all_cons, Bool.and_eq_true] at h
    refine ⟨?_, ih h.2⟩
    obtain ⟨x, hx⟩ := Option.isSome_iff_exists.1 h.1
    show ev fs o = some (evD fs o)
    simp [evD, hx]
theorem fnl_to {P : Program} {f : FuncId} {fs : FL} {az : Array Operand} {ats : Array TypeId} {ty : TypeId} (hf : fnB P f = true) : ToFn P ⟨.value (.func f), az, ats⟩ ty (fnl f fs az) f ((opl fs az).map (·.2)) :=
  toFn_func hf (by unfold opl; simp [Function.comp_def])
theorem getT_of {L : TL} {tr : List (Nat × Tok)} (h : getT L (tr.map (·.1)) = tr) : AllT L tr := h ▸ getT_all _
section
variable {P : Program} {n : Nat} {ops : Array Oper} {rest : List Oper} {fs : FL} {L : TL} {K : List Step → FL → TL → Prop} {d : Nat} {az : Array Operand} {ats : Array TypeId} {ty : TypeId} {pos : String} {after : Array Edge} {g : Option (Nat × Bool)} {gr : FL} {f : FuncId} {args : List SV} {ret : SV} {tr ti to : List (Nat × Tok)} {fr : List Nat} {args' : Env → List SV}
theorem K.cR (hf : fnB P f = true) (hs : SCon P f args tr ret tr fr) (hg : Gd ops ⟨some d, .call ⟨.value (.func f), az, ats⟩, ty, pos, after, g⟩ fs gr) (ha : (opl fs az).map (·.2) = args) (hev : az.toList.all (fun o => (ev fs o).isSome) = true) (htk : getT L (tr.map (·.1)) = tr) (hb : (ndB (tr.map (·.1)) && (frB fr fs L && Nat.blt d n)) = true)
    (h : RunK P n ops rest ((d, ret) :: fs) L (fun ss fs' L' => K (⟨gr ++ opds (fnl f fs az), some d, ret, tr, [], [], fr⟩ :: ss) fs' L')) : RunK P n ops (⟨some d, .call ⟨.value (.func f), az, ats⟩, ty, pos, after, g⟩ :: rest) fs L K := by
  subst ha
  simp only [Bool.and_eq_true] at hb
  exact Sx.K.callR (fnl f fs az) hs (fnl_to hf) hg (fnl_all hev) (getT_of htk) hb.1 hb.2.1 hb.2.2 h
theorem K.c0 (hf : fnB P f = true) (hs : SCon P f args ti ret to fr) (hg : Gd ops ⟨some d, .call ⟨.value (.func f), az, ats⟩, ty, pos, after, g⟩ fs gr) (ha : (opl fs az).map (·.2) = args) (hev : az.toList.all (fun o => (ev fs o).isSome) = true) (htk : getT L (ti.map (·.1)) = ti)
    (hb : (ndB (ti.map (·.1)) && (ndB (to.map (·.1)) && (ti.all (fun p => (to.map (·.1)).contains p.1) && (to.all (fun p => (ti.map (·.1)).contains p.1 || (lkT L p.1).isNone) && (frB fr fs L && Nat.blt d n))))) = true)
    (h : RunK P n ops rest ((d, ret) :: fs) (to.map (fun p => (p.1, some p.2)) ++ L) (fun ss fs' L' => K (⟨gr ++ opds (fnl f fs az), some d, ret, [], ti, to, fr⟩ :: ss) fs' L')) : RunK P n ops (⟨some d, .call ⟨.value (.func f), az, ats⟩, ty, pos, after, g⟩ :: rest) fs L K := by
  subst ha
  simp only [Bool.and_eq_true] at hb
  exact Sx.K.call0 (fnl f fs az) hs (fnl_to hf) hg (fnl_all hev) (getT_of htk) hb.1 hb.2.1 hb.2.2.1 hb.2.2.2.1 hb.2.2.2.2.1 hb.2.2.2.2.2 h
theorem K.cV (hf : fnB P f = true) (ks : List Nat) (hs : ∀ (β : Env) (w : World) (S : Foot), Star ((getT L ks).map fun p => p.2.r β) w S → SCon P f (args' β) ((0, rd S w) :: ti) ret ((0, rd S w) :: to) fr) (hg : Gd ops ⟨some d, .call ⟨.value (.func f), az, ats⟩, ty, pos, after, g⟩ fs gr) (ha : ∀ β, (args' β).map (SV.den β) = ((opl fs az).map (·.2)).map (SV.den β))
    (hev : az.toList.all (fun o => (ev fs o).isSome) = true) (htk : getT L (ti.map (·.1)) = ti)
    (hb : (ndB ((getT L ks ++ ti).map (·.1)) && (ndB ((getT L ks ++ to).map (·.1)) && (ti.all (fun p => (to.map (·.1)).contains p.1) && (to.all (fun p => (ti.map (·.1)).contains p.1 || (lkT L p.1).isNone) && (frB fr fs L && Nat.blt d n))))) = true)
    (h : RunK P n ops rest ((d, ret) :: fs) (to.map (fun p => (p.1, some p.2)) ++ L) (fun ss fs' L' => K (⟨gr ++ opds (fnl f fs az), some d, ret, getT L ks, ti, to, fr⟩ :: ss) fs' L')) : RunK P n ops (⟨some d, .call ⟨.value (.func f), az, ats⟩, ty, pos, after, g⟩ :: rest) fs L K := by
  simp only [Bool.and_eq_true] at hb
  have ht : AllT L (getT L ks ++ ti) := by
    have : ∀ l : List (Nat × Tok), AllT L l → AllT L (l ++ ti) := fun l => by
      induction l with
      | nil => intro _; exact getT_of htk
      | cons p l ih => intro h; exact ⟨h.1, ih h.2⟩
    exact this _ (getT_all _)
  exact Sx.K.callV (fnl f fs az) (getT L ks) ti to args' hs (fnl_to hf) hg (fnl_all hev) ha ht hb.1 hb.2.1 hb.2.2.1 hb.2.2.2.1 hb.2.2.2.2.1 hb.2.2.2.2.2 h
theorem K.cC (hf : fnB P f = true) (ks : List Nat) (hs : ∀ (β : Env) (w : World) (S : Foot), Star ((getT L ks).map fun p => p.2.r β) w S → SCon P f (args' β) ((0, rd S w) :: ti) ret ((0, rd S w) :: to) fr) (hg : Gd ops ⟨some d, .call ⟨.value (.func f), az, ats⟩, ty, pos, after, g⟩ fs gr) (ha : ∀ β, (args' β).map (SV.den β) = ((opl fs az).map (·.2)).map (SV.den β))
    (hev : az.toList.all (fun o => (ev fs o).isSome) = true) (htk : getT L (ti.map (·.1)) = ti)
    (hb : (ndB ((getT L ks ++ ti).map (·.1)) && (ndB ((getT L ks ++ to).map (·.1)) && (to.all (fun p => (ti.map (·.1)).contains p.1 || (lkT L p.1).isNone) && (frB fr fs (ti.map (fun p => (p.1, none)) ++ L) && (((getT L ks).flatMap (·.2.ks)).all (fun k => !fr.contains k) && Nat.blt d n))))) = true)
    (h : RunK P n ops rest ((d, ret) :: fs) (to.map (fun p => (p.1, some p.2)) ++ (ti.map (fun p => (p.1, none)) ++ L)) (fun ss fs' L' => K (⟨gr ++ opds (fnl f fs az), some d, ret, getT L ks, ti, to, fr⟩ :: ss) fs' L')) : RunK P n ops (⟨some d, .call ⟨.value (.func f), az, ats⟩, ty, pos, after, g⟩ :: rest) fs L K := by
  simp only [Bool.and_eq_true] at hb
  have ht : AllT L (getT L ks ++ ti) := by
    have : ∀ l : List (Nat × Tok), AllT L l → AllT L (l ++ ti) := fun l => by
      induction l with
      | nil => intro _; exact getT_of htk
      | cons p l ih => intro h; exact ⟨h.1, ih h.2⟩
    exact this _ (getT_all _)
  exact Sx.K.callC (fnl f fs az) (getT L ks) ti to args' hs (fnl_to hf) hg (fnl_all hev) ha ht hb.1 hb.2.1 hb.2.2.1 hb.2.2.2.1 hb.2.2.2.2.1 hb.2.2.2.2.2 h
end
section
variable {C : Ctx} {P : Program} {fs : FL} {L : TL} {Q Q' : Exit → Act → World → Prop}
theorem At.ns {x z : Code} (h : G C P fs L x (Exit.then (fun a w => z.wp P Q a w) Q)) : At C fs L (Exit.then (fun a w => (Code.seq x z).wp P Q a w) Q' .normal) := At.next (G.seq h)
theorem At.nr {z : Code} {id : Nat} {l : List Oper} (h : RunK P C.n l.toArray l fs L (fun _ fs' L' => At C fs' L' (Exit.then (fun a w => z.wp P Q a w) Q .normal))) : At C fs L (Exit.then (fun a w => (Code.seq (.region id l.toArray false) z).wp P Q a w) Q' .normal) := At.ns (G.rg h)
end
end Go.Proofs.Ytheopcgjdfckmaa.Sx

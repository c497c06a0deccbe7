/- Building structs, their fields, small builtins; codes; entering and leaving a function. -/
import Derived.Test.YtheopcgjdfckmaaSxe
namespace Go.Proofs.Ytheopcgjdfckmaa.Sx
open Go
set_option linter.unusedVariables false

/-! ### 10. Structs as values -/
/-- The parts of a literal, by offset and size. -/
def fillC (fl : List (Nat × Nat × TypeId)) : List Cl → List (Nat × Av) → Option (List Cl)
  | cs, [] => some cs
  | cs, (i, y) :: r => match fl[i]? with
    | some (o, s, _) => match Nat.beq y.cl.length s && Nat.ble (o + s) cs.length && y.cl.all Cl.ok1 with
      | true => fillC fl (setAt cs o y.cl) r
      | false => none
    | none => none

theorem foldl_set (β : Env) : ∀ (ys : List Cl) (cs : List Cl) (o j : Nat), o + j + ys.length ≤ cs.length →
    ((ys.map (Cl.den β)).zipIdx j).foldl (fun (a : Array Value) (p : Value × Nat) => a.setIfInBounds (o + p.2) p.1) (cs.map (Cl.den β)).toArray = ((setAt cs (o + j) ys).map (Cl.den β)).toArray
  | [], cs, o, j, _ => by
    rw [setAt_eq _ _ _ (by simpa using by omega)]; simp
  | y :: ys, cs, o, j, h => by
    simp only [List.map_cons, List.zipIdx_cons, List.foldl_cons]
    have h' : o + j < cs.length := by simp at h; omega
    have e : (cs.map (Cl.den β)).toArray.setIfInBounds (o + j) (y.den β) = ((cs.set (o + j) y).map (Cl.den β)).toArray := by
      simp [List.map_set]
    rw [e]
    have := foldl_set β ys (cs.set (o + j) y) o (j + 1) (by simp at h ⊢; omega)
    rw [this]
    congr 2
    rw [setAt_eq _ _ _ (by simp only [List.length_set, List.length_cons] at h ⊢; omega), setAt_eq _ _ _ (by simp only [List.length_cons] at h ⊢; omega)]
    rw [show o + (j + 1) = (o + j) + 1 by omega]
    rw [List.take_succ_eq_append_getElem (by simp; omega)]
    simp [List.take_set_of_le, List.drop_set]
    rw [if_pos (by omega)]
    congr 1; omega

theorem fill_run {P : Program} {T : TypeId} {n : Nat} {fl : List (Nat × Nat × TypeId)} {zs : List Value} (β : Env) (place : Nat → Option (Nat × Nat)) (hpl : ∀ i q, fl[i]? = some q → place i = some (q.1, q.2.1)) : ∀ (ps : List (Nat × Av)) (cs cs' : List Cl), fillC fl cs ps = some cs' →
    Instr.fill place (cs.map (Cl.den β)).toArray (ps.map fun p => (p.1, p.2.den β)) = some (cs'.map (Cl.den β)).toArray
  | [], cs, cs', h => by simp [fillC] at h; subst h; simp [Instr.fill]
  | (i, y) :: r, cs, cs', h => by
    simp only [fillC] at h
    cases hi : fl[i]? with
    | none => rw [hi] at h; cases h
    | some q =>
      obtain ⟨o, s, ft⟩ := q
      rw [hi] at h
      simp only at h
      split at h
      · rename_i hb
        simp only [Bool.and_eq_true] at hb
        obtain ⟨⟨h1, h2⟩, h3⟩ := hb
        have h1 := Nat.eq_of_beq_eq_true h1
        have h2 := Nat.le_of_ble_eq_true h2
        have hc := Av.den_cells h3 β
        simp only [List.map_cons, Instr.fill, hpl i _ hi, hc]
        rw [if_neg (by simp; omega)]
        have := foldl_set β y.cl cs o 0 (by omega)
        simp only [Nat.add_zero] at this
        have ih := fill_run (P := P) (T := T) (n := n) (zs := zs) β place hpl r _ _ h
        rw [← ih]
        congr 1
        simp only [← Array.foldl_toList, Array.toList_zipIdx]
        exact this
      · cases h

theorem run_build {P : Program} {T : TypeId} {n : Nat} {fl : List (Nat × Nat × TypeId)} {zs : List Value} (h : TyS P T n fl zs) (β : Env) (w : World) {ps : List (Nat × Av)} {cs : List Cl} (hf : fillC fl (zs.map .v) ps = some cs) :
    (Instr.build T (ps.map fun p => (p.1, p.2.den β)).toArray).run P w = .ok (.agg (cs.map (Cl.den β)).toArray) w := by
  have := fill_run (P := P) (T := T) (n := n) (zs := zs) β (fun i => (fl[i]?).map fun q => (q.1, q.2.1)) (fun i q hq => by rw [hq]; rfl) ps (zs.map .v) cs hf
  have e0 : zs.toArray = ((zs.map Cl.v).map (Cl.den β)).toArray := by simp [Function.comp_def, Cl.den]
  refine Go.run_build w T _ _ (h.blt _ _ ?_)
  rw [e0]; exact this

section
variable {P : Program} {n : Nat} {ops : Array Oper} {rest : List Oper} {fs fs' : FL} {L L' : TL} {ss : List Step}
theorem Run.build (Y : Tys P) (ys : List (Nat × Av)) (cs : List Cl) {d : Nat} {T : TypeId} {ps : Array (Nat × Operand)} {ty : TypeId} {pos : String} {after : Array Edge} {g : Option (Nat × Bool)} {gr : FL} {N : Nat} {fl : List (Nat × Nat × TypeId)} {zs : List Value} (l : List (Operand × SV)) (hg : Gd ops ⟨some d, .build T ps, ty, pos, after, g⟩ fs gr)
    (hev : ∀ p ∈ l, ev fs p.1 = some p.2) (hps : ps.toList = (List.zip ys l).map fun q => (q.1.1, q.2.1)) (hys : l.map (·.2) = ys.map fun q => .a q.2) (hT : Y.f T = .st N fl zs) (hf : fillC fl (zs.map .v) ys = some cs) (hn : Nat.blt d n = true)
    (h : Run P n ops rest ((d, .a (.agg cs)) :: fs) L ss fs' L') : Run P n ops (⟨some d, .build T ps, ty, pos, after, g⟩ :: rest) fs L (⟨gr ++ opds l, some d, .a (.agg cs), [], [], [], []⟩ :: ss) fs' L' :=
  Run.pure l (.a (.agg cs)) rfl hg hev hn (fun β ρ w hρ => by
    have hty : TyS P T N fl zs := by have := Y.ok T; rw [hT] at this; exact this
    have e : ps.map (fun (i, x) => (i, ρ x)) = (ys.map fun p => (p.1, p.2.den β)).toArray := by
      apply Array.ext'
      simp only [Array.toList_map, hps, List.map_map]
      clear hps hf hev
      induction ys generalizing l with
      | nil => simp
      | cons q ys ih =>
        cases l with
        | nil => simp at hys
        | cons p l =>
          simp only [List.map_cons, List.cons.injEq] at hys
          have h1 := hρ p (by simp)
          simp only [List.zip_cons_cons, List.map_cons, Function.comp, h1, hys.1]
          rw [show (SV.a q.2).den β = q.2.den β from rfl]
          congr 1
          exact ih l hys.2 (fun p hp => hρ p (by simp [hp]))
    simp only [execOp]
    rw [e, run_bind_ok (run_build hty β w hf)]; rfl) h
/-- A field of a struct value: one cell, or a struct. -/
theorem Run.field1 (Y : Tys P) {d : Nat} {T : TypeId} {x : Operand} {i : Nat} {ty : TypeId} {pos : String} {after : Array Edge} {g : Option (Nat × Bool)} {gr : FL} {N o s ft : Nat} {fl : List (Nat × Nat × TypeId)} {zs : List Value} {cs : List Cl} {z : Value} {y : Cl} (hg : Gd ops ⟨some d, .field T x i, ty, pos, after, g⟩ fs gr)
    (hx : ev fs x = some (.a (.agg cs))) (hT : Y.f T = .st N fl zs) (hf : fl[i]? = some (o, s, ft)) (hft : Y.f ft = .one z) (hy : cs[o]? = some y) (hn : Nat.blt d n = true)
    (h : Run P n ops rest ((d, .a (.c y)) :: fs) L ss fs' L') : Run P n ops (⟨some d, .field T x i, ty, pos, after, g⟩ :: rest) fs L (⟨gr ++ opds [(x, .a (.agg cs))], some d, .a (.c y), [], [], [], []⟩ :: ss) fs' L' :=
  Run.pure [(x, .a (.agg cs))] (.a (.c y)) rfl hg (fun p hp => by simp at hp; subst hp; exact hx) hn (fun β ρ w hρ => by
    have h1 : ρ x = .agg (cs.map (Cl.den β)).toArray := hρ (x, .a (.agg cs)) (by simp)
    have hty : TyS P T N fl zs := by have := Y.ok T; rw [hT] at this; exact this
    have hty' : Ty1 P ft z := by have := Y.ok ft; rw [hft] at this; exact this
    obtain ⟨fds, hd, _, hfl⟩ := hty.und (by rintro rfl; simp at hf)
    obtain ⟨f, e1, e2, _, e3, _⟩ := hfl i o s ft hf
    have hr : (Instr.field T (.agg (cs.map (Cl.den β)).toArray) i).run P w = .ok (y.den β) w := by
      unfold Instr.field
      rw [run_bind_ok (run_und hd w)]
      simp only [e1, asAgg, Sem.run_bind, Sem.run_pure, Result.andThen_ok]
      unfold part
      rw [e3, run_bind_ok (hty'.agg w)]
      simp [e2, hy]
    simp only [execOp, h1]
    rw [run_bind_ok hr]; rfl) h
theorem Run.fieldS (Y : Tys P) (ys : List Cl) {d : Nat} {T : TypeId} {x : Operand} {i : Nat} {ty : TypeId} {pos : String} {after : Array Edge} {g : Option (Nat × Bool)} {gr : FL} {N M o s ft : Nat} {fl fl' : List (Nat × Nat × TypeId)} {zs zs' : List Value} {cs : List Cl} (hg : Gd ops ⟨some d, .field T x i, ty, pos, after, g⟩ fs gr)
    (hx : ev fs x = some (.a (.agg cs))) (hT : Y.f T = .st N fl zs) (hf : fl[i]? = some (o, s, ft)) (hft : Y.f ft = .st M fl' zs') (hy : (cs.drop o).take M = ys) (hn : Nat.blt d n = true)
    (h : Run P n ops rest ((d, .a (.agg ys)) :: fs) L ss fs' L') : Run P n ops (⟨some d, .field T x i, ty, pos, after, g⟩ :: rest) fs L (⟨gr ++ opds [(x, .a (.agg cs))], some d, .a (.agg ys), [], [], [], []⟩ :: ss) fs' L' :=
  Run.pure [(x, .a (.agg cs))] (.a (.agg ys)) rfl hg (fun p hp => by simp at hp; subst hp; exact hx) hn (fun β ρ w hρ => by
    have h1 : ρ x = .agg (cs.map (Cl.den β)).toArray := hρ (x, .a (.agg cs)) (by simp)
    have hty : TyS P T N fl zs := by have := Y.ok T; rw [hT] at this; exact this
    have hty' : TyS P ft M fl' zs' := by have := Y.ok ft; rw [hft] at this; exact this
    obtain ⟨fds, hd, _, hfl⟩ := hty.und (by rintro rfl; simp at hf)
    obtain ⟨f, e1, e2, _, e3, _⟩ := hfl i o s ft hf
    have hr : (Instr.field T (.agg (cs.map (Cl.den β)).toArray) i).run P w = .ok (.agg (ys.map (Cl.den β)).toArray) w := by
      unfold Instr.field
      rw [run_bind_ok (run_und hd w)]
      simp only [e1, asAgg, Sem.run_bind, Sem.run_pure, Result.andThen_ok]
      unfold part
      rw [e3, run_bind_ok (hty'.agg w)]
      simp only [if_true]
      rw [run_bind_ok (hty'.size w)]
      simp only [Sem.run_pure, e2, ← hy]
      congr 2
      simp [List.map_take, List.map_drop]
    simp only [execOp, h1]
    rw [run_bind_ok hr]; rfl) h
/-- A builtin on values without names. -/
theorem Run.bi2 {d : Nat} {b : Builtin} {x z : Operand} {ats : Array TypeId} {T : TypeId} {pos : String} {after : Array Edge} {g : Option (Nat × Bool)} {gr : FL} {X Z V : Value} (hg : Gd ops ⟨some d, .call ⟨.builtin b, #[x, z], ats⟩, T, pos, after, g⟩ fs gr)
    (hx : ev fs x = some (SV.raw X)) (hz : ev fs z = some (SV.raw Z)) (hr : ∀ c w, (builtin b ats T c #[X, Z]).run P w = .ok (.value V) w) (hn : Nat.blt d n = true)
    (h : Run P n ops rest ((d, SV.raw V) :: fs) L ss fs' L') : Run P n ops (⟨some d, .call ⟨.builtin b, #[x, z], ats⟩, T, pos, after, g⟩ :: rest) fs L (⟨gr ++ opds [(x, SV.raw X), (z, SV.raw Z)], some d, SV.raw V, [], [], [], []⟩ :: ss) fs' L' :=
  Run.pure [(x, SV.raw X), (z, SV.raw Z)] (SV.raw V) rfl hg (fun p hp => by simp at hp; rcases hp with rfl | rfl <;> assumption) hn (fun β ρ w hρ => by
    have h1 : ρ x = X := hρ (x, SV.raw X) (by simp)
    have h2 : ρ z = Z := hρ (z, SV.raw Z) (by simp)
    simp only [execOp, resolve, Sem.run_bind, Sem.run_pure, Result.andThen_ok, invoke, List.map_toArray, List.map_cons, List.map_nil, h1, h2]
    exact hr _ w) h
theorem Run.bi1 {d : Nat} {b : Builtin} {x : Operand} {ats : Array TypeId} {T : TypeId} {pos : String} {after : Array Edge} {g : Option (Nat × Bool)} {gr : FL} {X : SV} {V : Value} (hg : Gd ops ⟨some d, .call ⟨.builtin b, #[x], ats⟩, T, pos, after, g⟩ fs gr)
    (hx : ev fs x = some X) (hr : ∀ β c w, (builtin b ats T c #[X.den β]).run P w = .ok (.value V) w) (hn : Nat.blt d n = true)
    (h : Run P n ops rest ((d, SV.raw V) :: fs) L ss fs' L') : Run P n ops (⟨some d, .call ⟨.builtin b, #[x], ats⟩, T, pos, after, g⟩ :: rest) fs L (⟨gr ++ opds [(x, X)], some d, SV.raw V, [], [], [], []⟩ :: ss) fs' L' :=
  Run.pure [(x, X)] (SV.raw V) rfl hg (fun p hp => by simp at hp; subst hp; exact hx) hn (fun β ρ w hρ => by
    have h1 : ρ x = X.den β := hρ (x, X) (by simp)
    simp only [execOp, resolve, Sem.run_bind, Sem.run_pure, Result.andThen_ok, invoke, List.map_toArray, List.map_cons, List.map_nil, h1]
    exact hr β _ w) h
end

def ndB : List Nat → Bool
  | [] => true
  | k :: l => !l.contains k && ndB l
theorem ndB_spec : ∀ {l : List Nat}, ndB l = true → l.Nodup
  | [], _ => List.nodup_nil
  | k :: l, h => by
    simp only [ndB, Bool.and_eq_true, Bool.not_eq_true'] at h
    exact List.nodup_cons.2 ⟨by simpa using h.1, ndB_spec h.2⟩
/-- Every token of a list is there. -/
def AllT (L : TL) : List (Nat × Tok) → Prop
  | [] => True
  | p :: l => lkT L p.1 = some p.2 ∧ AllT L l
theorem AllT.spec {L : TL} : ∀ {l : List (Nat × Tok)}, AllT L l → ∀ p ∈ l, lkT L p.1 = some p.2
  | _ :: _, h, p, hp => by
    rcases List.mem_cons.1 hp with rfl | hp
    · exact h.1
    · exact AllT.spec h.2 p hp
def AllE (fs : FL) : List (Operand × SV) → Prop
  | [] => True
  | p :: l => ev fs p.1 = some p.2 ∧ AllE fs l
theorem AllE.spec {fs : FL} : ∀ {l : List (Operand × SV)}, AllE fs l → ∀ p ∈ l, ev fs p.1 = some p.2
  | _ :: _, h, p, hp => by
    rcases List.mem_cons.1 hp with rfl | hp
    · exact h.1
    · exact AllE.spec h.2 p hp

section
variable {P : Program} {n : Nat} {ops : Array Oper} {rest : List Oper} {fs fs' : FL} {L L' : TL} {ss : List Step}
/-- An operator on two values, of whatever kind. -/
theorem Run.binA {d : Nat} {op : BinOp} {t ty : TypeId} {x z : Operand} {T : TypeId} {pos : String} {after : Array Edge} {g : Option (Nat × Bool)} {gr : FL} {X Z : SV} {V : Value} (hg : Gd ops ⟨some d, .binOp op t x z ty, T, pos, after, g⟩ fs gr)
    (hx : ev fs x = some X) (hz : ev fs z = some Z) (hr : ∀ β w, (do eqGuard op t x z (X.den β) (Z.den β); binOp op t (X.den β) (Z.den β) : Sem Value).run P w = .ok V w) (hn : Nat.blt d n = true)
    (h : Run P n ops rest ((d, SV.raw V) :: fs) L ss fs' L') : Run P n ops (⟨some d, .binOp op t x z ty, T, pos, after, g⟩ :: rest) fs L (⟨gr ++ opds [(x, X), (z, Z)], some d, SV.raw V, [], [], [], []⟩ :: ss) fs' L' :=
  Run.pure [(x, X), (z, Z)] (SV.raw V) rfl hg (fun p hp => by simp at hp; rcases hp with rfl | rfl <;> assumption) hn (fun β ρ w hρ => by
    have h1 : ρ x = X.den β := hρ (x, X) (by simp)
    have h2 : ρ z = Z.den β := hρ (z, Z) (by simp)
    simp only [execOp, h1, h2]
    rw [run_bind_ok (hr β w)]; rfl) h
/-- A call of a reader: its tokens stay. -/
theorem Run.callR {d : Nat} {c : Call} {ty : TypeId} {pos : String} {after : Array Edge} {g : Option (Nat × Bool)} {gr : FL} {f : FuncId} {args : List SV} {tr : List (Nat × Tok)} {fr : List Nat} {ret : SV} (l : List (Operand × SV)) (hs : SCon P f args tr ret tr fr) (hc : ToFn P c ty l f args) (hg : Gd ops ⟨some d, .call c, ty, pos, after, g⟩ fs gr) (hev : AllE fs l)
    (htk : AllT L tr) (hnd : ndB (tr.map (·.1)) = true) (hfr : frB fr fs L = true) (hn : Nat.blt d n = true)
    (h : Run P n ops rest ((d, ret) :: fs) L ss fs' L') : Run P n ops (⟨some d, .call c, ty, pos, after, g⟩ :: rest) fs L (⟨gr ++ opds l, some d, ret, tr, [], [], fr⟩ :: ss) fs' L' :=
  Run.call (tr := tr) (ti := []) (to := []) l (by simpa using hs) hc hg hev.spec (by simpa using htk.spec) (by simpa using ndB_spec hnd) (by simpa using ndB_spec hnd) (fun p hp => by simp at hp) (fun p hp => by simp at hp) hfr hn h
/-- A call by its contract. -/
theorem Run.call0 {d : Nat} {c : Call} {ty : TypeId} {pos : String} {after : Array Edge} {g : Option (Nat × Bool)} {gr : FL} {f : FuncId} {args : List SV} {ti to : List (Nat × Tok)} {fr : List Nat} {ret : SV} (l : List (Operand × SV))
    (hs : SCon P f args ti ret to fr) (hc : ToFn P c ty l f args) (hg : Gd ops ⟨some d, .call c, ty, pos, after, g⟩ fs gr) (hev : AllE fs l)
    (htk : AllT L ti) (hnd : ndB (ti.map (·.1)) = true) (hnd' : ndB (to.map (·.1)) = true) (hsub : ti.all (fun p => (to.map (·.1)).contains p.1) = true) (hout : to.all (fun p => (ti.map (·.1)).contains p.1 || (lkT L p.1).isNone) = true)
    (hfr : frB fr fs L = true) (hn : Nat.blt d n = true)
    (h : Run P n ops rest ((d, ret) :: fs) (to.map (fun p => (p.1, some p.2)) ++ L) ss fs' L') : Run P n ops (⟨some d, .call c, ty, pos, after, g⟩ :: rest) fs L (⟨gr ++ opds l, some d, ret, [], ti, to, fr⟩ :: ss) fs' L' :=
  Run.call (tr := []) l hs hc hg hev.spec htk.spec (ndB_spec hnd) (ndB_spec hnd') (fun p hp => by simpa using List.all_eq_true.1 hsub p hp) (fun p hp => by
    have := List.all_eq_true.1 hout p hp
    rw [Bool.or_eq_true] at this
    rcases this with h | h
    · exact .inl (by simpa using h)
    · exact .inr (by simpa using h)) hfr hn h
end
theorem mkI {P : Program} {s : TypeId} {d : TypeDesc} (h : P.underlying s = some d) (hd : (match d with | .interface _ => false | _ => true) = true) (X : Value) (w : World) : (Instr.makeInterface s X).run P w = .ok (.iface s X) w := by
  unfold Instr.makeInterface
  rw [run_bind_ok (run_und h w)]
  cases d <;> first | rfl | cases hd
theorem lenS {P : Program} {t e T : TypeId} (h : P.underlying t = some (.slice e)) {ao : Option Addr} {len cap : Nat} (c : Array Bool) (w : World) : (builtin .len #[t] T c #[.slice ao len cap]).run P w = .ok (.value (.int .i64 (len : Int))) w := by
  have : (Builtin.len_ #[t] T #[.slice ao len cap]).run P w = .ok (.int .i64 (len : Int)) w := by
    unfold Builtin.len_
    simp only [List.getElem?_toArray, List.getElem?_cons_zero]
    rw [run_bind_ok (run_und h w)]; rfl
  unfold builtin
  rw [run_bind_ok this]; rfl
theorem lenStr {P : Program} {t T : TypeId} (h : P.underlying t = some .string) {s : ByteArray} (c : Array Bool) (w : World) : (builtin .len #[t] T c #[.string s]).run P w = .ok (.value (.int .i64 (s.size : Int))) w := by
  have : (Builtin.len_ #[t] T #[.string s]).run P w = .ok (.int .i64 (s.size : Int)) w := by
    unfold Builtin.len_
    simp only [List.getElem?_toArray, List.getElem?_cons_zero]
    rw [run_bind_ok (run_und h w)]; rfl
  unfold builtin
  rw [run_bind_ok this]; rfl

/-- A result, as the frame and the tokens have it. -/
inductive ResIs (Y : TypeId → TyI) (fs : FL) (L : TL) : ResultVar → Av → Prop
  | tmp {t : Nat} {y : Av} (h : lk fs t = some (.a y)) : ResIs Y fs L (.tmp t) y
  | one {t : Nat} {T : TypeId} {k off : Nat} {cs : List Cl} {Tb : TypeId} {z : Value} {y : Cl} (h : lk fs t = some (SV.p k off)) (hl : lkT L k = some (blk k cs Tb)) (hT : Y T = .one z) (hy : cs[off]? = some y) : ResIs Y fs L (.cell t T) (.c y)
  | st {t : Nat} {T : TypeId} {k off N : Nat} {cs ys : List Cl} {Tb : TypeId} {fl : List (Nat × Nat × TypeId)} {zs : List Value} (h : lk fs t = some (SV.p k off)) (hl : lkT L k = some (blk k cs Tb)) (hT : Y T = .st N fl zs) (hy : (cs.drop off).take N = ys) (hle : Nat.ble (off + N) cs.length = true) : ResIs Y fs L (.cell t T) (.agg ys)

def AllR (Y : TypeId → TyI) (fs : FL) (L : TL) : List (ResultVar × Av) → Prop
  | [] => True
  | p :: l => ResIs Y fs L p.1 p.2 ∧ AllR Y fs L l
theorem AllR.spec {Y : TypeId → TyI} {fs : FL} {L : TL} : ∀ {l : List (ResultVar × Av)}, AllR Y fs L l → ∀ p ∈ l, ResIs Y fs L p.1 p.2
  | _ :: _, h, p, hp => by
    rcases List.mem_cons.1 hp with rfl | hp
    · exact h.1
    · exact AllR.spec h.2 p hp

/-! ### 11. Codes -/
/-- From a state on, this code comes to Q. -/
def G (C : Ctx) (P : Program) (fs : FL) (L : TL) (c : Code) (Q : Exit → Act → World → Prop) : Prop :=
  ∀ a w, Holds C (lk fs) (lkT L) a w → c.wp P Q a w
/-- From a state on, R. -/
def At (C : Ctx) (fs : FL) (L : TL) (R : Act → World → Prop) : Prop := ∀ a w, Holds C (lk fs) (lkT L) a w → R a w

section
variable {C : Ctx} {P : Program} {fs fs' : FL} {L L' : TL} {Q : Exit → Act → World → Prop}
theorem G.region {id : Nat} {l : List Oper} {ss : List Step} (h : Run P C.n l.toArray l fs L ss fs' L') (hq : At C fs' L' (Q .normal)) : G C P fs L (.region id l.toArray false) Q :=
  fun a w hh => wp_region_lit (h.sound hh hq)
theorem G.regionD {id : Nat} {l : List Oper} {ss : List Step} (hm : P.follows .mixedOrders = true) (h : Run P C.n l.toArray l fs L ss fs' L') (hp : parB l ss fs L = true) (hq : At C fs' L' (Q .normal)) : G C P fs L (.region id l.toArray true) Q :=
  fun a w hh => wp_par hm h hp hq hh
theorem G.seq {x y : Code} (h : G C P fs L x (Exit.then (fun a w => y.wp P Q a w) Q)) : G C P fs L (.seq x y) Q := fun a w hh => wp_seq (h a w hh)
/-- On to what stands behind. -/
theorem At.next {y : Code} {Q' : Exit → Act → World → Prop} (h : G C P fs L y Q) : At C fs L (Exit.then (fun a w => y.wp P Q a w) Q' .normal) := h
theorem At.over_ret {nx : Act → World → Prop} (h : At C fs L (Q .ret)) : At C fs L (Exit.then nx Q .ret) := h
theorem At.over_exit {nx : Act → World → Prop} {id : Nat} (h : At C fs L (Q (.exit id))) : At C fs L (Exit.then nx Q (.exit id)) := h
theorem At.block_ret {id : Nat} (h : At C fs L (Q .ret)) : At C fs L (Exit.inBlock id Q .ret) := h
theorem At.block_normal {id : Nat} (h : At C fs L (Q .normal)) : At C fs L (Exit.inBlock id Q .normal) := h
theorem At.block_hit {id : Nat} (h : At C fs L (Q .normal)) : At C fs L (Exit.inBlock id Q (.exit id)) := fun a w hh => by simp only [Exit.inBlock, if_true]; exact h a w hh
theorem At.block_miss {id id' : Nat} (hne : Nat.beq id' id = false) (h : At C fs L (Q (.exit id'))) : At C fs L (Exit.inBlock id Q (.exit id')) := fun a w hh => by
  simp only [Exit.inBlock]
  rw [if_neg (fun e => by rw [e] at hne; simp at hne)]
  exact h a w hh
theorem G.skip (h : At C fs L (Q .normal)) : G C P fs L .skip Q := fun a w hh => wp_skip (h a w hh)
theorem G.ret (h : At C fs L (Q .ret)) : G C P fs L .ret Q := fun a w hh => wp_ret (h a w hh)
theorem G.exit {id : Nat} (h : At C fs L (Q (.exit id))) : G C P fs L (.exit id) Q := fun a w hh => wp_exit (h a w hh)
theorem G.block {id : Nat} {c : Code} (h : G C P fs L c (Exit.inBlock id Q)) : G C P fs L (.block id c) Q := fun a w hh => wp_block (h a w hh)
theorem eval_of {fs : FL} {f : Nat → Option SV} {L : TL} {a : Act} {w : World} {o : Operand} {x : SV} (hh : Holds C (lk fs) (lkT L) a w) (h : ev fs o = some x) : ∃ β : Env, a.eval o = x.den β := by
  obtain ⟨β, F, _, h2, _⟩ := hh
  refine ⟨β, ?_⟩
  cases o with
  | tmp t => exact h2 t x h
  | const v => simp only [ev, Option.some.injEq] at h; subst h; rfl
  | func f => simp only [ev, Option.some.injEq] at h; subst h; rfl
  | global g => simp only [ev, Option.some.injEq] at h; subst h; rfl
theorem G.cond {c : Operand} {x y : Code} {t : Bool} (hc : ev fs c = some (SV.b t)) (ht : t = true → G C P fs L x Q) (hf : t = false → G C P fs L y Q) : G C P fs L (.cond c x y) Q := by
  intro a w hh
  obtain ⟨β, he⟩ := eval_of (f := lk fs) hh hc
  exact wp_cond_split (t := t) he (fun h => ht h a w hh) (fun h => hf h a w hh)
theorem G.mono {c : Code} {Q' : Exit → Act → World → Prop} (h : G C P fs L c Q) (hq : ∀ e a w, Q e a w → Q' e a w) : G C P fs L c Q' := fun a w hh => wp_mono (h a w hh) hq

/-! ### 12. Entering and leaving -/
theorem holds_enter {W : World} {F0 : Foot} {β0 : Env} {N : Nat} {args : List SV} {ti : List (Nat × Tok)} (hs : Star (ti.map fun p => p.2.r β0) W F0) (hn : Nat.ble args.length N = true) (hnd : (ti.map (·.1)).Nodup) :
    Holds ⟨W, F0, β0, N⟩ (lk ((List.range args.length).zip args)) (lkT (ti.map fun p => (p.1, some p.2))) { tmps := (args.map (SV.den β0)).toArray ++ Array.replicate (N - (args.map (SV.den β0)).toArray.size) undef, defers := [] } W := by
  have hle : args.length ≤ N := Nat.le_of_ble_eq_true hn
  have key : ∀ (k : Nat) (l : List SV) (t : Nat) (x : SV), lk ((List.range' k l.length).zip l) t = some x → k ≤ t ∧ l[t - k]? = some x := by
    intro k l
    induction l generalizing k with
    | nil => intro t x h; simp [lk] at h
    | cons y l ih =>
      intro t x h
      simp only [List.length_cons, List.range'_succ, List.zip_cons_cons, lk] at h
      split at h
      · rename_i hb
        have := Nat.eq_of_beq_eq_true hb
        simp at this h
        subst this; subst h
        exact ⟨Nat.le_refl _, by simp⟩
      · obtain ⟨h1, h2⟩ := ih (k + 1) t x h
        refine ⟨by omega, ?_⟩
        rw [show t - k = (t - (k + 1)) + 1 by omega]; simpa using h2
  have key0 : ∀ (t : Nat) (x : SV), lk ((List.range args.length).zip args) t = some x → args[t]? = some x := by
    intro t x h
    rw [List.range_eq_range'] at h
    have := (key 0 args t x h).2
    simpa using this
  refine ⟨β0, F0, fun _ _ => rfl, fun t x h => ?_, fun t h => ?_, by simp; omega, rfl, ?_, fun b hb => .inl hb, Mod.refl _ _⟩
  · have h1 := key0 t x h
    have hlt := (List.getElem?_eq_some_iff.1 h1).1
    simp only [Array.getD_eq_getD_getElem?]
    rw [Array.getElem?_append_left (by simpa using hlt)]
    simp [h1]
  · obtain ⟨x, hx⟩ := Option.isSome_iff_exists.1 h
    have hlt := (List.getElem?_eq_some_iff.1 (key0 t x hx)).1
    simp; omega
  · have h0 : StarM (fun _ => none) β0 W (fun _ => False) := ⟨fun _ _ => False, ⟨fun _ _ h => (by cases h), fun _ _ _ h => h, fun _ _ _ _ h => False.elim h, fun b => by simp⟩⟩
    have := StarM.puts (l := ti) (F := F0) h0 (fun _ _ => rfl) hnd hs (fun _ _ h => h) (fun b => by simp)
    refine this.congr (fun k => ?_)
    have e1 : ∀ (to : List (Nat × Tok)), lkT (to.map (fun p => (p.1, some p.2))) k = lkP to k := by
      intro to
      induction to with
      | nil => rfl
      | cons p to ih =>
        rw [List.map_cons, lkT_cons]
        simp only [upd, lkP]
        split <;> simp [ih]
    rw [e1, puts_eq]; simp

/-- A function's contract, out of its body. -/
theorem spec_of (fs0 : FL) (L0 : TL) (N : Nat) {f : FuncId} {fn : Func} {c : Code} {args : List SV} {ti to : List (Nat × Tok)} {ret : SV} {fr : List Nat} (hf : P.funcs[f]? = some fn) (hb : fn.body = some c) (hN : fn.ntmps = N) (h0 : (List.range args.length).zip args = fs0) (h1 : ti.map (fun p => (p.1, some p.2)) = L0)
    (hn : Nat.ble args.length N = true) (hnd : ndB (ti.map (·.1)) = true)
    (h : ∀ (β : Env) (W : World) (F : Foot), G ⟨W, F, β, N⟩ P fs0 L0 c (bodyPost P fn (Ret F W fr β ret to))) : SCon P f args ti ret to fr := by
  intro β w F hs
  subst hN h0 h1
  exact calls_of_wp hf hb (h β w F _ _ (holds_enter hs hn (ndB_spec hnd)))
theorem spec_of0 {f : FuncId} {fn : Func} {c : Code} {args : List SV} {ti to : List (Nat × Tok)} {ret : SV} {fr : List Nat} (hf : P.funcs[f]? = some fn) (hb : fn.body = some c) (hn : Nat.ble args.length fn.ntmps = true) (hnd : (ti.map (·.1)).Nodup)
    (h : ∀ (β : Env) (W : World) (F : Foot), G ⟨W, F, β, fn.ntmps⟩ P ((List.range args.length).zip args) (ti.map fun p => (p.1, some p.2)) c (bodyPost P fn (Ret F W fr β ret to))) : SCon P f args ti ret to fr := by
  intro β w F hs
  exact calls_of_wp hf hb (h β w F _ _ (holds_enter hs hn hnd))

/-- Tokens at the end: those of a list, under the end's names. -/
theorem star_end {m : Nat → Option Tok} {β : Env} {w : World} {F : Foot} (hs : StarM m β w F) {to : List (Nat × Tok)} (ht : ∀ p ∈ to, m p.1 = some p.2) (hnd : (to.map (·.1)).Nodup) : ∃ F' : Foot, Star (to.map fun p => p.2.r β) w F' ∧ ∀ b, F' b → F b := by
  obtain ⟨F1, F2, e, _, h1, _⟩ := hs.takes ht hnd
  exact ⟨F1, h1, fun b hb => (e b).2 (.inl hb)⟩

/-- The end of a function: its results are what they are, and so are the tokens. -/
theorem At.fin {fn : Func} {to : List (Nat × Tok)} {ret : SV} {fr : List Nat} {F0 : Foot} {W : World} {β0 : Env} {N : Nat}
    (hr : ∀ (β : Env) (a : Act) (w : World) (F : Foot), (∀ t x, lk fs t = some x → a.tmps.getD t undef = x.den β) → StarM (lkT L) β w F → (results fn a.tmps).run P w = .ok (ret.den β) w)
    (ht : ∀ p ∈ to, lkT L p.1 = some p.2) (hnd : (to.map (·.1)).Nodup) (hfr : ∀ k ∈ fr, 20 ≤ k) (hks : ∀ k ∈ ret.ks ++ to.flatMap (·.2.ks), k ∈ fr ∨ k < 20) :
    (At ⟨W, F0, β0, N⟩ fs L (bodyPost P fn (Ret F0 W fr β0 ret to) .ret)) := by
  intro a w hh
  obtain ⟨β, F, h1, h2, h3, h4, h5, h6, h7, h8⟩ := hh
  refine ⟨h5, ret.den β, hr β a w F h2 h6, ?_⟩
  obtain ⟨F', hs, hF'⟩ := star_end h6 ht hnd
  refine ⟨fun k => if k ∈ fr then β k else β0 k, fun k hk => if_neg hk, ?_, F', ?_, fun b hb => h7 b (hF' b hb), h8⟩
  · congr 1
    refine SV.den_congr ret (fun k hk => ?_)
    by_cases e : k ∈ fr
    · rw [if_pos e]
    · rw [if_neg e]
      exact h1 k ((hks k (List.mem_append_left _ hk)).resolve_left e)
  · have : (to.map fun p => p.2.r β) = to.map fun p => p.2.r (fun k => if k ∈ fr then β k else β0 k) := List.map_congr_left (fun p hp => p.2.sup (fun k hk => by
      by_cases e : k ∈ fr
      · rw [if_pos e]
      · rw [if_neg e]
        exact h1 k ((hks k (List.mem_append_right _ (List.mem_flatMap.2 ⟨p, hp, hk⟩))).resolve_left e)))
    rw [← this]; exact hs

def rvSem (tmps : Array Value) : ResultVar → Sem Value
  | .tmp t => pure (tmps.getD t undef)
  | .cell t T => do loadVar T (← asAddr (tmps.getD t undef))
theorem ResIs.run (Y : Tys P) {rv : ResultVar} {y : Av} (h : ResIs Y.f fs L rv y) {β : Env} {a : Act} {w : World} {F : Foot} (hf : ∀ t x, lk fs t = some x → a.tmps.getD t undef = x.den β) (hs : StarM (lkT L) β w F) :
    (rvSem a.tmps rv).run P w = .ok (y.den β) w := by
  cases h with
  | tmp h => simp only [rvSem, Sem.run_pure, hf _ _ h]; rfl
  | one h hl hT hy =>
    rename_i t T k off cs Tb z y
    obtain ⟨F1, F2, _, _, h1, _⟩ := hs.take hl
    have e := hf _ _ h
    simp only [rvSem]
    rw [e]
    have hty : Ty1 P T z := by have := Y.ok T; rw [hT] at this; exact this
    have := run_load1 hty h1.2 (off := off) (v := y.den β) (by simp [hy])
    unfold Instr.loadAt Instr.sureAddr at this
    simpa [SV.den, Av.den, Cl.den, asAddr] using this
  | st h hl hT hy hle =>
    rename_i t T k off N cs ys Tb fl zs
    obtain ⟨F1, F2, _, _, h1, _⟩ := hs.take hl
    have e := hf _ _ h
    simp only [rvSem]
    rw [e]
    have hty : TyS P T N fl zs := by have := Y.ok T; rw [hT] at this; exact this
    have hle' : off + N ≤ cs.length := Nat.le_of_ble_eq_true hle
    have := run_loadS hty h1.2 (off := off) (by simpa using hle')
    unfold Instr.loadAt Instr.sureAddr at this
    have e : (((cs.map (Cl.den β)).drop off).take N) = ys.map (Cl.den β) := by rw [← hy, List.map_take, List.map_drop]
    rw [e] at this
    simpa [SV.den, Av.den, Cl.den, asAddr] using this

theorem mapM_run (f : ResultVar → Sem Value) : ∀ (l : List ResultVar) (vs : List Value) (w : World), l.length = vs.length → (∀ (j : Nat) rv v, l[j]? = some rv → vs[j]? = some v → (f rv).run P w = .ok v w) → (l.mapM f).run P w = .ok vs w
  | [], [], w, _, _ => by simp
  | rv :: l, v :: vs, w, h, hf => by
    have h0 := hf 0 rv v rfl rfl
    have ih := mapM_run f l vs w (by simpa using h) (fun j rv' v' h1 h2 => hf (j + 1) rv' v' (by simpa using h1) (by simpa using h2))
    simp only [List.mapM_cons, Sem.run_bind, h0, Result.andThen_ok, ih, Sem.run_pure]

theorem res_run (Y : Tys P) {fn : Func} {l : List (ResultVar × Av)} (hr : fn.results = (l.map (·.1)).toArray) (hl : ∀ p ∈ l, ResIs Y.f fs L p.1 p.2) {β : Env} {a : Act} {w : World} {F : Foot} (hf : ∀ t x, lk fs t = some x → a.tmps.getD t undef = x.den β) (hs : StarM (lkT L) β w F) :
    (results fn a.tmps).run P w = .ok (if h : (l.map fun p => p.2.den β).length = 1 then (l.map fun p => p.2.den β)[0] else .tuple (l.map fun p => p.2.den β).toArray) w := by
  have e : results fn a.tmps = (do let vs ← fn.results.mapM (rvSem a.tmps); pure (if h : vs.size = 1 then vs[0] else .tuple vs)) := by
    unfold results
    congr 1
  have hm : (((l.map (·.1)).toArray).mapM (rvSem a.tmps)).run P w = .ok (l.map fun p => p.2.den β).toArray w := by
    rw [List.mapM_toArray]
    have := mapM_run (P := P) (rvSem a.tmps) (l.map (·.1)) (l.map fun p => p.2.den β) w (by simp) (fun j rv v h1 h2 => by
        simp only [List.getElem?_map, Option.map_eq_some_iff] at h1 h2
        obtain ⟨p, hp, rfl⟩ := h1
        obtain ⟨q, hq, rfl⟩ := h2
        rw [hp] at hq; cases hq
        exact (hl p (List.mem_of_getElem? hp)).run Y hf hs)
    rw [Sem.run_map, this]; rfl
  rw [e, hr, run_bind_ok hm]
  simp

def ksB (ks fr : List Nat) : Bool := ks.all fun k => fr.contains k || Nat.blt k 20
/-- One result, or several, or none. -/
def retOf : List Av → SV
  | [y] => .a y
  | l => .tup l
theorem At.leave (Y : Tys P) {fn : Func} {to : List (Nat × Tok)} {fr : List Nat} {F0 : Foot} {W : World} {β0 : Env} {N : Nat} (l : List (ResultVar × Av)) (hr : fn.results = (l.map (·.1)).toArray) (hl : ∀ p ∈ l, ResIs Y.f fs L p.1 p.2)
    (ht : ∀ p ∈ to, lkT L p.1 = some p.2) (hnd : (to.map (·.1)).Nodup) (hfr : ∀ k ∈ fr, 20 ≤ k) (hks : ∀ k ∈ (retOf (l.map (·.2))).ks ++ to.flatMap (·.2.ks), k ∈ fr ∨ k < 20) :
    At ⟨W, F0, β0, N⟩ fs L (bodyPost P fn (Ret F0 W fr β0 (retOf (l.map (·.2))) to) .ret) := by
  refine At.fin (fun β a w F hf hs => ?_) ht hnd hfr hks
  rw [res_run Y hr hl hf hs]
  congr 1
  match l with
  | [] => rfl
  | [p] => rfl
  | p :: q :: r => simp [retOf, SV.den, Function.comp_def]

/-- The end, told as the contract tells it. -/
theorem At.done (Y : Tys P) {fn : Func} {to to' : List (Nat × Tok)} {ret : SV} {fr : List Nat} {F0 : Foot} {W : World} {β0 : Env} {N : Nat} {e : Exit} (l : List (ResultVar × Av)) (hr : fn.results = (l.map (·.1)).toArray) (hl : AllR Y.f fs L l)
    (ht : AllT L to') (hto : to' = to) (he : retOf (l.map (·.2)) = ret) (hnd : ndB (to'.map (·.1)) = true) (hfr : fr.all (fun k => Nat.ble 20 k) = true) (hks : ksB ((retOf (l.map (·.2))).ks ++ to'.flatMap (·.2.ks)) fr = true) (hx : e = .ret ∨ e = .normal) :
    At ⟨W, F0, β0, N⟩ fs L (bodyPost P fn (Ret F0 W fr β0 ret to) e) := by
  subst hto he
  have := At.leave (P := P) (W := W) (F0 := F0) (β0 := β0) (N := N) (fr := fr) Y l hr hl.spec ht.spec (ndB_spec hnd) (fun k hk => Nat.le_of_ble_eq_true (List.all_eq_true.1 hfr k hk)) (fun k hk => by
    have := List.all_eq_true.1 hks k hk
    rw [Bool.or_eq_true] at this
    rcases this with h | h
    · exact .inl (by simpa using h)
    · rw [Nat.blt_eq] at h; exact .inr h)
  rcases hx with rfl | rfl
  · exact this
  · exact this
end
end Go.Proofs.Ytheopcgjdfckmaa.Sx

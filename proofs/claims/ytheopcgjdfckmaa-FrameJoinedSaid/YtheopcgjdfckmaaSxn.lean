/- Objects: a struct's block with slices of its own. -/
import Derived.Test.YtheopcgjdfckmaaSxj
namespace Go.Proofs.Ytheopcgjdfckmaa.Sx
open Go
set_option linter.unusedVariables false

/-- A cell of an object: a value; or a slice of the object's own. -/
inductive OC where
  | v (x : Value)
  | r (T s n : Nat) (xs : List Value)
abbrev OC.l {α : Type} (T : TypeId) (f : α → List Value) (s : Nat) (l : List α) : OC := .r T s l.length (l.flatMap f)
abbrev OC.i (x : Int) : OC := .v (.int .i64 x)
/-- The cells, under names for the slices. -/
def objCl : List OC → List Nat → List Cl
  | [], _ => []
  | .v x :: cs, ns => .v x :: objCl cs ns
  | .r _ _ _ _ :: cs, k :: ns => .nv k :: objCl cs ns
  | .r _ _ _ _ :: cs, [] => []
def objTok : List OC → List Nat → List (Nat × Tok)
  | [], _ => []
  | .v _ :: cs, ns => objTok cs ns
  | .r T s n xs :: cs, k :: ns => (k, row k T s n xs) :: objTok cs ns
  | .r _ _ _ _ :: cs, [] => []
def objVal : List OC → List Value → List Value
  | [], _ => []
  | .v x :: cs, vs => x :: objVal cs vs
  | .r _ _ _ _ :: cs, v :: vs => v :: objVal cs vs
  | .r _ _ _ _ :: cs, [] => []
def objRow : List OC → List Value → List Res
  | [], _ => []
  | .v _ :: cs, vs => objRow cs vs
  | .r T s n xs :: cs, v :: vs => rowRes v T s n xs :: objRow cs vs
  | .r _ _ _ _ :: cs, [] => []
def objCnt : List OC → Nat
  | [] => 0
  | .v _ :: cs => objCnt cs
  | .r _ _ _ _ :: cs => objCnt cs + 1
def objRes (b : Nat) (T : TypeId) (cs : List OC) : Res where
  holds w F := ∃ vs : List Value, vs.length = objCnt cs ∧ (∀ v ∈ vs, v.oneCell' = true) ∧ Star (blkRes b (objVal cs vs) T :: objRow cs vs) w F
  loc hw h := by
    obtain ⟨vs, h1, h2, h3⟩ := h
    exact ⟨vs, h1, h2, h3.loc hw⟩
  lt h hb := by
    obtain ⟨vs, h1, h2, h3⟩ := h
    exact h3.lt hb
def obj (k : Nat) (T : TypeId) (cs : List OC) : Tok where
  ks := [k]
  r β := objRes (β k).b T cs
  sup h := by rename_i β β'; rw [h k (by simp)]
theorem obj_ren {f : Nat → Nat} {k k' : Nat} {T : TypeId} {cs : List OC} (hk : f k' = k) : RenT f (obj k' T cs) (obj k T cs) := by
  intro β; subst hk; rfl

def updL (β : Env) : List Nat → List Value → Env
  | k :: ks, v :: vs => upd (updL β ks vs) k ⟨0, v⟩
  | _, _ => β
theorem updL_not {β : Env} : ∀ {ks : List Nat} {vs : List Value} {j : Nat}, j ∉ ks → updL β ks vs j = β j
  | [], _, _, _ => by simp [updL]
  | k :: ks, [], _, _ => by simp [updL]
  | k :: ks, v :: vs, j, h => by
    simp only [List.mem_cons, not_or] at h
    rw [updL, upd_ne _ _ h.1, updL_not h.2]
theorem obj_shape {β : Env} : ∀ (cs : List OC) (ns : List Nat) (vs : List Value), ns.length = objCnt cs → vs.length = objCnt cs → (∀ v ∈ vs, v.oneCell' = true) → (∀ (j : Nat) (v : Nat × Value), (ns.zip vs)[j]? = some v → (β v.1).v = v.2) →
    (objCl cs ns).map (Cl.den β) = objVal cs vs ∧ ((objTok cs ns).map fun p => p.2.r β) = objRow cs vs
  | [], _, _, _, _, _, _ => ⟨rfl, rfl⟩
  | .v x :: cs, ns, vs, h1, h2, h3, h4 => by
    obtain ⟨a, b⟩ := obj_shape cs ns vs h1 h2 h3 h4
    exact ⟨by simp only [objCl, objVal, List.map_cons, a]; rfl, b⟩
  | .r T s n xs :: cs, k :: ns, v :: vs, h1, h2, h3, h4 => by
    obtain ⟨a, b⟩ := obj_shape cs ns vs (by simpa [objCnt] using h1) (by simpa [objCnt] using h2) (fun u hu => h3 u (List.mem_cons_of_mem _ hu)) (fun j u hj => h4 (j + 1) u (by simpa using hj))
    have h0 := h4 0 (k, v) (by simp)
    have o1 : one1 v = v := by unfold one1; rw [h3 v List.mem_cons_self]
    simp only at h0
    refine ⟨?_, ?_⟩
    · simp only [objCl, objVal, List.map_cons, a, Cl.den, h0, o1]
    · simp only [objTok, objRow, List.map_cons, b, row, h0, o1]
  | .r _ _ _ _ :: cs, [], _, h1, _, _, _ => by simp [objCnt] at h1
  | .r _ _ _ _ :: cs, _ :: _, [], _, h2, _, _ => by simp [objCnt] at h2
theorem obj_open {k : Nat} {T : TypeId} {cs : List OC} (ns : List Nat) (hn : Nat.beq ns.length (objCnt cs) = true) (hnd : ndB (k :: ns) = true) :
    Ent [(k, obj k T cs)] ((k, blk k (objCl cs ns) T) :: objTok cs ns) ns := by
  intro β w F hs
  obtain ⟨vs, h1, h2, h3⟩ := Star_one.1 hs
  have hn' := Nat.eq_of_beq_eq_true hn
  have hnd' := ndB_spec hnd
  rw [List.nodup_cons] at hnd'
  have hval : ∀ (ns : List Nat) (vs : List Value), ns.Nodup → ∀ (j : Nat) (v : Nat × Value), (ns.zip vs)[j]? = some v → (updL β ns vs v.1).v = v.2 := by
    intro ns
    induction ns with
    | nil => intro vs _ j v hj; simp at hj
    | cons a ns ih =>
      intro vs hnd j v hj
      cases vs with
      | nil => simp at hj
      | cons x vs =>
        rw [List.nodup_cons] at hnd
        cases j with
        | zero => simp at hj; subst hj; simp [updL]
        | succ j =>
          have hj' : (ns.zip vs)[j]? = some v := by simpa using hj
          have hm : v.1 ∈ ns := (List.of_mem_zip (List.mem_of_getElem? hj' : (v.1, v.2) ∈ _)).1
          rw [updL, upd_ne _ _ (fun e => hnd.1 (by rw [← e]; exact hm))]
          exact ih vs hnd.2 j v hj'
  obtain ⟨a, b⟩ := obj_shape (β := updL β ns vs) cs ns vs hn' h1 h2 (hval ns vs hnd'.2)
  refine ⟨updL β ns vs, fun j hj => updL_not hj, F, fun _ h => h, ?_⟩
  have e : (((k, blk k (objCl cs ns) T) :: objTok cs ns).map fun p => p.2.r (updL β ns vs)) = blkRes (β k).b (objVal cs vs) T :: objRow cs vs := by
    rw [List.map_cons, b]
    simp only [blk, a, updL_not hnd'.1]
  rw [e]; exact h3
theorem obj_close {k : Nat} {T : TypeId} (cs : List OC) (ns : List Nat) (hn : Nat.beq ns.length (objCnt cs) = true) :
    Ent ((k, blk k (objCl cs ns) T) :: objTok cs ns) [(k, obj k T cs)] [] := by
  intro β w F hs
  have hn' := Nat.eq_of_beq_eq_true hn
  -- the values that the names stand for
  have key : ∀ (cs : List OC) (ns : List Nat), ns.length = objCnt cs → (objCl cs ns).map (Cl.den β) = objVal cs (ns.map fun j => one1 (β j).v) ∧ ((objTok cs ns).map fun p => p.2.r β) = objRow cs (ns.map fun j => one1 (β j).v) := by
    intro cs
    induction cs with
    | nil => intro ns _; exact ⟨rfl, rfl⟩
    | cons c cs ih =>
      intro ns h
      cases c with
      | v x =>
        obtain ⟨a, b⟩ := ih ns h
        exact ⟨by simp only [objCl, objVal, List.map_cons, a]; rfl, b⟩
      | r T s n xs =>
        cases ns with
        | nil => simp [objCnt] at h
        | cons k ns =>
          obtain ⟨a, b⟩ := ih ns (by simpa [objCnt] using h)
          exact ⟨by simp only [objCl, objVal, List.map_cons, a]; rfl, by simp only [objTok, objRow, List.map_cons, b]; rfl⟩
  obtain ⟨a, b⟩ := key cs ns hn'
  refine ⟨β, fun _ _ => rfl, F, fun _ h => h, Star_one.2 ⟨ns.map fun j => one1 (β j).v, by simpa using hn', fun v hv => ?_, ?_⟩⟩
  · obtain ⟨j, _, rfl⟩ := List.mem_map.1 hv
    exact Cl.ok1_den (x := .nv j) rfl β
  · rw [List.map_cons, b] at hs
    simp only [blk, a] at hs
    exact hs
/-- From the zero value on: nil slices. -/
def objNil : List OC → Bool
  | [] => true
  | .v _ :: cs => objNil cs
  | .r _ _ n xs :: cs => n == 0 && xs.isEmpty && objNil cs
def objZero : List OC → List Cl
  | [] => []
  | .v x :: cs => .v x :: objZero cs
  | .r _ _ _ _ :: cs => .v (.slice none 0 0) :: objZero cs
theorem obj_nil {k : Nat} {T : TypeId} (cs : List OC) (h0 : objNil cs = true) : Ent [(k, blk k (objZero cs) T)] [(k, obj k T cs)] [] := by
  intro β w F hs
  have hb := Star_one.1 hs
  have key : ∀ (cs : List OC), objNil cs = true → (objZero cs).map (Cl.den β) = objVal cs (List.replicate (objCnt cs) (.slice none 0 0)) ∧ Star (objRow cs (List.replicate (objCnt cs) (.slice none 0 0))) w (fun _ => False) := by
    intro cs
    induction cs with
    | nil => intro _; exact ⟨rfl, fun _ h => h⟩
    | cons c cs ih =>
      intro h
      cases c with
      | v x =>
        obtain ⟨a, b⟩ := ih h
        exact ⟨by simp only [objZero, objVal, objCnt, List.map_cons, a]; rfl, b⟩
      | r T s n xs =>
        simp only [objNil, Bool.and_eq_true, beq_iff_eq, List.isEmpty_iff] at h
        obtain ⟨⟨rfl, rfl⟩, h3⟩ := h
        obtain ⟨a, b⟩ := ih h3
        refine ⟨by simp only [objZero, objVal, objCnt, List.replicate_succ, List.map_cons, a]; rfl, ?_⟩
        simp only [objCnt, List.replicate_succ, objRow]
        exact ⟨fun _ => False, fun _ => False, fun b => by simp, fun _ h => h.elim, ⟨fun b => by simp [Value.ownBlock], by simp, .inl ⟨rfl, rfl⟩⟩, b⟩
  obtain ⟨a, b⟩ := key cs h0
  refine ⟨β, fun _ _ => rfl, F, fun _ h => h, Star_one.2 ⟨_, by simp, fun v hv => ?_, F, fun _ => False, fun b => by simp, fun _ _ h => h, ?_, b⟩⟩
  · rw [List.eq_of_mem_replicate hv]; rfl
  · rw [← a]; exact hb
theorem objVal_get : ∀ (cs : List OC) (vs : List Value) (j : Nat) (x : Value), vs.length = objCnt cs → cs[j]? = some (.v x) → (objVal cs vs)[j]? = some x
  | .v y :: cs, vs, 0, x, h, hj => by simp at hj; subst hj; rfl
  | .v y :: cs, vs, j + 1, x, h, hj => by simpa [objVal] using objVal_get cs vs j x h (by simpa using hj)
  | .r _ _ _ _ :: cs, v :: vs, 0, x, h, hj => by simp at hj
  | .r _ _ _ _ :: cs, v :: vs, j + 1, x, h, hj => by simpa [objVal] using objVal_get cs vs j x (by simpa [objCnt] using h) (by simpa using hj)
  | .r _ _ _ _ :: cs, [], _, _, h, _ => by simp [objCnt] at h
  | [], _, _, _, _, hj => by simp at hj
section
variable {P : Program} {n : Nat} {ops : Array Oper} {rest : List Oper} {fs fs' : FL} {L L' : TL} {ss : List Step}
/-- A load of an object's field that is no slice. -/
theorem Run.loadO (Y : Tys P) {d : Nat} {T : TypeId} {x : Operand} {ty : TypeId} {pos : String} {after : Array Edge} {g : Option (Nat × Bool)} {gr : FL} {k off : Nat} {z v : Value} {cs : List OC} {Tb : TypeId} (hg : Gd ops ⟨some d, .load T x, ty, pos, after, g⟩ fs gr)
    (hx : ev fs x = some (SV.p k off)) (hl : lkT L k = some (obj k Tb cs)) (hT : Y.f T = .one z) (hv : cs[off]? = some (.v v)) (hn : Nat.blt d n = true)
    (h : Run P n ops rest ((d, SV.raw v) :: fs) L ss fs' L') : Run P n ops (⟨some d, .load T x, ty, pos, after, g⟩ :: rest) fs L (⟨gr ++ opds [(x, SV.p k off)], some d, SV.raw v, [(k, obj k Tb cs)], [], [], []⟩ :: ss) fs' L' :=
  Run.pureR [(x, SV.p k off)] (SV.raw v) [(k, obj k Tb cs)] rfl hg (fun p hp => by simp at hp; subst hp; exact hx) (fun p hp => by simp at hp; subst hp; exact hl) (by simp) hn (fun β ρ w F hs hρ => by
    have e1 : ρ x = .pointer (some ⟨(β k).b, off, none⟩) := hρ (x, SV.p k off) (by simp)
    obtain ⟨vs, h1, h2, F1, F2, _, _, hb, _⟩ := Star_one.1 hs
    have hty : Ty1 P T z := by have := Y.ok T; rw [hT] at this; exact this
    simp only [execOp, e1]
    rw [run_bind_ok (run_load1 hty hb.2 (off := off) (v := v) (objVal_get cs vs off v h1 hv))]; rfl) h
end
end Go.Proofs.Ytheopcgjdfckmaa.Sx

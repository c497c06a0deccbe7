/- Pools of cells: their tokens, what the inner functions leave. -/
import Derived.Test.YtheopcgjdfckmaaSxk
namespace Go.Proofs.Ytheopcgjdfckmaa.Sx
open Go
set_option linter.unusedVariables false

theorem ret_i {x y : Int} (h : x = y) : retOf [Av.c (Cl.v (.int .i64 x))] = SV.i y := by rw [h]; rfl
theorem set_get {α : Type} {l : List α} {i : Nat} {c c' : α} (h : l[i]? = some c) : (l.set i c')[i]? = some c' := by
  obtain ⟨hlt, _⟩ := List.getElem?_eq_some_iff.1 h
  simp [hlt]
theorem lrow_ren {f : Nat → Nat} {α : Type} {k k' : Nat} {T s : Nat} {e : α → List Value} {l : List α} (hk : f k' = k) : RenT f (lrow k' T e s l) (lrow k T e s l) := row_ren hk

structure Cell (α : Type) where
  v : α
  gen : Int
  live : Bool
structure Pool (α : Type) where
  cells : List (Cell α)
  free : List Int
  cap : Int
  held : Int
  vis : Int
/-- The cell that is used next. -/
def Pool.next {α : Type} (z : α) (p : Pool α) : Int × Pool α := match p.free.getLast? with
  | some i => (i, { p with free := p.free.dropLast })
  | none => ((p.cells.length : Int), { p with cells := p.cells ++ [⟨z, 0, false⟩] })
/-- A handle's cell. -/
def lookC {α : Type} (cells : List (Cell α)) (i g : Int) : Option (Cell α) :=
  if i < 0 then none else match cells[i.toNat]? with
    | some c => if c.live = true ∧ c.gen = g then some c else none
    | none => none
theorem lookC_some {α : Type} {cells : List (Cell α)} {i g : Int} {c : Cell α} (h : lookC cells i g = some c) : ∃ n : Nat, i = n ∧ cells[n]? = some c ∧ c.live = true ∧ c.gen = g := by
  unfold lookC at h
  split at h
  · cases h
  · split at h
    · rename_i c' hc
      split at h
      · rename_i hl
        cases h
        exact ⟨i.toNat, by omega, hc, hl.1, hl.2⟩
      · cases h
    · cases h
def Pool.hit {α : Type} (p : Pool α) : Pool α := { p with vis := IntKind.i64.wrap (p.vis + 1) }
def Pool.get {α : Type} (z : α) (p : Pool α) (i g : Int) : (α × Bool) × Pool α := match lookC p.cells i g with
  | some c => ((c.v, true), p.hit)
  | none => ((z, false), p)
def Pool.set {α : Type} (p : Pool α) (i g : Int) (v : α) : Bool × Pool α := match lookC p.cells i g with
  | some c => (true, { p with cells := p.cells.set i.toNat { c with v := v }, vis := IntKind.i64.wrap (p.vis + 1) })
  | none => (false, p)
def Pool.drop {α : Type} (z : α) (p : Pool α) (i g : Int) : (α × Bool) × Pool α := match lookC p.cells i g with
  | some c => ((c.v, true), ⟨p.cells.set i.toNat ⟨z, c.gen, false⟩, bif decide (c.gen < 4294967295) then p.free ++ [i] else p.free, p.cap, IntKind.i64.wrap (p.held - 1), IntKind.i64.wrap (p.vis + 1)⟩)
  | none => ((z, false), p)
/-- A value laid in the cell n. -/
def Pool.lay {α : Type} (p : Pool α) (n : Nat) (c : Cell α) (v : α) : Pool α := { p with cells := p.cells.set n ⟨v, IntKind.i64.wrap (c.gen + 1), true⟩, held := IntKind.i64.wrap (p.held + 1) }
/-- A cell's cells. -/
def cellE {α : Type} (e : α → List Value) (c : Cell α) : List Value := e c.v ++ [.int .i64 c.gen, .bool c.live]
def intE (x : Int) : List Value := [.int .i64 x]
theorem intE_len : ∀ x : Int, (intE x).length = 1 := fun _ => rfl
theorem intE_one : ∀ x : Int, (intE x).all Value.oneCell' = true := fun _ => rfl
theorem cellE_len {α : Type} {e : α → List Value} {n : Nat} (h : ∀ x, (e x).length = n) (c : Cell α) : (cellE e c).length = n + 2 := by simp [cellE, h]
theorem cellE_one {α : Type} {e : α → List Value} (h : ∀ x, (e x).all Value.oneCell' = true) (c : Cell α) : (cellE e c).all Value.oneCell' = true := by
  simp only [cellE, List.all_append, h, Bool.true_and]; rfl

def blk5 (b : Nat) (vc vf : Value) (c h v : Int) (T : TypeId) : Res := blkRes b [vc, vf, .int .i64 c, .int .i64 h, .int .i64 v] T
/-- The parts of a pool. -/
def poolParts {α : Type} (b : Nat) (vc vf : Value) (T Tc Ti s : Nat) (f : Cell α → List Value) (p : Pool α) : List Res :=
  [blk5 b vc vf p.cap p.held p.vis T, rowRes vc Tc s p.cells.length (p.cells.flatMap f), rowRes vf Ti 1 p.free.length (p.free.flatMap intE)]
def poolRes {α : Type} (b : Nat) (T Tc Ti s : Nat) (f : Cell α → List Value) (p : Pool α) : Res where
  holds w F := ∃ vc vf : Value, vc.oneCell' = true ∧ vf.oneCell' = true ∧ Star (poolParts b vc vf T Tc Ti s f p) w F
  loc hw h := by
    obtain ⟨vc, vf, h1, h2, h3⟩ := h
    exact ⟨vc, vf, h1, h2, h3.loc hw⟩
  lt h hb := by
    obtain ⟨vc, vf, h1, h2, h3⟩ := h
    exact h3.lt hb
def pool {α : Type} (k : Nat) (T Tc Ti s : Nat) (f : Cell α → List Value) (p : Pool α) : Tok where
  ks := [k]
  r β := poolRes (β k).b T Tc Ti s f p
  sup h := by rename_i β β'; rw [h k (by simp)]
theorem pool_ren {f : Nat → Nat} {α : Type} {k k' T Tc Ti s : Nat} {e : Cell α → List Value} {p : Pool α} (hk : f k' = k) : RenT f (pool k' T Tc Ti s e p) (pool k T Tc Ti s e p) := by
  intro β; subst hk; rfl
def poolBlk (k k1 k2 : Nat) (c h v : Int) (T : TypeId) : Tok := blk k [.nv k1, .nv k2, .i c, .i h, .i v] T
theorem pool_open {α : Type} {k k1 k2 T Tc Ti s : Nat} {f : Cell α → List Value} {p : Pool α} (h1 : k ≠ k1) (h2 : k ≠ k2) (h3 : k1 ≠ k2) :
    Ent [(k, pool k T Tc Ti s f p)] [(k, blk k [.nv k1, .nv k2, .i p.cap, .i p.held, .i p.vis] T), (k1, lrow k1 Tc f s p.cells), (k2, lrow k2 Ti intE 1 p.free)] [k1, k2] := by
  intro β w F hs
  obtain ⟨vc, vf, hc, hf, h⟩ := Star_one.1 hs
  have oc : one1 vc = vc := by unfold one1; rw [hc]
  have of : one1 vf = vf := by unfold one1; rw [hf]
  refine ⟨upd (upd β k1 ⟨0, vc⟩) k2 ⟨0, vf⟩, fun j hj => ?_, F, fun _ hb => hb, ?_⟩
  · simp only [List.mem_cons, List.not_mem_nil, or_false, not_or] at hj
    rw [upd_ne _ _ hj.2, upd_ne _ _ hj.1]
  · have e : ([(k, blk k [.nv k1, .nv k2, .i p.cap, .i p.held, .i p.vis] T), (k1, lrow k1 Tc f s p.cells), (k2, lrow k2 Ti intE 1 p.free)].map fun q => q.2.r (upd (upd β k1 ⟨0, vc⟩) k2 ⟨0, vf⟩)) = poolParts (β k).b vc vf T Tc Ti s f p := by
      simp only [List.map_cons, List.map_nil, blk, lrow, row, poolParts, blk5, Cl.den, upd_same, upd_ne _ _ h1, upd_ne _ _ h2, upd_ne _ _ h3, oc, of]
    rw [e]; exact h
theorem pool_close {α : Type} {k k1 k2 T Tc Ti s : Nat} {f : Cell α → List Value} (cells : List (Cell α)) (free : List Int) (cap held vis : Int) :
    Ent [(k, blk k [.nv k1, .nv k2, .i cap, .i held, .i vis] T), (k1, lrow k1 Tc f s cells), (k2, lrow k2 Ti intE 1 free)] [(k, pool k T Tc Ti s f ⟨cells, free, cap, held, vis⟩)] [] := by
  intro β w F hs
  refine ⟨β, fun _ _ => rfl, F, fun _ hb => hb, Star_one.2 ⟨one1 (β k1).v, one1 (β k2).v, Cl.ok1_den (x := .nv k1) rfl β, Cl.ok1_den (x := .nv k2) rfl β, hs⟩⟩
theorem pool_nil {α : Type} {k T Tc Ti s : Nat} {f : Cell α → List Value} (cap held vis : Int) :
    Ent [(k, blk k [.v (.slice none 0 0), .v (.slice none 0 0), .i cap, .i held, .i vis] T)] [(k, pool k T Tc Ti s f ⟨[], [], cap, held, vis⟩)] [] := by
  intro β w F hs
  have hb := Star_one.1 hs
  refine ⟨β, fun _ _ => rfl, F, fun _ hb => hb, Star_one.2 ⟨.slice none 0 0, .slice none 0 0, rfl, rfl, F, fun _ => False, fun b => by simp, fun _ _ h => h, hb, fun _ => False, fun _ => False, fun b => by simp, fun _ h => h.elim, ⟨fun b => by simp [Value.ownBlock], by simp, .inl ⟨rfl, rfl⟩⟩, fun _ => False, fun _ => False, fun b => by simp, fun _ h => h.elim, ⟨fun b => by simp [Value.ownBlock], by simp, .inl ⟨rfl, rfl⟩⟩, fun _ h => h⟩⟩
/-- A new pool's capacity. -/
def capOf (c : Int) : Int := if 16777216 < (if 0 > c then 0 else c) then 16777216 else if 0 > c then 0 else c
def boolE (x : Bool) : List Value := [.bool x]
theorem boolE_len : ∀ x : Bool, (boolE x).length = 1 := fun _ => rfl
theorem boolE_one : ∀ x : Bool, (boolE x).all Value.oneCell' = true := fun _ => rfl
structure Itm where
  key : Int
  id : Int
def itemE (x : Itm) : List Value := [.int .i64 x.key, .int .i64 x.id]
theorem itemE_len : ∀ x : Itm, (itemE x).length = 2 := fun _ => rfl
theorem itemE_one : ∀ x : Itm, (itemE x).all Value.oneCell' = true := fun _ => rfl

/-! ### Pools in order -/
structure PoolOk {α : Type} (N : Nat) (p : Pool α) : Prop where
  cells : p.cells.length ≤ N
  free : p.free.length ≤ N
  inn : ∀ i ∈ p.free, 0 ≤ i ∧ i.toNat < p.cells.length
/-- What Put leaves. -/
def Pool.put {α : Type} (z : α) (p : Pool α) (v : α) : ((Int × Int) × Bool) × Pool α :=
  if p.held = p.cap then (((0, 0), false), p) else match (p.next z).2.cells[(p.next z).1.toNat]? with
    | some c => ((((p.next z).1, IntKind.i64.wrap (c.gen + 1)), true), (p.next z).2.lay (p.next z).1.toNat c v)
    | none => (((0, 0), false), p)
section
variable {α : Type} {z : α} {p : Pool α} {N : Nat}
theorem PoolOk.mono {M : Nat} (h : PoolOk N p) (hM : N ≤ M) : PoolOk M p := ⟨Nat.le_trans h.cells hM, Nat.le_trans h.free hM, h.inn⟩
theorem PoolOk.new (c : Int) : PoolOk (α := α) 0 ⟨[], [], c, 0, 0⟩ := ⟨Nat.le_refl _, Nat.le_refl _, fun i hi => by cases hi⟩
theorem PoolOk.next (h : PoolOk N p) : PoolOk (N + 1) (p.next z).2 ∧ 0 ≤ (p.next z).1 ∧ ∃ c, (p.next z).2.cells[(p.next z).1.toNat]? = some c := by
  unfold Pool.next
  cases hl : p.free.getLast? with
  | none =>
    refine ⟨⟨by simpa using h.cells, Nat.le_succ_of_le h.free, fun i hi => ?_⟩, by simp, ⟨⟨z, 0, false⟩, by simp⟩⟩
    have := h.inn i hi
    refine ⟨this.1, ?_⟩
    simp; omega
  | some i =>
    have hm : i ∈ p.free := List.mem_of_getLast? hl
    have := h.inn i hm
    refine ⟨⟨Nat.le_succ_of_le h.cells, by simp; have := h.free; omega, fun j hj => h.inn j (by rw [List.dropLast_eq_take] at hj; exact List.mem_of_mem_take hj)⟩, this.1, ⟨_, List.getElem?_eq_getElem this.2⟩⟩
theorem PoolOk.lay {n : Nat} {c : Cell α} {v : α} (h : PoolOk N p) : PoolOk N (p.lay n c v) :=
  ⟨by simpa [Pool.lay] using h.cells, h.free, fun i hi => by simpa [Pool.lay] using h.inn i hi⟩
theorem PoolOk.put {v : α} (h : PoolOk N p) : PoolOk (N + 1) (p.put z v).2 := by
  unfold Pool.put
  split
  · exact h.mono (Nat.le_succ _)
  · split
    · exact h.next.1.lay
    · exact h.mono (Nat.le_succ _)
theorem PoolOk.get {i g : Int} (h : PoolOk N p) : PoolOk N (p.get z i g).2 := by
  unfold Pool.get; split
  · exact ⟨h.cells, h.free, h.inn⟩
  · exact h
theorem PoolOk.set {i g : Int} {v : α} (h : PoolOk N p) : PoolOk N (p.set i g v).2 := by
  unfold Pool.set; split
  · exact ⟨by simpa using h.cells, h.free, fun i hi => by simpa using h.inn i hi⟩
  · exact h
theorem PoolOk.drop {i g : Int} (h : PoolOk N p) : PoolOk (N + 1) (p.drop z i g).2 := by
  unfold Pool.drop; split
  · rename_i c hc
    obtain ⟨n, rfl, hg, _, _⟩ := lookC_some hc
    have hlt := (List.getElem?_eq_some_iff.1 hg).1
    refine ⟨by simpa using Nat.le_succ_of_le h.cells, ?_, fun j hj => ?_⟩
    · have := h.free
      cases decide (c.gen < 4294967295) <;> simp <;> omega
    · have hj' : j ∈ p.free ∨ j = n := by
        revert hj
        cases decide (c.gen < 4294967295)
        · exact fun hj => .inl hj
        · intro hj
          simpa using hj
      rcases hj' with hj' | rfl
      · have := h.inn j hj'; simpa using this
      · simp; exact hlt
  · exact h.mono (Nat.le_succ _)
end

/-! ### A law's contract, as its row wants it -/
def noEnv : Env := fun _ => ⟨0, undef⟩
theorem SCon.law {P : Program} {f : FuncId} {args : List SV} {fr : List Nat} (h : SCon P f args [] (SV.b true) [] fr) (w : World) :
    Calls P f (args.map (SV.den noEnv)).toArray w (fun e w' => e = .returned (.bool true) ∧ Go.RowKit.Below w.heap.size w w') := by
  refine (h noEnv w (fun _ => False) (fun _ h => h)).mono fun e w' => ?_
  rintro ⟨β', _, he, F', _, _, hM⟩
  exact ⟨he, hM.below⟩
/-- The same for a law that reads the caller's memory. -/
theorem SCon.lawOld {P : Program} {f : FuncId} {args : List SV} {fr : List Nat} {w : World} (h : SCon P f args [(0, old w.heap.size w)] (SV.b true) [(0, old w.heap.size w)] fr) :
    Calls P f (args.map (SV.den noEnv)).toArray w (fun e w' => e = .returned (.bool true) ∧ Go.RowKit.Below w.heap.size w w') := by
  refine (h noEnv w (fun b => b < w.heap.size) (Star_one.2 ⟨fun b => Iff.rfl, Nat.le_refl _, fun _ _ => rfl⟩)).mono fun e w' => ?_
  rintro ⟨β', _, he, F', hs, _, hM⟩
  have := Star_one.1 hs
  exact ⟨he, hM.os, hM.tape, hM.output, hM.size, fun k hk => this.2.2 k hk⟩
end Go.Proofs.Ytheopcgjdfckmaa.Sx

/- ArenaItems: the plain law of its pool. -/
import Derived.Test.YtgogiehpenfdpaaSxr
namespace Go.Proofs.Ytgogiehpenfdpaa.Sx
open Go
set_option linter.unusedVariables false
/-- A handle's cells. -/
def refE (x : Int × Int) : List Value := [.int .i64 x.1, .int .i64 x.2]
theorem refE_len : ∀ x, (refE x).length = 2 := fun _ => rfl
theorem refE_one : ∀ x, (refE x).all Value.oneCell' = true := fun _ => rfl
theorem rest_eq {a n : Int} (h : 0 < n) (hb : n < 4611686018427387904) : (IntKind.i64.wrap (a.tmod n + n)).tmod n = a % n := by
  have h1 := Int.tmod_lt_of_pos a h
  have h2 : -n < a.tmod n := Int.lt_tmod_of_pos a h
  have e : IntKind.i64.wrap (a.tmod n + n) = a.tmod n + n := by rw [IntKind.wrap_i64]; omega
  rw [e, Int.tmod_eq_emod_of_nonneg (by omega), Int.add_emod_right]
  have := Int.tmod_add_mul_tdiv a n
  conv => rhs; rw [← this]
  rw [Int.add_mul_emod_self_left]
/-- The pool behind i values. -/
def itP (l : List Itm) (i : Nat) : Pool Itm := ⟨(l.take i).map (fun x => ⟨x, 1, true⟩), [], capOf l.length, i, 0⟩
def itR (i : Nat) : List (Int × Int) := (List.range i).map fun (j : Nat) => ((j : Int), (1 : Int))
theorem itP_zero (l : List Itm) : itP l 0 = ⟨[], [], capOf l.length, 0, 0⟩ := rfl
theorem itR_succ (i : Nat) : itR (i + 1) = itR i ++ [((i : Int), 1)] := by simp [itR, List.range_succ]
theorem itP_ok (l : List Itm) {i : Nat} (h : i ≤ l.length) : PoolOk i (itP l i) := ⟨by simp [itP]; omega, by simp [itP], fun j hj => by simp [itP] at hj⟩
theorem capOf_small {n : Nat} (h : n ≤ 60) : capOf n = n := by simp [capOf]; split <;> omega
theorem itP_put (l : List Itm) {i : Nat} {x : Itm} (h60 : l.length ≤ 60) (hlt : i < l.length) (hx : l[i]? = some x) : (itP l i).put ⟨0, 0⟩ x = ((((i : Int), 1), true), itP l (i + 1)) := by
  have hc : (itP l i).held ≠ (itP l i).cap := by simp [itP, capOf_small h60]; omega
  unfold Pool.put
  rw [if_neg hc]
  have hn : (itP l i).next ⟨0, 0⟩ = ((i : Int), ⟨(l.take i).map (fun x => ⟨x, 1, true⟩) ++ [⟨⟨0, 0⟩, 0, false⟩], [], capOf l.length, i, 0⟩) := by
    simp [Pool.next, itP]; omega
  rw [hn]
  have hl : ((l.take i).map (fun x => (⟨x, 1, true⟩ : Cell Itm))).length = i := by simp; omega
  have hg : ((l.take i).map (fun x => (⟨x, 1, true⟩ : Cell Itm)) ++ [⟨⟨0, 0⟩, 0, false⟩])[(i : Int).toNat]? = some ⟨⟨0, 0⟩, 0, false⟩ := by
    rw [Int.toNat_natCast, List.getElem?_append_right (by omega), hl]; simp
  simp only [hg]
  have e1 : IntKind.i64.wrap (0 + 1) = 1 := by decide
  have e2 : IntKind.i64.wrap ((i : Int) + 1) = ((i + 1 : Nat) : Int) := by rw [IntKind.wrap_i64]; omega
  simp only [Pool.lay, e1, e2, Int.toNat_natCast]
  congr 2
  rw [List.set_append_right _ _ (by omega), hl, List.take_add_one, hx]
  simp
/-- The pool behind a Drop of the cell k, behind a Put, behind a Get. -/
def itD (l : List Itm) (k : Nat) : Pool Itm := ⟨(l.map (fun x => (⟨x, 1, true⟩ : Cell Itm))).set k ⟨⟨0, 0⟩, 1, false⟩, [(k : Int)], l.length, (l.length : Int) - 1, 1⟩
def itE (l : List Itm) (k : Nat) (x : Itm) : Pool Itm := ⟨(l.map (fun x => (⟨x, 1, true⟩ : Cell Itm))).set k ⟨x, 2, true⟩, [], l.length, l.length, 1⟩
theorem it_full (l : List Itm) (x : Itm) (h60 : l.length ≤ 60) : (itP l l.length).put ⟨0, 0⟩ x = (((0, 0), false), itP l l.length) := by
  unfold Pool.put
  rw [if_pos (by simp [itP, capOf_small h60])]
theorem it_drop (l : List Itm) {k : Nat} {x : Itm} (h60 : l.length ≤ 60) (hk : l[k]? = some x) : (itP l l.length).drop ⟨0, 0⟩ k 1 = ((x, true), itD l k) := by
  have hlt := (List.getElem?_eq_some_iff.1 hk).1
  have hl : lookC (itP l l.length).cells k 1 = some ⟨x, 1, true⟩ := by
    unfold lookC
    rw [if_neg (by omega)]
    simp [itP, hk]
  unfold Pool.drop
  rw [hl]
  have e1 : IntKind.i64.wrap ((l.length : Int) - 1) = (l.length : Int) - 1 := by rw [IntKind.wrap_i64]; omega
  have e2 : IntKind.i64.wrap 1 = 1 := by decide
  simp [itP, itD, e1, e2, capOf_small h60]
theorem it_get (l : List Itm) {k : Nat} (hlt : k < l.length) : (itD l k).get ⟨0, 0⟩ k 1 = ((⟨0, 0⟩, false), itD l k) := by
  have hl : lookC (itD l k).cells k 1 = none := by
    unfold lookC
    rw [if_neg (by omega)]
    simp [itD, hlt]
  unfold Pool.get
  rw [hl]
theorem it_put (l : List Itm) {k : Nat} (x : Itm) (h60 : l.length ≤ 60) (hlt : k < l.length) : (itD l k).put ⟨0, 0⟩ x = ((((k : Int), 2), true), itE l k x) := by
  unfold Pool.put
  rw [if_neg (by simp [itD]; omega)]
  have hn : (itD l k).next ⟨0, 0⟩ = ((k : Int), { itD l k with free := [] }) := by simp [Pool.next, itD]
  rw [hn]
  have hg : ({ itD l k with free := [] } : Pool Itm).cells[(k : Int).toNat]? = some ⟨⟨0, 0⟩, 1, false⟩ := by simp [itD, hlt]
  simp only [hg]
  have e1 : IntKind.i64.wrap 2 = 2 := by decide
  have e2 : IntKind.i64.wrap (l.length : Int) = l.length := by rw [IntKind.wrap_i64]; omega
  simp [Pool.lay, itD, itE, e1, e2]
theorem it_last (l : List Itm) {k : Nat} (x : Itm) (hlt : k < l.length) : ((itE l k x).get ⟨0, 0⟩ k 2).1 = (x, true) ∧ ((itE l k x).get ⟨0, 0⟩ k 2).2.held = l.length := by
  have hl : lookC (itE l k x).cells k 2 = some ⟨x, 2, true⟩ := by
    unfold lookC
    rw [if_neg (by omega)]
    simp [itE, hlt]
  unfold Pool.get
  rw [hl]
  exact ⟨rfl, rfl⟩
theorem itR_get {n k : Nat} (h : k < n) : (itR n)[k]? = some ((k : Int), (1 : Int)) := by simp [itR, h]
theorem ret_b {x : Bool} (h : x = true) : retOf [Av.c (Cl.v (.bool x))] = SV.b true := by rw [h]; rfl
end Go.Proofs.Ytgogiehpenfdpaa.Sx

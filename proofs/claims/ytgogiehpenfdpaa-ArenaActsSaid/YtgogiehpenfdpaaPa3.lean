/- ArenaActs: the document's pool, and how it stands to the program's. -/
import Derived.Test.YtgogiehpenfdpaaPi3
namespace Go.Proofs.Ytgogiehpenfdpaa.Sx
open Go
set_option linter.unusedVariables false
/-- The document's pool: cells (their values apart), the free ones, the next one first. -/
abbrev rpoolC (cs : List (Cell Int)) (V free : List Int) (cap vis : Int) (ti tb : TypeId) : List OC :=
  [OC.l ti intE 1 V, OC.l ti intE 1 (cs.map (·.gen)), OC.l tb boolE 1 (cs.map (·.live)), OC.l ti intE 1 free, .i cap, .i vis]
theorem map_at {cs : List (Cell Int)} {n : Nat} {c : Cell Int} (h : cs[n]? = some c) {β : Type} (f : Cell Int → β) : (cs.map f)[n]? = some (f c) := by simp [h]
theorem lookC_none {cs : List (Cell Int)} {n : Nat} {c : Cell Int} {g : Int} (hc : cs[n]? = some c) (h : lookC cs (n : Int) g = none) : c.live = false ∨ c.gen ≠ g := by
  unfold lookC at h
  rw [if_neg (by omega), Int.toNat_natCast, hc] at h
  simp only at h
  split at h
  · cases h
  · rename_i hh
    cases hl : c.live with
    | false => exact .inl rfl
    | true => exact .inr (fun e => hh ⟨hl, e⟩)
theorem lookC_split {cs : List (Cell Int)} {i g : Int} (h : lookC cs i g = none) : (i < 0 ∨ (cs.length : Int) ≤ i) ∨ ∃ (n : Nat) (c : Cell Int), i = n ∧ cs[n]? = some c ∧ (c.live = false ∨ c.gen ≠ g) := by
  by_cases h0 : i < 0
  · exact .inl (.inl h0)
  · by_cases h1 : (cs.length : Int) ≤ i
    · exact .inl (.inr h1)
    · have hc : cs[i.toNat]? = some cs[i.toNat] := List.getElem?_eq_getElem (by omega)
      have e : ((i.toNat : Nat) : Int) = i := by omega
      rw [← e] at h
      exact .inr ⟨i.toNat, _, e.symm, hc, lookC_none hc h⟩
theorem ret_f {x : Bool} (h : x = false) : retOf [Av.c (Cl.v (.bool x))] = SV.b false := by rw [h]; rfl
/-- How many cells live. -/
def liveN (cs : List (Cell Int)) : Nat := cs.countP (·.live)
theorem liveN_succ {cs : List (Cell Int)} {i : Nat} {c : Cell Int} (h : cs[i]? = some c) : liveN (cs.take (i + 1)) = liveN (cs.take i) + (if c.live = true then 1 else 0) := by
  unfold liveN
  rw [List.take_add_one, h, List.countP_append]
  simp [List.countP_cons]
theorem liveN_le (cs : List (Cell Int)) (i : Nat) : liveN (cs.take i) ≤ i := by
  unfold liveN
  exact Nat.le_trans List.countP_le_length (by simp; omega)
theorem last_get {α : Type} {l : List α} {n : Nat} (h : l.length = n) (x : α) : (l ++ [x])[n]? = some x := by subst h; simp
end Go.Proofs.Ytgogiehpenfdpaa.Sx

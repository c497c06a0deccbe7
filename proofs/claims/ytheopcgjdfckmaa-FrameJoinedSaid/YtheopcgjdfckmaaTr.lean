/- What is left of a division. -/
import Derived.Test.YtheopcgjdfckmaaT0
namespace Go.Proofs.Ytheopcgjdfckmaa
open Go Go.Proofs.Ytheopcgjdfckmaa.Sx
set_option linter.unusedVariables false
set_option linter.unusedSimpArgs false

theorem Rest_eq (k : Nat) {a n : Int} (hn : 0 < n) (hb : n < 4611686018427387904) : R01_Rest.f k a n = some (a % n) := by
  unfold R01_Rest.f
  have h0 : n ≠ 0 := by omega
  simp only [ne_eq, h0, not_false_eq_true, decide_true, cond_true]
  congr 1
  have h1 := Int.tmod_lt_of_pos a hn
  have h2 : -n < a.tmod n := by
    have := Int.lt_tmod_of_pos a hn
    omega
  rw [w64_id (by omega) (by omega)]
  by_cases h3 : 0 ≤ a.tmod n
  · have h4 : a.tmod n = a % n := by
      rw [Int.tmod_eq_emod]
      rw [Int.tmod_eq_emod] at h3 h2
      split
      · simp
      · rename_i hc
        rw [if_neg hc] at h3 h2
        have := Int.emod_lt_of_pos a hn
        have h5 : (n.natAbs : Int) = n := by omega
        omega
    rw [h4]
    have := Int.emod_nonneg a h0
    have := Int.emod_lt_of_pos a hn
    rw [Int.tmod_eq_emod_of_nonneg (by omega), Int.add_emod_right, Int.emod_emod]
  · have h4 : a.tmod n = a % n - n := by
      rw [Int.tmod_eq_emod]
      rw [Int.tmod_eq_emod] at h3
      split
      · rename_i hc
        rw [if_pos hc] at h3
        have := Int.emod_nonneg a h0
        omega
      · have h5 : (n.natAbs : Int) = n := by omega
        omega
    rw [h4]
    have := Int.emod_nonneg a h0
    have := Int.emod_lt_of_pos a hn
    rw [show a % n - n + n = a % n by omega, Int.tmod_eq_emod_of_nonneg (by omega), Int.emod_emod]
end Go.Proofs.Ytheopcgjdfckmaa

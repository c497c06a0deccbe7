/- TideFloors, the plain law: for every list of numbers and every stock the printed function answers true. No conditions. -/
import Derived.Test.YtheopcgjdfckmaaPTideFloorsx2
namespace Go.Proofs.Ytheopcgjdfckmaa.Pure
open Go.RowKit Go.Proofs.Ytheopcgjdfckmaa.PTideFloors Go.Proofs.YtheopcgjdfckmaaW.PrintWords Go.Proofs.YtheopcgjdfckmaaW.PrintLast Go.Proofs.YtheopcgjdfckmaaW.PrintMore

namespace TideFloorsAid
/-- The sum of the first ones. -/
def S (l : List Int) (i : Nat) : Int := (l.take i).sum
/-- The least sum of the first ones. -/
def L (l : List Int) : Nat → Int
  | 0 => 0
  | 1 => S l 1
  | i + 2 => mn (L l (i + 1)) (S l (i + 2))

theorem rd_get (l : List Int) (i : Nat) (h : i < l.length) : rd l (i : Int) = l[i] := by
  unfold rd; simp [h]

theorem S_succ (l : List Int) (i : Nat) (h : i < l.length) : S l (i + 1) = S l i + rd l (i : Int) := by
  rw [rd_get l i h]; unfold S
  rw [List.take_succ_eq_append_getElem h]; simp only [List.sum_append, List.sum_cons, List.sum_nil]; omega

theorem S_zero (l : List Int) : S l 0 = 0 := by simp [S]

theorem wf_le {l : List Int} (hb : ∀ x ∈ l, -1099511627776 ≤ x ∧ x ≤ 1099511627776) (i : Nat) (h : i < l.length) : -1099511627776 ≤ rd l (i : Int) ∧ rd l (i : Int) ≤ 1099511627776 := by
  rw [rd_get l i h]; exact hb _ (List.getElem_mem h)

theorem S_le {l : List Int} (hb : ∀ x ∈ l, -1099511627776 ≤ x ∧ x ≤ 1099511627776) : ∀ i, i ≤ l.length → -1099511627776 * (i : Int) ≤ S l i ∧ S l i ≤ 1099511627776 * (i : Int)
  | 0, _ => by simp [S]
  | i + 1, h => by
    have := S_le hb i (by omega)
    have h2 := wf_le hb i (by omega)
    rw [S_succ l i (by omega)]; omega

theorem wrap_id {x : Int} (h0 : -9223372036854775808 ≤ x) (h1 : x < 9223372036854775808) : wrap64 x = x := by unfold wrap64; omega

theorem small_tells (l : List Int) (hl : l.length ≤ 60) (d : Nat) : ∀ (k i : Nat), l.length - i = d → i ≤ l.length → d < k → ∃ b, whilomlaw06_small.l0 k l (i : Int) = some b ∧ (b = true → ∀ j, i ≤ j → j < l.length → -1099511627776 ≤ rd l (j : Int) ∧ rd l (j : Int) ≤ 1099511627776) := by
  induction d with
  | zero =>
    intro k i hd hi hk
    obtain ⟨k, rfl⟩ : ∃ m, k = m + 1 := ⟨k - 1, by omega⟩
    exact ⟨true, by simp only [whilomlaw06_small.l0]; rw [if_neg (by omega)], fun _ j h1 h2 => by omega⟩
  | succ d ih =>
    intro k i hd hi hk
    obtain ⟨k, rfl⟩ : ∃ m, k = m + 1 := ⟨k - 1, by omega⟩
    obtain ⟨b, hb, hall⟩ := ih k (i + 1) (by omega) (by omega) (by omega)
    by_cases c1 : rd l (i : Int) < -1099511627776
    · exact ⟨false, by simp only [whilomlaw06_small.l0]; rw [if_pos (by omega), if_pos (by omega), if_pos c1], fun h => by cases h⟩
    by_cases c2 : rd l (i : Int) > 1099511627776
    · exact ⟨false, by simp only [whilomlaw06_small.l0]; rw [if_pos (by omega), if_pos (by omega), if_neg c1, if_pos c2], fun h => by cases h⟩
    refine ⟨b, ?_, ?_⟩
    · simp only [whilomlaw06_small.l0]; rw [if_pos (by omega), if_pos (by omega), if_neg c1, if_neg c2, wrap_id (by omega) (by omega)]; exact hb
    · intro h j h1 h2
      by_cases e : j = i
      · subst e; omega
      · exact hall h j (by omega) h2

theorem small_of (l : List Int) : ∃ b, (∀ k, 61 < k → whilomlaw06_small.f k l = some b) ∧ (b = true → l.length ≤ 60 ∧ ∀ x ∈ l, -1099511627776 ≤ x ∧ x ≤ 1099511627776) := by
  by_cases h : (l.length : Int) > 60
  · exact ⟨false, fun k _ => by unfold whilomlaw06_small.f; rw [if_pos h], fun h => by cases h⟩
  · obtain ⟨b, hb, hall⟩ := small_tells l (by omega) l.length 61 0 (by omega) (by omega) (by omega)
    refine ⟨b, fun k hk => ?_, fun hbt => ⟨by omega, fun x hx => ?_⟩⟩
    · refine at_rounds (g := fun k => whilomlaw06_small.f k l) (fun k => whilomlaw06_small.mono l k) (k := 61) (by omega) ?_
      show whilomlaw06_small.f 61 l = some b
      unfold whilomlaw06_small.f; rw [if_neg h]; exact hb
    · obtain ⟨i, hi, rfl⟩ := List.mem_iff_getElem.1 hx
      have := hall hbt i (by omega) hi
      rwa [rd_get l i hi] at this

theorem of_tells {l : List Int} (hl : l.length ≤ 60) (hb : ∀ x ∈ l, -1099511627776 ≤ x ∧ x ≤ 1099511627776) (d : Nat) : ∀ (k i : Nat), l.length - i = d → i ≤ l.length → d < k →
    tide_Of.l0 k l (l.length : Int) (i : Int) (i : Int) (S l i) (L l i) = some ((l.length : Int), S l l.length, L l l.length) := by
  induction d with
  | zero =>
    intro k i hd hi hk
    obtain ⟨k, rfl⟩ : ∃ m, k = m + 1 := ⟨k - 1, by omega⟩
    obtain rfl : i = l.length := by omega
    simp only [tide_Of.l0]; rw [if_neg (by omega)]
  | succ d ih =>
    intro k i hd hi hk
    obtain ⟨k, rfl⟩ : ∃ m, k = m + 1 := ⟨k - 1, by omega⟩
    have hi' : i < l.length := by omega
    have h1 := ih k (i + 1) (by omega) (by omega) (by omega)
    have hs := S_le hb i (by omega)
    have hr := wf_le hb i hi'
    have hS := S_succ l i hi'
    have e : tide_Tide_Plus.f (i : Int) (S l i) (L l i) 1 (rd l (i : Int)) (rd l (i : Int)) = some (((i + 1 : Nat) : Int), S l (i + 1), L l (i + 1)) := by
      unfold tide_Tide_Plus.f
      by_cases hz : i = 0
      · subst hz
        rw [if_pos (by rfl)]
        simp only [L, hS, S_zero]; simp
      · rw [if_neg (by omega), if_neg (by omega), wrap_id (by omega) (by omega), wrap_id (x := S l i + rd l i) (by omega) (by omega), ← hS]
        obtain ⟨m, rfl⟩ : ∃ m, i = m + 1 := ⟨i - 1, by omega⟩
        simp only [L]; rfl
    simp only [tide_Of.l0]; rw [if_pos (by omega), if_pos (by omega), if_pos (by omega), e]
    simp only [Option.bind_some]
    rw [wrap_id (by omega) (by omega)]
    exact h1

theorem awake_of (k : Nat) (hk : 10 < k) : whilomlaw06_awake.f k = some true := by
  refine at_rounds (g := fun k => whilomlaw06_awake.f k) (fun k => whilomlaw06_awake.mono k) (k := 5) (by omega) ?_
  kernel_rfl

theorem L_le {l : List Int} (hb : ∀ x ∈ l, -1099511627776 ≤ x ∧ x ≤ 1099511627776) : ∀ i, i ≤ l.length → -1099511627776 * (i : Int) ≤ L l i ∧ L l i ≤ 1099511627776 * (i : Int)
  | 0, _ => by simp [L]
  | 1, h => by have := S_le hb 1 h; simpa [L] using this
  | i + 2, h => by
    have h1 := L_le hb (i + 1) (by omega)
    have h2 := S_le hb (i + 2) h
    simp only [L, mn]
    by_cases c : S l (i + 2) < L l (i + 1)
    · rw [if_pos c]; exact h2
    · rw [if_neg c]; omega

/-- Does the stock fall below 0 at one of the first ones? -/
def falls (l : List Int) (from_ : Int) (i : Nat) : Bool := match i with
  | 0 => false
  | i + 1 => falls l from_ i || decide (from_ + S l (i + 1) < 0)

theorem falls_low {l : List Int} {from_ : Int} (h0 : 0 ≤ from_) : ∀ i, falls l from_ (i + 1) = decide (from_ + L l (i + 1) < 0)
  | 0 => by simp only [falls, Bool.false_or]; rfl
  | i + 1 => by
    have hL : L l (i + 1 + 1) = if S l (i + 1 + 1) < L l (i + 1) then S l (i + 1 + 1) else L l (i + 1) := rfl
    rw [falls, falls_low h0 i, Bool.eq_iff_iff]
    simp only [Bool.or_eq_true, decide_eq_true_eq]
    rw [hL]
    split <;> omega

theorem floors_tells {l : List Int} {from_ : Int} (hl : l.length ≤ 60) (hb : ∀ x ∈ l, -1099511627776 ≤ x ∧ x ≤ 1099511627776) (h0 : 0 ≤ from_) (h1 : from_ ≤ 1099511627776) (d : Nat) : ∀ (k i : Nat), l.length - i = d → i ≤ l.length → d + 100 < k →
    whilomlaw06_TideFloors.l0 k l from_ (from_ + S l i) (falls l from_ i) (i : Int) = some true := by
  induction d with
  | zero =>
    intro k i hd hi hk
    obtain ⟨k, rfl⟩ : ∃ m, k = m + 1 := ⟨k - 1, by omega⟩
    obtain rfl : i = l.length := by omega
    have e : tide_Of.f k l = some ((l.length : Int), S l l.length, L l l.length) := by
      unfold tide_Of.f
      have := of_tells hl hb l.length k 0 (by omega) (by omega) (by omega)
      simpa [S_zero, L] using this
    simp only [whilomlaw06_TideFloors.l0]; rw [if_neg (by omega), e]; simp only [Option.bind_some]
    unfold tide_Tide_Least.f
    by_cases hz : l.length = 0
    · rw [if_pos (by omega)]; simp only [Option.bind_some, hz, falls]; simp; omega
    · obtain ⟨m, hm⟩ : ∃ m, l.length = m + 1 := ⟨l.length - 1, by omega⟩
      have hs := L_le hb l.length (by omega)
      rw [if_neg (by omega), wrap_id (by omega) (by omega)]; simp only [Option.bind_some]
      rw [hm, falls_low h0 m]
      have hmn : mn from_ (from_ + L l (m + 1)) = if from_ + L l (m + 1) < from_ then from_ + L l (m + 1) else from_ := rfl
      have e2 : decide (mn from_ (from_ + L l (m + 1)) < 0) = decide (from_ + L l (m + 1) < 0) := by
        rw [Bool.eq_iff_iff]; simp only [decide_eq_true_eq]; rw [hmn]; split <;> omega
      rw [e2]; simp
  | succ d ih =>
    intro k i hd hi hk
    obtain ⟨k, rfl⟩ : ∃ m, k = m + 1 := ⟨k - 1, by omega⟩
    have h2 := ih k (i + 1) (by omega) (by omega) (by omega)
    have hs := S_le hb i (by omega)
    have hr := wf_le hb i (by omega)
    have hS := S_succ l i (by omega)
    have e : from_ + S l i + rd l (i : Int) = from_ + S l (i + 1) := by omega
    simp only [whilomlaw06_TideFloors.l0]; rw [if_pos (by omega), if_pos (by omega), wrap_id (x := from_ + S l i + rd l (i : Int)) (by omega) (by omega), wrap_id (x := (i : Int) + 1) (by omega) (by omega), e]
    rw [falls] at h2
    by_cases c : falls l from_ i = true
    · rw [if_pos c]; rw [c] at h2; exact h2
    · rw [if_neg c]; simp only [Bool.not_eq_true] at c; rw [c] at h2; exact h2
end TideFloorsAid
open TideFloorsAid

theorem TideFloors : whilomlaw06_TideFloors.Pure := by
  intro l from_ _ _ _ _
  obtain ⟨b, hb, hall⟩ := small_of l
  refine ⟨301, ?_⟩
  have hj : ∀ a, whilomlaw06_TideFloors.j0 301 l a true = some true := by
    intro a; simp only [whilomlaw06_TideFloors.j0]; rw [if_pos trivial, awake_of 300 (by omega)]; rfl
  unfold whilomlaw06_TideFloors.f
  rw [awake_of 301 (by omega)]; simp only [Option.bind_some, if_true]; rw [hb 301 (by omega)]; simp only [Option.bind_some]
  cases b with
  | false => rw [if_neg (by simp)]; exact hj _
  | true =>
    obtain ⟨hl, hx⟩ := hall rfl
    rw [if_pos (by rfl)]
    by_cases c1 : from_ < 0
    · rw [if_pos c1]; exact hj _
    rw [if_neg c1]
    by_cases c2 : from_ > 1099511627776
    · rw [decide_eq_true c2]; exact hj _
    rw [decide_eq_false c2]
    simp only [whilomlaw06_TideFloors.j0]
    rw [if_neg (by simp)]
    have := floors_tells hl hx (from_ := from_) (by omega) (by omega) l.length 300 0 (by omega) (by omega) (by omega)
    simpa [S_zero, falls] using this

end Go.Proofs.Ytheopcgjdfckmaa.Pure

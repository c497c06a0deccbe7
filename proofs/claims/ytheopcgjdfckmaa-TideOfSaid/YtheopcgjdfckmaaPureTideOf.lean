/- TideOf, the plain law: for every list of numbers the printed function answers true. No conditions. -/
import Derived.Test.YtheopcgjdfckmaaPTideOfx2
namespace Go.Proofs.Ytheopcgjdfckmaa.Pure
open Go.RowKit Go.Proofs.Ytheopcgjdfckmaa.PTideOf Go.Proofs.YtheopcgjdfckmaaW.PrintWords Go.Proofs.YtheopcgjdfckmaaW.PrintLast Go.Proofs.YtheopcgjdfckmaaW.PrintMore

namespace TideOfAid
/-- The sum of the first ones. -/
def S (l : List Int) (i : Nat) : Int := (l.take i).sum
/-- The least sum of the first ones. -/
def L (l : List Int) : Nat → Int
  | 0 => 0
  | 1 => S l 1
  | i + 2 => mn (L l (i + 1)) (S l (i + 2))

theorem rd_get (l : List Int) (i : Nat) (h : i < l.length) : rd l (i : Int) = l[i] := by
  unfold rd; simp [h]

theorem S_succ (l : List Int) (i : Nat) (h : i < l.length) : S l (i + 1) = S l i + rd l (i : Int) := by
  rw [rd_get l i h]; unfold S
  rw [List.take_succ_eq_append_getElem h]; simp only [List.sum_append, List.sum_cons, List.sum_nil]; omega

theorem S_zero (l : List Int) : S l 0 = 0 := by simp [S]

theorem wf_le {l : List Int} (hb : ∀ x ∈ l, -1099511627776 ≤ x ∧ x ≤ 1099511627776) (i : Nat) (h : i < l.length) : -1099511627776 ≤ rd l (i : Int) ∧ rd l (i : Int) ≤ 1099511627776 := by
  rw [rd_get l i h]; exact hb _ (List.getElem_mem h)

theorem S_le {l : List Int} (hb : ∀ x ∈ l, -1099511627776 ≤ x ∧ x ≤ 1099511627776) : ∀ i, i ≤ l.length → -1099511627776 * (i : Int) ≤ S l i ∧ S l i ≤ 1099511627776 * (i : Int)
  | 0, _ => by simp [S]
  | i + 1, h => by
    have := S_le hb i (by omega)
    have h2 := wf_le hb i (by omega)
    rw [S_succ l i (by omega)]; omega

theorem wrap_id {x : Int} (h0 : -9223372036854775808 ≤ x) (h1 : x < 9223372036854775808) : wrap64 x = x := by unfold wrap64; omega

theorem small_tells (l : List Int) (hl : l.length ≤ 60) (d : Nat) : ∀ (k i : Nat), l.length - i = d → i ≤ l.length → d < k → ∃ b, whilomlaw06_small.l0 k l (i : Int) = some b ∧ (b = true → ∀ j, i ≤ j → j < l.length → -1099511627776 ≤ rd l (j : Int) ∧ rd l (j : Int) ≤ 1099511627776) := by
  induction d with
  | zero =>
    intro k i hd hi hk
    obtain ⟨k, rfl⟩ : ∃ m, k = m + 1 := ⟨k - 1, by omega⟩
    exact ⟨true, by simp only [whilomlaw06_small.l0]; rw [if_neg (by omega)], fun _ j h1 h2 => by omega⟩
  | succ d ih =>
    intro k i hd hi hk
    obtain ⟨k, rfl⟩ : ∃ m, k = m + 1 := ⟨k - 1, by omega⟩
    obtain ⟨b, hb, hall⟩ := ih k (i + 1) (by omega) (by omega) (by omega)
    by_cases c1 : rd l (i : Int) < -1099511627776
    · exact ⟨false, by simp only [whilomlaw06_small.l0]; rw [if_pos (by omega), if_pos (by omega), if_pos c1], fun h => by cases h⟩
    by_cases c2 : rd l (i : Int) > 1099511627776
    · exact ⟨false, by simp only [whilomlaw06_small.l0]; rw [if_pos (by omega), if_pos (by omega), if_neg c1, if_pos c2], fun h => by cases h⟩
    refine ⟨b, ?_, ?_⟩
    · simp only [whilomlaw06_small.l0]; rw [if_pos (by omega), if_pos (by omega), if_neg c1, if_neg c2, wrap_id (by omega) (by omega)]; exact hb
    · intro h j h1 h2
      by_cases e : j = i
      · subst e; omega
      · exact hall h j (by omega) h2

theorem small_of (l : List Int) : ∃ b, (∀ k, 61 < k → whilomlaw06_small.f k l = some b) ∧ (b = true → l.length ≤ 60 ∧ ∀ x ∈ l, -1099511627776 ≤ x ∧ x ≤ 1099511627776) := by
  by_cases h : (l.length : Int) > 60
  · exact ⟨false, fun k _ => by unfold whilomlaw06_small.f; rw [if_pos h], fun h => by cases h⟩
  · obtain ⟨b, hb, hall⟩ := small_tells l (by omega) l.length 61 0 (by omega) (by omega) (by omega)
    refine ⟨b, fun k hk => ?_, fun hbt => ⟨by omega, fun x hx => ?_⟩⟩
    · refine at_rounds (g := fun k => whilomlaw06_small.f k l) (fun k => whilomlaw06_small.mono l k) (k := 61) (by omega) ?_
      show whilomlaw06_small.f 61 l = some b
      unfold whilomlaw06_small.f; rw [if_neg h]; exact hb
    · obtain ⟨i, hi, rfl⟩ := List.mem_iff_getElem.1 hx
      have := hall hbt i (by omega) hi
      rwa [rd_get l i hi] at this

theorem of_tells {l : List Int} (hl : l.length ≤ 60) (hb : ∀ x ∈ l, -1099511627776 ≤ x ∧ x ≤ 1099511627776) (d : Nat) : ∀ (k i : Nat), l.length - i = d → i ≤ l.length → d < k →
    tide_Of.l0 k l (l.length : Int) (i : Int) (i : Int) (S l i) (L l i) = some ((l.length : Int), S l l.length, L l l.length) := by
  induction d with
  | zero =>
    intro k i hd hi hk
    obtain ⟨k, rfl⟩ : ∃ m, k = m + 1 := ⟨k - 1, by omega⟩
    obtain rfl : i = l.length := by omega
    simp only [tide_Of.l0]; rw [if_neg (by omega)]
  | succ d ih =>
    intro k i hd hi hk
    obtain ⟨k, rfl⟩ : ∃ m, k = m + 1 := ⟨k - 1, by omega⟩
    have hi' : i < l.length := by omega
    have h1 := ih k (i + 1) (by omega) (by omega) (by omega)
    have hs := S_le hb i (by omega)
    have hr := wf_le hb i hi'
    have hS := S_succ l i hi'
    have e : tide_Tide_Plus.f (i : Int) (S l i) (L l i) 1 (rd l (i : Int)) (rd l (i : Int)) = some (((i + 1 : Nat) : Int), S l (i + 1), L l (i + 1)) := by
      unfold tide_Tide_Plus.f
      by_cases hz : i = 0
      · subst hz
        rw [if_pos (by rfl)]
        simp only [L, hS, S_zero]; simp
      · rw [if_neg (by omega), if_neg (by omega), wrap_id (by omega) (by omega), wrap_id (x := S l i + rd l i) (by omega) (by omega), ← hS]
        obtain ⟨m, rfl⟩ : ∃ m, i = m + 1 := ⟨i - 1, by omega⟩
        simp only [L]; rfl
    simp only [tide_Of.l0]; rw [if_pos (by omega), if_pos (by omega), if_pos (by omega), e]
    simp only [Option.bind_some]
    rw [wrap_id (by omega) (by omega)]
    exact h1

theorem sum_tells {l : List Int} (hl : l.length ≤ 60) (hb : ∀ x ∈ l, -1099511627776 ≤ x ∧ x ≤ 1099511627776) (n : Nat) (hn : n ≤ l.length) (d : Nat) : ∀ (k i : Nat), n - i = d → i ≤ n → d < k →
    whilomref06_Sum.l0 k l (n : Int) (S l i) (i : Int) = some (S l n) := by
  induction d with
  | zero =>
    intro k i hd hi hk
    obtain ⟨k, rfl⟩ : ∃ m, k = m + 1 := ⟨k - 1, by omega⟩
    obtain rfl : i = n := by omega
    simp only [whilomref06_Sum.l0]; rw [if_neg (by omega)]
  | succ d ih =>
    intro k i hd hi hk
    obtain ⟨k, rfl⟩ : ∃ m, k = m + 1 := ⟨k - 1, by omega⟩
    have h1 := ih k (i + 1) (by omega) (by omega) (by omega)
    have hs := S_le hb i (by omega)
    have hr := wf_le hb i (by omega)
    simp only [whilomref06_Sum.l0]; rw [if_pos (by omega), if_pos (by omega), if_pos (by omega), wrap_id (by omega) (by omega), wrap_id (by omega) (by omega), ← S_succ l i (by omega)]
    exact h1

theorem sum_of {l : List Int} (hl : l.length ≤ 60) (hb : ∀ x ∈ l, -1099511627776 ≤ x ∧ x ≤ 1099511627776) (n : Nat) (hn : n ≤ l.length) (k : Nat) (hk : 61 < k) : whilomref06_Sum.f k l (n : Int) = some (S l n) := by
  unfold whilomref06_Sum.f
  have := sum_tells hl hb n hn n k 0 (by omega) (by omega) (by omega)
  rwa [S_zero] at this

theorem low_tells {l : List Int} (hl : l.length ≤ 60) (hb : ∀ x ∈ l, -1099511627776 ≤ x ∧ x ≤ 1099511627776) (d : Nat) : ∀ (k i : Nat), l.length - i = d → i ≤ l.length → 1 ≤ i → d + 62 < k →
    whilomref06_Low.l0 k l (L l i) ((i + 1 : Nat) : Int) = some (L l l.length) := by
  induction d with
  | zero =>
    intro k i hd hi h1 hk
    obtain ⟨k, rfl⟩ : ∃ m, k = m + 1 := ⟨k - 1, by omega⟩
    obtain rfl : i = l.length := by omega
    simp only [whilomref06_Low.l0]; rw [if_neg (by omega)]
  | succ d ih =>
    intro k i hd hi h1 hk
    obtain ⟨k, rfl⟩ : ∃ m, k = m + 1 := ⟨k - 1, by omega⟩
    have h2 := ih k (i + 1) (by omega) (by omega) (by omega) (by omega)
    have hL : L l (i + 1) = if S l (i + 1) < L l i then S l (i + 1) else L l i := by
      obtain ⟨m, rfl⟩ : ∃ m, i = m + 1 := ⟨i - 1, by omega⟩
      simp only [L]; rfl
    simp only [whilomref06_Low.l0]; rw [if_pos (by omega), sum_of hl hb (i + 1) (by omega) k (by omega)]
    simp only [Option.bind_some]
    rw [wrap_id (by omega) (by omega)]
    by_cases c : S l (i + 1) < L l i
    · rw [if_pos c]; rw [hL, if_pos c] at h2; exact h2
    · rw [if_neg c]; rw [hL, if_neg c] at h2; exact h2

theorem low_of {l : List Int} (hl : l.length ≤ 60) (hb : ∀ x ∈ l, -1099511627776 ≤ x ∧ x ≤ 1099511627776) (k : Nat) (hk : 200 < k) : whilomref06_Low.f k l = some (L l l.length) := by
  unfold whilomref06_Low.f
  by_cases h : l.length = 0
  · rw [if_pos (by omega), h]; rfl
  · rw [if_neg (by omega), if_pos (by omega)]
    have h1 := low_tells hl hb (l.length - 1) k 1 (by omega) (by omega) (by omega) (by omega)
    have e : L l 1 = rd l 0 := by
      have := S_succ l 0 (by omega)
      simp only [S_zero] at this
      simp only [L]; rw [this]; simp
    rw [e] at h1; exact h1

theorem awake_of (k : Nat) (hk : 10 < k) : whilomlaw06_awake.f k = some true := by
  refine at_rounds (g := fun k => whilomlaw06_awake.f k) (fun k => whilomlaw06_awake.mono k) (k := 5) (by omega) ?_
  kernel_rfl
end TideOfAid
open TideOfAid

theorem TideOf : whilomlaw06_TideOf.Pure := by
  intro l _ _ _
  obtain ⟨b, hb, hall⟩ := small_of l
  refine ⟨301, ?_⟩
  unfold whilomlaw06_TideOf.f
  rw [awake_of 301 (by omega)]; simp only [Option.bind_some, if_true]; rw [hb 301 (by omega)]; simp only [Option.bind_some]
  simp only [whilomlaw06_TideOf.j0]
  cases b with
  | false => rw [if_pos (by rfl), awake_of 300 (by omega)]; rfl
  | true =>
    obtain ⟨hl, hx⟩ := hall rfl
    have e : tide_Of.f 300 l = some ((l.length : Int), S l l.length, L l l.length) := by
      unfold tide_Of.f
      have := of_tells hl hx l.length 300 0 (by omega) (by omega) (by omega)
      simpa [S_zero, L] using this
    rw [if_neg (by simp), e]; simp only [Option.bind_some]
    rw [sum_of hl hx l.length (Nat.le_refl _) 300 (by omega), low_of hl hx 300 (by omega)]
    simp

end Go.Proofs.Ytheopcgjdfckmaa.Pure

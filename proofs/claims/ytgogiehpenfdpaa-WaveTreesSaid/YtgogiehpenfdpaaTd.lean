/- The document's sums. -/
import Derived.Test.YtgogiehpenfdpaaTt
namespace Go.Proofs.Ytgogiehpenfdpaa
open Go Go.Proofs.Ytgogiehpenfdpaa.Sx
set_option linter.unusedVariables false
set_option linter.unusedSimpArgs false

/-! ### the document's -/
theorem refSum_loop (k : Nat) (l : List Int) (hs : smallN l) (hl : l.length < 1000000) (m : Nat) (hm : m ≤ l.length) : ∀ (d i n : Nat), i + d = m → d < n → R06_Sum.l0 k l (m : Int) n ((l.take i).sum, (i : Int)) = some ((l.take m).sum)
  | d, i, 0, _, h => by omega
  | 0, i, n + 1, hi, _ => by
    have : i = m := by omega
    subst this
    simp only [R06_Sum.l0]
    rw [dec_nlt (Nat.le_refl _)]; rfl
  | d + 1, i, n + 1, hi, hn => by
    obtain ⟨x, hx, hdr⟩ := drop_cons (l := l) (i := i) (by omega)
    have ht : l.take (i + 1) = l.take i ++ [x] := by rw [List.take_add_one, hx]; rfl
    have hb := sum_bound (hs.take (i + 1))
    simp only [List.length_take] at hb
    simp only [R06_Sum.l0]
    rw [dec_lt (by omega)]
    have e : (l.take i).sum + x = (l.take (i + 1)).sum := by rw [ht]; simp
    simp only [cond_true, atL_nat hx, Option.bind_some, w64_succ (i := i) (by omega), e]
    rw [w64_id (by omega) (by omega)]
    exact refSum_loop k l hs hl m hm d (i + 1) n (by omega) (by omega)
theorem refSum_eq (k : Nat) {l : List Int} (hs : smallN l) (hl : l.length < 1000000) {m : Nat} (hm : m ≤ l.length) (hk : m < k) : R06_Sum.f k l (m : Int) = some ((l.take m).sum) := by
  have := refSum_loop k l hs hl m hm m 0 k (by omega) hk
  have e : R06_Sum.l0 k l (m : Int) k (0, 0) = some ((l.take m).sum) := this
  unfold R06_Sum.f; rw [e]; rfl
theorem lowF_snoc {l : List Int} {i : Nat} {x : Int} (hx : l[i]? = some x) (hi : 1 ≤ i) : lowF (l.take (i + 1)) = min (lowF (l.take i)) ((l.take (i + 1)).sum) := by
  have ht : l.take (i + 1) = l.take i ++ [x] := by rw [List.take_add_one, hx]; rfl
  have hlt := (List.getElem?_eq_some_iff.1 hx).1
  rw [ht, lowF_append _ _ (by intro e; have := congrArg List.length e; rw [List.length_take, List.length_nil] at this; omega) (by simp)]
  simp [lowF]
theorem refLow_loop (k : Nat) (l : List Int) (hs : smallN l) (hl : l.length < 1000000) (hk : l.length < k) : ∀ (d i n : Nat), 1 ≤ i → i + d = l.length → d < n → R06_Low.l0 k l n (lowF (l.take i), ((i + 1 : Nat) : Int)) = some (lowF l)
  | d, i, 0, _, _, h => by omega
  | 0, i, n + 1, h1, hi, _ => by
    simp only [R06_Low.l0]
    rw [show decide (((i + 1 : Nat) : Int) ≤ (l.length : Int)) = false by simp; omega, List.take_of_length_le (by omega)]; rfl
  | d + 1, i, n + 1, h1, hi, hn => by
    obtain ⟨x, hx, hdr⟩ := drop_cons (l := l) (i := i) (by omega)
    simp only [R06_Low.l0]
    rw [show decide (((i + 1 : Nat) : Int) ≤ (l.length : Int)) = true by simp; omega]
    simp only [cond_true, refSum_eq k hs hl (m := i + 1) (by omega) (by omega), Option.bind_some]
    have e := lowF_snoc hx h1
    have ih := refLow_loop k l hs hl hk d (i + 1) n (by omega) (by omega) (by omega)
    rw [show w64 (((i + 1 : Nat) : Int) + 1) = ((i + 1 + 1 : Nat) : Int) from w64_succ (by omega)]
    by_cases h : (l.take (i + 1)).sum < lowF (l.take i)
    · have e2 : lowF (l.take (i + 1)) = (l.take (i + 1)).sum := by rw [e]; omega
      rw [← e2] at h ⊢
      simp only [h, decide_true, cond_true]; exact ih
    · have e2 : lowF (l.take (i + 1)) = lowF (l.take i) := by rw [e]; omega
      simp only [h, decide_false, cond_false]; rw [← e2]; exact ih
theorem refLow_eq (k : Nat) {l : List Int} (hs : smallN l) (hl : l.length < 1000000) (hk : l.length < k) : R06_Low.f k l = some (lowF l) := by
  unfold R06_Low.f
  cases l with
  | nil => rfl
  | cons x t =>
    have e0 : (((x :: t).length : Int) == 0) = false := by simp; omega
    have e1 : atL (x :: t) 0 = some x := atL_nat (i := 0) rfl
    simp only [e0, cond_false, e1, Option.bind_some]
    have := refLow_loop k (x :: t) hs hl hk t.length 1 k (Nat.le_refl _) (by simp; omega) (by simp at hk; omega)
    have e : R06_Low.l0 k (x :: t) k (x, 2) = some (lowF (x :: t)) := by simpa [lowF] using this
    rw [e]; rfl
end Go.Proofs.Ytgogiehpenfdpaa

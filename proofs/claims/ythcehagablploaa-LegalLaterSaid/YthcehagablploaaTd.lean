/- The document's sums. -/
import Derived.Test.YthcehagablploaaTt
namespace Go.Proofs.Ythcehagablploaa
open Go Go.Proofs.Ythcehagablploaa.Sx
set_option linter.unusedVariables false
set_option linter.unusedSimpArgs false

/-! ### the document's -/
theorem refSum_loop (k : Nat) (l : List Int) (hs : smallN l) (hl : l.length < 1000000) (m : Nat) (hm : m ≤ l.length) : ∀ (d i n : Nat), i + d = m → d < n → R06_Sum.l0 k l (m : Int) n ((l.take i).sum, (i : Int)) = some ((l.take m).sum)
  | d, i, 0, _, h => by omega
  | 0, i, n + 1, hi, _ => by
    have : i = m := by omega
    subst this
    simp only [R06_Sum.l0]
    rw [dec_nlt (Nat.le_refl _)]; rfl
  | d + 1, i, n + 1, hi, hn => by
    obtain ⟨x, hx, hdr⟩ := drop_cons (l := l) (i := i) (by omega)
    have ht : l.take (i + 1) = l.take i ++ [x] := by rw [List.take_add_one, hx]; rfl
    have hb := sum_bound (hs.take (i + 1))
    simp only [List.length_take] at hb
    simp only [R06_Sum.l0]
    rw [dec_lt (by omega)]
    have e : (l.take i).sum + x = (l.take (i + 1)).sum := by rw [ht]; simp
    simp only [cond_true, atL_nat hx, Option.bind_some, w64_succ (i := i) (by omega), e]
    rw [w64_id (by omega) (by omega)]
    exact refSum_loop k l hs hl m hm d (i + 1) n (by omega) (by omega)
theorem refSum_eq (k : Nat) {l : List Int} (hs : smallN l) (hl : l.length < 1000000) {m : Nat} (hm : m ≤ l.length) (hk : m < k) : R06_Sum.f k l (m : Int) = some ((l.take m).sum) := by
  have := refSum_loop k l hs hl m hm m 0 k (by omega) hk
  have e : R06_Sum.l0 k l (m : Int) k (0, 0) = some ((l.take m).sum) := this
  unfold R06_Sum.f; rw [e]; rfl
theorem lowF_snoc {l : List Int} {i : Nat} {x : Int} (hx : l[i]? = some x) (hi : 1 ≤ i) : lowF (l.take (i + 1)) = min (lowF (l.take i)) ((l.take (i + 1)).sum) := by
  have ht : l.take (i + 1) = l.take i ++ [x] := by rw [List.take_add_one, hx]; rfl
  have hlt := (List.getElem?_eq_some_iff.1 hx).1
  rw [ht, lowF_append _ _ (by intro e; have := congrArg List.length e; rw [List.length_take, List.length_nil] at this; omega) (by simp)]
  simp [lowF]
end Go.Proofs.Ythcehagablploaa

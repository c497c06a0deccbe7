/- The law of tides in parts. -/
import Derived.KernelRfl
import Derived.Test.YtheopcgjdfckmaaTt
import Derived.Test.YtheopcgjdfckmaaTr
namespace Go.Proofs.Ytheopcgjdfckmaa
open Go Go.Proofs.Ytheopcgjdfckmaa.Sx
set_option linter.unusedVariables false
set_option linter.unusedSimpArgs false

theorem awake06 : Lw06_awake.f 1000001 = some true := by kernel_rfl
theorem small06_loop (l : List Int) (hl : l.length < 1000000) : ∀ (d i n : Nat), i + d = l.length → d < n → smallN (l.take i) →
    ∃ v, Lw06_small.l0 1000001 l n (i : Int) = some v ∧ (v = Sum.inl false ∨ (v = Sum.inr () ∧ smallN l))
  | d, i, 0, _, h, _ => by omega
  | 0, i, n + 1, hi, _, ha => by
    simp only [Lw06_small.l0]
    rw [dec_nlt (by omega)]
    rw [List.take_of_length_le (by omega)] at ha
    exact ⟨_, rfl, .inr ⟨rfl, ha⟩⟩
  | d + 1, i, n + 1, hi, hn, ha => by
    obtain ⟨x, hx, _⟩ := drop_cons (l := l) (i := i) (by omega)
    have ht : l.take (i + 1) = l.take i ++ [x] := by rw [List.take_add_one, hx]; rfl
    simp only [Lw06_small.l0]
    rw [dec_lt (by omega)]
    simp only [cond_true, atL_nat hx, Option.bind_some]
    by_cases h1 : x < -1099511627776
    · simp only [h1, decide_true, cond_true]; exact ⟨_, rfl, .inl rfl⟩
    · by_cases h2 : x > 1099511627776
      · simp only [h1, h2, decide_true, decide_false, cond_true, cond_false]; exact ⟨_, rfl, .inl rfl⟩
      · simp only [h1, h2, decide_false, cond_false, w64_succ (i := i) (by omega)]
        refine small06_loop l hl d (i + 1) n (by omega) (by omega) (fun y hy => ?_)
        rw [ht] at hy
        rcases List.mem_append.1 hy with hy | hy
        · exact ha y hy
        · simp at hy; subst hy; omega
theorem small06 (l : List Int) : Lw06_small.f 1000001 l = some false ∨ (Lw06_small.f 1000001 l = some true ∧ smallN l ∧ l.length ≤ 60) := by
  unfold Lw06_small.f
  by_cases h : (l.length : Int) > 60
  · simp only [h, decide_true, cond_true]; exact .inl trivial
  · simp only [h, decide_false, cond_false]
    obtain ⟨v, h1, h2⟩ := small06_loop l (by omega) l.length 0 1000001 (by omega) (by omega) (by intro x hx; simp at hx)
    have h1' : Lw06_small.l0 1000001 l 1000001 0 = some v := h1
    rw [h1']
    rcases h2 with rfl | ⟨rfl, h2⟩
    · exact .inl rfl
    · exact .inr ⟨rfl, h2, by omega⟩
theorem TideParts_pure (l : List Int) (at_ to_ : Int) : Lw06_TideParts.f 1000001 l at_ to_ = some true := by
  unfold Lw06_TideParts.f
  simp only [awake06, Option.bind_some, Bool.not_true, cond_false]
  rcases small06 l with h | ⟨h, hs, hl⟩
  · simp only [h, Option.bind_some, Bool.not_false, cond_true, Sum.elim_inl]
  · have hw : w64 ((l.length : Int) + 1) = (l.length : Int) + 1 := w64_id (by omega) (by omega)
    simp only [h, Option.bind_some, Bool.not_true, cond_false, Sum.elim_inr, hw, Rest_eq 1000001 (show (0 : Int) < (l.length : Int) + 1 by omega) (by omega)]
    have a0 := Int.emod_nonneg at_ (show (l.length : Int) + 1 ≠ 0 by omega)
    have a1 := Int.emod_lt_of_pos at_ (show (0 : Int) < (l.length : Int) + 1 by omega)
    have b0 := Int.emod_nonneg to_ (show (l.length : Int) + 1 ≠ 0 by omega)
    have b1 := Int.emod_lt_of_pos to_ (show (0 : Int) < (l.length : Int) + 1 by omega)
    generalize at_ % ((l.length : Int) + 1) = x at *
    generalize to_ % ((l.length : Int) + 1) = y at *
    obtain ⟨i, hi⟩ : ∃ i : Nat, gmin x y = i := ⟨(gmin x y).toNat, by unfold gmin; split <;> omega⟩
    obtain ⟨j, hj⟩ : ∃ j : Nat, gmax x y = j := ⟨(gmax x y).toNat, by unfold gmax; split <;> omega⟩
    have hij : i ≤ j := by
      have : gmin x y ≤ gmax x y := by unfold gmin gmax; split <;> split <;> omega
      omega
    have hjl : j ≤ l.length := by
      have : gmax x y ≤ (l.length : Int) := by unfold gmax; split <;> omega
      omega
    have g1 : (0 : Int) ≤ (i : Int) ∧ (i : Int) ≤ (l.length : Int) := by omega
    have g2 : (0 : Int) ≤ (i : Int) ∧ (i : Int) ≤ (j : Int) ∧ (j : Int) ≤ (l.length : Int) := by omega
    have g3 : (0 : Int) ≤ (j : Int) ∧ (j : Int) ≤ (l.length : Int) := by omega
    have hall : (l.drop 0).take (i - 0) ++ ((l.drop i).take (j - i) ++ (l.drop j).take (l.length - j)) = l := by
      rw [List.drop_zero, Nat.sub_zero, List.take_of_length_le (l := l.drop j) (by simp)]
      have : (l.drop i).take (j - i) ++ l.drop j = l.drop i := by
        have h2 : l.drop j = (l.drop i).drop (j - i) := by rw [List.drop_drop]; congr 1; omega
        rw [h2, List.take_append_drop]
      rw [this, List.take_append_drop]
    simp only [hi, hj, Int.toNat_natCast]
    rw [decide_eq_true g1, decide_eq_true g2, decide_eq_true g3]
    generalize (l.drop 0).take (i - 0) = u at *
    generalize (l.drop i).take (j - i) = v at *
    generalize (l.drop j).take (l.length - j) = w at *
    subst hall
    simp only [List.length_append] at hl
    have su := hs.left
    have sv := hs.right.left
    have sw := hs.right.right
    have e1 := tideOf_eq 1000001 su (by omega) (by omega)
    have e2 := tideOf_eq 1000001 sv (by omega) (by omega)
    have e3 := tideOf_eq 1000001 sw (by omega) (by omega)
    have e4 := tideOf_eq 1000001 hs (by simp; omega) (by simp; omega)
    have e5 := tidePlus_eq 1000001 (a := u) (b := v) (su.append sv) (by simp; omega)
    have e6 := tidePlus_eq 1000001 (a := u ++ v) (b := w) (by rw [List.append_assoc]; exact hs) (by simp; omega)
    have e7 := tidePlus_eq 1000001 (a := v) (b := w) hs.right (by simp; omega)
    have e8 := tidePlus_eq 1000001 (a := u) (b := v ++ w) hs (by simp; omega)
    rw [List.append_assoc] at e6
    simp only [cond_true, e1, e2, e3, e4, e5, e6, e7, e8, Option.bind_some, beq_self_eq_true, Bool.and_self]
end Go.Proofs.Ytheopcgjdfckmaa

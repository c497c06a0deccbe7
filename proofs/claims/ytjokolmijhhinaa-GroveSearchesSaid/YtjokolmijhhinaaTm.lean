/- The laws of the groves: sums, order. Plain Lean over the mirrors. -/
import Derived.Test.YtjokolmijhhinaaTe
import Derived.Test.YtjokolmijhhinaaTd
namespace Go.Proofs.Ytjokolmijhhinaa
open Go Go.Proofs.Ytjokolmijhhinaa.Sx
set_option linter.unusedVariables false
set_option linter.unusedSimpArgs false

theorem seg_nil' {α : Type} {l : List α} {i j : Int} (h : j.toNat ≤ i.toNat ∨ l.length ≤ i.toNat) : seg l i j = [] := by
  unfold seg
  apply List.drop_eq_nil_of_le
  rw [List.length_take]
  omega
theorem refWs_loop (l : List TL07Elem) (hl : l.length < 1000000) (i j : Int) : ∀ (d v n : Nat), l.length ≤ v + d → d < n → i.toNat ≤ v → (v ≤ j.toNat ∨ v = i.toNat) → v = i.toNat ∨ v ≤ l.length → R07_Ws.l0 K1 (rl l) j n (wsE (seg l i v), (v : Int)) = some (wsE (seg l i j))
  | d, v, 0, _, h, _, _, _ => by omega
  | d, v, n + 1, hd, hn, h1, h2, h3 => by
    simp only [R07_Ws.l0, List.length_map]
    by_cases h : v < l.length
    · rw [dec_lt h]
      simp only [cond_true]
      by_cases hj : (v : Int) < j
      · obtain ⟨x, hx, _⟩ := drop_cons h
        have hx' : (rl l)[v]? = some (toR x) := by rw [List.getElem?_map, hx]; rfl
        have e : wsE (seg l i v) ++ [(toR x).w] = wsE (seg l i ((v + 1 : Nat) : Int)) := by
          unfold seg
          rw [Int.toNat_natCast, Int.toNat_natCast, List.take_add_one, hx, List.drop_append_of_le_length (by rw [List.length_take]; omega)]
          simp [toR]
        have hsl := (seg_sub l i v).length_le
        simp only [hj, decide_true, cond_true, atL_nat hx', Option.bind_some]
        rw [decide_eq_true (by simp; omega)]
        simp only [cond_true, e, w64_succ (i := v) (by omega)]
        cases d with
        | zero => omega
        | succ d => exact refWs_loop l hl i j d (v + 1) n (by omega) (by omega) (by omega) (by omega) (by omega)
      · simp only [hj, decide_false, cond_false]
        congr 2
        rcases h2 with h2 | h2
        · have : v = j.toNat := by omega
          unfold seg; rw [Int.toNat_natCast, this]
        · rw [seg_nil' (by omega), seg_nil' (by omega)]
    · rw [dec_nlt (by omega)]
      simp only [cond_false]
      congr 2
      rcases h3 with h3 | h3
      · rw [seg_nil' (by omega), seg_nil' (by omega)]
      · rcases h2 with h2 | h2
        · unfold seg; rw [List.take_of_length_le (by omega), List.take_of_length_le (by omega)]
        · rw [seg_nil' (by omega), seg_nil' (by omega)]
theorem refWs (l : List TL07Elem) (hl : l.length < 1000000) (i j : Int) : R07_Ws.f K1 (rl l) i j = some (wsE (seg l i j)) := by
  have h := refWs_loop l hl i j l.length i.toNat K1 (by omega) (by unfold K1; omega) (Nat.le_refl _) (.inr rfl) (.inl rfl)
  have e1 : gmax i 0 = (i.toNat : Int) := by unfold gmax; split <;> omega
  have e2 : seg l i (i.toNat : Int) = [] := seg_nil' (by omega)
  rw [e2] at h
  unfold R07_Ws.f
  rw [e1]
  have h' : R07_Ws.l0 K1 (rl l) j K1 (([] : List Int), (i.toNat : Int)) = some (wsE (seg l i j)) := h
  rw [h']; rfl
theorem GroveSums_pure (l : List TL07Act) (i j : Int) : Lw07_GroveSums.f K1 l i j = some true := by
  unfold Lw07_GroveSums.f
  simp only [awake07, Option.bind_some, Bool.not_true, cond_false]
  rcases small07 l with h | ⟨h, hs⟩
  · simp only [h, Option.bind_some, Bool.not_false, cond_true, Sum.elim_inl]
  · obtain ⟨p, r, l', h1, h2⟩ := made_ok l hs 50 (by decide)
    have h60 := hs.2
    have hll := h2.len
    obtain ⟨s, s1, s2⟩ := h2.gr.between okE (by decide) i j (by omega)
    have hsl := (seg_sub l' i j).length_le
    have hsm : smallN (wsE (seg l' i j)) := smallE (fun x hx => h2.gr.good x ((seg_sub l' i j).subset hx))
    have hlen : (wsE (seg l' i j)).length < 1000000 := by simp; omega
    have hk : (wsE (seg l' i j)).length < K1 := by unfold K1; omega
    simp only [h, Option.bind_some, Bool.not_true, cond_false, Sum.elim_inr, h1, refWs l' (by omega) i j, s1, refSum_eq K1 hsm hlen (Nat.le_refl _) hk, refLow_eq K1 hsm hlen hk, s2, tideF, List.take_length, beq_self_eq_true, Bool.and_self]
theorem cut_at {x e : TL07Elem} {l a m b : List TL07Elem} {i : Nat} (hx : l[i]? = some x) (hc : Cut ltE e l a m b) (he : e.k = x.k) : a.length = i ∧ m = [x] := by
  rw [hc.eq] at hx
  by_cases h1 : i < a.length
  · rw [List.getElem?_append_left h1] at hx
    have := hc.la x (List.mem_of_getElem? hx)
    unfold ltE at this; omega
  · rw [List.getElem?_append_right (by omega)] at hx
    by_cases h2 : i - a.length < m.length
    · rw [List.getElem?_append_left h2] at hx
      rcases hc.lm with h | ⟨y, h, _, _⟩
      · subst h; simp at h2
      · subst h
        simp only [List.length_cons, List.length_nil] at h2
        have h3 : i - a.length = 0 := by omega
        rw [h3] at hx
        simp at hx
        exact ⟨by omega, by rw [hx]⟩
    · rw [List.getElem?_append_right (by omega)] at hx
      have := hc.lb x (List.mem_of_getElem? hx)
      unfold ltE at this; omega
theorem order_loop {p : PN TL07Elem TTide} {r : TRef} {l : List TL07Elem} {c : Int} {B : Nat} (h : GrE p r l c B) (hl : l.length < 1000000) (b : Bool) : ∀ (d i n : Nat), i + d = l.length → d < n → Lw07_GroveOrder.l0 K1 (r, p, rl l, b) l n (i : Int) = some (Sum.inr ())
  | d, i, 0, _, h => by omega
  | 0, i, n + 1, hi, _ => by
    simp only [Lw07_GroveOrder.l0]
    rw [dec_nlt (by omega)]; rfl
  | d + 1, i, n + 1, hi, hn => by
    obtain ⟨x, hx, _⟩ := drop_cons (l := l) (i := i) (by omega)
    have q1 := h.at okE (by decide) (i : Int) (by omega) hl
    rw [if_neg (by omega), Int.toNat_natCast, hx] at q1
    obtain ⟨a, m, b', hc, q2⟩ := h.find okE (by decide) ⟨x.k, 0⟩ hl
    obtain ⟨_, rfl⟩ := cut_at hx hc rfl
    obtain ⟨a2, m2, b2, hc2, q3⟩ := h.rank okE (by decide) x hl
    obtain ⟨h4, _⟩ := cut_at hx hc2 rfl
    simp only [Lw07_GroveOrder.l0]
    rw [dec_lt (by omega)]
    simp only [cond_true, q1, Option.bind_some, atL_nat hx, q2, Bool.not_true, cond_false, beq_self_eq_true, Bool.and_self, q3, h4]
    have e0 : ((i : Int) != (i : Int)) = false := by simp
    simp only [e0, cond_false, w64_succ (i := i) (by omega)]
    have ih := order_loop h hl b d (i + 1) n (by omega) (by omega)
    by_cases h0 : (i : Int) > 0
    · obtain ⟨j, rfl⟩ : ∃ j, i = j + 1 := ⟨i - 1, by omega⟩
      obtain ⟨y, hy, _⟩ := drop_cons (l := l) (i := j) (by omega)
      have hlt : y.k < x.k := by
        have hs := h.sorted
        have h1 := (List.getElem?_eq_some_iff.1 hy)
        have h2 := (List.getElem?_eq_some_iff.1 hx)
        have := List.pairwise_iff_getElem.1 hs j (j + 1) h1.1 h2.1 (by omega)
        rw [h1.2, h2.2] at this; exact this
      have hge : decide (y.k ≥ x.k) = false := by simp; omega
      simp only [h0, decide_true, cond_true, w64_pred (i := j) (by omega), atL_nat hy, Option.bind_some, hge, cond_false]
      exact ih
    · simp only [h0, decide_false, cond_false]
      exact ih
theorem GroveOrder_pure (l : List TL07Act) : Lw07_GroveOrder.f K1 l = some true := by
  unfold Lw07_GroveOrder.f
  simp only [awake07, Option.bind_some, Bool.not_true, cond_false]
  rcases small07 l with h | ⟨h, hs⟩
  · simp only [h, Option.bind_some, Bool.not_false, cond_true, Sum.elim_inl]
  · obtain ⟨p, r, l', h1, h2⟩ := made_ok l hs 50 (by decide)
    have h60 := hs.2
    have hll := h2.len
    obtain ⟨s, s1, s2⟩ := h2.gr.between okE (by decide) 0 (l'.length : Int) (by omega)
    rw [seg_all (Int.le_refl _) (Int.le_refl _)] at s2
    have e : Lw07_GroveOrder.l0 K1 (r, p, rl l', true) l' K1 0 = some (Sum.inr ()) := order_loop h2.gr (by omega) true l'.length 0 K1 (by omega) (by unfold K1; omega)
    simp only [h, Option.bind_some, Bool.not_true, cond_false, Sum.elim_inr, h1, h2.gr.all okE (by decide) (by omega), e, cond_true, h2.gr.len okE, beq_self_eq_true, s1, s2, tideF, List.length_map]
end Go.Proofs.Ytjokolmijhhinaa

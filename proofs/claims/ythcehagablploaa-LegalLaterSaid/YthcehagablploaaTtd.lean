/- The laws of legal edits. -/
import Derived.Test.YthcehagablploaaTtb
namespace Go.Proofs.Ythcehagablploaa
open Go Go.Proofs.Ythcehagablploaa.Sx
set_option linter.unusedVariables false
set_option linter.unusedSimpArgs false

abbrev InTime (m : List TR08Mark) : Prop := m.Pairwise (fun a b => a.op.time < b.op.time)
def wins (w : List TR08Mark) (e : TR08Mark) : List TR08Mark := w.takeWhile (early e) ++ e :: w.dropWhile (early e)
theorem timed_fold : ∀ (l w : List TR08Mark), InTime (w ++ l) → l.foldl tins w = w ++ l
  | [], w, _ => by simp
  | e :: l, w, h => by
    obtain ⟨h1, h2, h3⟩ := List.pairwise_append.1 h
    have e1 : tins w e = w ++ [e] := by
      have := tins_cut (e := e) (A := w) (M := []) (B := []) (fun x hx => h3 x hx e List.mem_cons_self) (by simp) (.inl rfl)
      simpa using this
    rw [List.foldl_cons, e1, timed_fold l (w ++ [e]) (by simpa using h)]
    simp
theorem timed_id {m : List TR08Mark} (h : InTime m) : timed m = m := timed_fold m [] h
/-- Where a time cuts marks. -/
structure CutT (t : Int) (m A M B : List TR08Mark) : Prop where
  eq : m = A ++ (M ++ B)
  la : ∀ x ∈ A, x.op.time < t
  lb : ∀ x ∈ B, t < x.op.time
  lm : M = [] ∨ ∃ y, M = [y] ∧ y.op.time = t
theorem CutT.len {t : Int} {m A M B : List TR08Mark} (h : CutT t m A M B) : m.length = A.length + (M.length + B.length) := by rw [h.eq]; simp
theorem CutT.le {t t' : Int} {m A M B A' M' B' : List TR08Mark} (h : CutT t m A M B) (g : CutT t' m A' M' B') (ht : t ≤ t') : A.length ≤ A'.length := by
  by_cases hc : A.length ≤ A'.length
  · exact hc
  · exfalso
    have hl := g.len
    have hl' := h.len
    obtain ⟨x, hx, _⟩ := drop_cons (l := m) (i := A'.length) (by omega)
    have h1 : x ∈ A := by
      have h2 := hx
      rw [h.eq, List.getElem?_append_left (by omega)] at h2
      exact List.mem_of_getElem? h2
    have h3 : x ∈ M' ++ B' := by
      have h2 := hx
      rw [g.eq, List.getElem?_append_right (Nat.le_refl _)] at h2
      exact List.mem_of_getElem? h2
    have h4 := h.la x h1
    rcases List.mem_append.1 h3 with h3 | h3
    · rcases g.lm with h5 | ⟨y, h5, h6⟩
      · rw [h5] at h3; cases h3
      · rw [h5] at h3; simp at h3; subst h3; omega
    · have := g.lb x h3; omega
theorem CutT.none {t : Int} {m A M B : List TR08Mark} (h : CutT t m A M B) (hn : ∀ x ∈ m, x.op.time ≠ t) : M = [] := by
  rcases h.lm with h1 | ⟨y, h1, h2⟩
  · exact h1
  · exact absurd h2 (hn y (by rw [h.eq, h1]; simp))
theorem CutT.some {t : Int} {m A M B : List TR08Mark} (h : CutT t m A M B) {i : Nat} {x : TR08Mark} (hx : m[i]? = some x) (ht : x.op.time = t) : M = [x] ∧ A.length = i := by
  have h2 := hx
  rw [h.eq] at h2
  by_cases h1 : i < A.length
  · rw [List.getElem?_append_left h1] at h2
    have := h.la x (List.mem_of_getElem? h2); omega
  · rw [List.getElem?_append_right (by omega)] at h2
    by_cases h3 : i - A.length < M.length
    · rw [List.getElem?_append_left h3] at h2
      rcases h.lm with h4 | ⟨y, h4, h5⟩
      · rw [h4] at h3; simp at h3
      · rw [h4] at h3 h2
        simp only [List.length_cons, List.length_nil] at h3
        have e0 : i - A.length = 0 := by omega
        rw [e0] at h2; simp at h2
        exact ⟨by rw [h4, h2], by omega⟩
    · rw [List.getElem?_append_right (by omega)] at h2
      have := h.lb x (List.mem_of_getElem? h2); omega
theorem cnt_app (A B : List TR08Mark) (j : Nat) : cnt (A ++ B) j = cnt A j + cnt B (j - A.length) := by
  unfold cnt
  have : cts (A ++ B) = cts A ++ cts B := by simp
  rw [this, List.take_append, List.sum_append]
  simp
theorem cnt_all {A : List TR08Mark} {j : Nat} (h : A.length ≤ j) : cnt A j = cnt A A.length := by
  unfold cnt
  rw [List.take_of_length_le (by simpa using h), List.take_of_length_le (by simp)]
theorem cnt_cons (x : TR08Mark) (B : List TR08Mark) (j : Nat) : cnt (x :: B) (j + 1) = mcnt (tm x) + cnt B j := by
  unfold cnt; simp
theorem cnt_zero (B : List TR08Mark) : cnt B 0 = 0 := by simp [cnt]
theorem cnt_ins (A B : List TR08Mark) (x : TR08Mark) (q : Nat) : cnt (A ++ x :: B) (A.length + 1 + q) = cnt (A ++ B) (A.length + q) + mcnt (tm x) := by
  rw [cnt_app, cnt_app, cnt_all (A := A) (by omega), cnt_all (A := A) (j := A.length + q) (by omega), show A.length + 1 + q - A.length = q + 1 by omega, cnt_cons, show A.length + q - A.length = q by omega]
  omega
theorem cnt_ins_lo (A B : List TR08Mark) (x : TR08Mark) (j : Nat) (h : j ≤ A.length) : cnt (A ++ x :: B) j = cnt (A ++ B) j := by
  rw [cnt_app, cnt_app, show j - A.length = 0 by omega, cnt_zero, cnt_zero]
open Classical in
theorem legal_ins (A B : List TR08Mark) (x : TR08Mark) (hL : Legal (A ++ B)) : Legal (A ++ x :: B) ↔ ∀ j, A.length ≤ j → j ≤ (A ++ B).length → cnt (A ++ B) j + mcnt (tm x) ≥ 0 := by
  constructor
  · intro h j h1 h2
    have := h (A.length + 1 + (j - A.length)) (by simp at h2 ⊢; omega)
    rw [cnt_ins, show A.length + (j - A.length) = j by omega] at this
    exact this
  · intro h j hj
    by_cases h1 : j ≤ A.length
    · rw [cnt_ins_lo A B x j h1]; exact hL j (by simp; omega)
    · obtain ⟨q, rfl⟩ : ∃ q, j = A.length + 1 + q := ⟨j - A.length - 1, by omega⟩
      rw [cnt_ins]
      exact h _ (by omega) (by simp at hj ⊢; omega)
theorem legal_del (A B : List TR08Mark) (x : TR08Mark) (hL : Legal (A ++ x :: B)) : Legal (A ++ B) ↔ ∀ j, A.length + 1 ≤ j → j ≤ (A ++ x :: B).length → cnt (A ++ x :: B) j - mcnt (tm x) ≥ 0 := by
  constructor
  · intro h j h1 h2
    obtain ⟨q, rfl⟩ : ∃ q, j = A.length + 1 + q := ⟨j - A.length - 1, by omega⟩
    have := h (A.length + q) (by simp at h2 ⊢; omega)
    rw [cnt_ins]; omega
  · intro h j hj
    by_cases h1 : j < A.length
    · rw [← cnt_ins_lo A B x j (by omega)]; exact hL j (by simp; omega)
    · obtain ⟨q, rfl⟩ : ∃ q, j = A.length + q := ⟨j - A.length, by omega⟩
      have := h (A.length + 1 + q) (by omega) (by simp at hj ⊢; omega)
      rw [cnt_ins] at this; omega
def keyR (t : Int) : TR08Mark := ⟨⟨t, false, zTItem⟩, false, zTTook⟩
section
variable {p : PN TMark TSwell} {r : TRef} {m : List TR08Mark} {c : Int} {B : Nat}
theorem find_ok' (h : GrM p r (tms m) c B) (hl : m.length < 100000) (t : Int) : ∃ A M B', CutT t m A M B' ∧ Tree_Find.f opsM K1 p r (tm (keyR t)) = some (match M with | y :: _ => (tm y, true) | [] => (zTMark, false)) ∧ Tree_Rank.f opsM K1 p r (tm (keyR t)) = some (A.length : Int) := by
  obtain ⟨a, mm, b, hc, q⟩ := h.find okM (by decide) (tm (keyR t)) (by simp; omega)
  obtain ⟨a', mm', b', hc', q'⟩ := h.rank okM (by decide) (tm (keyR t)) (by simp; omega)
  obtain ⟨A, M, B1, h1, rfl, rfl, rfl, h2, h3, h4⟩ := cutR hc
  obtain ⟨A', M', B1', g1, rfl, rfl, rfl, g2, g3, g4⟩ := cutR hc'
  have c1 : CutT t m A M B1 := ⟨h1, h2, h3, h4⟩
  have c2 : CutT t m A' M' B1' := ⟨g1, g2, g3, g4⟩
  have e : A'.length = A.length := Nat.le_antisymm (c2.le c1 (Int.le_refl _)) (c1.le c2 (Int.le_refl _))
  refine ⟨A, M, B1, c1, ?_, ?_⟩
  · rw [q]; cases M <;> rfl
  · rw [q', List.length_map, e]
theorem spare_ok (h : GrM p r (tms m) c B) (hl : m.length < 100000) (i : Nat) (hi : i ≤ m.length) : ∃ b, legal_spare.f K1 p r (i : Int) (m.length : Int) = some b ∧ (b = true ↔ ∀ j, i ≤ j → j ≤ m.length → cnt m j ≥ 1) := by
  have hc : clampN m (i : Int) = i := by unfold clampN; omega
  unfold legal_spare.f
  rw [low_ok h hl, hc, clampN_len]
  refine ⟨_, rfl, ?_⟩
  have := lowC_ge m i 1 (m.length - i)
  rw [decide_eq_true_iff]
  constructor
  · intro h1 j h2 h3; exact this.1 (by omega) j h2 (by omega)
  · intro h1
    have := this.2 (fun j h2 h3 => h1 j h2 (by omega))
    omega
theorem mayDelete_ok (h : GrM p r (tms m) c B) (hl : m.length < 100000) (t : Int) : ∃ A M B' b, CutT t m A M B' ∧ legal_MayDelete.f K1 p r t = some b ∧ (b = true ↔ M = [] ∧ ∀ j, A.length ≤ j → j ≤ m.length → cnt m j ≥ 1) := by
  obtain ⟨A, M, B', c1, q1, q2⟩ := find_ok' h hl t
  have hlen := c1.len
  obtain ⟨b, s1, s2⟩ := spare_ok h hl A.length (by omega)
  have q1' : Tree_Find.f opsM K1 p r ⟨⟨t, false, zTItem⟩, false, zTTook⟩ = _ := q1
  have q2' : Tree_Rank.f opsM K1 p r ⟨⟨t, false, zTItem⟩, false, zTTook⟩ = _ := q2
  unfold legal_MayDelete.f wave_Key.f
  simp only [Option.bind_some, q1', q2', len_ok h, s1]
  rcases c1.lm with hm | ⟨y, hm, _⟩
  · subst hm
    exact ⟨A, [], B', b, c1, rfl, by rw [s2]; simp⟩
  · subst hm
    exact ⟨A, [y], B', false, c1, rfl, by simp⟩
theorem mayRevoke_ok (h : GrM p r (tms m) c B) (hl : m.length < 100000) (t : Int) : ∃ A M B' b, CutT t m A M B' ∧ legal_MayRevoke.f K1 p r t = some b ∧ (M = [] → b = false) ∧ (∀ y, M = [y] → (b = true ↔ (y.op.insert = true → ∀ j, A.length + 1 ≤ j → j ≤ m.length → cnt m j ≥ 1))) := by
  obtain ⟨A, M, B', c1, q1, q2⟩ := find_ok' h hl t
  have hlen := c1.len
  have q1' : Tree_Find.f opsM K1 p r ⟨⟨t, false, zTItem⟩, false, zTTook⟩ = _ := q1
  have q2' : Tree_Rank.f opsM K1 p r ⟨⟨t, false, zTItem⟩, false, zTTook⟩ = _ := q2
  unfold legal_MayRevoke.f wave_Key.f
  simp only [Option.bind_some, q1', q2', len_ok h]
  rcases c1.lm with hm | ⟨y, hm, _⟩
  · subst hm
    exact ⟨A, [], B', false, c1, rfl, fun _ => rfl, fun y hy => by cases hy⟩
  · subst hm
    simp only [List.length_cons, List.length_nil] at hlen
    obtain ⟨b, s1, s2⟩ := spare_ok h hl (A.length + 1) (by omega)
    have e : w64 ((A.length : Int) + 1) = ((A.length + 1 : Nat) : Int) := w64_succ (by omega)
    simp only [Bool.not_true, cond_false, e, s1, Option.bind_some]
    cases hi : y.op.insert
    · have : (tm y).op.insert = false := hi
      simp only [this, Bool.not_false, cond_true]
      refine ⟨A, [y], B', true, c1, rfl, (fun h => by cases h), fun z hz => ?_⟩
      cases hz
      simp [hi]
    · have : (tm y).op.insert = true := hi
      simp only [this, Bool.not_true, cond_false]
      refine ⟨A, [y], B', b, c1, rfl, (fun h => by cases h), fun z hz => ?_⟩
      cases hz
      rw [s2]; simp [hi]
end

/-! ### the document's -/
theorem refAt_loop (m : List TR08Mark) (hl : m.length < 100000) (t : Int) : ∀ (d i n : Nat), i + d = m.length → d < n → (∀ x ∈ m.take i, x.op.time ≠ t) → ∃ v, R11_At.l0 K1 m t n (i : Int) = some v ∧ ((v = Sum.inr () ∧ ∀ x ∈ m, x.op.time ≠ t) ∨ ∃ (j : Nat) (x : TR08Mark), v = Sum.inl (j : Int) ∧ m[j]? = some x ∧ x.op.time = t)
  | d, i, 0, _, h, _ => by omega
  | 0, i, n + 1, hi, _, h => by
    simp only [R11_At.l0]
    rw [dec_nlt (by omega)]
    rw [List.take_of_length_le (by omega)] at h
    exact ⟨_, rfl, .inl ⟨rfl, h⟩⟩
  | d + 1, i, n + 1, hi, hn, h => by
    obtain ⟨x, hx, _⟩ := drop_cons (l := m) (i := i) (by omega)
    have ht : m.take (i + 1) = m.take i ++ [x] := by rw [List.take_add_one, hx]; rfl
    simp only [R11_At.l0]
    rw [dec_lt (by omega)]
    simp only [cond_true, atL_nat hx, Option.bind_some]
    by_cases hk : x.op.time = t
    · have : (x.op.time == t) = true := by simpa using hk
      simp only [this, cond_true]
      exact ⟨_, rfl, .inr ⟨i, x, rfl, hx, hk⟩⟩
    · have : (x.op.time == t) = false := by simpa using hk
      simp only [this, cond_false, w64_succ (i := i) (by omega)]
      refine refAt_loop m hl t d (i + 1) n (by omega) (by omega) (fun y hy => ?_)
      rw [ht] at hy
      rcases List.mem_append.1 hy with hy | hy
      · exact h y hy
      · simp at hy; subst hy; exact hk
theorem refAt (m : List TR08Mark) (hl : m.length < 100000) (t : Int) : ∃ v, R11_At.f K1 m t = some v ∧ ((v = -1 ∧ ∀ x ∈ m, x.op.time ≠ t) ∨ ∃ (j : Nat) (x : TR08Mark), v = (j : Int) ∧ m[j]? = some x ∧ x.op.time = t) := by
  have hlt : m.length < K1 := by unfold K1; omega
  obtain ⟨v, h1, h2⟩ := refAt_loop m hl t m.length 0 K1 (Nat.zero_add _) hlt (by simp)
  replace h1 : R11_At.l0 K1 m t K1 0 = some v := h1
  unfold R11_At.f
  rw [h1]
  rcases h2 with ⟨rfl, h2⟩ | ⟨j, x, rfl, h2, h3⟩
  · exact ⟨-1, rfl, .inl ⟨rfl, h2⟩⟩
  · exact ⟨_, rfl, .inr ⟨j, x, rfl, h2, h3⟩⟩
theorem refWith_loop (w : List TR08Mark) (e : TR08Mark) (hl : w.length < 100000) : ∀ (d i n : Nat), i + d = (w.takeWhile (early e)).length → d < n → R11_With.l0 K1 w e n (i : Int) = some ((w.takeWhile (early e)).length : Int)
  | d, i, 0, _, h => by omega
  | 0, i, n + 1, hi, _ => by
    have hle := takeW_le w (early e)
    simp only [R11_With.l0]
    by_cases h : i < w.length
    · obtain ⟨x, hx, hd⟩ := drop_cons h
      have hd' : w.dropWhile (early e) = x :: w.drop (i + 1) := by rw [← dropW_len, show (w.takeWhile (early e)).length = i by omega, hd]
      have hp := dropW_head hd'
      have hn : ¬ x.op.time < e.op.time := by simpa [early] using hp
      rw [dec_lt h]
      simp only [cond_true, atL_nat hx, Option.bind_some, hn, decide_false, cond_false]
      congr 2
    · rw [dec_nlt (by omega)]
      simp only [cond_false]
      congr 2
  | d + 1, i, n + 1, hi, hn => by
    have hle := takeW_le w (early e)
    obtain ⟨x, hx, _⟩ := drop_cons (l := w) (i := i) (by omega)
    have hm : x ∈ w.takeWhile (early e) := by
      rw [← takeW_len]
      exact List.mem_of_getElem? (i := i) (by rw [List.getElem?_take_of_lt (by omega)]; exact hx)
    have h3 : x.op.time < e.op.time := by
      have := List.all_takeWhile (p := early e) (l := w)
      have := List.all_eq_true.1 this x hm
      simpa [early] using this
    simp only [R11_With.l0]
    rw [dec_lt (by omega)]
    simp only [cond_true, atL_nat hx, Option.bind_some, h3, decide_true, w64_succ (i := i) (by omega)]
    exact refWith_loop w e hl d (i + 1) n (by omega) (by omega)
theorem refWith (w : List TR08Mark) (e : TR08Mark) (hl : w.length < 100000) : R11_With.f K1 w e = some (wins w e) := by
  have hle := takeW_le w (early e)
  have hlt : (w.takeWhile (early e)).length < K1 := by unfold K1; omega
  have q := refWith_loop w e hl (w.takeWhile (early e)).length 0 K1 (Nat.zero_add _) hlt
  replace q : R11_With.l0 K1 w e K1 0 = some ((w.takeWhile (early e)).length : Int) := q
  have ta := takeW_len w (early e)
  have td := dropW_len w (early e)
  have hdr : (w.drop (w.takeWhile (early e)).length).take (w.length - (w.takeWhile (early e)).length) = w.dropWhile (early e) := by rw [td, List.take_of_length_le (by omega)]
  unfold R11_With.f wins
  rw [q]
  simp only [Option.bind_some, Int.toNat_natCast, Nat.sub_zero, List.drop_zero, ta, List.nil_append, hdr]
  rw [nat_in (by omega)]
  simp only [cond_true]
  rw [decide_eq_true (p := ([] : List TR08Mark).length + (w.takeWhile (early e)).length < 4294967296) (by simp; omega), decide_eq_true (p := (w.takeWhile (early e)).length + [e].length < 4294967296) (by simp; omega), decide_eq_true (by simp; omega)]
  simp
theorem wins_cut {e : TR08Mark} {m A B : List TR08Mark} (h : CutT e.op.time m A [] B) : wins m e = A ++ e :: B := by
  have hA : ∀ x ∈ A, early e x = true := fun x hx => by simp [early, h.la x hx]
  have hR : B.takeWhile (early e) = [] ∧ B.dropWhile (early e) = B := by
    cases hB : B with
    | nil => exact ⟨rfl, rfl⟩
    | cons z r =>
      have : early e z = false := by have := h.lb z (by rw [hB]; simp); simp [early]; omega
      simp [this]
  unfold wins
  rw [h.eq, List.nil_append, List.takeWhile_append_of_pos hA, List.dropWhile_append_of_pos hA, hR.1, hR.2, List.append_nil]
theorem cutT_ex {m : List TR08Mark} (hs : InTime m) (t : Int) : ∃ A M B, CutT t m A M B := by
  induction m with
  | nil => exact ⟨[], [], [], rfl, by simp, by simp, .inl rfl⟩
  | cons x m ih =>
    obtain ⟨h1, h2⟩ := List.pairwise_cons.1 hs
    by_cases c1 : x.op.time < t
    · obtain ⟨A, M, B, h⟩ := ih h2
      exact ⟨x :: A, M, B, by rw [h.eq]; rfl, fun y hy => by
        rcases List.mem_cons.1 hy with rfl | hy
        · exact c1
        · exact h.la y hy, h.lb, h.lm⟩
    · by_cases c2 : x.op.time = t
      · exact ⟨[], [x], m, rfl, by simp, fun y hy => by have := h1 y hy; omega, .inr ⟨x, rfl, c2⟩⟩
      · exact ⟨[], [], x :: m, rfl, by simp, fun y hy => by
          rcases List.mem_cons.1 hy with rfl | hy
          · omega
          · have := h1 y hy; omega, .inl rfl⟩
theorem ins_inTime {e : TR08Mark} {m A B : List TR08Mark} (h : CutT e.op.time m A [] B) (hs : InTime m) : InTime (A ++ e :: B) := by
  rw [h.eq, List.nil_append] at hs
  obtain ⟨s1, s2, s3⟩ := List.pairwise_append.1 hs
  refine List.pairwise_append.2 ⟨s1, List.pairwise_cons.2 ⟨h.lb, s2⟩, fun x hx y hy => ?_⟩
  rcases List.mem_cons.1 hy with rfl | hy
  · exact h.la x hx
  · exact s3 x hx y hy
structure OfL (m : List TR08Mark) (n : Nat) : Prop where
  time : InTime m
  legal : Legal m
  len : m.length ≤ n
theorem legal_nil : Legal [] := fun j hj => by
  have : j = 0 := by simpa using hj
  subst this; rw [cnt_zero]; exact Int.le_refl _
theorem refOf_loop (l : List TR08Mark) (hl : l.length < 10000) : ∀ (d i n : Nat) (w : List TR08Mark), i + d = l.length → d < n → OfL w i → ∃ m, R11_Of.l0 K1 l n (w, (i : Int)) = some m ∧ OfL m l.length
  | d, i, 0, _, _, h, _ => by omega
  | 0, i, n + 1, w, hi, _, h => by
    simp only [R11_Of.l0]
    rw [dec_nlt (by omega)]
    exact ⟨w, rfl, h.time, h.legal, by have := h.len; omega⟩
  | d + 1, i, n + 1, w, hi, hn, h => by
    obtain ⟨e, he, _⟩ := drop_cons (l := l) (i := i) (by omega)
    have hlw := h.len
    have hw := refWith w e (by omega)
    obtain ⟨v, v1, v2⟩ := refAt w (by omega) e.op.time
    have skip := refOf_loop l hl d (i + 1) n w (by omega) (by omega) ⟨h.time, h.legal, by omega⟩
    have hwl : (wins w e).length = w.length + 1 := by
      have := takeW_le w (early e)
      unfold wins; simp; omega
    have hlg := refLegal (wins w e) (by omega)
    simp only [R11_Of.l0]
    rw [dec_lt (by omega)]
    simp only [cond_true, atL_nat he, Option.bind_some, hw, v1, w64_succ (i := i) (by omega), hlg]
    rcases v2 with ⟨rfl, v2⟩ | ⟨j, x, rfl, _, _⟩
    · simp only [show decide ((-1 : Int) < 0) = true from rfl, cond_true]
      by_cases hL : Legal (wins w e)
      · simp only [hL, decide_true, cond_true]
        obtain ⟨A, M, B, hc⟩ := cutT_ex h.time e.op.time
        have hm := hc.none v2
        subst hm
        refine refOf_loop l hl d (i + 1) n (wins w e) (by omega) (by omega) ⟨?_, hL, by omega⟩
        rw [wins_cut hc]; exact ins_inTime hc h.time
      · simp only [hL, decide_false, cond_false]; exact skip
    · rw [decide_eq_false (by omega)]
      exact skip
theorem refOf (l : List TR08Mark) (hl : l.length < 10000) : ∃ m, R11_Of.f K1 l = some m ∧ OfL m l.length := by
  have hlt : l.length < K1 := by unfold K1; omega
  obtain ⟨m, h1, h2⟩ := refOf_loop l hl l.length 0 K1 [] (Nat.zero_add _) hlt ⟨List.Pairwise.nil, legal_nil, Nat.le_refl _⟩
  replace h1 : R11_Of.l0 K1 l K1 (([] : List TR08Mark), 0) = some m := h1
  exact ⟨m, by unfold R11_Of.f; rw [h1]; rfl, h2⟩
theorem refWithout (A : List TR08Mark) (x : TR08Mark) (B : List TR08Mark) (hl : (A ++ x :: B).length < 100000) : R11_Without.f K1 (A ++ x :: B) (A.length : Int) = some (A ++ B) := by
  have hlen : (A ++ x :: B).length = A.length + 1 + B.length := by simp; omega
  have hsu : w64 ((A.length : Int) + 1) = ((A.length + 1 : Nat) : Int) := w64_succ (by omega)
  have ta : (A ++ x :: B).take A.length = A := List.take_left' rfl
  have hdr : ((A ++ x :: B).drop (A.length + 1)).take ((A ++ x :: B).length - (A.length + 1)) = B := by
    rw [show A ++ x :: B = (A ++ [x]) ++ B by simp, List.drop_left' (by simp), List.take_of_length_le (by simp; omega)]
  unfold R11_Without.f
  simp only [Int.toNat_natCast, Nat.sub_zero, List.drop_zero, ta, List.nil_append, hsu, hdr]
  rw [nat_in (by omega), nat_in (by omega)]
  simp only [cond_true]
  rw [decide_eq_true (p := ([] : List TR08Mark).length + A.length < 4294967296) (by simp; omega), decide_eq_true (by omega)]
  simp
open Classical in
theorem edits_loop {p : PN TMark TSwell} {r : TRef} {m : List TR08Mark} {c : Int} {B : Nat} (h : GrM p r (tms m) c B) (hl : m.length < 100000) (hL : Legal m) : ∀ (d i n : Nat), i + d = m.length → d < n → Lw11_LegalEdits.l0 K1 m (r, p) n (i : Int) = some (Sum.inr ())
  | d, i, 0, _, h => by omega
  | 0, i, n + 1, hi, _ => by
    simp only [Lw11_LegalEdits.l0]
    rw [dec_nlt (by omega)]; rfl
  | d + 1, i, n + 1, hi, hn => by
    obtain ⟨x, hx, _⟩ := drop_cons (l := m) (i := i) (by omega)
    obtain ⟨A, M, B', b, c1, q1, _, q2⟩ := mayRevoke_ok h hl x.op.time
    obtain ⟨rfl, hA⟩ := c1.some hx rfl
    have q2 := q2 x rfl
    have hm : m = A ++ x :: B' := c1.eq
    have hlen := c1.len
    have q3 : R11_Without.f K1 m (i : Int) = some (A ++ B') := by rw [← hA, hm]; exact refWithout A x B' (by rw [← hm]; exact hl)
    have q4 := refLegal (A ++ B') (by simp; simp at hlen; omega)
    have hdel := legal_del A B' x (by rw [← hm]; exact hL)
    rw [← hm] at hdel
    have hb : b = @decide (Legal (A ++ B')) (Classical.propDecidable _) := by
      have hiff : b = true ↔ Legal (A ++ B') := by
        rw [q2, hdel]
        constructor
        · intro h1 j h2 h3
          cases hi : x.op.insert
          · have : mcnt (tm x) = -1 := by simp [mcnt, tm, hi]
            have := hL j h3; omega
          · have : mcnt (tm x) = 1 := by simp [mcnt, tm, hi]
            have := h1 hi j h2 h3; omega
        · intro h1 hi j h2 h3
          have : mcnt (tm x) = 1 := by simp [mcnt, tm, hi]
          have := h1 j h2 h3; omega
      by_cases hLL : Legal (A ++ B')
      · rw [hiff.2 hLL]; exact (decide_eq_true hLL).symm
      · have : b = false := by
          cases hbb : b
          · rfl
          · exact absurd (hiff.1 hbb) hLL
        rw [this]; exact (decide_eq_false hLL).symm
    simp only [Lw11_LegalEdits.l0]
    rw [dec_lt (by omega)]
    simp only [cond_true, atL_nat hx, Option.bind_some, q1, q3, q4, ← hb, beq_self_eq_true, Bool.not_true, cond_false, w64_succ (i := i) (by omega)]
    exact edits_loop h hl hL d (i + 1) n (by omega) (by omega)
theorem bool_of {b : Bool} {q : Prop} (h : b = true ↔ q) (hq : q) : b = true := h.2 hq
open Classical in
theorem LegalEdits_pure (l : List TR08Mark) (t : Int) : Lw11_LegalEdits.f K1 l t = some true := by
  unfold Lw11_LegalEdits.f
  simp only [awake11, Option.bind_some, Bool.not_true, cond_false]
  by_cases h : (l.length : Int) > 60
  · simp only [h, decide_true, cond_true, Option.bind_some, Sum.elim_inl]
  · obtain ⟨m, m1, m2⟩ := refOf l (by omega)
    have hml := m2.len
    obtain ⟨p, r, t1, t2⟩ := tree_ok m (by omega)
    rw [timed_id m2.time] at t2
    have hl : m.length < 100000 := by omega
    obtain ⟨v, v1, v2⟩ := refAt m hl t
    obtain ⟨A, M, B, b, c1, d1, d2⟩ := mayDelete_ok t2 hl t
    obtain ⟨A', M', B', b', c2, e1, e2, _⟩ := mayRevoke_ok t2 hl t
    have hlt : m.length < K1 := by unfold K1; omega
    have hE := edits_loop t2 hl m2.legal m.length 0 K1 (Nat.zero_add _) hlt
    replace hE : Lw11_LegalEdits.l0 K1 m (r, p) K1 0 = some (Sum.inr ()) := hE
    have hR := right_ok t2 hl
    have hR' : legal_Right.f K1 p r = some true := by rw [hR]; congr 1; exact decide_eq_true m2.legal
    simp only [h, decide_false, cond_false, Option.bind_some, Sum.elim_inr, m1, t1, v1, d1]
    rcases v2 with ⟨rfl, v2⟩ | ⟨j, x, rfl, hx, hxt⟩
    · have hM := c1.none v2
      have hM' := c2.none v2
      subst hM
      have hb' := e2 hM'
      subst hb'
      have hw : R11_With.f K1 m (keyR t) = some (A ++ keyR t :: B) := by
        rw [refWith m _ hl, wins_cut (e := keyR t) c1]
      have hw' : R11_With.f K1 m ⟨⟨t, false, zTItem⟩, false, zTTook⟩ = _ := hw
      have hmAB : m = A ++ B := by rw [c1.eq]; rfl
      have hlen := c1.len
      have q4 := refLegal (A ++ keyR t :: B) (by simp; simp at hlen; omega)
      have hins := legal_ins A B (keyR t) (by rw [← hmAB]; exact m2.legal)
      rw [← hmAB] at hins
      have hmc : mcnt (tm (keyR t)) = -1 := rfl
      have hb : b = @decide (Legal (A ++ keyR t :: B)) (Classical.propDecidable _) := by
        have hiff : b = true ↔ Legal (A ++ keyR t :: B) := by
          rw [d2, hins, hmc]
          constructor
          · rintro ⟨_, h1⟩ j h2 h3; have := h1 j h2 h3; omega
          · intro h1; exact ⟨rfl, fun j h2 h3 => by have := h1 j h2 h3; omega⟩
        by_cases hLL : Legal (A ++ keyR t :: B)
        · rw [hiff.2 hLL]; exact (decide_eq_true hLL).symm
        · have : b = false := by
            cases hbb : b
            · rfl
            · exact absurd (hiff.1 hbb) hLL
          rw [this]; exact (decide_eq_false hLL).symm
      simp only [show decide ((-1 : Int) < 0) = true from rfl, cond_true, R11_Delete.f, Option.bind_some, hw', q4, ← hb, beq_self_eq_true, Bool.not_true, cond_false, e1, Sum.elim_inr, hE, hR', len_ok t2]
    · obtain ⟨hM, _⟩ := c1.some hx hxt
      have hb : b = false := by
        cases hbb : b
        · rfl
        · have := (d2.1 hbb).1; rw [hM] at this; cases this
      subst hb
      rw [decide_eq_false (show ¬ ((j : Int) < 0) by omega)]
      simp only [cond_false, Option.bind_some, Sum.elim_inr, hE, hR', cond_true, len_ok t2, beq_self_eq_true]
theorem wf_u16 {n : Int} (h : (Lit.int .u16 n).wf = true) : 0 ≤ n ∧ n ≤ 65535 := by
  unfold Lit.wf at h
  obtain ⟨h1, h2⟩ := (Bool.and_eq_true _ _).mp h
  have h3 := of_decide_eq_true h1
  have h4 := of_decide_eq_true h2
  have e1 : IntKind.u16.min = 0 := by decide
  have e2 : IntKind.u16.max = 65535 := by decide
  omega
open Classical in
theorem LegalLater_pure (l : List TR08Mark) (t later : Int) (h0 : 0 ≤ later) (h1 : later ≤ 65535) : Lw11_LegalLater.f K1 l t later = some true := by
  unfold Lw11_LegalLater.f
  simp only [awake11, Option.bind_some, Bool.not_true, cond_false]
  by_cases h : (l.length : Int) > 50
  · simp only [h, decide_true, cond_true, Option.bind_some, Sum.elim_inl]
  · simp only [h, decide_false, cond_false]
    by_cases g1 : t > 2305843009213693952
    · simp only [g1, decide_true, cond_true, Option.bind_some, Sum.elim_inl]
    · simp only [g1, decide_false, cond_false]
      by_cases g2 : t < -2305843009213693952
      · simp only [g2, decide_true, cond_true, Option.bind_some, Sum.elim_inl]
      · obtain ⟨m, m1, m2⟩ := refOf l (by omega)
        have hml := m2.len
        obtain ⟨p, r, t1, t2⟩ := tree_ok m (by omega)
        rw [timed_id m2.time] at t2
        have hl : m.length < 100000 := by omega
        have e1 : w64 (t + w64 later) = t + later := by
          rw [w64_id (x := later) (by omega) (by omega), w64_id (by omega) (by omega)]
        have e2 : w64 (t - 1) = t - 1 := w64_id (by omega) (by omega)
        obtain ⟨A, M, B, b, c1, d1, d2⟩ := mayDelete_ok t2 hl t
        obtain ⟨A2, M2, B2, b2, c2, d3, d4⟩ := mayDelete_ok t2 hl (t + later)
        obtain ⟨v, v1, v2⟩ := refAt m hl (t + later)
        obtain ⟨w, w1, w2⟩ := refAt m hl (t - 1)
        simp only [g2, decide_false, cond_false, Option.bind_some, Sum.elim_inr, m1, t1, d1, e1, e2, v1, w1, d3]
        cases b
        · simp only [Bool.not_false, cond_true, Option.bind_some, Sum.elim_inl]
        · obtain ⟨hM, hlow⟩ := d2.1 rfl
          subst hM
          simp only [Bool.not_true, cond_false]
          rcases v2 with ⟨rfl, v2⟩ | ⟨j, x, rfl, hx, hxt⟩
          · have hM2 := c2.none v2
            have hle := c1.le c2 (by omega)
            have hb2 : b2 = true := d4.2 ⟨hM2, fun j h2 h3 => hlow j (by omega) h3⟩
            subst hb2
            simp only [show decide ((-1 : Int) ≥ 0) = false from rfl, cond_false, Option.bind_some, Sum.elim_inr, Bool.not_true]
            rcases w2 with ⟨rfl, w2⟩ | ⟨j, x, rfl, hx, hxt⟩
            · let e : TR08Mark := ⟨⟨t - 1, true, zTItem⟩, false, zTTook⟩
              obtain ⟨A3, M3, B3, c3⟩ := cutT_ex m2.time (t - 1)
              have hM3 := c3.none w2
              subst hM3
              have hw : R11_With.f K1 m e = some (A3 ++ e :: B3) := by rw [refWith m _ hl, wins_cut (e := e) c3]
              have hw' : R11_With.f K1 m ⟨⟨t - 1, true, zTItem⟩, false, zTTook⟩ = some (A3 ++ e :: B3) := hw
              have hmAB : m = A3 ++ B3 := by rw [c3.eq]; rfl
              have hlen3 := c3.len
              have hl' : (A3 ++ e :: B3).length < 100000 := by simp; simp at hlen3; omega
              have hT : InTime (A3 ++ e :: B3) := ins_inTime (e := e) c3 m2.time
              obtain ⟨p', r', t3, t4⟩ := tree_ok (A3 ++ e :: B3) hl'
              rw [timed_id hT] at t4
              have hmc : mcnt (tm e) = 1 := rfl
              have hLm : Legal (A3 ++ B3) := by rw [← hmAB]; exact m2.legal
              have hL' : Legal (A3 ++ e :: B3) := (legal_ins A3 B3 e hLm).2 (fun j h2 h3 => by have := hLm j h3; omega)
              have hR' : legal_Right.f K1 p' r' = some true := by rw [right_ok t4 hl']; congr 1; exact decide_eq_true hL'
              -- ahead of the time: what was ahead, and the new one
              have hlow' : ∀ j, A3.length + 1 ≤ j → j ≤ (A3 ++ e :: B3).length → cnt (A3 ++ e :: B3) j ≥ 1 := by
                intro j h2 h3
                obtain ⟨q, rfl⟩ : ∃ q, j = A3.length + 1 + q := ⟨j - A3.length - 1, by omega⟩
                rw [cnt_ins, hmc]
                have := hLm (A3.length + q) (by simp at h3 ⊢; omega)
                omega
              have hdel : ∀ s : Int, t ≤ s → (∀ x ∈ m, x.op.time ≠ s) → legal_MayDelete.f K1 p' r' s = some true := by
                intro s hs hno
                obtain ⟨A4, M4, B4, b4, c4, d5, d6⟩ := mayDelete_ok t4 hl' s
                have hM4 : M4 = [] := c4.none (fun x hx => by
                  rcases List.mem_append.1 hx with hx | hx
                  · exact hno x (by rw [hmAB]; exact List.mem_append_left _ hx)
                  · rcases List.mem_cons.1 hx with rfl | hx
                    · show t - 1 ≠ s; omega
                    · exact hno x (by rw [hmAB]; exact List.mem_append_right _ hx))
                have cE : CutT (t - 1) (A3 ++ e :: B3) A3 [e] B3 := ⟨rfl, c3.la, c3.lb, .inr ⟨e, rfl, rfl⟩⟩
                have hA4 : A3.length + 1 ≤ A4.length := by
                  have h5 := cE.le c4 (by omega)
                  by_cases h6 : A4.length = A3.length
                  · exfalso
                    have h7 : (A3 ++ e :: B3)[A3.length]? = some e := by rw [List.getElem?_append_right (Nat.le_refl _)]; simp
                    rw [c4.eq, hM4, List.nil_append, ← h6, List.getElem?_append_right (Nat.le_refl _)] at h7
                    have := c4.lb e (List.mem_of_getElem? h7)
                    have e5 : e.op.time = t - 1 := rfl
                    omega
                  · omega
                have : b4 = true := d6.2 ⟨hM4, fun j h2 h3 => hlow' j (by omega) h3⟩
                rw [d5, this]
              have k1 := hdel t (Int.le_refl _) (fun x hx hxt => by
                have h5 := c1.eq
                rw [h5] at hx
                rcases List.mem_append.1 hx with hx | hx
                · have := c1.la x hx; omega
                · have := c1.lb x (by simpa using hx); omega)
              have k2 := hdel (t + later) (by omega) v2
              simp only [d3, Bool.not_true, show decide ((-1 : Int) ≥ 0) = false from rfl, cond_false, Option.bind_some, Sum.elim_inr, hw', t3, hR', cond_true, k1, k2]
            · rw [decide_eq_true (show ((j : Int) ≥ 0) by omega)]
              simp only [d3, Bool.not_true, cond_false, cond_true, Option.bind_some, Sum.elim_inl]
          · rw [decide_eq_true (show ((j : Int) ≥ 0) by omega)]
            simp only [cond_true, Option.bind_some, Sum.elim_inl]
end Go.Proofs.Ythcehagablploaa

/- The laws of bridges: the next one, the one before. -/
import Derived.Test.YthcehagablploaaTtb
import Derived.Test.YthcehagablploaaTnf
namespace Go.Proofs.Ythcehagablploaa
open Go Go.Proofs.Ythcehagablploaa.Sx
set_option linter.unusedVariables false
set_option linter.unusedSimpArgs false

section
variable {E : Type} {P : List E → List E → Bool}
theorem first_spec {L : List E} {H : Nat → Int} (hP : ∀ i x, L[i]? = some x → P (L.take i) [x] = decide (H (i + 1) ≤ 0)) (s : Int) : ∀ n, n ≤ L.length →
    (firstF P [] (L.take n) s = -1 ∧ ∀ i : Nat, s ≤ i → i < n → ¬ H (i + 1) ≤ 0) ∨ ∃ i : Nat, firstF P [] (L.take n) s = i ∧ s ≤ i ∧ i < n ∧ H (i + 1) ≤ 0 ∧ ∀ j : Nat, s ≤ j → j < i → ¬ H (j + 1) ≤ 0
  | 0, _ => .inl ⟨by simp [firstF], fun i _ h => by omega⟩
  | n + 1, h => by
    obtain ⟨x, hx, _⟩ := drop_cons (l := L) (i := n) (by omega)
    have ht : L.take (n + 1) = L.take n ++ [x] := by rw [List.take_add_one, hx]; rfl
    have happ := firstF_append (P := P) [] (L.take n) [x] s
    have hlen : (L.take n).length = n := by rw [List.length_take]; omega
    rw [← ht, hlen, List.nil_append] at happ
    have h1 : firstF P (L.take n) [x] (s - n) = if s - n ≤ 0 ∧ P (L.take n) [x] = true then 0 else -1 := by rw [firstF]; simp [firstF]
    rw [h1, hP n x hx] at happ
    rcases first_spec hP s n (by omega) with ⟨a1, a2⟩ | ⟨i, a1, a2, a3, a4, a5⟩
    · rw [a1, if_neg (by omega)] at happ
      by_cases hc : s - n ≤ 0 ∧ decide (H (n + 1) ≤ 0) = true
      · rw [if_pos hc, if_pos (by omega)] at happ
        exact .inr ⟨n, by omega, by omega, by omega, of_decide_eq_true hc.2, a2⟩
      · rw [if_neg hc, if_neg (by omega)] at happ
        refine .inl ⟨happ, fun i h1 h2 h3 => ?_⟩
        by_cases hi : i = n
        · subst hi; exact hc ⟨by omega, decide_eq_true h3⟩
        · exact a2 i h1 (by omega) h3
    · rw [a1, if_pos (by omega)] at happ
      exact .inr ⟨i, happ, a2, by omega, a4, a5⟩
theorem last_spec {L : List E} {H : Nat → Int} (hP : ∀ i x, L[i]? = some x → P (L.take i) [x] = decide (H (i + 1) ≤ 0)) (s : Int) : ∀ n, n ≤ L.length →
    (lastF P [] (L.take n) s = -1 ∧ ∀ i : Nat, (i : Int) < s → i < n → ¬ H (i + 1) ≤ 0) ∨ ∃ i : Nat, lastF P [] (L.take n) s = i ∧ (i : Int) < s ∧ i < n ∧ H (i + 1) ≤ 0 ∧ ∀ j : Nat, i < j → (j : Int) < s → j < n → ¬ H (j + 1) ≤ 0
  | 0, _ => .inl ⟨by simp [lastF], fun i _ h => by omega⟩
  | n + 1, h => by
    obtain ⟨x, hx, _⟩ := drop_cons (l := L) (i := n) (by omega)
    have ht : L.take (n + 1) = L.take n ++ [x] := by rw [List.take_add_one, hx]; rfl
    have happ := lastF_append (P := P) [] (L.take n) [x] s
    have hlen : (L.take n).length = n := by rw [List.length_take]; omega
    rw [← ht, hlen, List.nil_append] at happ
    have h1 : lastF P (L.take n) [x] (s - n) = if s - n > 0 ∧ P (L.take n) [x] = true then 0 else -1 := by rw [lastF]; simp [lastF]
    rw [h1, hP n x hx] at happ
    by_cases hc : s - n > 0 ∧ decide (H (n + 1) ≤ 0) = true
    · rw [if_pos hc, if_pos (by omega)] at happ
      exact .inr ⟨n, by omega, by omega, by omega, of_decide_eq_true hc.2, fun j h1 h2 h3 => by omega⟩
    · rw [if_neg hc, if_neg (by omega)] at happ
      have hno : (n : Int) < s → ¬ H (n + 1) ≤ 0 := fun h1 h3 => hc ⟨by omega, decide_eq_true h3⟩
      rcases last_spec hP s n (by omega) with ⟨a1, a2⟩ | ⟨i, a1, a2, a3, a4, a5⟩
      · refine .inl ⟨by rw [happ, a1], fun i g1 g2 => ?_⟩
        by_cases hi : i = n
        · subst hi; exact hno g1
        · exact a2 i g1 (by omega)
      · refine .inr ⟨i, by rw [happ, a1], a2, by omega, a4, fun j g1 g2 g3 => ?_⟩
        by_cases hj : j = n
        · subst hj; exact hno g2
        · exact a5 j g1 g2 (by omega)
end
/-- The height at a place. -/
def hgt (m : List TR08Mark) (base : Int) (n : Nat) : Int := base + ((wts m).take n).sum
def fallB (base : Int) (l u : List TMark) : Bool := decide (u ≠ []) && decide (base + (l.map mwt).sum + lowF (u.map mwt) ≤ 0)
abbrev SmallB (base : Int) : Prop := -1099511627776 ≤ base ∧ base ≤ 1099511627776
theorem fall_ok {base : Int} (hb : SmallB base) : PredOk 1000000 (fun _ => True) IsSwell (fallB base) (fun a b => bridge_low_1.f K1 a b base) where
  run := by
    intro a b l u hl hu _ hN
    have h1 := sum_bound (small_wt l)
    have h2 := low_bound (small_wt u)
    simp only [List.length_append] at hN
    simp only [List.length_map] at h1 h2
    unfold bridge_low_1.f fallB
    rw [hl.weight, hu.weight]
    unfold SmallB at hb
    cases u with
    | nil => simp [tideF]
    | cons x v =>
      have e0 : decide ((tideF ((x :: v).map mwt)).n > 0) = true := by simp [tideF]
      simp only [List.length_cons] at hN h2
      have hw : w64 (w64 (base + (tideF (l.map mwt)).sum) + (tideF ((x :: v).map mwt)).low) = base + (l.map mwt).sum + lowF ((x :: v).map mwt) := by
        have e1 : w64 (base + (tideF (l.map mwt)).sum) = base + (l.map mwt).sum := w64_id (x := base + (l.map mwt).sum) (by omega) (by omega)
        rw [e1]
        exact w64_id (x := base + (l.map mwt).sum + lowF ((x :: v).map mwt)) (by omega) (by omega)
      rw [e0]
      simp only [cond_true, hw]
      simp
  nil l := by simp [fallB]
  app l m n := by
    unfold fallB
    by_cases hm : m = []
    · subst hm; simp
    · by_cases hn : n = []
      · subst hn; simp
      · have h1 : lowF ((m ++ n).map mwt) = min (lowF (m.map mwt)) ((m.map mwt).sum + lowF (n.map mwt)) := by
          rw [List.map_append, lowF_append _ _ (by simpa using hm) (by simpa using hn)]
        have h2 : ((l ++ m).map mwt).sum = (l.map mwt).sum + (m.map mwt).sum := by simp
        rw [h1, h2]
        have h3 : m ++ n ≠ [] := by simp [hm]
        simp only [h3, hm, hn, ne_eq, not_false_eq_true, decide_true, Bool.true_and]
        rw [← Bool.decide_or]
        congr 1
        apply propext
        omega
theorem fall_at (m : List TR08Mark) (base : Int) (i : Nat) (x : TMark) (hx : (tms m)[i]? = some x) : fallB base ((tms m).take i) [x] = decide (hgt m base (i + 1) ≤ 0) := by
  unfold fallB hgt
  have ht : (wts m).take (i + 1) = ((tms m).take i).map mwt ++ [mwt x] := by
    rw [List.map_take, List.take_add_one]
    simp only [wts, List.getElem?_map, hx]
    rfl
  rw [ht, List.sum_append]
  simp [lowF, Int.add_assoc]
theorem hgt_bound {m : List TR08Mark} (hm : m.length < 100000) {base : Int} (hb : SmallB base) (n : Nat) : -4611686018427387904 ≤ hgt m base n ∧ hgt m base n ≤ 4611686018427387904 := by
  have h := sum_bound (ns := (wts m).take n) ((small_wt (tms m)).take n)
  have h2 : ((wts m).take n).length ≤ m.length := by simp; omega
  unfold hgt SmallB at *
  generalize (wts m).take n = q at *
  omega
def IsNext (m : List TR08Mark) (base : Int) (c : Nat) (v : Int) : Prop := (v = -1 ∧ ∀ j, c ≤ j → j ≤ m.length → ¬ hgt m base j ≤ 0) ∨ ∃ j : Nat, v = j ∧ c ≤ j ∧ j ≤ m.length ∧ hgt m base j ≤ 0 ∧ ∀ q, c ≤ q → q < j → ¬ hgt m base q ≤ 0
def IsPrior (m : List TR08Mark) (base : Int) (c : Nat) (v : Int) : Prop := (v = -1 ∧ ∀ j, j ≤ c → ¬ hgt m base j ≤ 0) ∨ ∃ j : Nat, v = j ∧ j ≤ c ∧ hgt m base j ≤ 0 ∧ ∀ q, j < q → q ≤ c → ¬ hgt m base q ≤ 0
theorem IsNext.unique {m : List TR08Mark} {base : Int} {c : Nat} {v v' : Int} (h : IsNext m base c v) (g : IsNext m base c v') : v = v' := by
  rcases h with ⟨rfl, h⟩ | ⟨j, rfl, h1, h2, h3, h4⟩ <;> rcases g with ⟨rfl, g⟩ | ⟨j', rfl, g1, g2, g3, g4⟩
  · rfl
  · exact absurd g3 (h j' g1 g2)
  · exact absurd h3 (g j h1 h2)
  · by_cases e : j < j'
    · exact absurd h3 (g4 j h1 e)
    · by_cases e2 : j' < j
      · exact absurd g3 (h4 j' g1 e2)
      · omega
theorem IsPrior.unique {m : List TR08Mark} {base : Int} {c : Nat} {v v' : Int} (h : IsPrior m base c v) (g : IsPrior m base c v') : v = v' := by
  rcases h with ⟨rfl, h⟩ | ⟨j, rfl, h1, h3, h4⟩ <;> rcases g with ⟨rfl, g⟩ | ⟨j', rfl, g1, g3, g4⟩
  · rfl
  · exact absurd g3 (h j' g1)
  · exact absurd h3 (g j h1)
  · by_cases e : j < j'
    · exact absurd g3 (h4 j' e g1)
    · by_cases e2 : j' < j
      · exact absurd h3 (g4 j e2 h1)
      · omega
section
variable {p : PN TMark TSwell} {r : TRef} {m : List TR08Mark} {c : Int} {B : Nat}
theorem height_at (h : GrM p r (tms m) c B) (hl : m.length < 100000) {base : Int} (hb : SmallB base) (n : Nat) (hn : n ≤ m.length) : bridge_Height.f K1 p r (n : Int) base = some (hgt m base n) := by
  have hc : clampN m (n : Int) = n := by unfold clampN; omega
  have hb2 := hgt_bound hl hb n
  rw [height_ok h hl, hc]
  congr 1
  exact w64_id (x := hgt m base n) (by omega) (by omega)
theorem refHeight_at (m : List TR08Mark) (hl : m.length < 100000) {base : Int} (hb : SmallB base) (n : Nat) (hn : n ≤ m.length) : R10_Height.f K1 m (n : Int) base = some (hgt m base n) := by
  have hc : clampN m (n : Int) = n := by unfold clampN; omega
  have hb2 := hgt_bound hl hb n
  rw [refHeight m hl, hc]
  congr 1
  exact w64_id (x := hgt m base n) (by omega) (by omega)
theorem next_ok (h : GrM p r (tms m) c B) (hl : m.length < 100000) {base : Int} (hb : SmallB base) (i : Int) : ∃ v, bridge_Next.f K1 p r i base = some v ∧ IsNext m base (clampN m i) v := by
  have hc := clampN_le m i
  have q1 := h.first okM (by decide) (fall_ok hb) (clampN m i : Int) (by simp; omega)
  unfold bridge_Next.f bridge_clamp.f bridge_low.f
  simp only [len_ok h, Option.bind_some, clampN_eq, height_at h hl hb _ hc, q1]
  by_cases h0 : hgt m base (clampN m i) ≤ 0
  · simp only [h0, decide_true, cond_true]
    exact ⟨_, rfl, .inr ⟨_, rfl, Nat.le_refl _, hc, h0, fun q h1 h2 => by omega⟩⟩
  · simp only [h0, decide_false, cond_false]
    have hs := first_spec (L := tms m) (H := hgt m base) (fall_at m base) (clampN m i : Int) m.length (by simp)
    rw [List.take_of_length_le (by simp)] at hs
    rcases hs with ⟨a1, a2⟩ | ⟨j, a1, a2, a3, a4, a5⟩
    · rw [a1]
      refine ⟨-1, rfl, .inl ⟨rfl, fun j h1 h2 => ?_⟩⟩
      by_cases hj : j = clampN m i
      · subst hj; exact h0
      · obtain ⟨q, rfl⟩ : ∃ q, j = q + 1 := ⟨j - 1, by omega⟩
        exact a2 q (by omega) (by omega)
    · rw [a1]
      have e0 : decide ((j : Int) ≥ 0) = true := by simp
      simp only [e0, cond_true]
      rw [w64_succ (by omega)]
      refine ⟨_, rfl, .inr ⟨j + 1, rfl, by omega, by omega, a4, fun q h1 h2 => ?_⟩⟩
      by_cases hq : q = clampN m i
      · subst hq; exact h0
      · obtain ⟨z, rfl⟩ : ∃ z, q = z + 1 := ⟨q - 1, by omega⟩
        exact a5 z (by omega) (by omega)
theorem prior_ok (h : GrM p r (tms m) c B) (hl : m.length < 100000) {base : Int} (hb : SmallB base) (i : Int) : ∃ v, bridge_Prior.f K1 p r i base = some v ∧ IsPrior m base (clampN m i) v := by
  have hc := clampN_le m i
  have q1 := h.last okM (by decide) (fall_ok hb) (clampN m i : Int) (by simp; omega)
  have h00 : hgt m base 0 = base := by simp [hgt]
  unfold bridge_Prior.f bridge_clamp.f bridge_low.f
  simp only [len_ok h, Option.bind_some, clampN_eq, q1]
  have hs := last_spec (L := tms m) (H := hgt m base) (fall_at m base) (clampN m i : Int) m.length (by simp)
  rw [List.take_of_length_le (by simp)] at hs
  rcases hs with ⟨a1, a2⟩ | ⟨j, a1, a2, a3, a4, a5⟩
  · rw [a1]
    have hpos : ∀ q, 0 < q → q ≤ clampN m i → ¬ hgt m base q ≤ 0 := fun q h1 h2 => by
      obtain ⟨z, rfl⟩ : ∃ z, q = z + 1 := ⟨q - 1, by omega⟩
      exact a2 z (by omega) (by omega)
    have e0 : decide ((-1 : Int) ≥ 0) = false := rfl
    simp only [e0, cond_false]
    by_cases hb0 : base ≤ 0
    · simp only [hb0, decide_true, cond_true]
      exact ⟨_, rfl, .inr ⟨0, rfl, by omega, by rw [h00]; exact hb0, fun q h1 h2 => hpos q h1 h2⟩⟩
    · simp only [hb0, decide_false, cond_false]
      refine ⟨-1, rfl, .inl ⟨rfl, fun j hj => ?_⟩⟩
      by_cases hj0 : j = 0
      · subst hj0; rw [h00]; exact hb0
      · exact hpos j (by omega) hj
  · rw [a1]
    have e0 : decide ((j : Int) ≥ 0) = true := by simp
    simp only [e0, cond_true]
    rw [w64_succ (by omega)]
    refine ⟨_, rfl, .inr ⟨j + 1, rfl, by omega, a4, fun q h1 h2 => ?_⟩⟩
    obtain ⟨z, rfl⟩ : ∃ z, q = z + 1 := ⟨q - 1, by omega⟩
    exact a5 z (by omega) (by omega) (by omega)
end
theorem refNext_loop (m : List TR08Mark) (hl : m.length < 100000) {base : Int} (hb : SmallB base) (c : Nat) : ∀ (d i n : Nat), i + d = m.length + 1 → d < n → c ≤ i → (∀ q, c ≤ q → q < i → ¬ hgt m base q ≤ 0) → ∃ v, R10_Next.l0 K1 m base n (i : Int) = some v ∧ ((v = Sum.inr () ∧ IsNext m base c (-1)) ∨ ∃ w, v = Sum.inl w ∧ IsNext m base c w)
  | d, i, 0, _, h, _, _ => by omega
  | 0, i, n + 1, hi, _, h1, h2 => by
    simp only [R10_Next.l0]
    rw [decide_eq_false (by omega)]
    exact ⟨_, rfl, .inl ⟨rfl, .inl ⟨rfl, fun j h3 h4 => h2 j h3 (by omega)⟩⟩⟩
  | d + 1, i, n + 1, hi, hn, h1, h2 => by
    simp only [R10_Next.l0]
    rw [decide_eq_true (by omega)]
    simp only [cond_true, refHeight_at m hl hb i (by omega), Option.bind_some]
    by_cases h0 : hgt m base i ≤ 0
    · simp only [h0, decide_true, cond_true]
      exact ⟨_, rfl, .inr ⟨_, rfl, .inr ⟨i, rfl, h1, by omega, h0, h2⟩⟩⟩
    · simp only [h0, decide_false, cond_false, w64_succ (i := i) (by omega)]
      refine refNext_loop m hl hb c d (i + 1) n (by omega) (by omega) (by omega) (fun q h3 h4 => ?_)
      by_cases hq : q = i
      · subst hq; exact h0
      · exact h2 q h3 (by omega)
theorem refNext (m : List TR08Mark) (hl : m.length < 100000) {base : Int} (hb : SmallB base) (i : Int) : ∃ v, R10_Next.f K1 m i base = some v ∧ IsNext m base (clampN m i) v := by
  have hc := clampN_le m i
  have hlt : m.length + 1 - clampN m i < K1 := by unfold K1; omega
  obtain ⟨v, h1, h2⟩ := refNext_loop m hl hb (clampN m i) (m.length + 1 - clampN m i) (clampN m i) K1 (by omega) hlt (Nat.le_refl _) (fun q h3 h4 => by omega)
  unfold R10_Next.f
  rw [refClamp]
  simp only [Option.bind_some, h1]
  rcases h2 with ⟨rfl, h2⟩ | ⟨w, rfl, h2⟩
  · exact ⟨-1, rfl, h2⟩
  · exact ⟨w, rfl, h2⟩
theorem refPrior_loop (m : List TR08Mark) (hl : m.length < 100000) {base : Int} (hb : SmallB base) (c : Nat) (hc : c ≤ m.length) : ∀ (d n : Nat), d < n → d ≤ c + 1 → (∀ q, d ≤ q → q ≤ c → ¬ hgt m base q ≤ 0) → ∃ v, R10_Prior.l0 K1 m base n ((d : Int) - 1) = some v ∧ ((v = Sum.inr () ∧ IsPrior m base c (-1)) ∨ ∃ w, v = Sum.inl w ∧ IsPrior m base c w)
  | d, 0, h, _, _ => by omega
  | 0, n + 1, _, _, h2 => by
    simp only [R10_Prior.l0]
    rw [decide_eq_false (by omega)]
    exact ⟨_, rfl, .inl ⟨rfl, .inl ⟨rfl, fun j h3 => h2 j (by omega) h3⟩⟩⟩
  | d + 1, n + 1, hn, hd, h2 => by
    have e : (((d + 1 : Nat) : Int) - 1) = (d : Int) := by omega
    simp only [R10_Prior.l0]
    rw [e, decide_eq_true (by omega)]
    simp only [cond_true, refHeight_at m hl hb d (by omega), Option.bind_some]
    by_cases h0 : hgt m base d ≤ 0
    · simp only [h0, decide_true, cond_true]
      exact ⟨_, rfl, .inr ⟨_, rfl, .inr ⟨d, rfl, by omega, h0, fun q h3 h4 => h2 q (by omega) h4⟩⟩⟩
    · simp only [h0, decide_false, cond_false]
      rw [w64_id (by omega) (by omega)]
      refine refPrior_loop m hl hb c hc d n (by omega) (by omega) (fun q h3 h4 => ?_)
      by_cases hq : q = d
      · subst hq; exact h0
      · exact h2 q (by omega) h4
theorem refPrior (m : List TR08Mark) (hl : m.length < 100000) {base : Int} (hb : SmallB base) (i : Int) : ∃ v, R10_Prior.f K1 m i base = some v ∧ IsPrior m base (clampN m i) v := by
  have hc := clampN_le m i
  have hlt : clampN m i + 1 < K1 := by unfold K1; omega
  obtain ⟨v, h1, h2⟩ := refPrior_loop m hl hb (clampN m i) hc (clampN m i + 1) K1 hlt (Nat.le_refl _) (fun q h3 h4 => by omega)
  rw [show (((clampN m i + 1 : Nat) : Int) - 1) = (clampN m i : Int) by omega] at h1
  unfold R10_Prior.f
  rw [refClamp]
  simp only [Option.bind_some, h1]
  rcases h2 with ⟨rfl, h2⟩ | ⟨w, rfl, h2⟩
  · exact ⟨-1, rfl, h2⟩
  · exact ⟨w, rfl, h2⟩
theorem BridgeFinds_pure (l : List TR08Mark) (i base : Int) : Lw10_BridgeFinds.f K1 l i base = some true := by
  unfold Lw10_BridgeFinds.f
  obtain ⟨b, hb, hs⟩ := small10 l base
  simp only [awake10, Option.bind_some, Bool.not_true, cond_false, hb]
  cases b
  · simp only [Bool.not_false, cond_true, Option.bind_some, Sum.elim_inl]
  · obtain ⟨h60, hB⟩ := hs rfl
    obtain ⟨p, r, t1, t2⟩ := tree_ok l (by omega)
    have hlen := timed_len' l
    have htm := timed_ok l (by omega)
    generalize timed l = m at *
    obtain ⟨v, v1, v2⟩ := next_ok t2 (by omega) hB i
    obtain ⟨w, w1, w2⟩ := prior_ok t2 (by omega) hB i
    obtain ⟨v', v3, v4⟩ := refNext m (by omega) hB i
    obtain ⟨w', w3, w4⟩ := refPrior m (by omega) hB i
    have e1 := v2.unique v4
    have e2 := w2.unique w4
    subst e1; subst e2
    simp only [Bool.not_true, cond_false, t1, Option.bind_some, Sum.elim_inr, htm, v1, v3, w1, w3, beq_self_eq_true, cond_true]
theorem between_loop {p : PN TMark TSwell} {r : TRef} {m : List TR08Mark} {c : Int} {B : Nat} (h : GrM p r (tms m) c B) (hl : m.length < 100000) {base : Int} (hb : SmallB base) (b : Nat) (hbm : b ≤ m.length + 1) : ∀ (d i n : Nat), i + d = b ∨ (b ≤ i ∧ d = 0) → d < n → (∀ q, i ≤ q → q < b → ¬ hgt m base q ≤ 0) → Lw10_BridgeBetween.l0 K1 base (r, p) (b : Int) n (i : Int) = some (Sum.inr ())
  | d, i, 0, _, h, _ => by omega
  | 0, i, n + 1, hi, _, _ => by
    simp only [Lw10_BridgeBetween.l0]
    rw [dec_nlt (by omega)]; rfl
  | d + 1, i, n + 1, hi, hn, h2 => by
    have h0 := h2 i (Nat.le_refl _) (by omega)
    simp only [Lw10_BridgeBetween.l0]
    rw [dec_lt (by omega)]
    simp only [cond_true, height_at h hl hb i (by omega), Option.bind_some, h0, decide_false, cond_false, w64_succ (i := i) (by omega)]
    exact between_loop h hl hb b hbm d (i + 1) n (by omega) (by omega) (fun q h3 h4 => h2 q (by omega) h4)
theorem BridgeBetween_pure (l : List TR08Mark) (i base : Int) : Lw10_BridgeBetween.f K1 l i base = some true := by
  unfold Lw10_BridgeBetween.f
  obtain ⟨b, hb, hs⟩ := small10 l base
  simp only [awake10, Option.bind_some, Bool.not_true, cond_false, hb]
  cases b
  · simp only [Bool.not_false, cond_true, Option.bind_some, Sum.elim_inl]
  · obtain ⟨h60, hB⟩ := hs rfl
    obtain ⟨p, r, t1, t2⟩ := tree_ok l (by omega)
    have hlen := timed_len' l
    have htm := timed_ok l (by omega)
    generalize timed l = m at *
    have hcl := clampN_le m i
    have hcc : clampN m (clampN m i : Int) = clampN m i := by unfold clampN; omega
    obtain ⟨v, v1, v2⟩ := next_ok t2 (by omega) hB (clampN m i : Int)
    obtain ⟨w, w1, w2⟩ := prior_ok t2 (by omega) hB (clampN m i : Int)
    rw [hcc] at v2 w2
    simp only [Bool.not_true, cond_false, t1, Option.bind_some, Sum.elim_inr, len_ok t2, htm, refClamp, w1, v1]
    generalize clampN m i = k at *
    -- what the two have in common
    have hw1 : ¬ w > (k : Int) := by rcases w2 with ⟨rfl, _⟩ | ⟨j, rfl, h1, _⟩ <;> omega
    have hw2 : ¬ w > (m.length : Int) := by omega
    have hv1 : ¬ v > (m.length : Int) := by rcases v2 with ⟨rfl, _⟩ | ⟨j, rfl, _, h1, _⟩ <;> omega
    have hv2 : v ≥ 0 → ¬ v < (k : Int) := by rcases v2 with ⟨rfl, _⟩ | ⟨j, rfl, h1, _⟩ <;> omega
    have hhw : w ≥ 0 → ∃ z, bridge_Height.f K1 p r w base = some z ∧ ¬ z > 0 := fun h0 => by
      rcases w2 with ⟨rfl, _⟩ | ⟨j, rfl, h1, h2, _⟩
      · omega
      · exact ⟨_, height_at t2 (by omega) hB j (by omega), by omega⟩
    have hhv : v ≥ 0 → ∃ z, bridge_Height.f K1 p r v base = some z ∧ ¬ z > 0 := fun h0 => by
      rcases v2 with ⟨rfl, _⟩ | ⟨j, rfl, h1, h1', h2, _⟩
      · omega
      · exact ⟨_, height_at t2 (by omega) hB j (by omega), by omega⟩
    have hend : ∀ b : Nat, (b = m.length + 1 ∧ v = -1) ∨ v = (b : Int) → b ≤ m.length + 1 → Lw10_BridgeBetween.l0 K1 base (r, p) (b : Int) K1 (w64 (w + 1)) = some (Sum.inr ()) := by
      intro b hbv hbm
      have hfar : ∀ q : Nat, w < q → q < b → ¬ hgt m base q ≤ 0 := by
        intro q h1 h2
        by_cases hq : q ≤ k
        · rcases w2 with ⟨rfl, h3⟩ | ⟨j, rfl, _, _, h3⟩
          · exact h3 q hq
          · exact h3 q (by omega) hq
        · rcases v2 with ⟨rfl, h3⟩ | ⟨j, rfl, _, _, _, h3⟩
          · exact h3 q (by omega) (by omega)
          · exact h3 q (by omega) (by omega)
      obtain ⟨s, hs⟩ : ∃ s : Nat, w64 (w + 1) = s := by
        rcases w2 with ⟨rfl, _⟩ | ⟨j, rfl, h1, _⟩
        · exact ⟨0, rfl⟩
        · exact ⟨j + 1, w64_succ (by omega)⟩
      have hs' : w + 1 = s := by rw [← hs, w64_id (by rcases w2 with ⟨rfl, _⟩ | ⟨j, rfl, h1, _⟩ <;> omega) (by omega)]
      rw [hs]
      have hlt : b - s < K1 := by unfold K1; omega
      exact between_loop t2 (by omega) hB b hbm (b - s) s K1 (by omega) hlt (fun q h1 h2 => hfar q (by omega) h2)
    by_cases c1 : v ≥ 0
    · obtain ⟨z, z1, z2⟩ := hhv c1
      obtain ⟨b, hbv⟩ : ∃ b : Nat, v = b := ⟨v.toNat, by omega⟩
      have c3 : ¬ v < 0 := by omega
      have hE := hend b (.inr hbv) (by omega)
      rw [← hbv] at hE
      by_cases c2 : w ≥ 0
      · obtain ⟨y, y1, y2⟩ := hhw c2
        simp only [hw1, c1, hv2 c1, hw2, hv1, c2, decide_true, decide_false, cond_true, cond_false, y1, y2, z1, z2, Option.bind_some, Sum.elim_inr, c3, hE]
      · simp only [hw1, c1, hv2 c1, hw2, hv1, c2, decide_true, decide_false, cond_true, cond_false, z1, z2, Option.bind_some, Sum.elim_inr, c3, hE]
    · have hv : v = -1 := by rcases v2 with ⟨rfl, _⟩ | ⟨j, rfl, _⟩ <;> omega
      have c3 : v < 0 := by omega
      have hE := hend (m.length + 1) (.inl ⟨rfl, hv⟩) (Nat.le_refl _)
      by_cases c2 : w ≥ 0
      · obtain ⟨y, y1, y2⟩ := hhw c2
        simp only [hw1, c1, hw2, hv1, c2, decide_true, decide_false, cond_true, cond_false, y1, y2, Option.bind_some, Sum.elim_inr, c3, w64_succ (i := m.length) (by omega), hE]
      · simp only [hw1, c1, hw2, hv1, c2, decide_true, decide_false, cond_true, cond_false, Option.bind_some, Sum.elim_inr, c3, w64_succ (i := m.length) (by omega), hE]
end Go.Proofs.Ythcehagablploaa

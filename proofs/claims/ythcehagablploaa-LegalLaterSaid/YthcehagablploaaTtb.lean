/- The laws of heights, items, least counts. -/
import Derived.Test.YthcehagablploaaTta
namespace Go.Proofs.Ythcehagablploaa
open Go Go.Proofs.Ythcehagablploaa.Sx
set_option linter.unusedVariables false
set_option linter.unusedSimpArgs false

theorem awake10 : Lw10_awake.f K1 = some true := by kernel_rfl
theorem awake11 : Lw11_awake.f K1 = some true := by kernel_rfl
abbrev wts (m : List TR08Mark) : List Int := (tms m).map mwt
abbrev cts (m : List TR08Mark) : List Int := (tms m).map mcnt
/-- A place that is there. -/
def clampN (m : List TR08Mark) (p : Int) : Nat := (min (max p 0) (m.length : Int)).toNat
theorem clampN_le (m : List TR08Mark) (p : Int) : clampN m p ≤ m.length := by unfold clampN; omega
theorem clampN_eq (m : List TR08Mark) (p : Int) : gmin (gmax p 0) (m.length : Int) = (clampN m p : Int) := by
  unfold clampN gmin gmax; split <;> split <;> omega
theorem refClamp (m : List TR08Mark) (p : Int) : R10_Clamp.f K1 m p = some (clampN m p : Int) := by
  unfold R10_Clamp.f clampN
  by_cases h : p < 0
  · simp only [h, decide_true, cond_true]; congr 1; omega
  · by_cases h2 : p > (m.length : Int)
    · simp only [h, h2, decide_true, decide_false, cond_true, cond_false]; congr 1; omega
    · simp only [h, h2, decide_false, cond_false]; congr 1; omega
theorem seg_tms (m : List TR08Mark) (i j : Nat) : seg (tms m) (i : Int) (j : Int) = tms ((m.take j).drop i) := by
  unfold seg
  rw [Int.toNat_natCast, Int.toNat_natCast, ← List.map_take, ← List.map_drop]
theorem seg_clamp (m : List TR08Mark) (p : Int) : seg (tms m) 0 p = seg (tms m) 0 (clampN m p : Int) := by
  unfold seg clampN
  simp only [Int.toNat_natCast]
  by_cases h : p ≤ m.length
  · rw [show (min (max p 0) (m.length : Int)).toNat = p.toNat by omega]
  · rw [List.take_of_length_le (by rw [List.length_map]; omega), List.take_of_length_le (by rw [List.length_map]; omega)]
section
variable {p : PN TMark TSwell} {r : TRef} {m : List TR08Mark} {c : Int} {B : Nat}
theorem between_ok' (h : GrM p r (tms m) c B) (hl : m.length < 100000) (i j : Nat) : ∃ s, Tree_Between.f opsM K1 p r (i : Int) (j : Int) = some s ∧ IsSwell s (tms ((m.take j).drop i)) := by
  obtain ⟨s, s1, s2⟩ := h.between okM (by decide) (i : Int) (j : Int) (by simp; omega)
  rw [seg_tms] at s2
  exact ⟨s, s1, s2⟩
theorem len_ok (h : GrM p r (tms m) c B) : Tree_Len.f opsM K1 p r = some (m.length : Int) := by
  have := h.len okM
  rwa [List.length_map] at this
theorem height_ok (h : GrM p r (tms m) c B) (hl : m.length < 100000) (i base : Int) : bridge_Height.f K1 p r i base = some (w64 (base + ((wts m).take (clampN m i)).sum)) := by
  obtain ⟨s, s1, s2⟩ := h.between okM (by decide) 0 i (by simp; omega)
  rw [seg_clamp] at s2
  have e := seg_tms m 0 (clampN m i)
  have e' : seg (tms m) 0 (clampN m i : Int) = tms ((m.take (clampN m i)).drop 0) := e
  rw [e', List.drop_zero] at s2
  unfold bridge_Height.f
  rw [s1]
  simp only [Option.bind_some, s2.weight, tideF]
  congr 3
  simp [List.map_take]
theorem refHeight (m : List TR08Mark) (hl : m.length < 100000) (i base : Int) : R10_Height.f K1 m i base = some (w64 (base + ((wts m).take (clampN m i)).sum)) := by
  have hc := clampN_le m i
  have hlt : m.length < K1 := by unfold K1; omega
  have q := refSum_eq K1 (l := wts m) (small_wt _) (by simp; omega) (m := clampN m i) (by simpa using hc) (by omega)
  unfold R10_Height.f
  rw [weights_eq K1 (by omega) hlt, refClamp]
  simp only [Option.bind_some, q]
end
theorem small10 (l : List TR08Mark) (base : Int) : ∃ b, Lw10_small.f K1 l base = some b ∧ (b = true → l.length ≤ 60 ∧ -1099511627776 ≤ base ∧ base ≤ 1099511627776) := by
  unfold Lw10_small.f
  by_cases h1 : (l.length : Int) ≤ 60
  · by_cases h2 : base ≥ -1099511627776
    · simp only [h1, h2, decide_true, cond_true]
      refine ⟨_, rfl, fun h => ?_⟩
      have h' : base ≤ 1099511627776 := of_decide_eq_true h
      exact ⟨by omega, by first | exact h2 | trivial, h'⟩
    · simp only [h1, h2, decide_true, decide_false, cond_true, cond_false]
      exact ⟨_, rfl, fun h => by cases h⟩
  · simp only [h1, decide_false, cond_false]
    exact ⟨_, rfl, fun h => by cases h⟩
theorem BridgeHeights_pure (l : List TR08Mark) (i base : Int) : Lw10_BridgeHeights.f K1 l i base = some true := by
  unfold Lw10_BridgeHeights.f
  obtain ⟨b, hb, hs⟩ := small10 l base
  simp only [awake10, Option.bind_some, Bool.not_true, cond_false, hb]
  cases b
  · simp only [Bool.not_false, cond_true]
  · obtain ⟨h60, _⟩ := hs rfl
    obtain ⟨p, r, t1, t2⟩ := tree_ok l (by omega)
    have hlen := timed_len' l
    simp only [Bool.not_true, cond_false, t1, Option.bind_some, height_ok t2 (by omega), timed_ok l (by omega), refHeight (timed l) (by omega), beq_self_eq_true]
theorem goneI_list (l : List TR08Mark) : goneI (tms l) = (l.filter (fun m => m.op.insert && (m.here == false))).map (·.op.item) := goneI_tms l
theorem lastMax {l : List TR08Mark} (hl : l.length < 100000) : ∃ t, (R08_Items.f K1 l false).bind (fun x2 => bif ((x2.length : Int) == 0) then (some zTTook) else ((atL x2 (w64 ((x2.length : Int) - 1))).bind fun x3 => some (TTook.mk true x3))) = some t ∧ IsMax (goneI (tms l)) t := by
  obtain ⟨x, x1, x2, x3⟩ := items_eq K1 (l := l) false (by omega) (Nat.le_refl _)
  rw [x1, goneI_tms]
  have hxl := x3.length_eq
  rw [List.length_map] at hxl
  have hfl := List.length_filter_le (fun m : TR08Mark => m.op.insert && (m.here == false)) l
  simp only [Option.bind_some]
  cases x with
  | nil => exact ⟨zTTook, rfl, .inl ⟨List.nil_perm.1 x3, rfl⟩⟩
  | cons y ys =>
    have e0 : (((y :: ys).length : Int) == 0) = false := by simp; omega
    have e1 : w64 (((y :: ys).length : Int) - 1) = ((ys.length : Nat) : Int) := by
      simp only [List.length_cons] at hxl ⊢
      rw [w64_pred (by omega)]
    obtain ⟨z, hz, _⟩ := drop_cons (l := y :: ys) (i := ys.length) (by simp)
    simp only [e0, cond_false, e1, atL_nat hz, Option.bind_some]
    obtain ⟨h1, h2⟩ := sorted_last_max x2 x3 (x := z) (by simpa using hz)
    exact ⟨_, rfl, .inr ⟨rfl, h1, h2⟩⟩
theorem firstMin {l : List TR08Mark} (hl : l.length < 100000) : ∃ t, (R08_Items.f K1 l true).bind (fun x2 => bif ((x2.length : Int) == 0) then (some zTTook) else ((atL x2 0).bind fun x3 => some (TTook.mk true x3))) = some t ∧ IsMin (hereI (tms l)) t := by
  obtain ⟨x, x1, x2, x3⟩ := items_eq K1 (l := l) true (by omega) (Nat.le_refl _)
  rw [x1, hereI_tms]
  simp only [Option.bind_some]
  cases x with
  | nil => exact ⟨zTTook, rfl, .inl ⟨List.nil_perm.1 x3, rfl⟩⟩
  | cons y ys =>
    have e0 : (((y :: ys).length : Int) == 0) = false := by simp; omega
    have hz : (y :: ys)[0]? = some y := rfl
    have e1 : atL (y :: ys) 0 = some y := atL_nat (i := 0) hz
    simp only [e0, cond_false, e1, Option.bind_some]
    obtain ⟨h1, h2⟩ := sorted_first_min x2 x3 hz
    exact ⟨_, rfl, .inr ⟨rfl, h1, h2⟩⟩
theorem BridgeItems_pure (l : List TR08Mark) (i : Int) : Lw10_BridgeItems.f K1 l i = some true := by
  unfold Lw10_BridgeItems.f
  obtain ⟨b, hb, hs⟩ := small10 l 0
  simp only [awake10, Option.bind_some, Bool.not_true, cond_false, hb]
  cases b
  · simp only [Bool.not_false, cond_true, Option.bind_some, Sum.elim_inl]
  · obtain ⟨h60, _⟩ := hs rfl
    obtain ⟨p, r, t1, t2⟩ := tree_ok l (by omega)
    have hlen := timed_len' l
    have htm := timed_ok l (by omega)
    generalize timed l = m at *
    have hcl := clampN_le m i
    obtain ⟨s, s1, s2⟩ := between_ok' t2 (by omega) (clampN m i) m.length
    obtain ⟨s', s3, s4⟩ := between_ok' t2 (by omega) 0 (clampN m i)
    rw [List.take_length] at s2
    rw [List.drop_zero] at s4
    have hd : (m.drop (clampN m i)).take (m.length - clampN m i) = m.drop (clampN m i) := List.take_of_length_le (by simp)
    obtain ⟨t, u1, u2⟩ := lastMax (l := m.drop (clampN m i)) (by simp; omega)
    obtain ⟨t', u3, u4⟩ := firstMin (l := m.take (clampN m i)) (by simp; omega)
    have g1 : decide ((0 : Int) ≤ (clampN m i : Int) ∧ (clampN m i : Int) ≤ (m.length : Int)) = true := by simp; omega
    have b1 : bridge_Best.f K1 p r i = some t := by
      unfold bridge_Best.f bridge_clamp.f
      simp only [len_ok t2, Option.bind_some, clampN_eq, s1]
      rw [IsMax.unique s2.gone u2]
    have b2 : R10_Best.f K1 m i = some t := by
      unfold R10_Best.f
      simp only [refClamp, Option.bind_some, g1, cond_true, Int.toNat_natCast, hd]
      exact u1
    have s3' : Tree_Between.f opsM K1 p r 0 (clampN m i : Int) = some s' := s3
    have b3 : bridge_Least.f K1 p r i = some t' := by
      unfold bridge_Least.f bridge_clamp.f
      simp only [len_ok t2, Option.bind_some, clampN_eq, s3']
      rw [IsMin.unique s4.least u4]
    have b4 : R10_Least.f K1 m i = some t' := by
      unfold R10_Least.f
      simp only [refClamp, Option.bind_some, g1, cond_true, Int.toNat_natCast, List.drop_zero, Nat.sub_zero]
      exact u3
    simp only [Bool.not_true, cond_false, t1, Option.bind_some, Sum.elim_inr, htm, b1, b2, b3, b4, beq_self_eq_true, Bool.and_self, cond_true]

/-! ### least counts -/
def cnt (m : List TR08Mark) (n : Nat) : Int := ((cts m).take n).sum
/-- The least count at the places from one to another one. -/
def lowC (m : List TR08Mark) (i : Nat) : Nat → Int
  | 0 => cnt m i
  | d + 1 => min (lowC m i d) (cnt m (i + d + 1))
theorem cnt_bound (m : List TR08Mark) (n : Nat) : -1099511627776 * (m.length : Int) ≤ cnt m n ∧ cnt m n ≤ 1099511627776 * (m.length : Int) := by
  have h := sum_bound (ns := (cts m).take n) ((small_cnt (tms m)).take n)
  have h2 : ((cts m).take n).length ≤ m.length := by simp; omega
  unfold cnt
  generalize (cts m).take n = q at *
  omega
theorem cnt_split (m : List TR08Mark) (i d : Nat) : cnt m (i + d) = cnt m i + (((cts m).drop i).take d).sum := by
  unfold cnt
  rw [List.take_add, List.sum_append]
theorem lowC_eq (m : List TR08Mark) (i : Nat) : ∀ (d : Nat), i + d ≤ m.length → lowC m i d = if d = 0 then cnt m i else min (cnt m i) (cnt m i + lowF (((cts m).drop i).take d))
  | 0, _ => rfl
  | 1, h => by
    have hs := cnt_split m i 1
    have hlt : 0 < ((cts m).drop i).length := by rw [List.length_drop, List.length_map, List.length_map]; omega
    obtain ⟨x, hx, _⟩ := drop_cons hlt
    have ht : ((cts m).drop i).take 1 = [x] := by rw [List.take_add_one, hx]; rfl
    show min (cnt m i) (cnt m (i + 1)) = min (cnt m i) (cnt m i + lowF (((cts m).drop i).take 1))
    rw [hs, ht]; simp [lowF]
  | d + 2, h => by
    have ih := lowC_eq m i (d + 1) (by omega)
    have hs := cnt_split m i (d + 1 + 1)
    have hlt : d + 1 < ((cts m).drop i).length := by rw [List.length_drop, List.length_map, List.length_map]; omega
    obtain ⟨x, hx, _⟩ := drop_cons hlt
    have hl := lowF_snoc hx (by omega)
    rw [if_neg (by omega)] at ih
    show min (lowC m i (d + 1)) (cnt m (i + (d + 1 + 1))) = min (cnt m i) (cnt m i + lowF (((cts m).drop i).take (d + 1 + 1)))
    rw [ih, hs, hl]
    omega
theorem low_ok {p : PN TMark TSwell} {r : TRef} {m : List TR08Mark} {c : Int} {B : Nat} (h : GrM p r (tms m) c B) (hl : m.length < 100000) (a b : Int) : legal_Low.f K1 p r a b = some (lowC m (clampN m a) (clampN m b - clampN m a)) := by
  have ha := clampN_le m a
  have hb := clampN_le m b
  have hmax : gmax (clampN m a : Int) (clampN m b : Int) = ((max (clampN m a) (clampN m b) : Nat) : Int) := by unfold gmax; split <;> omega
  obtain ⟨s, s1, s2⟩ := between_ok' h hl 0 (clampN m a)
  obtain ⟨s', s3, s4⟩ := between_ok' h hl (clampN m a) (max (clampN m a) (clampN m b))
  have s1' : Tree_Between.f opsM K1 p r 0 (clampN m a : Int) = some s := s1
  unfold legal_Low.f
  simp only [len_ok h, Option.bind_some, clampN_eq, hmax, s1', s3, s2.count, s4.count]
  generalize clampN m a = i at *
  generalize clampN m b = j at *
  have e1 : (tideF ((tms ((m.take i).drop 0)).map mcnt)).sum = cnt m i := by
    unfold tideF cnt; simp [List.map_take]
  have e2 : (tms ((m.take (max i j)).drop i)).map mcnt = ((cts m).drop i).take (j - i) := by
    rw [List.drop_take, show max i j - i = j - i by omega]
    simp [List.map_take, List.map_drop]
  rw [e1, e2, lowC_eq m i (j - i) (by omega)]
  have hcb := cnt_bound m i
  have hlb := low_bound (((small_cnt (tms m)) : smallN (cts m)) : smallN (cts m))
  unfold tide_Tide_Least.f tideF
  by_cases hd : j - i = 0
  · rw [if_pos hd, hd]; simp
  · have hlen : (((cts m).drop i).take (j - i)).length = j - i := by simp; omega
    have hsm : smallN (((cts m).drop i).take (j - i)) := fun x hx => small_cnt (tms m) x (List.mem_of_mem_drop (List.mem_of_mem_take hx))
    have hlb := low_bound hsm
    rw [hlen] at hlb
    have e0 : (((((cts m).drop i).take (j - i)).length : Int) == 0) = false := by rw [hlen]; simp; omega
    simp only [e0, cond_false, Option.bind_some]
    rw [if_neg hd, w64_id (by omega) (by omega)]
    congr 1
    unfold gmin; split <;> omega
theorem refLow_loop10 (m : List TR08Mark) (hl : m.length < 100000) (i j : Nat) (b : Int) (hb : clampN m b = j) (hj : j ≤ m.length) : ∀ (d q n : Nat), i + q + d = j → d + 1 < n → R11_Low.l0 K1 m b (cts m) n (lowC m i q, ((i + q + 1 : Nat) : Int)) = some (lowC m i (q + d))
  | d, q, 0, _, h => by omega
  | 0, q, n + 1, hi, _ => by
    simp only [R11_Low.l0, clampN_eq, hb]
    rw [decide_eq_false (by omega)]; rfl
  | d + 1, q, n + 1, hi, hn => by
    have ih := refLow_loop10 m hl i j b hb hj d (q + 1) n (by omega) (by omega)
    have hq := refSum_eq K1 (l := cts m) (small_cnt _) (by simp; omega) (m := i + q + 1) (by simp; omega) (by unfold K1; omega)
    simp only [R11_Low.l0, clampN_eq, hb]
    rw [decide_eq_true (by omega)]
    simp only [cond_true, hq, Option.bind_some, w64_succ (i := i + q + 1) (by omega)]
    have e : gmin (lowC m i q) ((cts m).take (i + q + 1)).sum = lowC m i (q + 1) := by
      show _ = min (lowC m i q) (cnt m (i + q + 1))
      unfold gmin cnt; split <;> omega
    rw [e, show q + (d + 1) = q + 1 + d by omega]
    exact ih
theorem refLow10 (m : List TR08Mark) (hl : m.length < 100000) (a b : Int) : R11_Low.f K1 m a b = some (lowC m (clampN m a) (clampN m b - clampN m a)) := by
  have ha := clampN_le m a
  have hb := clampN_le m b
  have hlt : m.length < K1 := by unfold K1; omega
  have hq := refSum_eq K1 (l := cts m) (small_cnt _) (by simp; omega) (m := clampN m a) (by simpa using ha) (by omega)
  unfold R11_Low.f
  rw [counts_eq K1 (by omega) hlt]
  simp only [Option.bind_some, clampN_eq, hq]
  obtain ⟨n, hn⟩ : ∃ n, K1 = n + 1 := ⟨1000000, rfl⟩
  have key : ∀ n, n + 1 = K1 → R11_Low.l0 K1 m b (cts m) (n + 1) (((cts m).take (clampN m a)).sum, (clampN m a : Int)) = some (lowC m (clampN m a) (clampN m b - clampN m a)) := by
    intro n hn
    simp only [R11_Low.l0, clampN_eq]
    by_cases hab : (clampN m a : Int) ≤ (clampN m b : Int)
    · rw [decide_eq_true hab]
      have e : gmin ((cts m).take (clampN m a)).sum ((cts m).take (clampN m a)).sum = lowC m (clampN m a) 0 := by unfold gmin; split <;> rfl
      simp only [cond_true, hq, Option.bind_some, e]
      rw [w64_succ (by omega)]
      have := refLow_loop10 m hl (clampN m a) (clampN m b) b rfl hb (clampN m b - clampN m a) 0 n (by omega) (by unfold K1 at hn; omega)
      rw [Nat.zero_add] at this
      exact this
    · rw [decide_eq_false hab, show clampN m b - clampN m a = 0 by omega]; rfl
  rw [key 1000000 rfl]; rfl
open Classical in
theorem refLegal_loop (m : List TR08Mark) (hl : m.length < 100000) : ∀ (d i n : Nat), i + d = m.length → d < n → R11_Legal.l0 K1 m n (cnt m i, (i : Int)) = some (if ∀ j, i < j → j ≤ m.length → cnt m j ≥ 0 then Sum.inr () else Sum.inl false)
  | d, i, 0, _, h => by omega
  | 0, i, n + 1, hi, _ => by
    simp only [R11_Legal.l0]
    rw [dec_nlt (by omega), if_pos (fun j h1 h2 => by omega)]; rfl
  | d + 1, i, n + 1, hi, hn => by
    obtain ⟨x, hx, _⟩ := drop_cons (l := m) (i := i) (by omega)
    have hx' : (cts m)[i]? = some (mcnt (tm x)) := by simp [hx]
    have hc : cnt m (i + 1) = cnt m i + mcnt (tm x) := by
      unfold cnt; rw [List.take_add_one, hx']; simp
    have hb := cnt_bound m i
    have ih := refLegal_loop m hl d (i + 1) n (by omega) (by omega)
    have hiff : (∀ j, i < j → j ≤ m.length → cnt m j ≥ 0) ↔ (cnt m (i + 1) ≥ 0 ∧ ∀ j, i + 1 < j → j ≤ m.length → cnt m j ≥ 0) := by
      constructor
      · intro h; exact ⟨h (i + 1) (by omega) (by omega), fun j h1 h2 => h j (by omega) h2⟩
      · rintro ⟨h1, h2⟩ j h3 h4
        by_cases hj : j = i + 1
        · subst hj; exact h1
        · exact h2 j (by omega) h4
    simp only [R11_Legal.l0]
    rw [dec_lt (by omega)]
    simp only [cond_true, atL_nat hx, Option.bind_some, w64_succ (i := i) (by omega)]
    have key : ∀ v, v = cnt m (i + 1) → (bif decide (v < 0) then (some (Sum.inl false) : Option (Sum Bool Unit)) else R11_Legal.l0 K1 m n (v, ((i + 1 : Nat) : Int))) = some (if ∀ j, i < j → j ≤ m.length → cnt m j ≥ 0 then Sum.inr () else Sum.inl false) := by
      rintro v rfl
      by_cases hv : cnt m (i + 1) < 0
      · simp only [hv, decide_true, cond_true]
        rw [if_neg (fun h => by have := (hiff.1 h).1; omega)]
      · simp only [hv, decide_false, cond_false, ih]
        congr 1
        by_cases ha : ∀ j, i + 1 < j → j ≤ m.length → cnt m j ≥ 0
        · rw [if_pos ha, if_pos (hiff.2 ⟨by omega, ha⟩)]
        · rw [if_neg ha, if_neg (fun h => ha (hiff.1 h).2)]
    cases hi' : x.op.insert
    · have : mcnt (tm x) = -1 := by simp [mcnt, tm, hi']
      simp only [cond_false]
      exact key _ (by rw [hc, this, w64_id (by omega) (by omega)]; omega)
    · have : mcnt (tm x) = 1 := by simp [mcnt, tm, hi']
      simp only [cond_true]
      exact key _ (by rw [hc, this, w64_id (by omega) (by omega)])
def Legal (m : List TR08Mark) : Prop := ∀ j, j ≤ m.length → cnt m j ≥ 0
open Classical in
theorem refLegal (m : List TR08Mark) (hl : m.length < 100000) : R11_Legal.f K1 m = some (decide (Legal m)) := by
  have hlt : m.length < K1 := by unfold K1; omega
  have e := refLegal_loop m hl m.length 0 K1 (Nat.zero_add _) hlt
  have h0 : cnt m 0 = 0 := by simp [cnt]
  rw [h0] at e
  replace e : R11_Legal.l0 K1 m K1 (0, 0) = _ := e
  unfold R11_Legal.f
  rw [e]
  have hiff : (∀ j, 0 < j → j ≤ m.length → cnt m j ≥ 0) ↔ Legal m := by
    constructor
    · intro h j hj
      by_cases h1 : j = 0
      · subst h1; omega
      · exact h j (by omega) hj
    · intro h j _ hj; exact h j hj
  by_cases hL : Legal m
  · rw [if_pos (hiff.2 hL), decide_eq_true hL]; rfl
  · rw [if_neg (fun h => hL (hiff.1 h)), decide_eq_false hL]; rfl
theorem lowC_ge (m : List TR08Mark) (i : Nat) (v : Int) : ∀ (d : Nat), lowC m i d ≥ v ↔ ∀ j, i ≤ j → j ≤ i + d → cnt m j ≥ v
  | 0 => by
    constructor
    · intro h j h1 h2
      have : j = i := by omega
      subst this; exact h
    · intro h; exact h i (Nat.le_refl _) (Nat.le_refl _)
  | d + 1 => by
    have ih := lowC_ge m i v d
    show min (lowC m i d) (cnt m (i + d + 1)) ≥ v ↔ _
    constructor
    · intro h j h1 h2
      by_cases hj : j = i + d + 1
      · subst hj; omega
      · exact ih.1 (by omega) j h1 (by omega)
    · intro h
      have h1 := ih.2 (fun j h1 h2 => h j h1 (by omega))
      have h2 := h (i + d + 1) (by omega) (by omega)
      omega
theorem clampN_len (m : List TR08Mark) : clampN m (m.length : Int) = m.length := by unfold clampN; omega
theorem clampN_zero (m : List TR08Mark) : clampN m 0 = 0 := by unfold clampN; omega
open Classical in
theorem right_ok {p : PN TMark TSwell} {r : TRef} {m : List TR08Mark} {c : Int} {B : Nat} (h : GrM p r (tms m) c B) (hl : m.length < 100000) : legal_Right.f K1 p r = some (decide (Legal m)) := by
  unfold legal_Right.f
  simp only [len_ok h, Option.bind_some, low_ok h hl, clampN_len, clampN_zero]
  congr 1
  have := lowC_ge m 0 0 (m.length - 0)
  have hiff : lowC m 0 (m.length - 0) ≥ 0 ↔ Legal m := by
    rw [this]
    constructor
    · intro h j hj; exact h j (by omega) (by omega)
    · intro h j _ hj; exact h j (by omega)
  by_cases hL : Legal m
  · rw [decide_eq_true hL, decide_eq_true (hiff.2 hL)]
  · rw [decide_eq_false hL, decide_eq_false (fun h => hL (hiff.1 h))]
theorem LegalLows_pure (l : List TR08Mark) (a b : Int) : Lw11_LegalLows.f K1 l a b = some true := by
  unfold Lw11_LegalLows.f
  simp only [awake11, Option.bind_some, Bool.not_true, cond_false]
  by_cases h : (l.length : Int) > 60
  · simp only [h, decide_true, cond_true, Option.bind_some, Sum.elim_inl]
  · obtain ⟨p, r, t1, t2⟩ := tree_ok l (by omega)
    have hlen := timed_len' l
    simp only [h, decide_false, cond_false, Option.bind_some, Sum.elim_inr, t1, timed_ok l (by omega), low_ok t2 (by omega), refLow10 (timed l) (by omega), beq_self_eq_true, cond_true, right_ok t2 (by omega), refLegal (timed l) (by omega)]
end Go.Proofs.Ythcehagablploaa

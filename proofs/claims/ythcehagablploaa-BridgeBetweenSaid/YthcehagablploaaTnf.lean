/- Trees in a pool: searches. -/
import Derived.Test.YthcehagablploaaTk
namespace Go.Proofs.Ythcehagablploaa
open Go Go.Proofs.Ythcehagablploaa.Sx
set_option linter.unusedVariables false
set_option linter.unusedSimpArgs false

section
variable {E A : Type} {O : Ops E A} {k N : Nat} {G : E → Prop} {S : A → List E → Prop} {lt : E → E → Prop}
/-- A predicate of what came ahead and of what comes, that a part of what comes fulfils if the whole does. -/
structure PredOk (N : Nat) (G : E → Prop) (S : A → List E → Prop) (P : List E → List E → Bool) (fn : A → A → Option Bool) : Prop where
  run : ∀ {a b l m}, S a l → S b m → (∀ e ∈ l ++ m, G e) → (l ++ m).length < N → fn a b = some (P l m)
  nil : ∀ l, P l [] = false
  app : ∀ l m n, P l (m ++ n) = (P l m || P (l ++ m) n)
/-- The first place from s on at which the predicate holds. -/
def firstF (P : List E → List E → Bool) : List E → List E → Int → Int
  | _, [], _ => -1
  | pre, e :: u, s => if s ≤ 0 ∧ P pre [e] = true then 0 else if firstF P (pre ++ [e]) u (s - 1) ≥ 0 then firstF P (pre ++ [e]) u (s - 1) + 1 else -1
/-- The last place ahead of s at which the predicate holds. -/
def lastF (P : List E → List E → Bool) : List E → List E → Int → Int
  | _, [], _ => -1
  | pre, e :: u, s => if lastF P (pre ++ [e]) u (s - 1) ≥ 0 then lastF P (pre ++ [e]) u (s - 1) + 1 else if s > 0 ∧ P pre [e] = true then 0 else -1
variable {P : List E → List E → Bool} {fn : A → A → Option Bool}
theorem firstF_cons (pre : List E) (e : E) (u : List E) (s : Int) : firstF P pre (e :: u) s = if s ≤ 0 ∧ P pre [e] = true then 0 else if firstF P (pre ++ [e]) u (s - 1) ≥ 0 then firstF P (pre ++ [e]) u (s - 1) + 1 else -1 := by rw [firstF]
theorem lastF_cons (pre : List E) (e : E) (u : List E) (s : Int) : lastF P pre (e :: u) s = if lastF P (pre ++ [e]) u (s - 1) ≥ 0 then lastF P (pre ++ [e]) u (s - 1) + 1 else if s > 0 ∧ P pre [e] = true then 0 else -1 := by rw [lastF]
theorem firstF_bound : ∀ (pre l : List E) (s : Int), firstF P pre l s = -1 ∨ (0 ≤ firstF P pre l s ∧ firstF P pre l s < l.length)
  | pre, [], s => .inl rfl
  | pre, e :: u, s => by
    rw [firstF]
    have := firstF_bound (pre ++ [e]) u (s - 1)
    simp only [List.length_cons]
    split
    · omega
    · split <;> omega
theorem lastF_bound : ∀ (pre l : List E) (s : Int), lastF P pre l s = -1 ∨ (0 ≤ lastF P pre l s ∧ lastF P pre l s < l.length)
  | pre, [], s => .inl rfl
  | pre, e :: u, s => by
    rw [lastF]
    have := lastF_bound (pre ++ [e]) u (s - 1)
    simp only [List.length_cons]
    split
    · omega
    · split <;> omega
theorem firstF_append : ∀ (pre l m : List E) (s : Int), firstF P pre (l ++ m) s = if firstF P pre l s ≥ 0 then firstF P pre l s else if firstF P (pre ++ l) m (s - l.length) ≥ 0 then firstF P (pre ++ l) m (s - l.length) + l.length else -1
  | pre, [], m, s => by
    have h := firstF_bound (P := P) pre m s
    simp only [firstF, List.nil_append, List.append_nil, List.length_nil, Int.natCast_zero, Int.sub_zero, Int.add_zero]
    rw [if_neg (by omega)]
    split <;> omega
  | pre, e :: u, m, s => by
    rw [List.cons_append, firstF, firstF, firstF_append (pre ++ [e]) u m (s - 1)]
    have e1 : pre ++ [e] ++ u = pre ++ e :: u := by simp
    have e2 : s - 1 - (u.length : Int) = s - ((e :: u).length : Int) := by simp; omega
    have e3 : ((e :: u).length : Int) = u.length + 1 := by simp
    rw [e1, e2, e3]
    have h := firstF_bound (P := P) (pre ++ [e]) u (s - 1)
    have h' := firstF_bound (P := P) (pre ++ e :: u) m (s - (u.length + 1))
    by_cases h1 : s ≤ 0 ∧ P pre [e] = true
    · simp [h1]
    · rw [if_neg h1, if_neg h1]
      generalize firstF P (pre ++ [e]) u (s - 1) = x at h ⊢
      generalize firstF P (pre ++ e :: u) m (s - (u.length + 1)) = y at h' ⊢
      repeat' split
      all_goals omega
theorem lastF_append : ∀ (pre l m : List E) (s : Int), lastF P pre (l ++ m) s = if lastF P (pre ++ l) m (s - l.length) ≥ 0 then lastF P (pre ++ l) m (s - l.length) + l.length else lastF P pre l s
  | pre, [], m, s => by
    have h := lastF_bound (P := P) pre m s
    simp only [lastF, List.nil_append, List.append_nil, List.length_nil, Int.natCast_zero, Int.sub_zero, Int.add_zero]
    split <;> omega
  | pre, e :: u, m, s => by
    rw [List.cons_append, lastF, lastF, lastF_append (pre ++ [e]) u m (s - 1)]
    have e1 : pre ++ [e] ++ u = pre ++ e :: u := by simp
    have e2 : s - 1 - (u.length : Int) = s - ((e :: u).length : Int) := by simp; omega
    have e3 : ((e :: u).length : Int) = u.length + 1 := by simp
    rw [e1, e2, e3]
    have h := lastF_bound (P := P) (pre ++ [e]) u (s - 1)
    have h' := lastF_bound (P := P) (pre ++ e :: u) m (s - (u.length + 1))
    by_cases h3 : lastF P (pre ++ e :: u) m (s - (u.length + 1)) ≥ 0
    · rw [if_pos h3, if_pos h3, if_pos (by omega)]; omega
    · rw [if_neg h3, if_neg h3]
theorem firstF_none (hp : PredOk N G S P fn) : ∀ (pre l : List E) (s : Int), P pre l = false → firstF P pre l s = -1
  | pre, [], s, _ => rfl
  | pre, e :: u, s, h => by
    have h1 := hp.app pre [e] u
    rw [show [e] ++ u = e :: u from rfl, h] at h1
    have h2 := Bool.or_eq_false_iff.1 h1.symm
    rw [firstF, firstF_none hp (pre ++ [e]) u (s - 1) h2.2, h2.1]
    simp
theorem lastF_none (hp : PredOk N G S P fn) : ∀ (pre l : List E) (s : Int), P pre l = false → lastF P pre l s = -1
  | pre, [], s, _ => rfl
  | pre, e :: u, s, h => by
    have h1 := hp.app pre [e] u
    rw [show [e] ++ u = e :: u from rfl, h] at h1
    have h2 := Bool.or_eq_false_iff.1 h1.symm
    rw [lastF, lastF_none hp (pre ++ [e]) u (s - 1) h2.2, h2.1]
    simp
theorem firstF_skip : ∀ (pre l : List E) (s : Int), s ≥ l.length → firstF P pre l s = -1
  | pre, [], s, _ => rfl
  | pre, e :: u, s, h => by
    simp only [List.length_cons] at h
    rw [firstF, firstF_skip (pre ++ [e]) u (s - 1) (by omega), if_neg (by omega)]; simp
theorem lastF_lim : ∀ (pre l : List E) (s : Int), s ≤ 0 → lastF P pre l s = -1
  | pre, [], s, _ => rfl
  | pre, e :: u, s, h => by
    rw [lastF, lastF_lim (pre ++ [e]) u (s - 1) (by omega), if_neg (by omega), if_neg (by omega)]
theorem firstF_low : ∀ (pre l : List E) (s s' : Int), s ≤ 0 → s' ≤ 0 → firstF P pre l s = firstF P pre l s'
  | pre, [], s, s', _, _ => rfl
  | pre, e :: u, s, s', h, h' => by
    rw [firstF, firstF, firstF_low (pre ++ [e]) u (s - 1) (s' - 1) (by omega) (by omega)]
    simp only [h, h', true_and]
theorem lastF_high : ∀ (pre l : List E) (s s' : Int), s ≥ l.length → s' ≥ l.length → lastF P pre l s = lastF P pre l s'
  | pre, [], s, s', _, _ => rfl
  | pre, e :: u, s, s', h, h' => by
    simp only [List.length_cons] at h h'
    rw [lastF, lastF, lastF_high (pre ++ [e]) u (s - 1) (s' - 1) (by omega) (by omega)]
    have h1 : s > 0 := by omega
    have h2 : s' > 0 := by omega
    simp only [h1, h2, true_and]
theorem firstF_clamp (l : List E) (s : Int) : firstF P [] l (min (max s 0) (l.length : Int)) = firstF P [] l s := by
  by_cases h : s ≤ 0
  · exact firstF_low _ _ _ _ (by omega) h
  · by_cases h' : s ≤ l.length
    · rw [show min (max s 0) (l.length : Int) = s by omega]
    · rw [firstF_skip _ _ _ (by omega), firstF_skip _ _ _ (by omega)]
theorem lastF_clamp (l : List E) (s : Int) : lastF P [] l (min (max s 0) (l.length : Int)) = lastF P [] l s := by
  by_cases h : s ≤ 0
  · rw [lastF_lim _ _ _ (by omega), lastF_lim _ _ _ h]
  · by_cases h' : s ≤ l.length
    · rw [show min (max s 0) (l.length : Int) = s by omega]
    · exact lastF_high _ _ _ _ (by omega) (by omega)
theorem first_ok (ok : OpsOk O k N G S lt) (hp : PredOk N G S P fn) {p : PN E A} {L : List TRef} {B : Nat} (hP : PW p L B) : ∀ (n : Nat) {r : TRef} {t : Tr E} (pre : List E) (s : Int) (acc : A), t.size < n → Rep S p r t → S acc pre → (∀ x ∈ pre ++ t.toList, G x) → (pre ++ t.toList).length < N →
    -4611686018427387904 ≤ s - t.size → s ≤ 4611686018427387904 → ∃ c, Tree_first.r O k n p r s acc fn = some (firstF P pre t.toList s, c) ∧ (firstF P pre t.toList s < 0 → S c (pre ++ t.toList))
  | 0, _, _, _, _, _, h, _, _, _, _, _, _ => by omega
  | n + 1, r, t, pre, s, acc, hn, hr, ha, hG, hN, b1, b2 => by
    have hbig := ok.big
    obtain ⟨n1, g1, g2⟩ := get_ok ok hP hr
    have hll := Tr.len_toList t
    obtain ⟨w, w1, w2⟩ := ok.plus ha g2.sum hG hN
    simp only [Tree_first.r, g1, Option.bind_some, g2.size, w1]
    by_cases h0 : t.size = 0
    · have e0 : ((t.size : Int) == 0) = true := by simp; exact h0
      have : t.toList = [] := List.eq_nil_of_length_eq_zero (by omega)
      simp only [e0, cond_true, Option.bind_some, Sum.elim_inl]
      have hf : firstF P pre t.toList s = -1 := by rw [this]; rfl
      rw [hf]; exact ⟨w, rfl, fun _ => w2⟩
    · have e0 : ((t.size : Int) == 0) = false := by simp; exact h0
      simp only [e0, cond_false]
      by_cases h1 : s ≥ (t.size : Int)
      · simp only [h1, decide_true, cond_true, Option.bind_some, Sum.elim_inl]
        rw [firstF_skip pre t.toList s (by omega)]; exact ⟨w, rfl, fun _ => w2⟩
      · simp only [h1, decide_false, cond_false, hp.run ha g2.sum hG hN, Option.bind_some]
        by_cases h2 : s ≤ 0 ∧ P pre t.toList = false
        · simp only [h2.1, h2.2, decide_true, cond_true, Bool.not_false, Option.bind_some, Sum.elim_inl]
          rw [firstF_none hp pre t.toList s h2.2]; exact ⟨w, rfl, fun _ => w2⟩
        · have h3 : (bif decide (s ≤ 0) then (bif !P pre t.toList then some (Sum.inl (-1, w)) else some (Sum.inr ())) else some (Sum.inr () : Sum (Int × A) Unit)) = some (Sum.inr ()) := by
            by_cases h4 : s ≤ 0
            · have h5 : P pre t.toList = true := by
                cases h6 : P pre t.toList
                · exact absurd ⟨h4, h6⟩ h2
                · rfl
              simp only [h4, h5, decide_true, cond_true, Bool.not_true, cond_false]
            · simp only [h4, decide_false, cond_false]
          rw [h3]
          cases t with
          | nil => exact absurd rfl h0
          | node r0 e0' l u =>
            obtain ⟨rfl, he, hl, hu, hlk⟩ := g2.node rfl
            obtain ⟨n2, g3, g4⟩ := get_ok ok hP hl
            have hsz : (Tr.node r e0' l u).size = l.size + 1 + u.size := rfl
            have hln : (Tr.node r e0' l u).toList = l.toList ++ e0' :: u.toList := rfl
            have hlu := Tr.len_toList u
            have hlL := Tr.len_toList l
            rw [hsz] at hn b1
            rw [hln] at hG hN ⊢
            simp only [List.length_append, List.length_cons] at hN
            have sub1 : ∀ x ∈ pre ++ l.toList, G x := fun x hx => hG x (by simp at hx ⊢; rcases hx with hx | hx <;> simp [hx])
            obtain ⟨c1, d1, d2⟩ := first_ok ok hp hP n pre s acc (by omega) hl ha sub1 (by simp; omega) (by omega) b2
            simp only [Option.bind_some, Sum.elim_inr, g3, d1]
            have hb := firstF_bound (P := P) pre l.toList s
            have happ := firstF_append (P := P) pre l.toList (e0' :: u.toList) s
            by_cases h4 : firstF P pre l.toList s ≥ 0
            · simp only [h4, decide_true, cond_true]
              rw [if_pos h4] at happ
              exact ⟨c1, by rw [happ], fun h => by omega⟩
            · simp only [h4, decide_false, cond_false]
              rw [if_neg h4] at happ
              have hc1 := d2 (by omega)
              obtain ⟨se, s1, s2⟩ := ok.sum n1.e (hG _ (by rw [he]; simp))
              rw [he] at s2
              have hGe : ∀ x ∈ (pre ++ l.toList) ++ [e0'], G x := fun x hx => hG x (by simp at hx ⊢; rcases hx with hx | hx | hx <;> simp [hx])
              have hNe : ((pre ++ l.toList) ++ [e0']).length < N := by simp; omega
              have hfn := hp.run hc1 s2 hGe hNe
              obtain ⟨c2, f1, f2⟩ := ok.plus hc1 s2 hGe hNe
              simp only [s1, Option.bind_some, g4.size, hfn, f1]
              have hq := firstF_cons (P := P) (pre ++ l.toList) e0' u.toList (s - l.toList.length)
              generalize firstF P (pre ++ l.toList) (e0' :: u.toList) (s - l.toList.length) = q at happ hq
              by_cases h5 : s ≤ (l.size : Int) ∧ P (pre ++ l.toList) [e0'] = true
              · simp only [h5.1, h5.2, decide_true, cond_true, Option.bind_some, Sum.elim_inl]
                rw [if_pos ⟨by omega, h5.2⟩] at hq
                rw [hq, if_pos (by omega)] at happ
                exact ⟨c1, by rw [happ]; congr 2; omega, fun h => by omega⟩
              · have h6 : (bif decide (s ≤ (l.size : Int)) then (bif P (pre ++ l.toList) [e0'] then some (Sum.inl ((l.size : Int), c1)) else some (Sum.inr ())) else some (Sum.inr () : Sum (Int × A) Unit)) = some (Sum.inr ()) := by
                  by_cases h7 : s ≤ (l.size : Int)
                  · have h8 : P (pre ++ l.toList) [e0'] = false := by
                      cases h6 : P (pre ++ l.toList) [e0']
                      · rfl
                      · exact absurd ⟨h7, h6⟩ h5
                    simp only [h7, h8, decide_true, cond_true, cond_false]
                  · simp only [h7, decide_false, cond_false]
                rw [h6]
                rw [if_neg (fun h => h5 ⟨by have := h.1; omega, h.2⟩)] at hq
                have v1 : w64 (w64 (s - (l.size : Int)) - 1) = s - (l.toList.length : Int) - 1 := by
                  rw [w64_id (x := s - (l.size : Int)) (by omega) (by omega), w64_id (by omega) (by omega), hlL]
                have hGr : ∀ x ∈ (pre ++ l.toList ++ [e0']) ++ u.toList, G x := fun x hx => hG x (by simpa using hx)
                obtain ⟨c3, y1, y2⟩ := first_ok ok hp hP n (pre ++ l.toList ++ [e0']) (s - (l.toList.length : Int) - 1) c2 (by omega) hu f2 hGr (by simp; omega) (by omega) (by omega)
                have hb3 := firstF_bound (P := P) (pre ++ l.toList ++ [e0']) u.toList (s - (l.toList.length : Int) - 1)
                simp only [Option.bind_some, Sum.elim_inr, v1, y1]
                by_cases h7 : firstF P (pre ++ l.toList ++ [e0']) u.toList (s - (l.toList.length : Int) - 1) ≥ 0
                · simp only [h7, decide_true, cond_true]
                  rw [if_pos h7] at hq
                  rw [hq, if_pos (by omega)] at happ
                  refine ⟨c3, ?_, fun h => by omega⟩
                  rw [happ, w64_id (x := (l.size : Int) + 1) (by omega) (by omega), w64_id (by omega) (by omega)]
                  congr 2; omega
                · simp only [h7, decide_false, cond_false]
                  rw [if_neg h7] at hq
                  rw [hq, if_neg (by omega)] at happ
                  refine ⟨c3, ?_, fun _ => by have := y2 (by omega); simpa using this⟩
                  rw [happ]
                  congr 2; omega
theorem last_of_ok (ok : OpsOk O k N G S lt) (hp : PredOk N G S P fn) {p : PN E A} {L : List TRef} {B : Nat} (hP : PW p L B) : ∀ (n : Nat) {r : TRef} {t : Tr E} (pre : List E) (s : Int) (acc : A), t.size < n → Rep S p r t → S acc pre → (∀ x ∈ pre ++ t.toList, G x) → (pre ++ t.toList).length < N →
    -4611686018427387904 ≤ s - t.size → s ≤ 4611686018427387904 → Tree_lastOf.r O k n p r s acc fn = some (lastF P pre t.toList s)
  | 0, _, _, _, _, _, h, _, _, _, _, _, _ => by omega
  | n + 1, r, t, pre, s, acc, hn, hr, ha, hG, hN, b1, b2 => by
    have hbig := ok.big
    obtain ⟨n1, g1, g2⟩ := get_ok ok hP hr
    have hll := Tr.len_toList t
    simp only [Tree_lastOf.r, g1, Option.bind_some, g2.size]
    by_cases h0 : t.size = 0
    · have e0 : ((t.size : Int) == 0) = true := by simp; exact h0
      have : t.toList = [] := List.eq_nil_of_length_eq_zero (by omega)
      simp only [e0, cond_true, Option.bind_some, Sum.elim_inl]
      have hf : lastF P pre t.toList s = -1 := by rw [this]; rfl
      rw [hf]
    · have e0 : ((t.size : Int) == 0) = false := by simp; exact h0
      simp only [e0, cond_false]
      by_cases h1 : s ≤ 0
      · simp only [h1, decide_true, cond_true, Option.bind_some, Sum.elim_inl]
        rw [lastF_lim pre t.toList s h1]
      · simp only [h1, decide_false, cond_false, hp.run ha g2.sum hG hN, Option.bind_some]
        by_cases h2 : s ≥ (t.size : Int) ∧ P pre t.toList = false
        · simp only [h2.1, h2.2, decide_true, cond_true, Bool.not_false, Option.bind_some, Sum.elim_inl]
          rw [lastF_none hp pre t.toList s h2.2]
        · have h3 : (bif decide (s ≥ (t.size : Int)) then (bif !P pre t.toList then some (Sum.inl (-1)) else some (Sum.inr ())) else some (Sum.inr () : Sum Int Unit)) = some (Sum.inr ()) := by
            by_cases h4 : s ≥ (t.size : Int)
            · have h5 : P pre t.toList = true := by
                cases h6 : P pre t.toList
                · exact absurd ⟨h4, h6⟩ h2
                · rfl
              simp only [h4, h5, decide_true, cond_true, Bool.not_true, cond_false]
            · simp only [h4, decide_false, cond_false]
          rw [h3]
          cases t with
          | nil => exact absurd rfl h0
          | node r0 e0' l u =>
            obtain ⟨rfl, he, hl, hu, hlk⟩ := g2.node rfl
            obtain ⟨n2, g3, g4⟩ := get_ok ok hP hl
            have hsz : (Tr.node r e0' l u).size = l.size + 1 + u.size := rfl
            have hln : (Tr.node r e0' l u).toList = l.toList ++ e0' :: u.toList := rfl
            have hlu := Tr.len_toList u
            have hlL := Tr.len_toList l
            rw [hsz] at hn b1
            rw [hln] at hG hN ⊢
            simp only [List.length_append, List.length_cons] at hN
            have sub1 : ∀ x ∈ pre ++ l.toList, G x := fun x hx => hG x (by simp at hx ⊢; rcases hx with hx | hx <;> simp [hx])
            obtain ⟨c1, d1, d2⟩ := ok.plus ha g4.sum sub1 (by simp; omega)
            obtain ⟨se, s1, s2⟩ := ok.sum n1.e (hG _ (by rw [he]; simp))
            rw [he] at s2
            have hGe : ∀ x ∈ (pre ++ l.toList) ++ [e0'], G x := fun x hx => hG x (by simp at hx ⊢; rcases hx with hx | hx | hx <;> simp [hx])
            have hNe : ((pre ++ l.toList) ++ [e0']).length < N := by simp; omega
            have hfn := hp.run d2 s2 hGe hNe
            obtain ⟨c2, f1, f2⟩ := ok.plus d2 s2 hGe hNe
            have v1 : w64 (w64 (s - (l.size : Int)) - 1) = s - (l.toList.length : Int) - 1 := by
              rw [w64_id (x := s - (l.size : Int)) (by omega) (by omega), w64_id (by omega) (by omega), hlL]
            have hGr : ∀ x ∈ (pre ++ l.toList ++ [e0']) ++ u.toList, G x := fun x hx => hG x (by simpa using hx)
            have hr1 := last_of_ok ok hp hP n (pre ++ l.toList ++ [e0']) (s - (l.toList.length : Int) - 1) c2 (by omega) hu f2 hGr (by simp; omega) (by omega) (by omega)
            have hl1 := last_of_ok ok hp hP n pre s acc (by omega) hl ha sub1 (by simp; omega) (by omega) b2
            have hb3 := lastF_bound (P := P) (pre ++ l.toList ++ [e0']) u.toList (s - (l.toList.length : Int) - 1)
            have happ := lastF_append (P := P) pre l.toList (e0' :: u.toList) s
            have hq := lastF_cons (P := P) (pre ++ l.toList) e0' u.toList (s - l.toList.length)
            generalize lastF P (pre ++ l.toList) (e0' :: u.toList) (s - l.toList.length) = q at happ hq
            simp only [Option.bind_some, Sum.elim_inr, g3, d1, s1, f1, v1, hr1, g4.size, hfn, hl1]
            by_cases h4 : lastF P (pre ++ l.toList ++ [e0']) u.toList (s - (l.toList.length : Int) - 1) ≥ 0
            · simp only [h4, decide_true, cond_true]
              rw [if_pos h4] at hq
              rw [hq, if_pos (by omega)] at happ
              rw [happ, w64_id (x := _ + (l.size : Int)) (by omega) (by omega), w64_id (by omega) (by omega)]
              congr 1; omega
            · simp only [h4, decide_false, cond_false]
              rw [if_neg h4] at hq
              by_cases h5 : s > (l.size : Int) ∧ P (pre ++ l.toList) [e0'] = true
              · simp only [h5.1, h5.2, decide_true, cond_true]
                rw [if_pos ⟨by omega, h5.2⟩] at hq
                rw [hq, if_pos (by omega)] at happ
                rw [happ]; congr 1; omega
              · rw [if_neg (fun h => h5 ⟨by have := h.1; omega, h.2⟩)] at hq
                rw [hq, if_neg (by omega)] at happ
                rw [happ]
                by_cases h7 : s > (l.size : Int)
                · have h8 : P (pre ++ l.toList) [e0'] = false := by
                    cases h6 : P (pre ++ l.toList) [e0']
                    · rfl
                    · exact absurd ⟨h7, h6⟩ h5
                  simp only [h7, h8, decide_true, cond_true, cond_false]
                · simp only [h7, decide_false, cond_false]
theorem Gr.first (ok : OpsOk O k N G S lt) (hk : N ≤ k) (hp : PredOk N G S P fn) {p : PN E A} {r : TRef} {l : List E} {c : Int} {B : Nat} (h : Gr S lt G p r l c B) (i : Int) (hN : l.length < N) :
    Tree_First.f O k p r i fn = some (firstF P [] l i) := by
  have hlen := h.len ok
  obtain ⟨t, hP, hr, rfl⟩ := h.ex
  have hbig := ok.big
  have hll := Tr.len_toList t
  have hg : gmin (gmax i 0) (t.toList.length : Int) = min (max i 0) (t.toList.length : Int) := by unfold gmin gmax; split <;> split <;> omega
  obtain ⟨c, h1, h2⟩ := first_ok ok hp hP k [] (min (max i 0) (t.toList.length : Int)) O.zA (by omega) hr ok.zero (by simpa using h.good) (by simpa using hN) (by omega) (by omega)
  unfold Tree_First.f Tree_first.f
  rw [hlen]
  simp only [Option.bind_some, hg, h1, firstF_clamp]
theorem Gr.last (ok : OpsOk O k N G S lt) (hk : N ≤ k) (hp : PredOk N G S P fn) {p : PN E A} {r : TRef} {l : List E} {c : Int} {B : Nat} (h : Gr S lt G p r l c B) (i : Int) (hN : l.length < N) :
    Tree_Last.f O k p r i fn = some (lastF P [] l i) := by
  have hlen := h.len ok
  obtain ⟨t, hP, hr, rfl⟩ := h.ex
  have hbig := ok.big
  have hll := Tr.len_toList t
  have hg : gmin (gmax i 0) (t.toList.length : Int) = min (max i 0) (t.toList.length : Int) := by unfold gmin gmax; split <;> split <;> omega
  have h1 := last_of_ok ok hp hP k [] (min (max i 0) (t.toList.length : Int)) O.zA (by omega) hr ok.zero (by simpa using h.good) (by simpa using hN) (by omega) (by omega)
  unfold Tree_Last.f Tree_lastOf.f
  rw [hlen]
  simp only [Option.bind_some, hg, h1, lastF_clamp]
end

end Go.Proofs.Ythcehagablploaa

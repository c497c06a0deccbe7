/- My texts that the proof of BridgeVisits rests on, part 4: a calculus of walks, the walks, and the plain law. -/
import Derived.KernelRfl
import Derived.Test.YthcehagablploaaBvc
set_option linter.unusedVariables false
set_option linter.unusedSimpArgs false
namespace Go.Proofs.Ythcehagablploaa
open Go Go.Proofs.Ythcehagablploaa.Sx
section
variable {E A : Type} {O : Ops E A} {k N : Nat} {G : E → Prop} {S : A → List E → Prop} {lt : E → E → Prop}
def seg {α : Type} (l : List α) (i j : Int) : List α := (l.take j.toNat).drop i.toNat
theorem seg_nil {α : Type} {l : List α} {i j : Int} (h : i ≥ j ∨ i ≥ l.length ∨ j ≤ 0 ∨ l.length = 0) : seg l i j = [] := by
  unfold seg
  apply List.drop_eq_nil_of_le
  rw [List.length_take]
  omega
theorem seg_all {α : Type} {l : List α} {i j : Int} (h1 : i ≤ 0) (h2 : j ≥ l.length) : seg l i j = l := by
  unfold seg
  rw [List.take_of_length_le (by omega), show i.toNat = 0 by omega, List.drop_zero]
theorem seg_node {α : Type} (l u : List α) (e : α) (i j : Int) : seg (l ++ e :: u) i j = seg l i j ++ ((if i ≤ l.length ∧ j > l.length then [e] else []) ++ seg u (i - l.length - 1) (j - l.length - 1)) := by
  by_cases hj : j > l.length
  · have h1 : (l ++ e :: u).take j.toNat = l ++ e :: u.take (j - l.length - 1).toNat := by
      rw [List.take_append, List.take_of_length_le (by omega), show j.toNat - l.length = (j - l.length - 1).toNat + 1 by omega, List.take_succ_cons]
    have h2 : seg l i j = l.drop i.toNat := by unfold seg; rw [List.take_of_length_le (by omega)]
    unfold seg at h2 ⊢
    rw [h1, h2, List.drop_append]
    congr 1
    by_cases hi : i ≤ l.length
    · rw [if_pos ⟨hi, hj⟩, show i.toNat - l.length = 0 by omega, show (i - (l.length : Int) - 1).toNat = 0 by omega]; rfl
    · rw [if_neg (fun h => hi h.1), show i.toNat - l.length = (i - (l.length : Int) - 1).toNat + 1 by omega]; rfl
  · rw [if_neg (fun h => hj h.2), seg_nil (l := u) (.inr (.inr (.inl (by omega))))]
    unfold seg
    rw [List.take_append_of_le_length (by omega)]; simp
theorem seg_sub {α : Type} (l : List α) (i j : Int) : (seg l i j).Sublist l := (List.drop_sublist _ _).trans (List.take_sublist _ _)
theorem between_ok (ok : OpsOk O k N G S lt) {p : PN E A} {L : List TRef} {B : Nat} (hP : PW p L B) : ∀ (n : Nat) {r : TRef} {t : Tr E} (i j : Int), t.size < n → Rep S p r t → (∀ x ∈ t.toList, G x) → t.size < N →
    -4611686018427387904 ≤ i - t.size → -4611686018427387904 ≤ j - t.size → i ≤ 4611686018427387904 → j ≤ 4611686018427387904 → ∃ c, Tree_between.r O k n p r i j = some c ∧ S c (seg t.toList i j)
  | 0, _, _, _, _, h, _, _, _, _, _, _, _ => by omega
  | n + 1, r, t, i, j, hn, hr, hG, hN, b1, b2, b3, b4 => by
    have hbig := ok.big
    obtain ⟨n1, g1, g2⟩ := get_ok ok hP hr
    have hll := Tr.len_toList t
    simp only [Tree_between.r, g1, Option.bind_some, g2.size]
    by_cases h1 : i ≥ j
    · simp only [h1, decide_true, cond_true, Option.bind_some, Sum.elim_inl]
      exact ⟨_, rfl, by rw [seg_nil (.inl h1)]; exact ok.zero⟩
    · simp only [h1, decide_false, cond_false]
      by_cases h2 : i ≥ (t.size : Int)
      · simp only [h2, decide_true, cond_true, Option.bind_some, Sum.elim_inl]
        exact ⟨_, rfl, by rw [seg_nil (.inr (.inl (by omega)))]; exact ok.zero⟩
      · simp only [h2, decide_false, cond_false]
        by_cases h3 : j ≤ 0
        · simp only [h3, decide_true, cond_true, Option.bind_some, Sum.elim_inl]
          exact ⟨_, rfl, by rw [seg_nil (.inr (.inr (.inl h3)))]; exact ok.zero⟩
        · simp only [h3, decide_false, cond_false]
          cases t with
          | nil => exact ⟨_, rfl, by rw [seg_nil (.inr (.inr (.inr rfl)))]; exact ok.zero⟩
          | node r0 e0 l u =>
            have hsz : (Tr.node r0 e0 l u).size = l.size + 1 + u.size := rfl
            have h4 : ((((Tr.node r0 e0 l u).size : Nat) : Int) == 0) = false := by simp; omega
            simp only [h4, cond_false, Option.bind_some, Sum.elim_inr]
            by_cases h5 : i ≤ 0 ∧ j ≥ ((Tr.node r0 e0 l u).size : Int)
            · simp only [h5.1, h5.2, decide_true, cond_true, Option.bind_some, Sum.elim_inl]
              exact ⟨_, rfl, by rw [seg_all h5.1 (by rw [hll]; exact h5.2)]; exact g2.sum⟩
            · have h6 : (bif decide (i ≤ 0) then (bif decide (j ≥ ((Tr.node r0 e0 l u).size : Int)) then some (Sum.inl n1.sum) else some (Sum.inr ())) else some (Sum.inr () : Sum A Unit)) = some (Sum.inr ()) := by
                by_cases h7 : i ≤ 0
                · have h8 : ¬ j ≥ ((Tr.node r0 e0 l u).size : Int) := fun h => h5 ⟨h7, h⟩
                  simp only [h7, h8, decide_true, decide_false, cond_true, cond_false]
                · simp only [h7, decide_false, cond_false]
              rw [h6]
              obtain ⟨rfl, he, hl, hu, hlk⟩ := g2.node rfl
              obtain ⟨n2, g3, g4⟩ := get_ok ok hP hl
              have hln : (Tr.node r e0 l u).toList = l.toList ++ e0 :: u.toList := rfl
              rw [hln] at hG
              rw [hsz] at hn hN b1 b2 h2
              obtain ⟨cl, d1, d2⟩ := between_ok ok hP n i j (by omega) hl (fun x hx => hG x (List.mem_append_left _ hx)) (by omega) (by omega) (by omega) (by omega) (by omega)
              obtain ⟨cu, f1, f2⟩ := between_ok ok hP n (i - (l.size : Int) - 1) (j - (l.size : Int) - 1) (by omega) hu (fun x hx => hG x (by simp [hx])) (by omega) (by omega) (by omega) (by omega) (by omega)
              have w1 : w64 (w64 (i - (l.size : Int)) - 1) = i - (l.size : Int) - 1 := by
                rw [w64_id (x := i - (l.size : Int)) (by omega) (by omega), w64_id (by omega) (by omega)]
              have w2 : w64 (w64 (j - (l.size : Int)) - 1) = j - (l.size : Int) - 1 := by
                rw [w64_id (x := j - (l.size : Int)) (by omega) (by omega), w64_id (by omega) (by omega)]
              simp only [Option.bind_some, Sum.elim_inr, g3, d1, g4.size, w1, w2, f1]
              have hsl := (seg_sub l.toList i j)
              have hsu := (seg_sub u.toList (i - (l.size : Int) - 1) (j - (l.size : Int) - 1))
              have hl1 := hsl.length_le
              have hl2 := hsu.length_le
              rw [Tr.len_toList] at hl1 hl2
              rw [hln, seg_node, Tr.len_toList]
              have hGl : ∀ x ∈ seg l.toList i j, G x := fun x hx => hG x (List.mem_append_left _ (hsl.subset hx))
              have hGu : ∀ x ∈ seg u.toList (i - (l.size : Int) - 1) (j - (l.size : Int) - 1), G x := fun x hx => hG x (by simp [hsu.subset hx])
              by_cases h7 : i ≤ (l.size : Int) ∧ j > (l.size : Int)
              · rw [if_pos h7]
                obtain ⟨s, s1, s2⟩ := ok.sum n1.e (hG _ (by rw [he]; simp))
                rw [he] at s2
                obtain ⟨x, x1, x2⟩ := ok.plus d2 s2 (fun y hy => by
                  rcases List.mem_append.1 hy with hy | hy
                  · exact hGl y hy
                  · simp at hy; subst hy; exact hG y (by simp)) (by simp; omega)
                obtain ⟨z, z1, z2⟩ := ok.plus x2 f2 (fun y hy => by
                  simp only [List.mem_append, List.mem_singleton] at hy
                  rcases hy with (hy | rfl) | hy
                  · exact hGl y hy
                  · exact hG y (by simp)
                  · exact hGu y hy) (by simp; omega)
                refine ⟨z, ?_, by simpa using z2⟩
                simp only [h7.1, h7.2, decide_true, cond_true, s1, Option.bind_some, x1, z1]
              · rw [if_neg h7, List.nil_append]
                obtain ⟨z, z1, z2⟩ := ok.plus d2 f2 (fun y hy => by
                  rcases List.mem_append.1 hy with hy | hy
                  · exact hGl y hy
                  · exact hGu y hy) (by simp; omega)
                refine ⟨z, ?_, z2⟩
                by_cases h8 : i ≤ (l.size : Int)
                · have h9 : ¬ j > (l.size : Int) := fun h => h7 ⟨h8, h⟩
                  simp only [h8, h9, decide_true, decide_false, cond_true, cond_false, Option.bind_some, z1]
                · simp only [h8, decide_false, cond_false, Option.bind_some, z1]
structure Gr (S : A → List E → Prop) (lt : E → E → Prop) (G : E → Prop) (p : PN E A) (r : TRef) (l : List E) (c : Int) (B : Nat) : Prop where
  ex : ∃ t, PW p t.refs B ∧ Rep S p r t ∧ t.toList = l
  sorted : InOrd lt l
  good : ∀ x ∈ l, G x
  cap : p.cap = c
theorem Gr.len (ok : OpsOk O k N G S lt) {p : PN E A} {r : TRef} {l : List E} {c : Int} {B : Nat} (h : Gr S lt G p r l c B) : Tree_Len.f O k p r = some (l.length : Int) := by
  obtain ⟨t, hP, hr, rfl⟩ := h.ex
  obtain ⟨n, g1, g2⟩ := get_ok ok hP hr
  unfold Tree_Len.f
  rw [g1]; simp only [Option.bind_some, g2.size, Tr.len_toList]
theorem Gr.between (ok : OpsOk O k N G S lt) (hk : N ≤ k) {p : PN E A} {r : TRef} {l : List E} {c : Int} {B : Nat} (h : Gr S lt G p r l c B) (i j : Int) (hN : l.length < N) :
    ∃ s, Tree_Between.f O k p r i j = some s ∧ S s (seg l i j) := by
  have hlen := h.len ok
  obtain ⟨t, hP, hr, rfl⟩ := h.ex
  have hbig := ok.big
  have hll := Tr.len_toList t
  unfold Tree_Between.f
  rw [hlen]
  simp only [Option.bind_some]
  have hg : ∀ x : Int, gmin (gmax x 0) (t.toList.length : Int) = min (max x 0) (t.toList.length : Int) := fun x => by unfold gmin gmax; split <;> split <;> omega
  rw [hg, hg]
  obtain ⟨s, s1, s2⟩ := between_ok ok hP k (min (max i 0) (t.toList.length : Int)) (min (max j 0) (t.toList.length : Int)) (by omega) hr h.good (by omega) (by omega) (by omega) (by omega) (by omega)
  refine ⟨s, by unfold Tree_between.f; rw [s1]; rfl, ?_⟩
  have : seg t.toList (min (max i 0) (t.toList.length : Int)) (min (max j 0) (t.toList.length : Int)) = seg t.toList i j := by
    unfold seg
    have e1 : t.toList.take (min (max j 0) (t.toList.length : Int)).toNat = t.toList.take j.toNat := by
      by_cases hj : j ≤ t.toList.length
      · rw [show (min (max j 0) (t.toList.length : Int)).toNat = j.toNat by omega]
      · rw [List.take_of_length_le (by omega), List.take_of_length_le (by omega)]
    rw [e1]
    by_cases hi : i ≤ t.toList.length
    · rw [show (min (max i 0) (t.toList.length : Int)).toNat = i.toNat by omega]
    · rw [List.drop_eq_nil_of_le (by rw [List.length_take]; omega), List.drop_eq_nil_of_le (by rw [List.length_take]; omega)]
  rw [← this]; exact s2
end
end Go.Proofs.Ythcehagablploaa
namespace Go.Proofs.Ythcehagablploaa
open Go Go.Proofs.Ythcehagablploaa.Sx
theorem Tr.ht_size {E : Type} : ∀ t : Tr E, t.ht ≤ t.size
  | .nil => Nat.le_refl _
  | .node r e l u => by
    have := Tr.ht_size l; have := Tr.ht_size u
    simp only [Tr.ht, Tr.size]; omega
section
variable {E A : Type} {O : Ops E A} {k N : Nat} {G : E → Prop} {S : A → List E → Prop} {lt : E → E → Prop}
theorem between_v (ok : OpsOk O k N G S lt) {p : PN E A} {L : List TRef} {B : Nat} (hP : PW p L B) : ∀ (n : Nat) {r : TRef} {t : Tr E} (i j : Int), Rep S p r t → t.size < N → -4611686018427387904 ≤ i - t.size → -4611686018427387904 ≤ j - t.size → i ≤ 4611686018427387904 → j ≤ 4611686018427387904 →
    ∀ {c : A}, Tree_between.r O k n p r i j = some c → ∀ {v : Int}, 0 ≤ v → v + 1000 * (t.size + 1 : Nat) < 4611686018427387904 →
    ∃ v', VTree_between.r O k n (vz p v) r i j = some (c, vz p v') ∧ v ≤ v' ∧ ((i ≥ j ∨ i ≥ t.size ∨ j ≤ 0 ∨ (i ≤ 0 ∧ j ≥ t.size)) → v' ≤ v + 1) ∧ ((i ≤ 0 ∨ j ≥ t.size) → v' ≤ v + 3 * (t.ht : Nat) + 1) ∧ v' ≤ v + 9 * (t.ht : Nat) + 1
  | 0, _, _, _, _, _, _, _, _, _, _, _, h, _, _, _ => by cases h
  | n + 1, r, t, i, j, hr, hN, b1, b2, b3, b4, c, h, v, h0, hb => by
    have hbig := ok.big
    obtain ⟨n1, g1, g2⟩ := get_ok ok hP hr
    obtain ⟨v1, a1, e1, d1⟩ := get_v g1 h0 (by omega)
    simp only [Tree_between.r, g1, Option.bind_some, g2.size] at h
    simp only [VTree_between.r, a1, Option.bind_some, g2.size]
    by_cases h1 : i ≥ j
    · simp only [h1, decide_true, cond_true, Option.bind_some, Sum.elim_inl] at h ⊢
      cases h
      exact ⟨v1, rfl, e1, fun _ => by omega, fun _ => by omega, by omega⟩
    · simp only [h1, decide_false, cond_false] at h ⊢
      by_cases h2 : i ≥ (t.size : Int)
      · simp only [h2, decide_true, cond_true, Option.bind_some, Sum.elim_inl] at h ⊢
        cases h
        exact ⟨v1, rfl, e1, fun _ => by omega, fun _ => by omega, by omega⟩
      · simp only [h2, decide_false, cond_false] at h ⊢
        by_cases h3 : j ≤ 0
        · simp only [h3, decide_true, cond_true, Option.bind_some, Sum.elim_inl] at h ⊢
          cases h
          exact ⟨v1, rfl, e1, fun _ => by omega, fun _ => by omega, by omega⟩
        · simp only [h3, decide_false, cond_false] at h ⊢
          cases t with
          | nil =>
            have h4 : ((((Tr.nil : Tr E).size : Nat) : Int) == 0) = true := rfl
            simp only [h4, cond_true, Option.bind_some, Sum.elim_inl] at h ⊢
            cases h
            exact ⟨v1, rfl, e1, fun _ => by omega, fun _ => by omega, by omega⟩
          | node r0 e0 l u =>
            have hsz : (Tr.node r0 e0 l u).size = l.size + 1 + u.size := rfl
            have hht : (Tr.node r0 e0 l u).ht = 1 + max l.ht u.ht := rfl
            have h4 : ((((Tr.node r0 e0 l u).size : Nat) : Int) == 0) = false := by simp; omega
            simp only [h4, cond_false, Option.bind_some, Sum.elim_inr] at h ⊢
            by_cases h5 : i ≤ 0 ∧ j ≥ ((Tr.node r0 e0 l u).size : Int)
            · simp only [h5.1, h5.2, decide_true, cond_true, Option.bind_some, Sum.elim_inl] at h ⊢
              cases h
              exact ⟨v1, rfl, e1, fun _ => by omega, fun _ => by omega, by omega⟩
            · have h6 : ∀ {X : Type} (x : X), (bif decide (i ≤ 0) then (bif decide (j ≥ ((Tr.node r0 e0 l u).size : Int)) then some (Sum.inl x) else some (Sum.inr ())) else some (Sum.inr () : Sum X Unit)) = some (Sum.inr ()) := fun x => by
                by_cases h7 : i ≤ 0
                · have h8 : ¬ j ≥ ((Tr.node r0 e0 l u).size : Int) := fun h => h5 ⟨h7, h⟩
                  simp only [h7, h8, decide_true, decide_false, cond_true, cond_false]
                · simp only [h7, decide_false, cond_false]
              rw [h6] at h
              rw [h6]
              obtain ⟨rfl, he, hl, hu, hlk⟩ := g2.node rfl
              obtain ⟨n2, g3, g4⟩ := get_ok ok hP hl
              have w1 : w64 (w64 (i - (l.size : Int)) - 1) = i - (l.size : Int) - 1 := by
                rw [w64_id (x := i - (l.size : Int)) (by omega) (by omega), w64_id (by omega) (by omega)]
              have w2 : w64 (w64 (j - (l.size : Int)) - 1) = j - (l.size : Int) - 1 := by
                rw [w64_id (x := j - (l.size : Int)) (by omega) (by omega), w64_id (by omega) (by omega)]
              simp only [Option.bind_some, Sum.elim_inr, g3, g4.size, w1, w2] at h
              obtain ⟨v2, a2, e2, d2⟩ := get_v g3 (v := v1) (by omega) (by omega)
              simp only [Option.bind_some, Sum.elim_inr, a2, g4.size, w1, w2]
              have hl9 := Tr.ht_size l
              have hu9 := Tr.ht_size u
              obtain ⟨x5, f5, h⟩ := bnd h
              obtain ⟨x6, f6, h⟩ := bnd h
              obtain ⟨x9, f9, h⟩ := bnd h
              obtain ⟨x10, f10, h⟩ := bnd h
              cases h
              obtain ⟨v3, a3, e3, p1, p2, p3⟩ := between_v ok hP n i j hl (by omega) (by omega) (by omega) b3 b4 f5 (v := v2) (by omega) (by omega)
              obtain ⟨v4, a4, e4, q1, q2, q3⟩ := between_v ok hP n (i - (l.size : Int) - 1) (j - (l.size : Int) - 1) hu (by omega) (by omega) (by omega) (by omega) (by omega) f9 (v := v3) (by omega) (by omega)
              refine ⟨v4, by simp only [a3, f6, a4, f10, Option.bind_some], by omega, fun h => ?_, fun h => ?_, ?_⟩
              · exfalso
                rcases h with h | h | h | h
                · exact h.elim
                · exact h.elim
                · exact h.elim
                · exact h5 h
              · rcases h with h | h
                · by_cases hj : j ≤ (l.size : Int)
                  · have := p2 (.inl h); have := q1 (by omega); omega
                  · have := p1 (by omega); have := q2 (by omega); omega
                · by_cases hi : i < (l.size : Int)
                  · have := p2 (by omega); have := q1 (by omega); omega
                  · have := p1 (by omega); have := q2 (by omega); omega
              · by_cases hj : j ≤ (l.size : Int)
                · have := q1 (by omega); omega
                · by_cases hi : i < (l.size : Int)
                  · have := p2 (by omega); have := q2 (by omega); omega
                  · have := p1 (by omega); omega
end
end Go.Proofs.Ythcehagablploaa
namespace Go.Proofs.Ythcehagablploaa
open Go Go.Proofs.Ythcehagablploaa.Sx
section
variable {E A : Type} {O : Ops E A} {k N : Nat} {G : E → Prop} {S : A → List E → Prop} {lt : E → E → Prop}
structure PredOk (N : Nat) (G : E → Prop) (S : A → List E → Prop) (P : List E → List E → Bool) (fn : A → A → Option Bool) : Prop where
  run : ∀ {a b l m}, S a l → S b m → (∀ e ∈ l ++ m, G e) → (l ++ m).length < N → fn a b = some (P l m)
  nil : ∀ l, P l [] = false
  app : ∀ l m n, P l (m ++ n) = (P l m || P (l ++ m) n)
def firstF (P : List E → List E → Bool) : List E → List E → Int → Int
  | _, [], _ => -1
  | pre, e :: u, s => if s ≤ 0 ∧ P pre [e] = true then 0 else if firstF P (pre ++ [e]) u (s - 1) ≥ 0 then firstF P (pre ++ [e]) u (s - 1) + 1 else -1
def lastF (P : List E → List E → Bool) : List E → List E → Int → Int
  | _, [], _ => -1
  | pre, e :: u, s => if lastF P (pre ++ [e]) u (s - 1) ≥ 0 then lastF P (pre ++ [e]) u (s - 1) + 1 else if s > 0 ∧ P pre [e] = true then 0 else -1
variable {P : List E → List E → Bool} {fn : A → A → Option Bool}
theorem firstF_cons (pre : List E) (e : E) (u : List E) (s : Int) : firstF P pre (e :: u) s = if s ≤ 0 ∧ P pre [e] = true then 0 else if firstF P (pre ++ [e]) u (s - 1) ≥ 0 then firstF P (pre ++ [e]) u (s - 1) + 1 else -1 := by rw [firstF]
theorem lastF_cons (pre : List E) (e : E) (u : List E) (s : Int) : lastF P pre (e :: u) s = if lastF P (pre ++ [e]) u (s - 1) ≥ 0 then lastF P (pre ++ [e]) u (s - 1) + 1 else if s > 0 ∧ P pre [e] = true then 0 else -1 := by rw [lastF]
theorem firstF_bound : ∀ (pre l : List E) (s : Int), firstF P pre l s = -1 ∨ (0 ≤ firstF P pre l s ∧ firstF P pre l s < l.length)
  | pre, [], s => .inl rfl
  | pre, e :: u, s => by
    rw [firstF]
    have := firstF_bound (pre ++ [e]) u (s - 1)
    simp only [List.length_cons]
    split
    · omega
    · split <;> omega
theorem lastF_bound : ∀ (pre l : List E) (s : Int), lastF P pre l s = -1 ∨ (0 ≤ lastF P pre l s ∧ lastF P pre l s < l.length)
  | pre, [], s => .inl rfl
  | pre, e :: u, s => by
    rw [lastF]
    have := lastF_bound (pre ++ [e]) u (s - 1)
    simp only [List.length_cons]
    split
    · omega
    · split <;> omega
theorem firstF_append : ∀ (pre l m : List E) (s : Int), firstF P pre (l ++ m) s = if firstF P pre l s ≥ 0 then firstF P pre l s else if firstF P (pre ++ l) m (s - l.length) ≥ 0 then firstF P (pre ++ l) m (s - l.length) + l.length else -1
  | pre, [], m, s => by
    have h := firstF_bound (P := P) pre m s
    simp only [firstF, List.nil_append, List.append_nil, List.length_nil, Int.natCast_zero, Int.sub_zero, Int.add_zero]
    rw [if_neg (by omega)]
    split <;> omega
  | pre, e :: u, m, s => by
    rw [List.cons_append, firstF, firstF, firstF_append (pre ++ [e]) u m (s - 1)]
    have e1 : pre ++ [e] ++ u = pre ++ e :: u := by simp
    have e2 : s - 1 - (u.length : Int) = s - ((e :: u).length : Int) := by simp; omega
    have e3 : ((e :: u).length : Int) = u.length + 1 := by simp
    rw [e1, e2, e3]
    have h := firstF_bound (P := P) (pre ++ [e]) u (s - 1)
    have h' := firstF_bound (P := P) (pre ++ e :: u) m (s - (u.length + 1))
    by_cases h1 : s ≤ 0 ∧ P pre [e] = true
    · simp [h1]
    · rw [if_neg h1, if_neg h1]
      generalize firstF P (pre ++ [e]) u (s - 1) = x at h ⊢
      generalize firstF P (pre ++ e :: u) m (s - (u.length + 1)) = y at h' ⊢
      repeat' split
      all_goals omega
theorem lastF_append : ∀ (pre l m : List E) (s : Int), lastF P pre (l ++ m) s = if lastF P (pre ++ l) m (s - l.length) ≥ 0 then lastF P (pre ++ l) m (s - l.length) + l.length else lastF P pre l s
  | pre, [], m, s => by
    have h := lastF_bound (P := P) pre m s
    simp only [lastF, List.nil_append, List.append_nil, List.length_nil, Int.natCast_zero, Int.sub_zero, Int.add_zero]
    split <;> omega
  | pre, e :: u, m, s => by
    rw [List.cons_append, lastF, lastF, lastF_append (pre ++ [e]) u m (s - 1)]
    have e1 : pre ++ [e] ++ u = pre ++ e :: u := by simp
    have e2 : s - 1 - (u.length : Int) = s - ((e :: u).length : Int) := by simp; omega
    have e3 : ((e :: u).length : Int) = u.length + 1 := by simp
    rw [e1, e2, e3]
    have h := lastF_bound (P := P) (pre ++ [e]) u (s - 1)
    have h' := lastF_bound (P := P) (pre ++ e :: u) m (s - (u.length + 1))
    by_cases h3 : lastF P (pre ++ e :: u) m (s - (u.length + 1)) ≥ 0
    · rw [if_pos h3, if_pos h3, if_pos (by omega)]; omega
    · rw [if_neg h3, if_neg h3]
theorem firstF_none (hp : PredOk N G S P fn) : ∀ (pre l : List E) (s : Int), P pre l = false → firstF P pre l s = -1
  | pre, [], s, _ => rfl
  | pre, e :: u, s, h => by
    have h1 := hp.app pre [e] u
    rw [show [e] ++ u = e :: u from rfl, h] at h1
    have h2 := Bool.or_eq_false_iff.1 h1.symm
    rw [firstF, firstF_none hp (pre ++ [e]) u (s - 1) h2.2, h2.1]
    simp
theorem lastF_none (hp : PredOk N G S P fn) : ∀ (pre l : List E) (s : Int), P pre l = false → lastF P pre l s = -1
  | pre, [], s, _ => rfl
  | pre, e :: u, s, h => by
    have h1 := hp.app pre [e] u
    rw [show [e] ++ u = e :: u from rfl, h] at h1
    have h2 := Bool.or_eq_false_iff.1 h1.symm
    rw [lastF, lastF_none hp (pre ++ [e]) u (s - 1) h2.2, h2.1]
    simp
theorem firstF_skip : ∀ (pre l : List E) (s : Int), s ≥ l.length → firstF P pre l s = -1
  | pre, [], s, _ => rfl
  | pre, e :: u, s, h => by
    simp only [List.length_cons] at h
    rw [firstF, firstF_skip (pre ++ [e]) u (s - 1) (by omega), if_neg (by omega)]; simp
theorem lastF_lim : ∀ (pre l : List E) (s : Int), s ≤ 0 → lastF P pre l s = -1
  | pre, [], s, _ => rfl
  | pre, e :: u, s, h => by
    rw [lastF, lastF_lim (pre ++ [e]) u (s - 1) (by omega), if_neg (by omega), if_neg (by omega)]
theorem firstF_low : ∀ (pre l : List E) (s s' : Int), s ≤ 0 → s' ≤ 0 → firstF P pre l s = firstF P pre l s'
  | pre, [], s, s', _, _ => rfl
  | pre, e :: u, s, s', h, h' => by
    rw [firstF, firstF, firstF_low (pre ++ [e]) u (s - 1) (s' - 1) (by omega) (by omega)]
    simp only [h, h', true_and]
theorem lastF_high : ∀ (pre l : List E) (s s' : Int), s ≥ l.length → s' ≥ l.length → lastF P pre l s = lastF P pre l s'
  | pre, [], s, s', _, _ => rfl
  | pre, e :: u, s, s', h, h' => by
    simp only [List.length_cons] at h h'
    rw [lastF, lastF, lastF_high (pre ++ [e]) u (s - 1) (s' - 1) (by omega) (by omega)]
    have h1 : s > 0 := by omega
    have h2 : s' > 0 := by omega
    simp only [h1, h2, true_and]
theorem firstF_clamp (l : List E) (s : Int) : firstF P [] l (min (max s 0) (l.length : Int)) = firstF P [] l s := by
  by_cases h : s ≤ 0
  · exact firstF_low _ _ _ _ (by omega) h
  · by_cases h' : s ≤ l.length
    · rw [show min (max s 0) (l.length : Int) = s by omega]
    · rw [firstF_skip _ _ _ (by omega), firstF_skip _ _ _ (by omega)]
theorem lastF_clamp (l : List E) (s : Int) : lastF P [] l (min (max s 0) (l.length : Int)) = lastF P [] l s := by
  by_cases h : s ≤ 0
  · rw [lastF_lim _ _ _ (by omega), lastF_lim _ _ _ h]
  · by_cases h' : s ≤ l.length
    · rw [show min (max s 0) (l.length : Int) = s by omega]
    · exact lastF_high _ _ _ _ (by omega) (by omega)
end
end Go.Proofs.Ythcehagablploaa
namespace Go.Proofs.Ythcehagablploaa
open Go Go.Proofs.Ythcehagablploaa.Sx
section
variable {E A : Type} {O : Ops E A} {k N : Nat} {G : E → Prop} {S : A → List E → Prop} {lt : E → E → Prop} {P : List E → List E → Bool} {fn : A → A → Option Bool}
theorem firstF_some (hp : PredOk N G S P fn) : ∀ (pre l : List E) (s : Int), s ≤ 0 → P pre l = true → firstF P pre l s ≥ 0
  | pre, [], s, _, h => by rw [hp.nil] at h; cases h
  | pre, e :: u, s, hs, h => by
    have h1 := hp.app pre [e] u
    rw [show [e] ++ u = e :: u from rfl, h] at h1
    rw [firstF_cons]
    by_cases h2 : P pre [e] = true
    · rw [if_pos ⟨hs, h2⟩]; omega
    · rw [if_neg (fun h => h2 h.2)]
      have h3 : P (pre ++ [e]) u = true := by simpa [h2] using h1.symm
      have := firstF_some hp (pre ++ [e]) u (s - 1) (by omega) h3
      rw [if_pos this]; omega
theorem lastF_some (hp : PredOk N G S P fn) : ∀ (pre l : List E) (s : Int), s ≥ l.length → P pre l = true → lastF P pre l s ≥ 0
  | pre, [], s, _, h => by rw [hp.nil] at h; cases h
  | pre, e :: u, s, hs, h => by
    simp only [List.length_cons] at hs
    have h1 := hp.app pre [e] u
    rw [show [e] ++ u = e :: u from rfl, h] at h1
    rw [lastF_cons]
    by_cases h3 : P (pre ++ [e]) u = true
    · have := lastF_some hp (pre ++ [e]) u (s - 1) (by omega) h3
      rw [if_pos this]; omega
    · have h2 : P pre [e] = true := by simpa [h3] using h1.symm
      split
      · omega
      · rw [if_pos ⟨by omega, h2⟩]; omega
theorem first_v (ok : OpsOk O k N G S lt) (hp : PredOk N G S P fn) {p : PN E A} {L : List TRef} {B : Nat} (hP : PW p L B) : ∀ (n : Nat) {r : TRef} {t : Tr E} (pre : List E) (s : Int) (acc : A), t.size < n → Rep S p r t → S acc pre → (∀ x ∈ pre ++ t.toList, G x) → (pre ++ t.toList).length < N →
    -4611686018427387904 ≤ s - t.size → s ≤ 4611686018427387904 → ∀ {v : Int}, 0 ≤ v → v + 1000 * (t.size + 1 : Nat) < 4611686018427387904 →
    ∃ c v', VTree_first.r O k n (vz p v) r s acc fn = some (firstF P pre t.toList s, c, vz p v') ∧ (firstF P pre t.toList s < 0 → S c (pre ++ t.toList)) ∧ v ≤ v' ∧
      (s ≥ (t.size : Int) ∨ (s ≤ 0 ∧ firstF P pre t.toList s < 0) → v' ≤ v + 1) ∧ (s ≤ 0 ∨ firstF P pre t.toList s < 0 → v' ≤ v + 3 * (t.ht : Nat) + 1) ∧ v' ≤ v + 6 * (t.ht : Nat) + 1
  | 0, _, _, _, _, _, h, _, _, _, _, _, _, _, _, _ => by omega
  | n + 1, r, t, pre, s, acc, hn, hr, ha, hG, hN, b1, b2, v, h0v, hbv => by
    have hbig := ok.big
    obtain ⟨n1, g1, g2⟩ := get_ok ok hP hr
    obtain ⟨v1, a1, e1, d1v⟩ := get_v g1 h0v (by omega)
    have hll := Tr.len_toList t
    obtain ⟨w, w1, w2⟩ := ok.plus ha g2.sum hG hN
    simp only [VTree_first.r, a1, Option.bind_some, g2.size, w1]
    by_cases h0 : t.size = 0
    · have e0 : ((t.size : Int) == 0) = true := by simp; exact h0
      have : t.toList = [] := List.eq_nil_of_length_eq_zero (by omega)
      simp only [e0, cond_true, Option.bind_some, Sum.elim_inl]
      have hf : firstF P pre t.toList s = -1 := by rw [this]; rfl
      rw [hf]; exact ⟨w, v1, rfl, fun _ => w2, e1, fun _ => by omega, fun _ => by omega, by omega⟩
    · have e0 : ((t.size : Int) == 0) = false := by simp; exact h0
      simp only [e0, cond_false]
      by_cases h1 : s ≥ (t.size : Int)
      · simp only [h1, decide_true, cond_true, Option.bind_some, Sum.elim_inl]
        rw [firstF_skip pre t.toList s (by omega)]; exact ⟨w, v1, rfl, fun _ => w2, e1, fun _ => by omega, fun _ => by omega, by omega⟩
      · simp only [h1, decide_false, cond_false, hp.run ha g2.sum hG hN, Option.bind_some]
        by_cases h2 : s ≤ 0 ∧ P pre t.toList = false
        · simp only [h2.1, h2.2, decide_true, cond_true, Bool.not_false, Option.bind_some, Sum.elim_inl]
          rw [firstF_none hp pre t.toList s h2.2]; exact ⟨w, v1, rfl, fun _ => w2, e1, fun _ => by omega, fun _ => by omega, by omega⟩
        · have h9 : s ≤ 0 → firstF P pre t.toList s ≥ 0 := fun h4 => by
            have h5 : P pre t.toList = true := by
              cases h6 : P pre t.toList
              · exact absurd ⟨h4, h6⟩ h2
              · rfl
            exact firstF_some hp _ _ _ h4 h5
          have h3 : ∀ {X : Type} (y : X), (bif decide (s ≤ 0) then (bif !P pre t.toList then some (Sum.inl y) else some (Sum.inr ())) else some (Sum.inr () : Sum X Unit)) = some (Sum.inr ()) := fun y => by
            by_cases h4 : s ≤ 0
            · have h5 : P pre t.toList = true := by
                cases h6 : P pre t.toList
                · exact absurd ⟨h4, h6⟩ h2
                · rfl
              simp only [h4, h5, decide_true, cond_true, Bool.not_true, cond_false]
            · simp only [h4, decide_false, cond_false]
          rw [h3]
          cases t with
          | nil => exact absurd rfl h0
          | node r0 e0' l u =>
            obtain ⟨rfl, he, hl, hu, hlk⟩ := g2.node rfl
            obtain ⟨n2, g3, g4⟩ := get_ok ok hP hl
            have hsz : (Tr.node r e0' l u).size = l.size + 1 + u.size := rfl
            have hht : (Tr.node r e0' l u).ht = 1 + max l.ht u.ht := rfl
            have hln : (Tr.node r e0' l u).toList = l.toList ++ e0' :: u.toList := rfl
            have hlu := Tr.len_toList u
            have hlL := Tr.len_toList l
            have hl9 := Tr.ht_size l
            have hu9 := Tr.ht_size u
            rw [hsz] at hn b1 hbv h1
            rw [hht]
            rw [hln] at hG hN h9 ⊢
            simp only [List.length_append, List.length_cons] at hN
            have sub1 : ∀ x ∈ pre ++ l.toList, G x := fun x hx => hG x (by simp at hx ⊢; rcases hx with hx | hx <;> simp [hx])
            obtain ⟨v2, a2, e2, d2v⟩ := get_v g3 (v := v1) (by omega) (by omega)
            obtain ⟨c1, v3, d1, d2, e3, p1, p2, p3⟩ := first_v ok hp hP n pre s acc (by omega) hl ha sub1 (by simp; omega) (by omega) b2 (v := v2) (by omega) (by omega)
            simp only [Option.bind_some, Sum.elim_inr, a2, d1]
            have hb := firstF_bound (P := P) pre l.toList s
            have happ := firstF_append (P := P) pre l.toList (e0' :: u.toList) s
            by_cases h4 : firstF P pre l.toList s ≥ 0
            · simp only [h4, decide_true, cond_true]
              rw [if_pos h4] at happ
              exact ⟨c1, v3, by rw [happ], fun h => by omega, by omega, fun h => by rcases h with h | h <;> first | exact h.elim | (exfalso; omega), fun h => by have := p2 (by omega); omega, by omega⟩
            · simp only [h4, decide_false, cond_false]
              rw [if_neg h4] at happ
              have hc1 := d2 (by omega)
              obtain ⟨se, s1, s2⟩ := ok.sum n1.e (hG _ (by rw [he]; simp))
              rw [he] at s2
              have hGe : ∀ x ∈ (pre ++ l.toList) ++ [e0'], G x := fun x hx => hG x (by simp at hx ⊢; rcases hx with hx | hx | hx <;> simp [hx])
              have hNe : ((pre ++ l.toList) ++ [e0']).length < N := by simp; omega
              have hfn := hp.run hc1 s2 hGe hNe
              obtain ⟨c2, f1, f2⟩ := ok.plus hc1 s2 hGe hNe
              simp only [s1, Option.bind_some, g4.size, hfn, f1]
              have hq := firstF_cons (P := P) (pre ++ l.toList) e0' u.toList (s - l.toList.length)
              generalize firstF P (pre ++ l.toList) (e0' :: u.toList) (s - l.toList.length) = q at happ hq
              -- what the left part has cost
              have q3 : v3 ≤ v2 + 3 * (l.ht : Nat) + 1 := p2 (.inr (by omega))
              by_cases h5 : s ≤ (l.size : Int) ∧ P (pre ++ l.toList) [e0'] = true
              · simp only [h5.1, h5.2, decide_true, cond_true, Option.bind_some, Sum.elim_inl]
                rw [if_pos ⟨by omega, h5.2⟩] at hq
                rw [hq, if_pos (by omega)] at happ
                exact ⟨c1, v3, by rw [happ]; congr 2; omega, fun h => by omega, by omega, fun h => by rcases h with h | h <;> first | exact h.elim | (exfalso; omega), fun h => by omega, by omega⟩
              · have h6 : ∀ {X : Type} (y : X), (bif decide (s ≤ (l.size : Int)) then (bif P (pre ++ l.toList) [e0'] then some (Sum.inl y) else some (Sum.inr ())) else some (Sum.inr () : Sum X Unit)) = some (Sum.inr ()) := fun y => by
                  by_cases h7 : s ≤ (l.size : Int)
                  · have h8 : P (pre ++ l.toList) [e0'] = false := by
                      cases h6 : P (pre ++ l.toList) [e0']
                      · rfl
                      · exact absurd ⟨h7, h6⟩ h5
                    simp only [h7, h8, decide_true, cond_true, cond_false]
                  · simp only [h7, decide_false, cond_false]
                rw [h6]
                rw [if_neg (fun h => h5 ⟨by have := h.1; omega, h.2⟩)] at hq
                have w1' : w64 (w64 (s - (l.size : Int)) - 1) = s - (l.toList.length : Int) - 1 := by
                  rw [w64_id (x := s - (l.size : Int)) (by omega) (by omega), w64_id (by omega) (by omega), hlL]
                have hGr : ∀ x ∈ (pre ++ l.toList ++ [e0']) ++ u.toList, G x := fun x hx => hG x (by simpa using hx)
                obtain ⟨c3, v4, y1, y2, e4, q1', q2', q3'⟩ := first_v ok hp hP n (pre ++ l.toList ++ [e0']) (s - (l.toList.length : Int) - 1) c2 (by omega) hu f2 hGr (by simp; omega) (by omega) (by omega) (v := v3) (by omega) (by omega)
                have hb3 := firstF_bound (P := P) (pre ++ l.toList ++ [e0']) u.toList (s - (l.toList.length : Int) - 1)
                simp only [Option.bind_some, Sum.elim_inr, w1', y1]
                have k1 : s ≥ (l.size : Int) → v3 ≤ v2 + 1 := fun h => p1 (.inl h)
                have k2 : s ≤ 0 → v3 ≤ v2 + 1 := fun h => p1 (.inr ⟨h, by omega⟩)
                have k3 : s ≤ (l.size : Int) → v4 ≤ v3 + 3 * (u.ht : Nat) + 1 := fun h => q2' (.inl (by omega))
                have hC : v4 ≤ v + 6 * ((1 + max l.ht u.ht : Nat) : Int) + 1 := by
                  by_cases h8 : s ≥ (l.size : Int)
                  · have := k1 h8; omega
                  · have := k3 (by omega); omega
                by_cases h7 : firstF P (pre ++ l.toList ++ [e0']) u.toList (s - (l.toList.length : Int) - 1) ≥ 0
                · simp only [h7, decide_true, cond_true]
                  rw [if_pos h7] at hq
                  rw [hq, if_pos (by omega)] at happ
                  refine ⟨c3, v4, ?_, fun h => by omega, by omega, fun h => by rcases h with h | h <;> first | exact h.elim | (exfalso; omega), fun h => ?_, hC⟩
                  · rw [happ, w64_id (x := (l.size : Int) + 1) (by omega) (by omega), w64_id (by omega) (by omega)]
                    congr 2; omega
                  · have h8 : s ≤ 0 := by omega
                    have := k2 h8; have := k3 (by omega); omega
                · simp only [h7, decide_false, cond_false]
                  rw [if_neg h7] at hq
                  rw [hq, if_neg (by omega)] at happ
                  have k4 : s ≤ (l.size : Int) → v4 ≤ v3 + 1 := fun h => q1' (.inr ⟨by omega, by omega⟩)
                  have k5 := q2' (.inr (by omega))
                  refine ⟨c3, v4, ?_, fun _ => by have := y2 (by omega); simpa using this, by omega, fun h => ?_, fun h => ?_, hC⟩
                  · rw [happ]
                    congr 2; omega
                  · exfalso
                    rcases h with h | h
                    · exact h.elim
                    · have := h9 h.1; omega
                  · by_cases h8 : s ≥ (l.size : Int)
                    · have := k1 h8; omega
                    · have := k4 (by omega); omega
theorem last_v (ok : OpsOk O k N G S lt) (hp : PredOk N G S P fn) {p : PN E A} {L : List TRef} {B : Nat} (hP : PW p L B) : ∀ (n : Nat) {r : TRef} {t : Tr E} (pre : List E) (s : Int) (acc : A), t.size < n → Rep S p r t → S acc pre → (∀ x ∈ pre ++ t.toList, G x) → (pre ++ t.toList).length < N →
    -4611686018427387904 ≤ s - t.size → s ≤ 4611686018427387904 → ∀ {v : Int}, 0 ≤ v → v + 1000 * (t.size + 1 : Nat) < 4611686018427387904 →
    ∃ v', VTree_lastOf.r O k n (vz p v) r s acc fn = some (lastF P pre t.toList s, vz p v') ∧ v ≤ v' ∧
      (s ≤ 0 ∨ (s ≥ (t.size : Int) ∧ lastF P pre t.toList s < 0) → v' ≤ v + 1) ∧ (s ≥ (t.size : Int) ∨ lastF P pre t.toList s < 0 → v' ≤ v + 3 * (t.ht : Nat) + 1) ∧ v' ≤ v + 6 * (t.ht : Nat) + 1
  | 0, _, _, _, _, _, h, _, _, _, _, _, _, _, _, _ => by omega
  | n + 1, r, t, pre, s, acc, hn, hr, ha, hG, hN, b1, b2, v, h0v, hbv => by
    have hbig := ok.big
    obtain ⟨n1, g1, g2⟩ := get_ok ok hP hr
    obtain ⟨v1, a1, e1, d1v⟩ := get_v g1 h0v (by omega)
    have hll := Tr.len_toList t
    simp only [VTree_lastOf.r, a1, Option.bind_some, g2.size]
    by_cases h0 : t.size = 0
    · have e0 : ((t.size : Int) == 0) = true := by simp; exact h0
      have : t.toList = [] := List.eq_nil_of_length_eq_zero (by omega)
      simp only [e0, cond_true, Option.bind_some, Sum.elim_inl]
      have hf : lastF P pre t.toList s = -1 := by rw [this]; rfl
      rw [hf]; exact ⟨v1, rfl, e1, fun _ => by omega, fun _ => by omega, by omega⟩
    · have e0 : ((t.size : Int) == 0) = false := by simp; exact h0
      simp only [e0, cond_false]
      by_cases h1 : s ≤ 0
      · simp only [h1, decide_true, cond_true, Option.bind_some, Sum.elim_inl]
        rw [lastF_lim pre t.toList s h1]; exact ⟨v1, rfl, e1, fun _ => by omega, fun _ => by omega, by omega⟩
      · simp only [h1, decide_false, cond_false, hp.run ha g2.sum hG hN, Option.bind_some]
        by_cases h2 : s ≥ (t.size : Int) ∧ P pre t.toList = false
        · simp only [h2.1, h2.2, decide_true, cond_true, Bool.not_false, Option.bind_some, Sum.elim_inl]
          rw [lastF_none hp pre t.toList s h2.2]; exact ⟨v1, rfl, e1, fun _ => by omega, fun _ => by omega, by omega⟩
        · have h9 : s ≥ (t.size : Int) → lastF P pre t.toList s ≥ 0 := fun h4 => by
            have h5 : P pre t.toList = true := by
              cases h6 : P pre t.toList
              · exact absurd ⟨h4, h6⟩ h2
              · rfl
            exact lastF_some hp _ _ _ (by omega) h5
          have h3 : ∀ {X : Type} (y : X), (bif decide (s ≥ (t.size : Int)) then (bif !P pre t.toList then some (Sum.inl y) else some (Sum.inr ())) else some (Sum.inr () : Sum X Unit)) = some (Sum.inr ()) := fun y => by
            by_cases h4 : s ≥ (t.size : Int)
            · have h5 : P pre t.toList = true := by
                cases h6 : P pre t.toList
                · exact absurd ⟨h4, h6⟩ h2
                · rfl
              simp only [h4, h5, decide_true, cond_true, Bool.not_true, cond_false]
            · simp only [h4, decide_false, cond_false]
          rw [h3]
          cases t with
          | nil => exact absurd rfl h0
          | node r0 e0' l u =>
            obtain ⟨rfl, he, hl, hu, hlk⟩ := g2.node rfl
            obtain ⟨n2, g3, g4⟩ := get_ok ok hP hl
            have hsz : (Tr.node r e0' l u).size = l.size + 1 + u.size := rfl
            have hht : (Tr.node r e0' l u).ht = 1 + max l.ht u.ht := rfl
            have hln : (Tr.node r e0' l u).toList = l.toList ++ e0' :: u.toList := rfl
            have hlu := Tr.len_toList u
            have hlL := Tr.len_toList l
            have hl9 := Tr.ht_size l
            have hu9 := Tr.ht_size u
            rw [hsz] at hn b1 hbv h9 ⊢
            rw [hht]
            rw [hln] at hG hN h9 ⊢
            simp only [List.length_append, List.length_cons] at hN
            have sub1 : ∀ x ∈ pre ++ l.toList, G x := fun x hx => hG x (by simp at hx ⊢; rcases hx with hx | hx <;> simp [hx])
            obtain ⟨v2, a2, e2, d2v⟩ := get_v g3 (v := v1) (by omega) (by omega)
            obtain ⟨c1, d1, d2⟩ := ok.plus ha g4.sum sub1 (by simp; omega)
            obtain ⟨se, s1, s2⟩ := ok.sum n1.e (hG _ (by rw [he]; simp))
            rw [he] at s2
            have hGe : ∀ x ∈ (pre ++ l.toList) ++ [e0'], G x := fun x hx => hG x (by simp at hx ⊢; rcases hx with hx | hx | hx <;> simp [hx])
            have hNe : ((pre ++ l.toList) ++ [e0']).length < N := by simp; omega
            have hfn := hp.run d2 s2 hGe hNe
            obtain ⟨c2, f1, f2⟩ := ok.plus d2 s2 hGe hNe
            have w1' : w64 (w64 (s - (l.size : Int)) - 1) = s - (l.toList.length : Int) - 1 := by
              rw [w64_id (x := s - (l.size : Int)) (by omega) (by omega), w64_id (by omega) (by omega), hlL]
            have hGr : ∀ x ∈ (pre ++ l.toList ++ [e0']) ++ u.toList, G x := fun x hx => hG x (by simpa using hx)
            obtain ⟨v3, hr1, e3, p1, p2, p3⟩ := last_v ok hp hP n (pre ++ l.toList ++ [e0']) (s - (l.toList.length : Int) - 1) c2 (by omega) hu f2 hGr (by simp; omega) (by omega) (by omega) (v := v2) (by omega) (by omega)
            obtain ⟨v4, hl1, e4, q1, q2, q3⟩ := last_v ok hp hP n pre s acc (by omega) hl ha sub1 (by simp; omega) (by omega) b2 (v := v3) (by omega) (by omega)
            have hb3 := lastF_bound (P := P) (pre ++ l.toList ++ [e0']) u.toList (s - (l.toList.length : Int) - 1)
            have hb4 := lastF_bound (P := P) pre l.toList s
            have happ := lastF_append (P := P) pre l.toList (e0' :: u.toList) s
            have hq := lastF_cons (P := P) (pre ++ l.toList) e0' u.toList (s - l.toList.length)
            generalize lastF P (pre ++ l.toList) (e0' :: u.toList) (s - l.toList.length) = q at happ hq
            simp only [Option.bind_some, Sum.elim_inr, a2, d1, s1, f1, w1', hr1, g4.size, hfn, hl1]
            by_cases h4 : lastF P (pre ++ l.toList ++ [e0']) u.toList (s - (l.toList.length : Int) - 1) ≥ 0
            · simp only [h4, decide_true, cond_true]
              rw [if_pos h4] at hq
              rw [hq, if_pos (by omega)] at happ
              refine ⟨v3, ?_, by omega, fun h => by rcases h with h | h <;> first | exact h.elim | (exfalso; omega), fun h => ?_, by omega⟩
              · rw [happ, w64_id (x := _ + (l.size : Int)) (by omega) (by omega), w64_id (by omega) (by omega)]
                congr 2; omega
              · have := p2 (by omega); omega
            · simp only [h4, decide_false, cond_false]
              rw [if_neg h4] at hq
              have k1 : s ≤ (l.size : Int) → v3 ≤ v2 + 1 := fun h => p1 (.inl (by omega))
              have k2 : s ≥ ((l.size + 1 + u.size : Nat) : Int) → v3 ≤ v2 + 1 := fun h => p1 (.inr ⟨by omega, by omega⟩)
              have k3 := p2 (.inr (by omega))
              by_cases h5 : s > (l.size : Int) ∧ P (pre ++ l.toList) [e0'] = true
              · simp only [h5.1, h5.2, decide_true, cond_true]
                rw [if_pos ⟨by omega, h5.2⟩] at hq
                rw [hq, if_pos (by omega)] at happ
                exact ⟨v3, by rw [happ]; congr 2; omega, by omega, fun h => by rcases h with h | h <;> first | exact h.elim | (exfalso; omega), fun h => by have := k2 (by omega); omega, by omega⟩
              · rw [if_neg (fun h => h5 ⟨by have := h.1; omega, h.2⟩)] at hq
                rw [hq, if_neg (by omega)] at happ
                rw [happ] at h9 ⊢
                refine ⟨v4, ?_, by omega, fun h => ?_, fun h => ?_, ?_⟩
                · by_cases h7 : s > (l.size : Int)
                  · have h8 : P (pre ++ l.toList) [e0'] = false := by
                      cases h6 : P (pre ++ l.toList) [e0']
                      · rfl
                      · exact absurd ⟨h7, h6⟩ h5
                    simp only [h7, h8, decide_true, cond_true, cond_false]
                  · simp only [h7, decide_false, cond_false]
                · exfalso
                  rcases h with h | h
                  · exact h.elim
                  · have := h9 h.1; omega
                · rcases h with h | h
                  · have := k2 h; have := q2 (.inl (by omega)); omega
                  · by_cases h8 : s ≥ (l.size : Int)
                    · have := q1 (.inr ⟨h8, h⟩); omega
                    · have := k1 (by omega); have := q2 (.inr h); omega
                · by_cases h8 : s ≥ (l.size : Int)
                  · have := q2 (.inl h8); omega
                  · have := k1 (by omega); omega
end
structure GrV {E A : Type} (S : A → List E → Prop) (lt : E → E → Prop) (G : E → Prop) (p : PN E A) (r : TRef) (l : List E) (c : Int) (B : Nat) : Prop where
  ex : ∃ t, PW p t.refs B ∧ Rep S p r t ∧ t.toList = l ∧ Tr.WB t
  sorted : InOrd lt l
  good : ∀ x ∈ l, G x
  cap : p.cap = c
def hmax (n : Nat) : Nat := 2 + 3 * Nat.log2 (n + 1)
section
variable {E A : Type} {O : Ops E A} {k N : Nat} {G : E → Prop} {S : A → List E → Prop} {lt : E → E → Prop} {P : List E → List E → Bool} {fn : A → A → Option Bool}
variable {p : PN E A} {r : TRef} {l : List E} {c : Int} {B : Nat}
theorem GrV.gr (h : GrV S lt G p r l c B) : Gr S lt G p r l c B := by
  obtain ⟨t, h1, h2, h3, _⟩ := h.ex
  exact ⟨⟨t, h1, h2, h3⟩, h.sorted, h.good, h.cap⟩
theorem wb_h {t : Tr E} (h : Tr.WB t) : t.ht ≤ hmax t.toList.length := by
  have := Tr.ht_le h
  rw [Tr.len_toList]; exact this
theorem GrV.new (c : Int) (B : Nat) (hB : B < 4294967295) : GrV S lt G (⟨[], [], c, 0, 0⟩ : PN E A) zTRef [] c B :=
  ⟨⟨.nil, PW.new c B hB, rfl, rfl, trivial⟩, List.Pairwise.nil, by simp, rfl⟩
theorem GrV.put (ok : OpsOk O k N G S lt) (hk : N ≤ k) (h3 : 3 ≤ k) (h : GrV S lt G p r l c B) (e : E) (hG : G e) (hB : B + 1 < 4294967295) (hN : l.length + 1 < N) {v : Int} (h0 : 0 ≤ v) (hb : v + 1000 * (l.length + 1 : Nat) < 4611686018427387904) :
    ∃ a m b, Cut lt e l a m b ∧ ∃ v', v ≤ v' ∧ v' ≤ v + 82 * (hmax l.length : Nat) ∧ ((m = [] ∧ (l.length : Int) = c ∧ VTree_Put.f O k (vz p v) r e = some (false, r, vz p v')) ∨
      (∃ r' p', (m = [] → (l.length : Int) ≠ c) ∧ VTree_Put.f O k (vz p v) r e = some (true, r', vz p' v') ∧ GrV S lt G p' r' (a ++ e :: b) c (B + 1))) := by
  obtain ⟨t, hP, hr, rfl, hw⟩ := h.ex
  have hlen : t.refs.length = t.toList.length := by rw [Tr.len_refs, Tr.len_toList]
  have hll := Tr.len_toList t
  have hhs := Tr.ht_size t
  have hwh := wb_h hw
  obtain ⟨a, m, b, hcut, hres⟩ := put_ok ok hk hP hB e hG k (by omega) hr hP.ld h.sorted h.good (by omega)
  have pv := fun {r' : TRef} {f : Bool} {p' : PN E A} (hh : Tree_put.r O k k p r e = some (r', f, p')) => put_v ok hk h3 hP hB e hG k (by omega) hr hP.ld h.sorted h.good (by omega) hw hh h0 (by omega)
  refine ⟨a, m, b, hcut, ?_⟩
  unfold VTree_Put.f VTree_put.f
  rcases hres with ⟨h1, h2, rr, h3'⟩ | ⟨r', p', t', F, h1, h2, h3', h4, h5⟩
  · obtain ⟨_, v', a1, b1, c1⟩ := pv h3'
    exact ⟨v', b1, by omega, .inl ⟨h1, by rw [← hlen, h2, h.cap], by rw [a1]; rfl⟩⟩
  · obtain ⟨q1, v', a1, b1, c1⟩ := pv h3'
    obtain ⟨t2, k1, k2, k3, k4⟩ := q1 rfl
    have := h5.rep.uniq k1
    subst this
    refine ⟨v', b1, by omega, .inr ⟨r', p', fun hm => by rw [← hlen, ← h.cap]; exact h1 hm, by rw [a1]; rfl, ⟨t', h5.pw.perm h5.refs.symm, h5.rep, h4, k2⟩, hcut.put ok h.sorted, fun x hx => ?_, h5.cap.trans h.cap⟩⟩
    have h8 : ∀ y, y ∈ a ∨ y ∈ b → y ∈ t.toList := fun y hy => by rw [hcut.eq]; rcases hy with hy | hy <;> simp [hy]
    simp only [List.mem_append, List.mem_cons] at hx
    rcases hx with hx | rfl | hx
    · exact h.good x (h8 x (.inl hx))
    · exact hG
    · exact h.good x (h8 x (.inr hx))
theorem GrV.len (ok : OpsOk O k N G S lt) (h : GrV S lt G p r l c B) {v : Int} (h0 : 0 ≤ v) (hb : v < 4611686018427387904) : ∃ v', VTree_Len.f O k (vz p v) r = some ((l.length : Int), vz p v') ∧ v ≤ v' ∧ v' ≤ v + 1 := by
  obtain ⟨t, hP, hr, rfl, hw⟩ := h.ex
  obtain ⟨n, g1, g2⟩ := get_ok ok hP hr
  obtain ⟨v', a1, b1, c1⟩ := get_v g1 h0 hb
  exact ⟨v', by unfold VTree_Len.f; rw [a1]; simp only [Option.bind_some, g2.size, Tr.len_toList], b1, c1⟩
theorem clampI (x : Int) (n : Nat) : gmin (gmax x 0) (n : Int) = min (max x 0) (n : Int) := by unfold gmin gmax; split <;> split <;> omega
theorem GrV.between (ok : OpsOk O k N G S lt) (hk : N ≤ k) (h : GrV S lt G p r l c B) (i j : Int) (hN : l.length < N) {v : Int} (h0 : 0 ≤ v) (hb : v + 1000 * (l.length + 1 : Nat) + 1000 < 4611686018427387904) {s : A} (hs : Tree_Between.f O k p r i j = some s) :
    ∃ v', VTree_Between.f O k (vz p v) r i j = some (s, vz p v') ∧ v ≤ v' ∧ v' ≤ v + 9 * (hmax l.length : Nat) + 2 := by
  have hbig := ok.big
  obtain ⟨v1, a1, b1, c1⟩ := h.len ok h0 (by omega)
  have hlen := h.gr.len ok
  obtain ⟨t, hP, hr, rfl, hw⟩ := h.ex
  have hll := Tr.len_toList t
  have hwh := wb_h hw
  unfold Tree_Between.f Tree_between.f at hs
  rw [hlen] at hs
  simp only [Option.bind_some, clampI] at hs
  obtain ⟨x, s1, hs⟩ := bnd hs
  cases hs
  obtain ⟨v', a2, b2, c2, d2, e2⟩ := between_v (k := k) ok hP k (min (max i 0) (t.toList.length : Int)) (min (max j 0) (t.toList.length : Int)) hr (by omega) (by omega) (by omega) (by omega) (by omega) s1 (v := v1) (by omega) (by omega)
  refine ⟨v', ?_, by omega, by omega⟩
  unfold VTree_Between.f VTree_between.f
  rw [a1]
  simp only [Option.bind_some, clampI, a2]
theorem GrV.first (ok : OpsOk O k N G S lt) (hk : N ≤ k) (hp : PredOk N G S P fn) (h : GrV S lt G p r l c B) (i : Int) (hN : l.length < N) {v : Int} (h0 : 0 ≤ v) (hb : v + 1000 * (l.length + 1 : Nat) + 1000 < 4611686018427387904) :
    ∃ v', VTree_First.f O k (vz p v) r i fn = some (firstF P [] l i, vz p v') ∧ v ≤ v' ∧ v' ≤ v + 6 * (hmax l.length : Nat) + 2 := by
  have hbig := ok.big
  obtain ⟨v1, a1, b1, c1⟩ := h.len ok h0 (by omega)
  obtain ⟨t, hP, hr, rfl, hw⟩ := h.ex
  have hll := Tr.len_toList t
  have hwh := wb_h hw
  obtain ⟨c, v', h1, h2, e1, _, _, e2⟩ := first_v ok hp hP k [] (min (max i 0) (t.toList.length : Int)) O.zA (by omega) hr ok.zero (by simpa using h.good) (by simpa using hN) (by omega) (by omega) (v := v1) (by omega) (by omega)
  refine ⟨v', ?_, by omega, by omega⟩
  unfold VTree_First.f VTree_first.f
  rw [a1]
  simp only [Option.bind_some, clampI, h1, firstF_clamp]
theorem GrV.last (ok : OpsOk O k N G S lt) (hk : N ≤ k) (hp : PredOk N G S P fn) (h : GrV S lt G p r l c B) (i : Int) (hN : l.length < N) {v : Int} (h0 : 0 ≤ v) (hb : v + 1000 * (l.length + 1 : Nat) + 1000 < 4611686018427387904) :
    ∃ v', VTree_Last.f O k (vz p v) r i fn = some (lastF P [] l i, vz p v') ∧ v ≤ v' ∧ v' ≤ v + 6 * (hmax l.length : Nat) + 2 := by
  have hbig := ok.big
  obtain ⟨v1, a1, b1, c1⟩ := h.len ok h0 (by omega)
  obtain ⟨t, hP, hr, rfl, hw⟩ := h.ex
  have hll := Tr.len_toList t
  have hwh := wb_h hw
  obtain ⟨v', h1, e1, _, _, e2⟩ := last_v ok hp hP k [] (min (max i 0) (t.toList.length : Int)) O.zA (by omega) hr ok.zero (by simpa using h.good) (by simpa using hN) (by omega) (by omega) (v := v1) (by omega) (by omega)
  refine ⟨v', ?_, by omega, by omega⟩
  unfold VTree_Last.f VTree_lastOf.f
  rw [a1]
  simp only [Option.bind_some, clampI, h1, lastF_clamp]
end
end Go.Proofs.Ythcehagablploaa
namespace Go.Proofs.Ythcehagablploaa
open Go Go.Proofs.Ythcehagablploaa.Sx
def lowF : List Int → Int
  | [] => 0
  | [x] => x
  | x :: y :: l => min x (x + lowF (y :: l))
def tideF (ns : List Int) : TTide := ⟨ns.length, ns.sum, lowF ns⟩
theorem lowF_append : ∀ (a b : List Int), a ≠ [] → b ≠ [] → lowF (a ++ b) = min (lowF a) (a.sum + lowF b)
  | [x], b, _, hb => by
    cases b with
    | nil => exact absurd rfl hb
    | cons y l => simp [lowF]
  | x :: y :: l, b, _, hb => by
    have ih := lowF_append (y :: l) b (by simp) hb
    have e : lowF (x :: y :: l ++ b) = min x (x + lowF (y :: l ++ b)) := by simp [lowF]
    rw [e, ih]
    have e2 : lowF (x :: y :: l) = min x (x + lowF (y :: l)) := rfl
    have e3 : (x :: y :: l).sum = x + (y :: l).sum := by simp
    rw [e2, e3]
    omega
  | [], _, h, _ => absurd rfl h
def smallN (ns : List Int) : Prop := ∀ x ∈ ns, -1099511627776 ≤ x ∧ x ≤ 1099511627776
theorem smallN.append {a b : List Int} (ha : smallN a) (hb : smallN b) : smallN (a ++ b) := fun x hx => (List.mem_append.1 hx).elim (ha x) (hb x)
theorem smallN.left {a b : List Int} (h : smallN (a ++ b)) : smallN a := fun x hx => h x (List.mem_append_left _ hx)
theorem smallN.right {a b : List Int} (h : smallN (a ++ b)) : smallN b := fun x hx => h x (List.mem_append_right _ hx)
theorem smallN.take {a : List Int} (h : smallN a) (i : Nat) : smallN (a.take i) := fun x hx => h x (List.mem_of_mem_take hx)
theorem sum_bound : ∀ {ns : List Int}, smallN ns → -1099511627776 * (ns.length : Int) ≤ ns.sum ∧ ns.sum ≤ 1099511627776 * (ns.length : Int)
  | [], _ => by simp
  | x :: l, h => by
    have h1 := h x List.mem_cons_self
    have h2 := sum_bound (ns := l) (fun y hy => h y (List.mem_cons_of_mem _ hy))
    simp only [List.sum_cons, List.length_cons]
    omega
theorem low_bound : ∀ {ns : List Int}, smallN ns → -1099511627776 * (ns.length : Int) ≤ lowF ns ∧ lowF ns ≤ 1099511627776 * (ns.length : Int)
  | [], _ => by simp [lowF]
  | [x], h => by have := h x List.mem_cons_self; simp [lowF]; omega
  | x :: y :: l, h => by
    have h1 := h x List.mem_cons_self
    have h2 := low_bound (ns := y :: l) (fun z hz => h z (List.mem_cons_of_mem _ hz))
    have e : lowF (x :: y :: l) = min x (x + lowF (y :: l)) := rfl
    simp only [List.length_cons] at h2 ⊢
    rw [e]
    omega
theorem tidePlus_eq (k : Nat) {a b : List Int} (h : smallN (a ++ b)) (hl : (a ++ b).length < 1000000) : tide_Tide_Plus.f k (tideF a) (tideF b) = some (tideF (a ++ b)) := by
  have ha := sum_bound h.left
  have hb := sum_bound h.right
  have la := low_bound h.left
  have lb := low_bound h.right
  simp only [List.length_append] at hl
  unfold tide_Tide_Plus.f
  by_cases h1 : a = []
  · subst h1; simp [tideF]
  · have p1 : a.length ≠ 0 := fun e => h1 (List.eq_nil_of_length_eq_zero e)
    by_cases h2 : b = []
    · subst h2
      have : ((tideF a).n == 0) = false := by simp [tideF]; exact h1
      simp only [this, cond_false]; simp [tideF]
    · have p2 : b.length ≠ 0 := fun e => h2 (List.eq_nil_of_length_eq_zero e)
      have e1 : ((a.length : Int) == 0) = false := by simp; exact h1
      have e2 : ((b.length : Int) == 0) = false := by simp; exact h2
      simp only [tideF, e1, e2, cond_false]
      rw [w64_id (by omega) (by omega), w64_id (by omega) (by omega), w64_id (by omega) (by omega), lowF_append a b h1 h2, List.sum_append, List.length_append]
      have e : gmin (lowF a) (a.sum + lowF b) = min (lowF a) (a.sum + lowF b) := by unfold gmin; split <;> omega
      rw [e, Int.natCast_add]
theorem tideOf_loop (k : Nat) (l : List Int) (hs : smallN l) (hl : l.length < 1000000) : ∀ (d i n : Nat), i + d = l.length → d < n → tide_Of.l0 k l n (tideF (l.take i), (i : Int)) = some (tideF l)
  | d, i, 0, _, h => by omega
  | 0, i, n + 1, hi, _ => by
    simp only [tide_Of.l0]
    rw [dec_nlt (by omega), List.take_of_length_le (by omega)]; rfl
  | d + 1, i, n + 1, hi, hn => by
    obtain ⟨x, hx, hdr⟩ := drop_cons (l := l) (i := i) (by omega)
    have ht : l.take (i + 1) = l.take i ++ [x] := by rw [List.take_add_one, hx]; rfl
    have e1 : (⟨1, x, x⟩ : TTide) = tideF [x] := by simp [tideF, lowF]
    simp only [tide_Of.l0]
    rw [dec_lt (by omega)]
    simp only [cond_true, atL_nat hx, Option.bind_some, e1]
    rw [tidePlus_eq k (by rw [← ht]; exact hs.take _) (by rw [← ht]; simp; omega)]
    simp only [Option.bind_some, w64_succ (i := i) (by omega), ← ht]
    exact tideOf_loop k l hs hl d (i + 1) n (by omega) (by omega)
theorem tideOf_eq (k : Nat) {l : List Int} (hs : smallN l) (hl : l.length < 1000000) (hk : l.length < k) : tide_Of.f k l = some (tideF l) := by
  have := tideOf_loop k l hs hl l.length 0 k (by omega) hk
  have e : tide_Of.l0 k l k (zTTide, 0) = some (tideF l) := this
  unfold tide_Of.f; rw [e]; rfl
end Go.Proofs.Ythcehagablploaa
namespace Go.Proofs.Ythcehagablploaa
open Go Go.Proofs.Ythcehagablploaa.Sx
def ilt (a b : TItem) : Prop := a.key < b.key ∨ (a.key = b.key ∧ a.id < b.id)
def ile (a b : TItem) : Prop := a.key < b.key ∨ (a.key = b.key ∧ a.id ≤ b.id)
instance (a b : TItem) : Decidable (ilt a b) := by unfold ilt; infer_instance
instance (a b : TItem) : Decidable (ile a b) := by unfold ile; infer_instance
theorem ile_refl (a : TItem) : ile a a := by unfold ile; omega
theorem ile_trans {a b c : TItem} (h : ile a b) (h' : ile b c) : ile a c := by unfold ile at *; omega
theorem not_ilt {a b : TItem} : ¬ ilt a b ↔ ile b a := by unfold ilt ile; omega
theorem ilt_ile {a b : TItem} (h : ilt a b) : ile a b := by unfold ilt at h; unfold ile; omega
theorem ilt_trans_le {a b c : TItem} (h : ilt a b) (h' : ile b c) : ilt a c := by unfold ilt ile at *; omega
theorem ilt_irrefl (a : TItem) : ¬ ilt a a := by unfold ilt; omega
def isgn (a b : TItem) : Int := if ilt a b then -1 else if ilt b a then 1 else 0
def csgn (a b : Int) : Int := if a < b then -1 else if b < a then 1 else 0
theorem cmpCompare_eq (k : Nat) (a b : Int) : cmp_Compare.f k a b = some (csgn a b) := by
  unfold cmp_Compare.f cmp_isNaN.f csgn
  by_cases h1 : a < b
  · simp [h1]
  · by_cases h2 : b < a
    · simp [h1, h2]
    · simp [h1, h2]
theorem cmpOr_eq (k : Nat) (hk : 3 ≤ k) (a b : Int) : cmp_Or.f k [a, b] = some (if a ≠ 0 then a else b) := by
  obtain ⟨m, rfl⟩ : ∃ m, k = m + 3 := ⟨k - 3, by omega⟩
  unfold cmp_Or.f
  have e1 : w64 (0 + 1) = 1 := by decide
  have e2 : w64 1 = 1 := by decide
  have e3 : w64 2 = 2 := by decide
  by_cases h1 : a = 0
  · subst h1
    by_cases h2 : b = 0
    · subst h2; simp [cmp_Or.l0, atL, e1, e2, e3]
    · have h3 : (b != 0) = true := by simpa using h2
      simp [cmp_Or.l0, atL, e1, e2, e3, h2, h3]
  · have h3 : (a != 0) = true := by simpa using h1
    simp [cmp_Or.l0, atL, e1, e2, e3, h1, h3]
theorem itemCompare_eq (k : Nat) (hk : 3 ≤ k) (a b : TItem) : item_Compare.f k a b = some (isgn a b) := by
  unfold item_Compare.f
  simp only [cmpCompare_eq, Option.bind_some, cmpOr_eq k hk]
  congr 1
  unfold csgn isgn ilt
  by_cases h1 : a.key < b.key
  · simp [h1]
  · by_cases h2 : b.key < a.key
    · have h3 : ¬ a.key = b.key := by omega
      have h4 : ¬ b.key = a.key := by omega
      simp [h1, h2, h3, h4]
    · have h3 : a.key = b.key := by omega
      simp [h3]
end Go.Proofs.Ythcehagablploaa
namespace Go.Proofs.Ythcehagablploaa
open Go Go.Proofs.Ythcehagablploaa.Sx
def IsMax (xs : List TItem) (t : TTook) : Prop := (xs = [] ∧ t = zTTook) ∨ (t.found = true ∧ t.item ∈ xs ∧ ∀ y ∈ xs, ile y t.item)
def IsMin (xs : List TItem) (t : TTook) : Prop := (xs = [] ∧ t = zTTook) ∨ (t.found = true ∧ t.item ∈ xs ∧ ∀ y ∈ xs, ile t.item y)
theorem IsMax.nil : IsMax [] zTTook := .inl ⟨rfl, rfl⟩
theorem IsMin.nil : IsMin [] zTTook := .inl ⟨rfl, rfl⟩
theorem IsMax.one (x : TItem) : IsMax [x] ⟨true, x⟩ := .inr ⟨rfl, by simp, fun y hy => by simp at hy; subst hy; exact ile_refl _⟩
theorem IsMin.one (x : TItem) : IsMin [x] ⟨true, x⟩ := .inr ⟨rfl, by simp, fun y hy => by simp at hy; subst hy; exact ile_refl _⟩
theorem isgn_lt {a b : TItem} : isgn a b < 0 ↔ ilt a b := by
  unfold isgn
  by_cases h1 : ilt a b
  · simp [h1]
  · by_cases h2 : ilt b a <;> simp [h1, h2]
theorem isgn_gt {a b : TItem} : isgn a b > 0 ↔ ilt b a := by
  unfold isgn
  by_cases h1 : ilt a b
  · have : ¬ ilt b a := fun h => ilt_irrefl a (ilt_trans_le h1 (ilt_ile h))
    simp [h1, this]
  · by_cases h2 : ilt b a <;> simp [h1, h2]
theorem isgn_cases (a b : TItem) : isgn a b = -1 ∨ isgn a b = 0 ∨ isgn a b = 1 := by
  unfold isgn; split
  · exact .inl rfl
  · split
    · exact .inr (.inr rfl)
    · exact .inr (.inl rfl)
theorem betterMax (k : Nat) (hk : 3 ≤ k) {xs ys : List TItem} {a b : TTook} (ha : IsMax xs a) (hb : IsMax ys b) : ∃ c, wave_better.f k (-1) a b = some c ∧ IsMax (xs ++ ys) c := by
  unfold wave_better.f
  rcases ha with ⟨rfl, rfl⟩ | ⟨h1, h2, h3⟩
  · exact ⟨b, rfl, hb⟩
  · simp only [h1, Bool.not_true, cond_false]
    rcases hb with ⟨rfl, rfl⟩ | ⟨g1, g2, g3⟩
    · exact ⟨a, rfl, .inr ⟨h1, by simpa using h2, by simpa using h3⟩⟩
    · simp only [g1, cond_true, itemCompare_eq k hk, Option.bind_some]
      have e : w64 (-1 * isgn b.item a.item) = -1 * isgn b.item a.item := by rcases isgn_cases b.item a.item with h | h | h <;> rw [h] <;> rfl
      rw [e]
      by_cases hc : isgn b.item a.item > 0
      · have : decide (-1 * isgn b.item a.item < 0) = true := by simp; omega
        rw [this]
        have hlt := isgn_gt.1 hc
        refine ⟨b, rfl, .inr ⟨g1, List.mem_append_right _ g2, fun y hy => ?_⟩⟩
        rcases List.mem_append.1 hy with hy | hy
        · exact ile_trans (h3 y hy) (ilt_ile hlt)
        · exact g3 y hy
      · have : decide (-1 * isgn b.item a.item < 0) = false := by simp; omega
        rw [this]
        have hle : ile b.item a.item := not_ilt.1 (fun h => hc (isgn_gt.2 h))
        refine ⟨a, rfl, .inr ⟨h1, List.mem_append_left _ h2, fun y hy => ?_⟩⟩
        rcases List.mem_append.1 hy with hy | hy
        · exact h3 y hy
        · exact ile_trans (g3 y hy) hle
theorem betterMin (k : Nat) (hk : 3 ≤ k) {xs ys : List TItem} {a b : TTook} (ha : IsMin xs a) (hb : IsMin ys b) : ∃ c, wave_better.f k 1 a b = some c ∧ IsMin (xs ++ ys) c := by
  unfold wave_better.f
  rcases ha with ⟨rfl, rfl⟩ | ⟨h1, h2, h3⟩
  · exact ⟨b, rfl, hb⟩
  · simp only [h1, Bool.not_true, cond_false]
    rcases hb with ⟨rfl, rfl⟩ | ⟨g1, g2, g3⟩
    · exact ⟨a, rfl, .inr ⟨h1, by simpa using h2, by simpa using h3⟩⟩
    · simp only [g1, cond_true, itemCompare_eq k hk, Option.bind_some]
      have e : w64 (1 * isgn b.item a.item) = isgn b.item a.item := by rcases isgn_cases b.item a.item with h | h | h <;> rw [h] <;> rfl
      rw [e]
      by_cases hc : isgn b.item a.item < 0
      · have : decide (isgn b.item a.item < 0) = true := by simpa using hc
        rw [this]
        have hlt := isgn_lt.1 hc
        refine ⟨b, rfl, .inr ⟨g1, List.mem_append_right _ g2, fun y hy => ?_⟩⟩
        rcases List.mem_append.1 hy with hy | hy
        · exact ile_trans (ilt_ile hlt) (h3 y hy)
        · exact g3 y hy
      · have : decide (isgn b.item a.item < 0) = false := by simpa using hc
        rw [this]
        have hle : ile a.item b.item := not_ilt.1 (fun h => hc (isgn_lt.2 h))
        refine ⟨a, rfl, .inr ⟨h1, List.mem_append_left _ h2, fun y hy => ?_⟩⟩
        rcases List.mem_append.1 hy with hy | hy
        · exact h3 y hy
        · exact ile_trans hle (g3 y hy)
def mcnt (m : TMark) : Int := if m.op.insert then 1 else -1
def mwt (m : TMark) : Int := if m.op.insert then (if m.here then 0 else 1) else -1
def dels (l : List TMark) : List TMark := l.filter (fun m => !m.op.insert)
def frees (l : List TMark) : List TMark := l.filter (fun m => !m.op.insert && !m.took.found)
def tookI (l : List TMark) : List TItem := (l.filter (fun m => !m.op.insert && m.took.found)).map (·.took.item)
def goneI (l : List TMark) : List TItem := (l.filter (fun m => m.op.insert && !m.here)).map (·.op.item)
def hereI (l : List TMark) : List TItem := (l.filter (fun m => m.op.insert && m.here)).map (·.op.item)
structure IsSwell (s : TSwell) (l : List TMark) : Prop where
  count : s.count = tideF (l.map mcnt)
  weight : s.weight = tideF (l.map mwt)
  deletes : s.deletes = ((dels l).length : Int)
  free : s.free = ((frees l).length : Int)
  most : ∃ t, IsMax (tookI l) t ∧ s.most = t.item
  gone : IsMax (goneI l) s.gone
  least : IsMin (hereI l) s.least
theorem IsSwell.nil : IsSwell zTSwell [] := ⟨rfl, rfl, rfl, rfl, ⟨_, IsMax.nil, rfl⟩, IsMax.nil, IsMin.nil⟩
theorem small_cnt (l : List TMark) : smallN (l.map mcnt) := by
  intro x hx
  obtain ⟨m, _, rfl⟩ := List.mem_map.1 hx
  unfold mcnt; split <;> omega
theorem small_wt (l : List TMark) : smallN (l.map mwt) := by
  intro x hx
  obtain ⟨m, _, rfl⟩ := List.mem_map.1 hx
  unfold mwt
  split
  · split <;> omega
  · omega
theorem dels_len (l : List TMark) : (dels l).length = (frees l).length + (tookI l).length := by
  induction l with
  | nil => rfl
  | cons m l ih =>
    unfold dels frees tookI at *
    cases h1 : m.op.insert <;> cases h2 : m.took.found <;> simp [List.filter_cons, h1, h2] at ih ⊢ <;> omega
theorem taken_max (k : Nat) {s : TSwell} {l : List TMark} (h : IsSwell s l) : ∃ t, wave_Swell_taken.f k s = some t ∧ IsMax (tookI l) t := by
  obtain ⟨a, ha, ha'⟩ := h.most
  have hl := dels_len l
  unfold wave_Swell_taken.f
  rw [h.deletes, h.free]
  by_cases h0 : tookI l = []
  · have : (((dels l).length : Int) == ((frees l).length : Int)) = true := by rw [hl, h0]; simp
    rw [this]; exact ⟨_, rfl, .inl ⟨h0, rfl⟩⟩
  · have hp : (tookI l).length ≠ 0 := fun e => h0 (List.eq_nil_of_length_eq_zero e)
    have : (((dels l).length : Int) == ((frees l).length : Int)) = false := by simp; omega
    rw [this]
    refine ⟨_, rfl, ?_⟩
    rcases ha with ⟨h1, _⟩ | ⟨h1, h2, h3⟩
    · exact absurd h1 h0
    · rw [ha']; exact .inr ⟨rfl, h2, h3⟩
theorem swellPlus (k : Nat) (hk : 3 ≤ k) {s t : TSwell} {l r : List TMark} (h : IsSwell s l) (g : IsSwell t r) (hl : (l ++ r).length < 1000000) : ∃ c, wave_Swell_Plus.f k s t = some c ∧ IsSwell c (l ++ r) := by
  obtain ⟨a, a1, a2⟩ := taken_max k h
  obtain ⟨b, b1, b2⟩ := taken_max k g
  obtain ⟨x5, c1, c2⟩ := betterMax k hk a2 b2
  obtain ⟨x6, d1, d2⟩ := betterMax k hk h.gone g.gone
  obtain ⟨x7, e1, e2⟩ := betterMin k hk h.least g.least
  have q1 : (dels l).length ≤ l.length := List.length_filter_le _ _
  have q2 : (dels r).length ≤ r.length := List.length_filter_le _ _
  have q3 : (frees l).length ≤ l.length := List.length_filter_le _ _
  have q4 : (frees r).length ≤ r.length := List.length_filter_le _ _
  rw [List.length_append] at hl
  unfold wave_Swell_Plus.f
  rw [h.count, g.count, h.weight, g.weight, tidePlus_eq k (by rw [← List.map_append]; exact small_cnt _) (by simp; omega), tidePlus_eq k (by rw [← List.map_append]; exact small_wt _) (by simp; omega), a1, b1]
  simp only [Option.bind_some, c1, d1, e1]
  refine ⟨_, rfl, ?_⟩
  constructor
  · show tideF _ = _; rw [List.map_append]
  · show tideF _ = _; rw [List.map_append]
  · show w64 _ = _; rw [h.deletes, g.deletes, w64_id (by omega) (by omega)]; simp [dels]
  · show w64 _ = _; rw [h.free, g.free, w64_id (by omega) (by omega)]; simp [frees]
  · refine ⟨x5, ?_, rfl⟩; simpa [tookI] using c2
  · simpa [goneI] using d2
  · simpa [hereI] using e2
theorem smallN1 {x : Int} (h : -1099511627776 ≤ x ∧ x ≤ 1099511627776) : smallN [x] := fun y hy => by simp at hy; subst hy; exact h
theorem markSum (k : Nat) (hk : 3 ≤ k) (m : TMark) : ∃ s, wave_Mark_Sum.f k m = some s ∧ IsSwell s [m] := by
  have t1 : tide_Of.f k [1] = some (tideF [1]) := tideOf_eq k (smallN1 (by omega)) (by simp) (by simp; omega)
  have t0 : tide_Of.f k [0] = some (tideF [0]) := tideOf_eq k (smallN1 (by omega)) (by simp) (by simp; omega)
  have tm : tide_Of.f k [-1] = some (tideF [-1]) := tideOf_eq k (smallN1 (by omega)) (by simp) (by simp; omega)
  unfold wave_Mark_Sum.f
  cases h1 : m.op.insert
  · cases h2 : m.took.found
    · simp only [cond_false, Option.bind_some, Sum.elim_inr, tm]
      exact ⟨_, rfl, by simp [mcnt, h1], by simp [mwt, h1], by simp [dels, h1], by simp [frees, h1, h2], ⟨_, by simp [tookI, h1, h2]; exact IsMax.nil, rfl⟩, by simp [goneI, h1]; exact IsMax.nil, by simp [hereI, h1]; exact IsMin.nil⟩
    · simp only [cond_false, cond_true, Option.bind_some, Sum.elim_inr, tm]
      exact ⟨_, rfl, by simp [mcnt, h1], by simp [mwt, h1], by simp [dels, h1], by simp [frees, h1, h2], ⟨⟨true, m.took.item⟩, by simp [tookI, h1, h2]; exact IsMax.one _, rfl⟩, by simp [goneI, h1]; exact IsMax.nil, by simp [hereI, h1]; exact IsMin.nil⟩
  · cases h2 : m.here
    · simp only [cond_false, cond_true, Option.bind_some, Sum.elim_inl, t1]
      exact ⟨_, rfl, by simp [mcnt, h1], by simp [mwt, h1, h2], by simp [dels, h1], by simp [frees, h1], ⟨_, by simp [tookI, h1]; exact IsMax.nil, rfl⟩, by simp [goneI, h1, h2]; exact IsMax.one _, by simp [hereI, h1, h2]; exact IsMin.nil⟩
    · simp only [cond_true, Option.bind_some, Sum.elim_inl, t1, t0]
      exact ⟨_, rfl, by simp [mcnt, h1], by simp [mwt, h1, h2], by simp [dels, h1], by simp [frees, h1], ⟨_, by simp [tookI, h1]; exact IsMax.nil, rfl⟩, by simp [goneI, h1, h2]; exact IsMax.nil, by simp [hereI, h1, h2]; exact IsMin.one _⟩
end Go.Proofs.Ythcehagablploaa
namespace Go.Proofs.Ythcehagablploaa
open Go Go.Proofs.Ythcehagablploaa.Sx
end Go.Proofs.Ythcehagablploaa
namespace Go.Proofs.Ythcehagablploaa
open Go Go.Proofs.Ythcehagablploaa.Sx
def tm (m : TR08Mark) : TMark := ⟨m.op, m.here, m.took⟩
abbrev tms (l : List TR08Mark) : List TMark := l.map tm
end Go.Proofs.Ythcehagablploaa
namespace Go.Proofs.Ythcehagablploaa
open Go Go.Proofs.Ythcehagablploaa.Sx
abbrev K1 : Nat := 1000001
abbrev ltM (a b : TMark) : Prop := a.op.time < b.op.time
theorem okM : OpsOk opsM K1 1000000 (fun _ => True) IsSwell ltM where
  cmp a b := by
    refine ⟨csgn a.op.time b.op.time, ?_, ?_⟩
    · show wave_Mark_Compare.f K1 a b = _
      unfold wave_Mark_Compare.f; rw [cmpCompare_eq]; rfl
    · unfold csgn ltM
      by_cases h1 : a.op.time < b.op.time
      · simp [h1]; omega
      · by_cases h2 : b.op.time < a.op.time
        · simp [h1, h2]
        · simp [h1, h2]
  sum e _ := markSum K1 (by decide) e
  plus h g _ hN := swellPlus K1 (by decide) h g hN
  zero := IsSwell.nil
  irrefl a := by simp
  trans := by intro a b c h1 h2; unfold ltM at *; omega
  left := by intro a b c h1 h2 h3; unfold ltM at *; omega
  right := by intro a b c h1 h2 h3; unfold ltM at *; omega
  big := by decide
theorem cutR {e : TR08Mark} {l : List TR08Mark} {a m b : List TMark} (h : Cut ltM (tm e) (tms l) a m b) : ∃ A M B, l = A ++ (M ++ B) ∧ tms A = a ∧ tms M = m ∧ tms B = b ∧ (∀ x ∈ A, x.op.time < e.op.time) ∧ (∀ x ∈ B, e.op.time < x.op.time) ∧ (M = [] ∨ ∃ y, M = [y] ∧ y.op.time = e.op.time) := by
  obtain ⟨A, R, h1, h2, h3⟩ := List.map_eq_append_iff.1 h.eq
  obtain ⟨M, B, h4, h5, h6⟩ := List.map_eq_append_iff.1 h3
  refine ⟨A, M, B, by rw [h1, h4], h2, h5, h6, fun x hx => ?_, fun x hx => ?_, ?_⟩
  · exact h.la (tm x) (by rw [← h2]; exact List.mem_map.2 ⟨x, hx, rfl⟩)
  · exact h.lb (tm x) (by rw [← h6]; exact List.mem_map.2 ⟨x, hx, rfl⟩)
  · rcases h.lm with h7 | ⟨y, h7, h8, h9⟩
    · left; subst h7; exact List.map_eq_nil_iff.1 h5
    · right
      subst h7
      obtain ⟨z, hz, hzy⟩ := List.map_eq_singleton_iff.1 h5
      refine ⟨z, hz, ?_⟩
      subst hzy
      simp only [ltM, tm] at h8 h9; omega
theorem nat_in {a n : Nat} (h : a ≤ n) : decide ((0 : Int) ≤ (a : Int) ∧ (a : Int) ≤ (n : Int)) = true := by simp; omega
end Go.Proofs.Ythcehagablploaa
namespace Go.Proofs.Ythcehagablploaa
open Go Go.Proofs.Ythcehagablploaa.Sx
def early (e x : TR08Mark) : Bool := decide (x.op.time < e.op.time)
def tail1 (e : TR08Mark) : List TR08Mark → List TR08Mark
  | [] => []
  | z :: r => if z.op.time = e.op.time then r else z :: r
def tins (w : List TR08Mark) (e : TR08Mark) : List TR08Mark := w.takeWhile (early e) ++ e :: tail1 e (w.dropWhile (early e))
def timed (l : List TR08Mark) : List TR08Mark := l.foldl tins []
theorem tins_cut {e : TR08Mark} {A M B : List TR08Mark} (h1 : ∀ x ∈ A, x.op.time < e.op.time) (h2 : ∀ x ∈ B, e.op.time < x.op.time) (h3 : M = [] ∨ ∃ y, M = [y] ∧ y.op.time = e.op.time) : tins (A ++ (M ++ B)) e = A ++ e :: B := by
  have hA : ∀ x ∈ A, early e x = true := fun x hx => by simp [early, h1 x hx]
  have hR : (M ++ B).takeWhile (early e) = [] ∧ (M ++ B).dropWhile (early e) = M ++ B := by
    rcases h3 with rfl | ⟨y, rfl, h4⟩
    · cases B with
      | nil => exact ⟨rfl, rfl⟩
      | cons z r =>
        have : early e z = false := by have := h2 z List.mem_cons_self; simp [early]; omega
        simp [this]
    · have : early e y = false := by simp [early]; omega
      simp [this]
  unfold tins
  rw [List.takeWhile_append_of_pos hA, List.dropWhile_append_of_pos hA, hR.1, hR.2, List.append_nil]
  congr 2
  rcases h3 with rfl | ⟨y, rfl, h4⟩
  · cases B with
    | nil => rfl
    | cons z r =>
      have := h2 z List.mem_cons_self
      simp only [List.nil_append, tail1]
      rw [if_neg (by omega)]
  · simp [tail1, h4]
theorem takeW_len (w : List TR08Mark) (p : TR08Mark → Bool) : w.take (w.takeWhile p).length = w.takeWhile p := by
  have h := List.takeWhile_append_dropWhile (p := p) (l := w)
  conv => lhs; arg 2; rw [← h]
  rw [List.take_left' rfl]
theorem dropW_len (w : List TR08Mark) (p : TR08Mark → Bool) : w.drop (w.takeWhile p).length = w.dropWhile p := by
  have h := List.takeWhile_append_dropWhile (p := p) (l := w)
  conv => lhs; arg 2; rw [← h]
  rw [List.drop_left' rfl]
theorem takeW_le (w : List TR08Mark) (p : TR08Mark → Bool) : (w.takeWhile p).length + (w.dropWhile p).length = w.length := by
  have h := congrArg List.length (List.takeWhile_append_dropWhile (p := p) (l := w))
  rw [List.length_append] at h; exact h
theorem dropW_head {w : List TR08Mark} {p : TR08Mark → Bool} {z : TR08Mark} {r : List TR08Mark} (h : w.dropWhile p = z :: r) : p z = false := by
  have hne : w.dropWhile p ≠ [] := by rw [h]; simp
  have := List.head_dropWhile_not (p := p) (l := w) hne
  simpa [h] using this
theorem tins_len (w : List TR08Mark) (e : TR08Mark) : (tins w e).length ≤ w.length + 1 := by
  have h := takeW_le w (early e)
  unfold tins
  rw [List.length_append, List.length_cons]
  have : (tail1 e (w.dropWhile (early e))).length ≤ (w.dropWhile (early e)).length := by
    cases w.dropWhile (early e) with
    | nil => simp [tail1]
    | cons z r => simp only [tail1]; split <;> simp
  omega
theorem timed_take {l : List TR08Mark} {i : Nat} {e : TR08Mark} (h : l[i]? = some e) : timed (l.take (i + 1)) = tins (timed (l.take i)) e := by
  unfold timed
  rw [List.take_add_one, h, List.foldl_append]; rfl
theorem timed_len : ∀ (l : List TR08Mark) (i : Nat), i ≤ l.length → (timed (l.take i)).length ≤ i
  | l, 0, _ => by simp [timed]
  | l, i + 1, h => by
    obtain ⟨e, he, _⟩ := drop_cons (l := l) (i := i) (by omega)
    rw [timed_take he]
    have := timed_len l i (by omega)
    have := tins_len (timed (l.take i)) e
    omega
theorem tplace10 (l w : List TR08Mark) {j : Nat} {e : TR08Mark} (he : l[j]? = some e) (hl : w.length < 1000000) : ∀ (d i n : Nat), i + d = (w.takeWhile (early e)).length → d < n → R10_Timed.l1 K1 l w (j : Int) n (i : Int) = some ((w.takeWhile (early e)).length : Int)
  | d, i, 0, _, h => by omega
  | 0, i, n + 1, hi, _ => by
    have hle := takeW_le w (early e)
    simp only [R10_Timed.l1]
    by_cases h : i < w.length
    · obtain ⟨x, hx, hd⟩ := drop_cons h
      have hd' : w.dropWhile (early e) = x :: w.drop (i + 1) := by rw [← dropW_len, show (w.takeWhile (early e)).length = i by omega, hd]
      have hp := dropW_head hd'
      have hn : ¬ x.op.time < e.op.time := by simpa [early] using hp
      rw [dec_lt h]
      simp only [cond_true, atL_nat hx, atL_nat he, Option.bind_some, hn, decide_false, cond_false]
      congr 2
    · rw [dec_nlt (by omega)]
      simp only [cond_false]
      congr 2
  | d + 1, i, n + 1, hi, hn => by
    have hle := takeW_le w (early e)
    obtain ⟨x, hx, _⟩ := drop_cons (l := w) (i := i) (by omega)
    have hm : x ∈ w.takeWhile (early e) := by
      rw [← takeW_len]
      exact List.mem_of_getElem? (i := i) (by rw [List.getElem?_take_of_lt (by omega)]; exact hx)
    have h3 : x.op.time < e.op.time := by
      have := List.all_takeWhile (p := early e) (l := w)
      have := List.all_eq_true.1 this x hm
      simpa [early] using this
    simp only [R10_Timed.l1]
    rw [dec_lt (by omega)]
    simp only [cond_true, atL_nat hx, atL_nat he, Option.bind_some, h3, decide_true, w64_succ (i := i) (by omega)]
    exact tplace10 l w he hl d (i + 1) n (by omega) (by omega)
theorem timed_loop (l : List TR08Mark) (hl : l.length < 100000) : ∀ (d i n : Nat), i + d = l.length → d < n → R10_Timed.l0 K1 l n (timed (l.take i), (i : Int)) = some (timed l)
  | d, i, 0, _, h => by omega
  | 0, i, n + 1, hi, _ => by
    simp only [R10_Timed.l0]
    rw [dec_nlt (by omega), List.take_of_length_le (by omega)]; rfl
  | d + 1, i, n + 1, hi, hn => by
    obtain ⟨e, he, _⟩ := drop_cons (l := l) (i := i) (by omega)
    have hwl := timed_len l i (by omega)
    have hnext := timed_take he
    have ih := timed_loop l hl d (i + 1) n (by omega) (by omega)
    rw [hnext] at ih
    generalize timed (l.take i) = w at *
    have hle := takeW_le w (early e)
    have hkl : (w.takeWhile (early e)).length < K1 := by unfold K1; omega
    have q3 := tplace10 l w he (by omega) (w.takeWhile (early e)).length 0 K1 (Nat.zero_add _) hkl
    replace q3 : R10_Timed.l1 K1 l w (i : Int) K1 0 = some ((w.takeWhile (early e)).length : Int) := q3
    have ta := takeW_len w (early e)
    have td := dropW_len w (early e)
    have e1 : (w.takeWhile (early e)).length - 0 = (w.takeWhile (early e)).length := Nat.sub_zero _
    simp only [R10_Timed.l0]
    rw [dec_lt (by omega)]
    simp only [cond_true, atL_nat he, Option.bind_some, q3, Int.toNat_natCast, e1, List.drop_zero, ta, List.nil_append]
    rw [nat_in (by omega)]
    simp only [cond_true]
    rw [decide_eq_true (p := ([] : List TR08Mark).length + (w.takeWhile (early e)).length < 4294967296) (by simp; omega), decide_eq_true (p := (w.takeWhile (early e)).length + [e].length < 4294967296) (by simp; omega)]
    simp only [cond_true]
    unfold tins at ih
    have hfin : ∀ r : List TR08Mark, r.length ≤ w.length → decide ((w.takeWhile (early e) ++ [e]).length + r.length < 4294967296) = true := fun r hr => decide_eq_true (by simp; omega)
    cases hd : w.dropWhile (early e) with
    | nil =>
      rw [hd] at td ih hle
      have hdr : (w.drop (w.takeWhile (early e)).length).take (w.length - (w.takeWhile (early e)).length) = [] 
          := by rw [td, List.take_nil]
      rw [dec_nlt (by simp at hle; omega)]
      simp only [cond_false, hdr]
      rw [hfin [] (by simp)]
      simp only [cond_true, Option.bind_some, w64_succ (i := i) (by omega)]
      simp only [tail1] at ih
      simpa using ih
    | cons z r =>
      rw [hd] at td ih hle
      simp only [List.length_cons] at hle
      have hz : w[(w.takeWhile (early e)).length]? = some z := by
        have := congrArg (fun q => q[0]?) td
        simpa [List.getElem?_drop] using this
      rw [dec_lt (by omega)]
      simp only [cond_true, atL_nat hz, Option.bind_some]
      by_cases hk : z.op.time = e.op.time
      · have hk' : (z.op.time == e.op.time) = true := by simpa using hk
        have hsu : w64 (((w.takeWhile (early e)).length : Int) + 1) = (((w.takeWhile (early e)).length + 1 : Nat) : Int) := w64_succ (by omega)
        have hdr : (w.drop ((w.takeWhile (early e)).length + 1)).take (w.length - ((w.takeWhile (early e)).length + 1)) = r := by
          rw [List.take_of_length_le (by simp), ← List.drop_drop, td]; rfl
        simp only [hk', cond_true, hsu, Int.toNat_natCast, hdr]
        rw [nat_in (by omega), hfin r (by omega)]
        simp only [cond_true, Option.bind_some, w64_succ (i := i) (by omega)]
        simp only [tail1, hk, if_true] at ih
        simpa using ih
      · have hk' : (z.op.time == e.op.time) = false := by simpa using hk
        have hdr : (w.drop (w.takeWhile (early e)).length).take (w.length - (w.takeWhile (early e)).length) = z :: r := by
          rw [td, List.take_of_length_le (by simp; omega)]
        simp only [hk', cond_false, hdr]
        rw [hfin (z :: r) (by simp; omega)]
        simp only [cond_true, Option.bind_some, w64_succ (i := i) (by omega)]
        simp only [tail1, hk, if_false] at ih
        simpa using ih
theorem timed_ok (l : List TR08Mark) (hl : l.length < 100000) : R10_Timed.f K1 l = some (timed l) := by
  have hlt : l.length < K1 := by unfold K1; omega
  have e := timed_loop l hl l.length 0 K1 (Nat.zero_add _) hlt
  replace e : R10_Timed.l0 K1 l K1 (([] : List TR08Mark), 0) = some (timed l) := e
  unfold R10_Timed.f; rw [e]; rfl
theorem timed_len' (l : List TR08Mark) : (timed l).length ≤ l.length := by
  have := timed_len l l.length (Nat.le_refl _)
  rwa [List.take_length] at this
end Go.Proofs.Ythcehagablploaa
namespace Go.Proofs.Ythcehagablploaa
open Go Go.Proofs.Ythcehagablploaa.Sx
section
variable {p : PN TMark TSwell} {r : TRef} {m : List TR08Mark} {c : Int} {B : Nat}
end
theorem small10 (l : List TR08Mark) (base : Int) : ∃ b, Lw10_small.f K1 l base = some b ∧ (b = true → l.length ≤ 60 ∧ -1099511627776 ≤ base ∧ base ≤ 1099511627776) := by
  unfold Lw10_small.f
  by_cases h1 : (l.length : Int) ≤ 60
  · by_cases h2 : base ≥ -1099511627776
    · simp only [h1, h2, decide_true, cond_true]
      refine ⟨_, rfl, fun h => ?_⟩
      have h' : base ≤ 1099511627776 := of_decide_eq_true h
      exact ⟨by omega, by first | exact h2 | trivial, h'⟩
    · simp only [h1, h2, decide_true, decide_false, cond_true, cond_false]
      exact ⟨_, rfl, fun h => by cases h⟩
  · simp only [h1, decide_false, cond_false]
    exact ⟨_, rfl, fun h => by cases h⟩
end Go.Proofs.Ythcehagablploaa
namespace Go.Proofs.Ythcehagablploaa
open Go Go.Proofs.Ythcehagablploaa.Sx
section
variable {E : Type} {P : List E → List E → Bool}
end
def fallB (base : Int) (l u : List TMark) : Bool := decide (u ≠ []) && decide (base + (l.map mwt).sum + lowF (u.map mwt) ≤ 0)
abbrev SmallB (base : Int) : Prop := -1099511627776 ≤ base ∧ base ≤ 1099511627776
theorem fall_ok {base : Int} (hb : SmallB base) : PredOk 1000000 (fun _ => True) IsSwell (fallB base) (fun a b => bridge_low_1.f K1 a b base) where
  run := by
    intro a b l u hl hu _ hN
    have h1 := sum_bound (small_wt l)
    have h2 := low_bound (small_wt u)
    simp only [List.length_append] at hN
    simp only [List.length_map] at h1 h2
    unfold bridge_low_1.f fallB
    rw [hl.weight, hu.weight]
    unfold SmallB at hb
    cases u with
    | nil => simp [tideF]
    | cons x v =>
      have e0 : decide ((tideF ((x :: v).map mwt)).n > 0) = true := by simp [tideF]
      simp only [List.length_cons] at hN h2
      have hw : w64 (w64 (base + (tideF (l.map mwt)).sum) + (tideF ((x :: v).map mwt)).low) = base + (l.map mwt).sum + lowF ((x :: v).map mwt) := by
        have e1 : w64 (base + (tideF (l.map mwt)).sum) = base + (l.map mwt).sum := w64_id (x := base + (l.map mwt).sum) (by omega) (by omega)
        rw [e1]
        exact w64_id (x := base + (l.map mwt).sum + lowF ((x :: v).map mwt)) (by omega) (by omega)
      rw [e0]
      simp only [cond_true, hw]
      simp
  nil l := by simp [fallB]
  app l m n := by
    unfold fallB
    by_cases hm : m = []
    · subst hm; simp
    · by_cases hn : n = []
      · subst hn; simp
      · have h1 : lowF ((m ++ n).map mwt) = min (lowF (m.map mwt)) ((m.map mwt).sum + lowF (n.map mwt)) := by
          rw [List.map_append, lowF_append _ _ (by simpa using hm) (by simpa using hn)]
        have h2 : ((l ++ m).map mwt).sum = (l.map mwt).sum + (m.map mwt).sum := by simp
        rw [h1, h2]
        have h3 : m ++ n ≠ [] := by simp [hm]
        simp only [h3, hm, hn, ne_eq, not_false_eq_true, decide_true, Bool.true_and]
        rw [← Bool.decide_or]
        congr 1
        apply propext
        omega
section
variable {p : PN TMark TSwell} {r : TRef} {m : List TR08Mark} {c : Int} {B : Nat}
end
end Go.Proofs.Ythcehagablploaa
namespace Go.Proofs.Ythcehagablploaa
open Go Go.Proofs.Ythcehagablploaa.Sx
theorem log_two {n : Nat} (h : 2 ≤ n) : Nat.log2 n = Nat.log2 (n / 2) + 1 := by
  rw [Nat.log2_def, if_pos h]
theorem log_small {n : Nat} (h : n < 2) : Nat.log2 n = 0 := by
  rw [Nat.log2_def, if_neg (by omega)]
theorem log_mono : ∀ (a b : Nat), a ≤ b → Nat.log2 a ≤ Nat.log2 b
  | a, b, h => by
    by_cases ha : a < 2
    · rw [log_small ha]; exact Nat.zero_le _
    · rw [log_two (n := a) (by omega), log_two (n := b) (by omega)]
      have := log_mono (a / 2) (b / 2) (by omega)
      omega
theorem Height_loop : ∀ (n k : Nat) (h : Int), k < n → 0 ≤ h → h + 3 * k < 1000000000 → R07_Height.l0 K1 n (h, (k : Int)) = some (h + 3 * (Nat.log2 k : Nat))
  | 0, k, h, hk, _, _ => by omega
  | n + 1, k, h, hk, h0, h1 => by
    simp only [R07_Height.l0]
    by_cases hh : k < 2
    · rw [decide_eq_false (by omega), cond_false, log_small hh]; simp
    · have e2 : w64 ((k : Int).tdiv 2) = ((k / 2 : Nat) : Int) := by
        have : (k : Int).tdiv 2 = ((k / 2 : Nat) : Int) := by
          rw [Int.tdiv_eq_ediv_of_nonneg (by omega)]; omega
        rw [this]
        exact w64_id (by omega) (by omega)
      rw [decide_eq_true (by omega), cond_true, e2, w64_id (by omega) (by omega), Height_loop n (k / 2) (h + 3) (by omega) (by omega) (by omega), log_two (n := k) (by omega)]
      congr 1; omega
theorem Height_eq (n : Nat) (hn : n < 100000) : R07_Height.f K1 (n : Int) = (some (((hmax n : Nat) : Int)) : Option Int) := by
  have := Height_loop K1 (n + 1) 2 (by unfold K1; omega) (by decide) (by omega)
  unfold R07_Height.f hmax
  rw [w64_succ (by omega), this]
  simp only [Option.bind_some]
  congr 1
theorem log_lt (n : Nat) (h : n < 1024) : Nat.log2 n ≤ 9 := by
  have := log_mono n 1023 (by omega)
  have e : Nat.log2 1023 = 9 := by decide
  omega
theorem hmax_lt (n : Nat) (h : n < 1023) : hmax n ≤ 29 := by
  have := log_lt (n + 1) (by omega)
  unfold hmax; omega
abbrev GrVM := GrV IsSwell ltM (fun _ : TMark => True)
section
variable {p : PN TMark TSwell} {r : TRef} {m : List TMark} {c : Int} {B : Nat}
theorem clamp_v (h : GrVM p r m c B) (i : Int) {v : Int} (h0 : 0 ≤ v) (hb : v < 4611686018427387904) : ∃ x v', Vbridge_clamp.f K1 (vz p v) r i = some (x, vz p v') ∧ v ≤ v' ∧ v' ≤ v + 1 := by
  obtain ⟨v', a1, b1, c1⟩ := h.len okM h0 hb
  exact ⟨_, v', by unfold Vbridge_clamp.f; rw [a1]; rfl, b1, c1⟩
theorem betw_v (h : GrVM p r m c B) (hl : m.length < 1000000) (i j : Int) {v : Int} (h0 : 0 ≤ v) (hb : v < 1000000000000) : ∃ s v', VTree_Between.f opsM K1 (vz p v) r i j = some (s, vz p v') ∧ v ≤ v' ∧ v' ≤ v + 9 * (hmax m.length : Nat) + 2 := by
  obtain ⟨s, s1, _⟩ := h.gr.between okM (by decide) i j hl
  obtain ⟨v', a1, b1, c1⟩ := h.between okM (by decide) i j hl h0 (by omega) s1
  exact ⟨s, v', a1, b1, c1⟩
theorem height_v (h : GrVM p r m c B) (hl : m.length < 1000000) (i base : Int) {v : Int} (h0 : 0 ≤ v) (hb : v < 1000000000000) : ∃ x v', Vbridge_Height.f K1 (vz p v) r i base = some (x, vz p v') ∧ v ≤ v' ∧ v' ≤ v + 9 * (hmax m.length : Nat) + 2 := by
  obtain ⟨s, v', a1, b1, c1⟩ := betw_v h hl 0 i h0 hb
  exact ⟨_, v', by unfold Vbridge_Height.f; rw [a1]; rfl, b1, c1⟩
theorem next_v (h : GrVM p r m c B) (hl : m.length < 1000) {base : Int} (hs : SmallB base) (i : Int) {v : Int} (h0 : 0 ≤ v) (hb : v < 1000000000) : ∃ x v', Vbridge_Next.f K1 (vz p v) r i base = some (x, vz p v') ∧ v ≤ v' ∧ v' ≤ v + 15 * (hmax m.length : Nat) + 5 := by
  have hh := hmax_lt m.length (by omega)
  obtain ⟨x1, v1, a1, b1, c1⟩ := clamp_v h i h0 (by omega)
  obtain ⟨x2, v2, a2, b2, c2⟩ := height_v h (by omega) x1 base (v := v1) (by omega) (by omega)
  obtain ⟨v3, a3, b3, c3⟩ := h.first okM (by decide) (fall_ok hs) x1 (by omega) (v := v2) (by omega) (by omega)
  unfold Vbridge_Next.f bridge_low.f
  simp only [a1, Option.bind_some, a2]
  by_cases h1 : x2 ≤ 0
  · simp only [h1, decide_true, cond_true]
    exact ⟨_, v2, rfl, by omega, by omega⟩
  · simp only [h1, decide_false, cond_false, a3, Option.bind_some]
    by_cases h2 : firstF (fallB base) [] m x1 ≥ 0
    · simp only [h2, decide_true, cond_true]
      exact ⟨_, v3, rfl, by omega, by omega⟩
    · simp only [h2, decide_false, cond_false]
      exact ⟨_, v3, rfl, by omega, by omega⟩
theorem prior_v (h : GrVM p r m c B) (hl : m.length < 1000) {base : Int} (hs : SmallB base) (i : Int) {v : Int} (h0 : 0 ≤ v) (hb : v < 1000000000) : ∃ x v', Vbridge_Prior.f K1 (vz p v) r i base = some (x, vz p v') ∧ v ≤ v' ∧ v' ≤ v + 6 * (hmax m.length : Nat) + 3 := by
  have hh := hmax_lt m.length (by omega)
  obtain ⟨x1, v1, a1, b1, c1⟩ := clamp_v h i h0 (by omega)
  obtain ⟨v3, a3, b3, c3⟩ := h.last okM (by decide) (fall_ok hs) x1 (by omega) (v := v1) (by omega) (by omega)
  unfold Vbridge_Prior.f bridge_low.f
  simp only [a1, Option.bind_some, a3]
  by_cases h2 : lastF (fallB base) [] m x1 ≥ 0
  · simp only [h2, decide_true, cond_true]
    exact ⟨_, v3, rfl, by omega, by omega⟩
  · simp only [h2, decide_false, cond_false]
    by_cases h3 : base ≤ 0
    · simp only [h3, decide_true, cond_true]
      exact ⟨_, v3, rfl, by omega, by omega⟩
    · simp only [h3, decide_false, cond_false]
      exact ⟨_, v3, rfl, by omega, by omega⟩
theorem best_v (h : GrVM p r m c B) (hl : m.length < 1000) (i : Int) {v : Int} (h0 : 0 ≤ v) (hb : v < 1000000000) : ∃ x v', Vbridge_Best.f K1 (vz p v) r i = some (x, vz p v') ∧ v ≤ v' ∧ v' ≤ v + 9 * (hmax m.length : Nat) + 4 := by
  have hh := hmax_lt m.length (by omega)
  obtain ⟨x1, v1, a1, b1, c1⟩ := clamp_v h i h0 (by omega)
  obtain ⟨v2, a2, b2, c2⟩ := h.len okM (v := v1) (by omega) (by omega)
  obtain ⟨s, v3, a3, b3, c3⟩ := betw_v h (by omega) x1 (m.length : Int) (v := v2) (by omega) (by omega)
  exact ⟨s.gone, v3, by unfold Vbridge_Best.f; simp only [a1, Option.bind_some, a2, a3], by omega, by omega⟩
theorem least_v (h : GrVM p r m c B) (hl : m.length < 1000) (i : Int) {v : Int} (h0 : 0 ≤ v) (hb : v < 1000000000) : ∃ x v', Vbridge_Least.f K1 (vz p v) r i = some (x, vz p v') ∧ v ≤ v' ∧ v' ≤ v + 9 * (hmax m.length : Nat) + 3 := by
  have hh := hmax_lt m.length (by omega)
  obtain ⟨x1, v1, a1, b1, c1⟩ := clamp_v h i h0 (by omega)
  obtain ⟨s, v3, a3, b3, c3⟩ := betw_v h (by omega) 0 x1 (v := v1) (by omega) (by omega)
  exact ⟨s.least, v3, by unfold Vbridge_Least.f; simp only [a1, Option.bind_some, a3], by omega, by omega⟩
end
theorem vtree_loop (l : List TR08Mark) (hl : l.length < 1000) : ∀ (d i n : Nat) {p : PN TMark TSwell} {r : TRef} {v : Int}, i + d = l.length → d < n → GrVM p r (tms (timed (l.take i))) l.length i → 0 ≤ v → v ≤ 10000 * (i : Int) →
    ∃ p' r' v', VLw10_Tree.l0 K1 l n (vz p v, r.index, r.gen, (i : Int)) = some (vz p' v', r'.index, r'.gen) ∧ GrVM p' r' (tms (timed l)) l.length l.length ∧ 0 ≤ v' ∧ v' ≤ 10000 * (l.length : Int)
  | d, i, 0, _, _, _, _, h, _, _, _ => by omega
  | 0, i, n + 1, p, r, v, hi, _, h, h0, hv => by
    simp only [VLw10_Tree.l0]
    rw [dec_nlt (by omega)]
    have e : i = l.length := by omega
    rw [List.take_of_length_le (by omega), e] at h
    exact ⟨p, r, v, rfl, h, h0, by omega⟩
  | d + 1, i, n + 1, p, r, v, hi, hn, h, h0, hv => by
    obtain ⟨e, he, _⟩ := drop_cons (l := l) (i := i) (by omega)
    have hwl := timed_len l i (by omega)
    have hh := hmax_lt (tms (timed (l.take i))).length (by simp; omega)
    obtain ⟨a, m, b, hcut, v', b1, c1, hres⟩ := h.put okM (by decide) (by decide) (tm e) trivial (by omega) (by simp; omega) (v := v) h0 (by simp; omega)
    obtain ⟨A, M, B, hA, rfl, rfl, rfl, q1, q2, q3⟩ := cutR hcut
    rcases hres with ⟨_, h2, _⟩ | ⟨r', p', _, a1, a2⟩
    · rw [List.length_map] at h2; omega
    · have a1' : VTree_Put.f opsM K1 (vz p v) ⟨r.index, r.gen⟩ ⟨e.op, e.here, e.took⟩ = some (true, r', vz p' v') := a1
      simp only [VLw10_Tree.l0]
      rw [dec_lt (by omega)]
      simp only [cond_true, atL_nat he, Option.bind_some, a1', w64_succ (i := i) (by omega)]
      refine vtree_loop l hl d (i + 1) n (by omega) (by omega) ?_ (by omega) (by omega)
      rw [timed_take he, hA, tins_cut q1 q2 q3]
      have : tms (A ++ e :: B) = tms A ++ tm e :: tms B := by simp
      rw [this]; exact a2
theorem vtree_ok (l : List TR08Mark) (hl : l.length < 1000) : ∃ p r v, VLw10_Tree.f K1 l = some (r, vz p v) ∧ GrVM p r (tms (timed l)) l.length l.length ∧ 0 ≤ v ∧ v ≤ 10000 * (l.length : Int) := by
  have hc : capOf (l.length : Int) = l.length := by unfold capOf; split <;> split <;> omega
  have h0 : GrVM (⟨[], [], capOf (l.length : Int), 0, 0⟩ : PN TMark TSwell) zTRef (tms (timed (l.take 0))) l.length 0 := by
    rw [hc]; exact GrV.new _ 0 (by decide)
  have hlt : l.length < K1 := by unfold K1; omega
  obtain ⟨p, r, v, h1, h2, h3, h4⟩ := vtree_loop l hl l.length 0 K1 (v := 0) (Nat.zero_add _) hlt h0 (by omega) (by omega)
  replace h1 : VLw10_Tree.l0 K1 l K1 ((⟨[], [], capOf (l.length : Int), 0, 0⟩ : PN TMark TSwell), zTRef.index, zTRef.gen, 0) = some (vz p v, r.index, r.gen) := h1
  refine ⟨p, r, v, ?_, h2, h3, h4⟩
  unfold VLw10_Tree.f Vwave_New.f VTree_New.f
  simp only [Option.bind_some, h1]
theorem Vawake10 : VLw10_awake.f K1 = some true := by kernel_rfl
theorem mvis_eq {p : PN TMark TSwell} {v : Int} : VTree_Visits.f opsM K1 (vz p v) = some v := rfl
theorem BridgeVisits_pure (l : List TR08Mark) (i base : Int) : VLw10_BridgeVisits.f K1 l i base = some true := by
  unfold VLw10_BridgeVisits.f
  obtain ⟨b, hb, hs⟩ := small10 l base
  simp only [Vawake10, Option.bind_some, Bool.not_true, cond_false, hb]
  cases b
  · simp only [Bool.not_false, cond_true, Option.bind_some, Sum.elim_inl]
  · obtain ⟨h60, hB⟩ := hs rfl
    obtain ⟨p, r, v0, t1, t2, t3, t4⟩ := vtree_ok l (by omega)
    have hlen := timed_len' l
    have htm := timed_ok l (by omega)
    have e1 : (tms (timed l)).length = (timed l).length := by simp
    have hh := hmax_lt (tms (timed l)).length (by omega)
    have hml : (tms (timed l)).length < 1000 := by omega
    obtain ⟨v1, a1, b1, c1⟩ := t2.len okM (v := v0) (by omega) (by omega)
    obtain ⟨x2, v2, a2, b2, c2⟩ := next_v t2 hml hB i (v := v1) (by omega) (by omega)
    obtain ⟨x3, v3, a3, b3, c3⟩ := prior_v t2 hml hB i (v := v2) (by omega) (by omega)
    obtain ⟨x4, v4, a4, b4, c4⟩ := best_v t2 hml i (v := v3) (by omega) (by omega)
    obtain ⟨x5, v5, a5, b5, c5⟩ := least_v t2 hml i (v := v4) (by omega) (by omega)
    obtain ⟨v6, a6, b6, c6⟩ := t2.len okM (v := v5) (by omega) (by omega)
    have hH := Height_eq (tms (timed l)).length (by omega)
    have z0 : w64 ((hmax (tms (timed l)).length : Int) + 4) = (hmax (tms (timed l)).length : Int) + 4 := w64_id (by omega) (by omega)
    have z00 : w64 (1000 * ((hmax (tms (timed l)).length : Int) + 4)) = 1000 * ((hmax (tms (timed l)).length : Int) + 4) := w64_id (by omega) (by omega)
    have z01 : w64 (2 * (1000 * ((hmax (tms (timed l)).length : Int) + 4))) = 2 * (1000 * ((hmax (tms (timed l)).length : Int) + 4)) := w64_id (by omega) (by omega)
    have z1 : w64 (v2 - v1) ≤ 1000 * ((hmax (tms (timed l)).length : Int) + 4) := by rw [w64_id (by omega) (by omega)]; omega
    have z2 : w64 (v3 - v2) ≤ 1000 * ((hmax (tms (timed l)).length : Int) + 4) := by rw [w64_id (by omega) (by omega)]; omega
    have z3 : w64 (v5 - v3) ≤ 2 * (1000 * ((hmax (tms (timed l)).length : Int) + 4)) := by rw [w64_id (by omega) (by omega)]; omega
    simp only [Bool.not_true, cond_false, Option.bind_some, Sum.elim_inr, t1, a1, hH, mvis_eq, a2, a3, a4, a5, a6, htm, z0, z00, z01, z1, z2, z3, decide_true, cond_true]
    simp
end Go.Proofs.Ythcehagablploaa

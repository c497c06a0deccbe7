/- Trees in a pool: finding, ranks, places, sums, and the grove as a whole. -/
import Derived.Test.YthcehagablploaaTi
namespace Go.Proofs.Ythcehagablploaa
open Go Go.Proofs.Ythcehagablploaa.Sx
set_option linter.unusedVariables false
set_option linter.unusedSimpArgs false

section
variable {E A : Type} {O : Ops E A} {k N : Nat} {G : E → Prop} {S : A → List E → Prop} {lt : E → E → Prop}
theorem PW.ne0 {p : PN E A} {L : List TRef} {B : Nat} (hP : PW p L B) {r : TRef} {n : TNode E A} (h : look p r = some n) : (r.gen == 0) = false := by
  have := hP.gen_ne (hP.mem h); simpa using this
theorem find_ok (ok : OpsOk O k N G S lt) {p : PN E A} {L : List TRef} {B : Nat} (hP : PW p L B) (e : E) : ∀ (n : Nat) {r : TRef} {t : Tr E}, t.size < n → Rep S p r t → InOrd lt t.toList →
    ∃ a m b, Cut lt e t.toList a m b ∧ Tree_Find.l0 O k p e n r = some (match m with | y :: _ => Sum.inl (y, true) | [] => Sum.inr ())
  | 0, _, _, h, _, _ => by omega
  | n + 1, r, .nil, hn, hr, hs => by
    refine ⟨[], [], [], Cut.nil e, ?_⟩
    have e0 : (r.gen != 0) = false := by simpa using hr.nil_iff.2 rfl
    simp only [Tree_Find.l0, e0, cond_false]
  | n + 1, r, .node r0 e0 l u, hn, hr, hs => by
    obtain ⟨n1, g1, g2⟩ := get_ok ok hP hr
    obtain ⟨rfl, he, hl, hu, hlk⟩ := g2.node rfl
    have hg : (r.gen != 0) = true := by have := hP.ne0 hlk; rw [bne, this]; rfl
    obtain ⟨c, c1, c2, c3⟩ := ok.cmp e n1.e
    have hsz : (Tr.node r e0 l u).size = l.size + 1 + u.size := rfl
    have hln : (Tr.node r e0 l u).toList = l.toList ++ e0 :: u.toList := rfl
    simp only [Tree_Find.l0, hg, cond_true, g1, Option.bind_some, c1]
    rw [he] at c2 c3
    rw [hln] at hs ⊢
    by_cases h1 : c < 0
    · have h0 : (c == 0) = false := by simp; omega
      simp only [h1, h0, decide_true, cond_true, cond_false]
      obtain ⟨a, m, b, hcut, hres⟩ := find_ok ok hP e n (by omega) hl (sorted_l hs)
      exact ⟨a, m, b ++ e0 :: u.toList, hcut.left ok hs (c2.1 h1), hres⟩
    · by_cases h2 : c > 0
      · have h0 : (c == 0) = false := by simp; omega
        simp only [h1, h0, decide_false, cond_false]
        obtain ⟨a, m, b, hcut, hres⟩ := find_ok ok hP e n (by omega) hu (sorted_u hs)
        exact ⟨l.toList ++ e0 :: a, m, b, hcut.right ok hs (c3.1 h2), hres⟩
      · have h0 : (c == 0) = true := by simp; omega
        simp only [h0, cond_true]
        exact ⟨l.toList, [e0], u.toList, Cut.mid ok hs (fun h => h1 (c2.2 h)) (fun h => h2 (c3.2 h)), by rw [he]⟩
theorem rank_ok (ok : OpsOk O k N G S lt) {p : PN E A} {L : List TRef} {B : Nat} (hP : PW p L B) (e : E) : ∀ (n : Nat) {r : TRef} {t : Tr E} (s : Nat), t.size < n → Rep S p r t → InOrd lt t.toList → s + t.size < 4294967296 →
    ∃ a m b, Cut lt e t.toList a m b ∧ Tree_Rank.l0 O k p e n ((s : Int), r) = some (((s + a.length : Nat)) : Int)
  | 0, _, _, _, h, _, _, _ => by omega
  | n + 1, r, .nil, s, hn, hr, hs, hb => by
    refine ⟨[], [], [], Cut.nil e, ?_⟩
    have e0 : (r.gen != 0) = false := by simpa using hr.nil_iff.2 rfl
    simp only [Tree_Rank.l0, e0, cond_false, List.length_nil, Nat.add_zero]
  | n + 1, r, .node r0 e0 l u, s, hn, hr, hs, hb => by
    obtain ⟨n1, g1, g2⟩ := get_ok ok hP hr
    obtain ⟨rfl, he, hl, hu, hlk⟩ := g2.node rfl
    have hg : (r.gen != 0) = true := by have := hP.ne0 hlk; rw [bne, this]; rfl
    obtain ⟨c, c1, c2, c3⟩ := ok.cmp e n1.e
    have hsz : (Tr.node r e0 l u).size = l.size + 1 + u.size := rfl
    have hln : (Tr.node r e0 l u).toList = l.toList ++ e0 :: u.toList := rfl
    have hw := weight_ok ok hP hl (by omega)
    simp only [Tree_Rank.l0, hg, cond_true, g1, Option.bind_some, c1]
    rw [he] at c2 c3
    rw [hln] at hs ⊢
    by_cases h2 : c > 0
    · have h0 : decide (c ≤ 0) = false := by simp; omega
      simp only [h0, cond_false, hw, Option.bind_some]
      rw [w64_id (by simp only [Tr.w]; omega) (by simp only [Tr.w]; omega), show (s : Int) + ((l.w : Nat) : Int) = ((s + l.w : Nat) : Int) by omega]
      obtain ⟨a, m, b, hcut, hres⟩ := rank_ok ok hP e n (s + l.w) (by omega) hu (sorted_u hs) (by simp only [Tr.w]; omega)
      refine ⟨l.toList ++ e0 :: a, m, b, hcut.right ok hs (c3.1 h2), ?_⟩
      rw [hres]
      simp only [List.length_append, List.length_cons, Tr.len_toList, Tr.w]
      congr 2; omega
    · have h0 : decide (c ≤ 0) = true := by simp; omega
      simp only [h0, cond_true]
      by_cases h1 : c < 0
      · obtain ⟨a, m, b, hcut, hres⟩ := rank_ok ok hP e n s (by omega) hl (sorted_l hs) (by omega)
        exact ⟨a, m, b ++ e0 :: u.toList, hcut.left ok hs (c2.1 h1), hres⟩
      · have m1 : ¬ lt e e0 := fun h => h1 (c2.2 h)
        have m2 : ¬ lt e0 e := fun h => h2 (c3.2 h)
        obtain ⟨a, m, b, hcut, hres⟩ := rank_ok ok hP e n s (by omega) hl (sorted_l hs) (by omega)
        refine ⟨l.toList, [e0], u.toList, Cut.mid ok hs m1 m2, ?_⟩
        have hmid := Cut.mid ok hs m1 m2
        have hmb : m ++ b = [] := by
          cases hmb : m ++ b with
          | nil => rfl
          | cons x q =>
            have hx : x ∈ l.toList := by rw [hcut.eq, hmb]; simp
            have h3 := hmid.la x hx
            cases m with
            | nil =>
              have hbx : b = x :: q := by simpa using hmb
              exact absurd (ok.trans h3 (hcut.lb x (by rw [hbx]; simp))) (ok.irrefl x)
            | cons y ys =>
              rcases hcut.lm with h | ⟨y', h, h4, h5⟩
              · cases h
              · cases h
                have : y = x := by simpa using (List.cons.inj hmb).1
                exact absurd h3 (this ▸ h5)
        rw [hres, hcut.eq, hmb, List.append_nil]
/-- A part of a list. -/
def seg {α : Type} (l : List α) (i j : Int) : List α := (l.take j.toNat).drop i.toNat
theorem seg_nil {α : Type} {l : List α} {i j : Int} (h : i ≥ j ∨ i ≥ l.length ∨ j ≤ 0 ∨ l.length = 0) : seg l i j = [] := by
  unfold seg
  apply List.drop_eq_nil_of_le
  rw [List.length_take]
  omega
theorem seg_all {α : Type} {l : List α} {i j : Int} (h1 : i ≤ 0) (h2 : j ≥ l.length) : seg l i j = l := by
  unfold seg
  rw [List.take_of_length_le (by omega), show i.toNat = 0 by omega, List.drop_zero]
theorem seg_node {α : Type} (l u : List α) (e : α) (i j : Int) : seg (l ++ e :: u) i j = seg l i j ++ ((if i ≤ l.length ∧ j > l.length then [e] else []) ++ seg u (i - l.length - 1) (j - l.length - 1)) := by
  by_cases hj : j > l.length
  · have h1 : (l ++ e :: u).take j.toNat = l ++ e :: u.take (j - l.length - 1).toNat := by
      rw [List.take_append, List.take_of_length_le (by omega), show j.toNat - l.length = (j - l.length - 1).toNat + 1 by omega, List.take_succ_cons]
    have h2 : seg l i j = l.drop i.toNat := by unfold seg; rw [List.take_of_length_le (by omega)]
    unfold seg at h2 ⊢
    rw [h1, h2, List.drop_append]
    congr 1
    by_cases hi : i ≤ l.length
    · rw [if_pos ⟨hi, hj⟩, show i.toNat - l.length = 0 by omega, show (i - (l.length : Int) - 1).toNat = 0 by omega]; rfl
    · rw [if_neg (fun h => hi h.1), show i.toNat - l.length = (i - (l.length : Int) - 1).toNat + 1 by omega]; rfl
  · rw [if_neg (fun h => hj h.2), seg_nil (l := u) (.inr (.inr (.inl (by omega))))]
    unfold seg
    rw [List.take_append_of_le_length (by omega)]; simp
theorem seg_sub {α : Type} (l : List α) (i j : Int) : (seg l i j).Sublist l := (List.drop_sublist _ _).trans (List.take_sublist _ _)
theorem between_ok (ok : OpsOk O k N G S lt) {p : PN E A} {L : List TRef} {B : Nat} (hP : PW p L B) : ∀ (n : Nat) {r : TRef} {t : Tr E} (i j : Int), t.size < n → Rep S p r t → (∀ x ∈ t.toList, G x) → t.size < N →
    -4611686018427387904 ≤ i - t.size → -4611686018427387904 ≤ j - t.size → i ≤ 4611686018427387904 → j ≤ 4611686018427387904 → ∃ c, Tree_between.r O k n p r i j = some c ∧ S c (seg t.toList i j)
  | 0, _, _, _, _, h, _, _, _, _, _, _, _ => by omega
  | n + 1, r, t, i, j, hn, hr, hG, hN, b1, b2, b3, b4 => by
    have hbig := ok.big
    obtain ⟨n1, g1, g2⟩ := get_ok ok hP hr
    have hll := Tr.len_toList t
    simp only [Tree_between.r, g1, Option.bind_some, g2.size]
    by_cases h1 : i ≥ j
    · simp only [h1, decide_true, cond_true, Option.bind_some, Sum.elim_inl]
      exact ⟨_, rfl, by rw [seg_nil (.inl h1)]; exact ok.zero⟩
    · simp only [h1, decide_false, cond_false]
      by_cases h2 : i ≥ (t.size : Int)
      · simp only [h2, decide_true, cond_true, Option.bind_some, Sum.elim_inl]
        exact ⟨_, rfl, by rw [seg_nil (.inr (.inl (by omega)))]; exact ok.zero⟩
      · simp only [h2, decide_false, cond_false]
        by_cases h3 : j ≤ 0
        · simp only [h3, decide_true, cond_true, Option.bind_some, Sum.elim_inl]
          exact ⟨_, rfl, by rw [seg_nil (.inr (.inr (.inl h3)))]; exact ok.zero⟩
        · simp only [h3, decide_false, cond_false]
          cases t with
          | nil => exact ⟨_, rfl, by rw [seg_nil (.inr (.inr (.inr rfl)))]; exact ok.zero⟩
          | node r0 e0 l u =>
            have hsz : (Tr.node r0 e0 l u).size = l.size + 1 + u.size := rfl
            have h4 : ((((Tr.node r0 e0 l u).size : Nat) : Int) == 0) = false := by simp; omega
            simp only [h4, cond_false, Option.bind_some, Sum.elim_inr]
            by_cases h5 : i ≤ 0 ∧ j ≥ ((Tr.node r0 e0 l u).size : Int)
            · simp only [h5.1, h5.2, decide_true, cond_true, Option.bind_some, Sum.elim_inl]
              exact ⟨_, rfl, by rw [seg_all h5.1 (by rw [hll]; exact h5.2)]; exact g2.sum⟩
            · have h6 : (bif decide (i ≤ 0) then (bif decide (j ≥ ((Tr.node r0 e0 l u).size : Int)) then some (Sum.inl n1.sum) else some (Sum.inr ())) else some (Sum.inr () : Sum A Unit)) = some (Sum.inr ()) := by
                by_cases h7 : i ≤ 0
                · have h8 : ¬ j ≥ ((Tr.node r0 e0 l u).size : Int) := fun h => h5 ⟨h7, h⟩
                  simp only [h7, h8, decide_true, decide_false, cond_true, cond_false]
                · simp only [h7, decide_false, cond_false]
              rw [h6]
              obtain ⟨rfl, he, hl, hu, hlk⟩ := g2.node rfl
              obtain ⟨n2, g3, g4⟩ := get_ok ok hP hl
              have hln : (Tr.node r e0 l u).toList = l.toList ++ e0 :: u.toList := rfl
              rw [hln] at hG
              rw [hsz] at hn hN b1 b2 h2
              obtain ⟨cl, d1, d2⟩ := between_ok ok hP n i j (by omega) hl (fun x hx => hG x (List.mem_append_left _ hx)) (by omega) (by omega) (by omega) (by omega) (by omega)
              obtain ⟨cu, f1, f2⟩ := between_ok ok hP n (i - (l.size : Int) - 1) (j - (l.size : Int) - 1) (by omega) hu (fun x hx => hG x (by simp [hx])) (by omega) (by omega) (by omega) (by omega) (by omega)
              have w1 : w64 (w64 (i - (l.size : Int)) - 1) = i - (l.size : Int) - 1 := by
                rw [w64_id (x := i - (l.size : Int)) (by omega) (by omega), w64_id (by omega) (by omega)]
              have w2 : w64 (w64 (j - (l.size : Int)) - 1) = j - (l.size : Int) - 1 := by
                rw [w64_id (x := j - (l.size : Int)) (by omega) (by omega), w64_id (by omega) (by omega)]
              simp only [Option.bind_some, Sum.elim_inr, g3, d1, g4.size, w1, w2, f1]
              have hsl := (seg_sub l.toList i j)
              have hsu := (seg_sub u.toList (i - (l.size : Int) - 1) (j - (l.size : Int) - 1))
              have hl1 := hsl.length_le
              have hl2 := hsu.length_le
              rw [Tr.len_toList] at hl1 hl2
              rw [hln, seg_node, Tr.len_toList]
              have hGl : ∀ x ∈ seg l.toList i j, G x := fun x hx => hG x (List.mem_append_left _ (hsl.subset hx))
              have hGu : ∀ x ∈ seg u.toList (i - (l.size : Int) - 1) (j - (l.size : Int) - 1), G x := fun x hx => hG x (by simp [hsu.subset hx])
              by_cases h7 : i ≤ (l.size : Int) ∧ j > (l.size : Int)
              · rw [if_pos h7]
                obtain ⟨s, s1, s2⟩ := ok.sum n1.e (hG _ (by rw [he]; simp))
                rw [he] at s2
                obtain ⟨x, x1, x2⟩ := ok.plus d2 s2 (fun y hy => by
                  rcases List.mem_append.1 hy with hy | hy
                  · exact hGl y hy
                  · simp at hy; subst hy; exact hG y (by simp)) (by simp; omega)
                obtain ⟨z, z1, z2⟩ := ok.plus x2 f2 (fun y hy => by
                  simp only [List.mem_append, List.mem_singleton] at hy
                  rcases hy with (hy | rfl) | hy
                  · exact hGl y hy
                  · exact hG y (by simp)
                  · exact hGu y hy) (by simp; omega)
                refine ⟨z, ?_, by simpa using z2⟩
                simp only [h7.1, h7.2, decide_true, cond_true, s1, Option.bind_some, x1, z1]
              · rw [if_neg h7, List.nil_append]
                obtain ⟨z, z1, z2⟩ := ok.plus d2 f2 (fun y hy => by
                  rcases List.mem_append.1 hy with hy | hy
                  · exact hGl y hy
                  · exact hGu y hy) (by simp; omega)
                refine ⟨z, ?_, z2⟩
                by_cases h8 : i ≤ (l.size : Int)
                · have h9 : ¬ j > (l.size : Int) := fun h => h7 ⟨h8, h⟩
                  simp only [h8, h9, decide_true, decide_false, cond_true, cond_false, Option.bind_some, z1]
                · simp only [h8, decide_false, cond_false, Option.bind_some, z1]
/-! ### the grove -/
/-- A grove in order. -/
structure Gr (S : A → List E → Prop) (lt : E → E → Prop) (G : E → Prop) (p : PN E A) (r : TRef) (l : List E) (c : Int) (B : Nat) : Prop where
  ex : ∃ t, PW p t.refs B ∧ Rep S p r t ∧ t.toList = l
  sorted : InOrd lt l
  good : ∀ x ∈ l, G x
  cap : p.cap = c
theorem Gr.new (c : Int) (B : Nat) (hB : B < 4294967295) : Gr S lt G (⟨[], [], c, 0, 0⟩ : PN E A) zTRef [] c B :=
  ⟨⟨.nil, PW.new c B hB, rfl, rfl⟩, List.Pairwise.nil, by simp, rfl⟩
theorem Gr.put (ok : OpsOk O k N G S lt) (hk : N ≤ k) {p : PN E A} {r : TRef} {l : List E} {c : Int} {B : Nat} (h : Gr S lt G p r l c B) (e : E) (hG : G e) (hB : B + 1 < 4294967295) (hN : l.length + 1 < N) :
    ∃ a m b, Cut lt e l a m b ∧ ((m = [] ∧ (l.length : Int) = c ∧ Tree_Put.f O k p r e = some (false, r, p)) ∨
      (∃ r' p', (m = [] → (l.length : Int) ≠ c) ∧ Tree_Put.f O k p r e = some (true, r', p') ∧ Gr S lt G p' r' (a ++ e :: b) c (B + 1))) := by
  obtain ⟨t, hP, hr, rfl⟩ := h.ex
  have hlen : t.refs.length = t.toList.length := by rw [Tr.len_refs, Tr.len_toList]
  have hll := Tr.len_toList t
  obtain ⟨a, m, b, hcut, hres⟩ := put_ok ok hk hP hB e hG k (by omega) hr hP.ld h.sorted h.good (by omega)
  refine ⟨a, m, b, hcut, ?_⟩
  unfold Tree_Put.f Tree_put.f
  rcases hres with ⟨h1, h2, rr, h3⟩ | ⟨r', p', t', F, h1, h2, h3, h4, h5⟩
  · exact .inl ⟨h1, by rw [← hlen, h2, h.cap], by rw [h3]; rfl⟩
  · refine .inr ⟨r', p', fun hm => by rw [← hlen, ← h.cap]; exact h1 hm, by rw [h3]; rfl, ⟨t', h5.pw.perm h5.refs.symm, h5.rep, h4⟩, hcut.put ok h.sorted, fun x hx => ?_, h5.cap.trans h.cap⟩
    have h8 : ∀ y, y ∈ a ∨ y ∈ b → y ∈ t.toList := fun y hy => by rw [hcut.eq]; rcases hy with hy | hy <;> simp [hy]
    simp only [List.mem_append, List.mem_cons] at hx
    rcases hx with hx | rfl | hx
    · exact h.good x (h8 x (.inl hx))
    · exact hG
    · exact h.good x (h8 x (.inr hx))
theorem Gr.len (ok : OpsOk O k N G S lt) {p : PN E A} {r : TRef} {l : List E} {c : Int} {B : Nat} (h : Gr S lt G p r l c B) : Tree_Len.f O k p r = some (l.length : Int) := by
  obtain ⟨t, hP, hr, rfl⟩ := h.ex
  obtain ⟨n, g1, g2⟩ := get_ok ok hP hr
  unfold Tree_Len.f
  rw [g1]; simp only [Option.bind_some, g2.size, Tr.len_toList]
theorem Gr.find (ok : OpsOk O k N G S lt) (hk : N ≤ k) {p : PN E A} {r : TRef} {l : List E} {c : Int} {B : Nat} (h : Gr S lt G p r l c B) (e : E) (hN : l.length < N) :
    ∃ a m b, Cut lt e l a m b ∧ Tree_Find.f O k p r e = some (match m with | y :: _ => (y, true) | [] => (O.zE, false)) := by
  obtain ⟨t, hP, hr, rfl⟩ := h.ex
  have hll := Tr.len_toList t
  obtain ⟨a, m, b, hcut, hres⟩ := find_ok ok hP e k (by omega) hr h.sorted
  refine ⟨a, m, b, hcut, ?_⟩
  unfold Tree_Find.f
  rw [hres]
  cases m <;> rfl
theorem Gr.rank (ok : OpsOk O k N G S lt) (hk : N ≤ k) {p : PN E A} {r : TRef} {l : List E} {c : Int} {B : Nat} (h : Gr S lt G p r l c B) (e : E) (hN : l.length < N) :
    ∃ a m b, Cut lt e l a m b ∧ Tree_Rank.f O k p r e = some (a.length : Int) := by
  obtain ⟨t, hP, hr, rfl⟩ := h.ex
  have hbig := ok.big
  have hll := Tr.len_toList t
  obtain ⟨a, m, b, hcut, hres⟩ := rank_ok ok hP e k 0 (by omega) hr h.sorted (by omega)
  refine ⟨a, m, b, hcut, ?_⟩
  unfold Tree_Rank.f
  have : Tree_Rank.l0 O k p e k (0, r) = some ((0 + a.length : Nat) : Int) := hres
  rw [this, Nat.zero_add]; rfl
theorem Gr.between (ok : OpsOk O k N G S lt) (hk : N ≤ k) {p : PN E A} {r : TRef} {l : List E} {c : Int} {B : Nat} (h : Gr S lt G p r l c B) (i j : Int) (hN : l.length < N) :
    ∃ s, Tree_Between.f O k p r i j = some s ∧ S s (seg l i j) := by
  have hlen := h.len ok
  obtain ⟨t, hP, hr, rfl⟩ := h.ex
  have hbig := ok.big
  have hll := Tr.len_toList t
  unfold Tree_Between.f
  rw [hlen]
  simp only [Option.bind_some]
  have hg : ∀ x : Int, gmin (gmax x 0) (t.toList.length : Int) = min (max x 0) (t.toList.length : Int) := fun x => by unfold gmin gmax; split <;> split <;> omega
  rw [hg, hg]
  obtain ⟨s, s1, s2⟩ := between_ok ok hP k (min (max i 0) (t.toList.length : Int)) (min (max j 0) (t.toList.length : Int)) (by omega) hr h.good (by omega) (by omega) (by omega) (by omega) (by omega)
  refine ⟨s, by unfold Tree_between.f; rw [s1]; rfl, ?_⟩
  have : seg t.toList (min (max i 0) (t.toList.length : Int)) (min (max j 0) (t.toList.length : Int)) = seg t.toList i j := by
    unfold seg
    have e1 : t.toList.take (min (max j 0) (t.toList.length : Int)).toNat = t.toList.take j.toNat := by
      by_cases hj : j ≤ t.toList.length
      · rw [show (min (max j 0) (t.toList.length : Int)).toNat = j.toNat by omega]
      · rw [List.take_of_length_le (by omega), List.take_of_length_le (by omega)]
    rw [e1]
    by_cases hi : i ≤ t.toList.length
    · rw [show (min (max i 0) (t.toList.length : Int)).toNat = i.toNat by omega]
    · rw [List.drop_eq_nil_of_le (by rw [List.length_take]; omega), List.drop_eq_nil_of_le (by rw [List.length_take]; omega)]
  rw [← this]; exact s2
end
end Go.Proofs.Ythcehagablploaa

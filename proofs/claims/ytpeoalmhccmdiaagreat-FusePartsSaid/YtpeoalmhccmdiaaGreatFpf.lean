/- My texts that the proof of FuseParts rests on, part 6: a calculus of walks, the walks, and the plain law. -/
import Derived.Test.YtpeoalmhccmdiaaGreatFpe
set_option linter.unusedVariables false
set_option linter.unusedSimpArgs false
namespace Go.Proofs.YtpeoalmhccmdiaaGreat
open Go Go.Proofs.YtpeoalmhccmdiaaGreat.Sx
section
variable {E A : Type} {O : Ops E A} {k N : Nat} {G : E → Prop} {S : A → List E → Prop} {lt : E → E → Prop}
theorem PW.ne0 {p : PN E A} {L : List TRef} {B : Nat} (hP : PW p L B) {r : TRef} {n : TNode E A} (h : look p r = some n) : (r.gen == 0) = false := by
  have := hP.gen_ne (hP.mem h); simpa using this
theorem find_ok (ok : OpsOk O k N G S lt) {p : PN E A} {L : List TRef} {B : Nat} (hP : PW p L B) (e : E) : ∀ (n : Nat) {r : TRef} {t : Tr E}, t.size < n → Rep S p r t → InOrd lt t.toList →
    ∃ a m b, Cut lt e t.toList a m b ∧ Tree_Find.l0 O k p e n r = some (match m with | y :: _ => Sum.inl (y, true) | [] => Sum.inr ())
  | 0, _, _, h, _, _ => by omega
  | n + 1, r, .nil, hn, hr, hs => by
    refine ⟨[], [], [], Cut.nil e, ?_⟩
    have e0 : (r.gen != 0) = false := by simpa using hr.nil_iff.2 rfl
    simp only [Tree_Find.l0, e0, cond_false]
  | n + 1, r, .node r0 e0 l u, hn, hr, hs => by
    obtain ⟨n1, g1, g2⟩ := get_ok ok hP hr
    obtain ⟨rfl, he, hl, hu, hlk⟩ := g2.node rfl
    have hg : (r.gen != 0) = true := by have := hP.ne0 hlk; rw [bne, this]; rfl
    obtain ⟨c, c1, c2, c3⟩ := ok.cmp e n1.e
    have hsz : (Tr.node r e0 l u).size = l.size + 1 + u.size := rfl
    have hln : (Tr.node r e0 l u).toList = l.toList ++ e0 :: u.toList := rfl
    simp only [Tree_Find.l0, hg, cond_true, g1, Option.bind_some, c1]
    rw [he] at c2 c3
    rw [hln] at hs ⊢
    by_cases h1 : c < 0
    · have h0 : (c == 0) = false := by simp; omega
      simp only [h1, h0, decide_true, cond_true, cond_false]
      obtain ⟨a, m, b, hcut, hres⟩ := find_ok ok hP e n (by omega) hl (sorted_l hs)
      exact ⟨a, m, b ++ e0 :: u.toList, hcut.left ok hs (c2.1 h1), hres⟩
    · by_cases h2 : c > 0
      · have h0 : (c == 0) = false := by simp; omega
        simp only [h1, h0, decide_false, cond_false]
        obtain ⟨a, m, b, hcut, hres⟩ := find_ok ok hP e n (by omega) hu (sorted_u hs)
        exact ⟨l.toList ++ e0 :: a, m, b, hcut.right ok hs (c3.1 h2), hres⟩
      · have h0 : (c == 0) = true := by simp; omega
        simp only [h0, cond_true]
        exact ⟨l.toList, [e0], u.toList, Cut.mid ok hs (fun h => h1 (c2.2 h)) (fun h => h2 (c3.2 h)), by rw [he]⟩
theorem rank_ok (ok : OpsOk O k N G S lt) {p : PN E A} {L : List TRef} {B : Nat} (hP : PW p L B) (e : E) : ∀ (n : Nat) {r : TRef} {t : Tr E} (s : Nat), t.size < n → Rep S p r t → InOrd lt t.toList → s + t.size < 4294967296 →
    ∃ a m b, Cut lt e t.toList a m b ∧ Tree_Rank.l0 O k p e n ((s : Int), r) = some (((s + a.length : Nat)) : Int)
  | 0, _, _, _, h, _, _, _ => by omega
  | n + 1, r, .nil, s, hn, hr, hs, hb => by
    refine ⟨[], [], [], Cut.nil e, ?_⟩
    have e0 : (r.gen != 0) = false := by simpa using hr.nil_iff.2 rfl
    simp only [Tree_Rank.l0, e0, cond_false, List.length_nil, Nat.add_zero]
  | n + 1, r, .node r0 e0 l u, s, hn, hr, hs, hb => by
    obtain ⟨n1, g1, g2⟩ := get_ok ok hP hr
    obtain ⟨rfl, he, hl, hu, hlk⟩ := g2.node rfl
    have hg : (r.gen != 0) = true := by have := hP.ne0 hlk; rw [bne, this]; rfl
    obtain ⟨c, c1, c2, c3⟩ := ok.cmp e n1.e
    have hsz : (Tr.node r e0 l u).size = l.size + 1 + u.size := rfl
    have hln : (Tr.node r e0 l u).toList = l.toList ++ e0 :: u.toList := rfl
    have hw := weight_ok ok hP hl (by omega)
    simp only [Tree_Rank.l0, hg, cond_true, g1, Option.bind_some, c1]
    rw [he] at c2 c3
    rw [hln] at hs ⊢
    by_cases h2 : c > 0
    · have h0 : decide (c ≤ 0) = false := by simp; omega
      simp only [h0, cond_false, hw, Option.bind_some]
      rw [w64_id (by simp only [Tr.w]; omega) (by simp only [Tr.w]; omega), show (s : Int) + ((l.w : Nat) : Int) = ((s + l.w : Nat) : Int) by omega]
      obtain ⟨a, m, b, hcut, hres⟩ := rank_ok ok hP e n (s + l.w) (by omega) hu (sorted_u hs) (by simp only [Tr.w]; omega)
      refine ⟨l.toList ++ e0 :: a, m, b, hcut.right ok hs (c3.1 h2), ?_⟩
      rw [hres]
      simp only [List.length_append, List.length_cons, Tr.len_toList, Tr.w]
      congr 2; omega
    · have h0 : decide (c ≤ 0) = true := by simp; omega
      simp only [h0, cond_true]
      by_cases h1 : c < 0
      · obtain ⟨a, m, b, hcut, hres⟩ := rank_ok ok hP e n s (by omega) hl (sorted_l hs) (by omega)
        exact ⟨a, m, b ++ e0 :: u.toList, hcut.left ok hs (c2.1 h1), hres⟩
      · have m1 : ¬ lt e e0 := fun h => h1 (c2.2 h)
        have m2 : ¬ lt e0 e := fun h => h2 (c3.2 h)
        obtain ⟨a, m, b, hcut, hres⟩ := rank_ok ok hP e n s (by omega) hl (sorted_l hs) (by omega)
        refine ⟨l.toList, [e0], u.toList, Cut.mid ok hs m1 m2, ?_⟩
        have hmid := Cut.mid ok hs m1 m2
        have hmb : m ++ b = [] := by
          cases hmb : m ++ b with
          | nil => rfl
          | cons x q =>
            have hx : x ∈ l.toList := by rw [hcut.eq, hmb]; simp
            have h3 := hmid.la x hx
            cases m with
            | nil =>
              have hbx : b = x :: q := by simpa using hmb
              exact absurd (ok.trans h3 (hcut.lb x (by rw [hbx]; simp))) (ok.irrefl x)
            | cons y ys =>
              rcases hcut.lm with h | ⟨y', h, h4, h5⟩
              · cases h
              · cases h
                have : y = x := by simpa using (List.cons.inj hmb).1
                exact absurd h3 (this ▸ h5)
        rw [hres, hcut.eq, hmb, List.append_nil]
def seg {α : Type} (l : List α) (i j : Int) : List α := (l.take j.toNat).drop i.toNat
theorem seg_nil {α : Type} {l : List α} {i j : Int} (h : i ≥ j ∨ i ≥ l.length ∨ j ≤ 0 ∨ l.length = 0) : seg l i j = [] := by
  unfold seg
  apply List.drop_eq_nil_of_le
  rw [List.length_take]
  omega
theorem seg_all {α : Type} {l : List α} {i j : Int} (h1 : i ≤ 0) (h2 : j ≥ l.length) : seg l i j = l := by
  unfold seg
  rw [List.take_of_length_le (by omega), show i.toNat = 0 by omega, List.drop_zero]
theorem seg_node {α : Type} (l u : List α) (e : α) (i j : Int) : seg (l ++ e :: u) i j = seg l i j ++ ((if i ≤ l.length ∧ j > l.length then [e] else []) ++ seg u (i - l.length - 1) (j - l.length - 1)) := by
  by_cases hj : j > l.length
  · have h1 : (l ++ e :: u).take j.toNat = l ++ e :: u.take (j - l.length - 1).toNat := by
      rw [List.take_append, List.take_of_length_le (by omega), show j.toNat - l.length = (j - l.length - 1).toNat + 1 by omega, List.take_succ_cons]
    have h2 : seg l i j = l.drop i.toNat := by unfold seg; rw [List.take_of_length_le (by omega)]
    unfold seg at h2 ⊢
    rw [h1, h2, List.drop_append]
    congr 1
    by_cases hi : i ≤ l.length
    · rw [if_pos ⟨hi, hj⟩, show i.toNat - l.length = 0 by omega, show (i - (l.length : Int) - 1).toNat = 0 by omega]; rfl
    · rw [if_neg (fun h => hi h.1), show i.toNat - l.length = (i - (l.length : Int) - 1).toNat + 1 by omega]; rfl
  · rw [if_neg (fun h => hj h.2), seg_nil (l := u) (.inr (.inr (.inl (by omega))))]
    unfold seg
    rw [List.take_append_of_le_length (by omega)]; simp
theorem seg_sub {α : Type} (l : List α) (i j : Int) : (seg l i j).Sublist l := (List.drop_sublist _ _).trans (List.take_sublist _ _)
theorem between_ok (ok : OpsOk O k N G S lt) {p : PN E A} {L : List TRef} {B : Nat} (hP : PW p L B) : ∀ (n : Nat) {r : TRef} {t : Tr E} (i j : Int), t.size < n → Rep S p r t → (∀ x ∈ t.toList, G x) → t.size < N →
    -4611686018427387904 ≤ i - t.size → -4611686018427387904 ≤ j - t.size → i ≤ 4611686018427387904 → j ≤ 4611686018427387904 → ∃ c, Tree_between.r O k n p r i j = some c ∧ S c (seg t.toList i j)
  | 0, _, _, _, _, h, _, _, _, _, _, _, _ => by omega
  | n + 1, r, t, i, j, hn, hr, hG, hN, b1, b2, b3, b4 => by
    have hbig := ok.big
    obtain ⟨n1, g1, g2⟩ := get_ok ok hP hr
    have hll := Tr.len_toList t
    simp only [Tree_between.r, g1, Option.bind_some, g2.size]
    by_cases h1 : i ≥ j
    · simp only [h1, decide_true, cond_true, Option.bind_some, Sum.elim_inl]
      exact ⟨_, rfl, by rw [seg_nil (.inl h1)]; exact ok.zero⟩
    · simp only [h1, decide_false, cond_false]
      by_cases h2 : i ≥ (t.size : Int)
      · simp only [h2, decide_true, cond_true, Option.bind_some, Sum.elim_inl]
        exact ⟨_, rfl, by rw [seg_nil (.inr (.inl (by omega)))]; exact ok.zero⟩
      · simp only [h2, decide_false, cond_false]
        by_cases h3 : j ≤ 0
        · simp only [h3, decide_true, cond_true, Option.bind_some, Sum.elim_inl]
          exact ⟨_, rfl, by rw [seg_nil (.inr (.inr (.inl h3)))]; exact ok.zero⟩
        · simp only [h3, decide_false, cond_false]
          cases t with
          | nil => exact ⟨_, rfl, by rw [seg_nil (.inr (.inr (.inr rfl)))]; exact ok.zero⟩
          | node r0 e0 l u =>
            have hsz : (Tr.node r0 e0 l u).size = l.size + 1 + u.size := rfl
            have h4 : ((((Tr.node r0 e0 l u).size : Nat) : Int) == 0) = false := by simp; omega
            simp only [h4, cond_false, Option.bind_some, Sum.elim_inr]
            by_cases h5 : i ≤ 0 ∧ j ≥ ((Tr.node r0 e0 l u).size : Int)
            · simp only [h5.1, h5.2, decide_true, cond_true, Option.bind_some, Sum.elim_inl]
              exact ⟨_, rfl, by rw [seg_all h5.1 (by rw [hll]; exact h5.2)]; exact g2.sum⟩
            · have h6 : (bif decide (i ≤ 0) then (bif decide (j ≥ ((Tr.node r0 e0 l u).size : Int)) then some (Sum.inl n1.sum) else some (Sum.inr ())) else some (Sum.inr () : Sum A Unit)) = some (Sum.inr ()) := by
                by_cases h7 : i ≤ 0
                · have h8 : ¬ j ≥ ((Tr.node r0 e0 l u).size : Int) := fun h => h5 ⟨h7, h⟩
                  simp only [h7, h8, decide_true, decide_false, cond_true, cond_false]
                · simp only [h7, decide_false, cond_false]
              rw [h6]
              obtain ⟨rfl, he, hl, hu, hlk⟩ := g2.node rfl
              obtain ⟨n2, g3, g4⟩ := get_ok ok hP hl
              have hln : (Tr.node r e0 l u).toList = l.toList ++ e0 :: u.toList := rfl
              rw [hln] at hG
              rw [hsz] at hn hN b1 b2 h2
              obtain ⟨cl, d1, d2⟩ := between_ok ok hP n i j (by omega) hl (fun x hx => hG x (List.mem_append_left _ hx)) (by omega) (by omega) (by omega) (by omega) (by omega)
              obtain ⟨cu, f1, f2⟩ := between_ok ok hP n (i - (l.size : Int) - 1) (j - (l.size : Int) - 1) (by omega) hu (fun x hx => hG x (by simp [hx])) (by omega) (by omega) (by omega) (by omega) (by omega)
              have w1 : w64 (w64 (i - (l.size : Int)) - 1) = i - (l.size : Int) - 1 := by
                rw [w64_id (x := i - (l.size : Int)) (by omega) (by omega), w64_id (by omega) (by omega)]
              have w2 : w64 (w64 (j - (l.size : Int)) - 1) = j - (l.size : Int) - 1 := by
                rw [w64_id (x := j - (l.size : Int)) (by omega) (by omega), w64_id (by omega) (by omega)]
              simp only [Option.bind_some, Sum.elim_inr, g3, d1, g4.size, w1, w2, f1]
              have hsl := (seg_sub l.toList i j)
              have hsu := (seg_sub u.toList (i - (l.size : Int) - 1) (j - (l.size : Int) - 1))
              have hl1 := hsl.length_le
              have hl2 := hsu.length_le
              rw [Tr.len_toList] at hl1 hl2
              rw [hln, seg_node, Tr.len_toList]
              have hGl : ∀ x ∈ seg l.toList i j, G x := fun x hx => hG x (List.mem_append_left _ (hsl.subset hx))
              have hGu : ∀ x ∈ seg u.toList (i - (l.size : Int) - 1) (j - (l.size : Int) - 1), G x := fun x hx => hG x (by simp [hsu.subset hx])
              by_cases h7 : i ≤ (l.size : Int) ∧ j > (l.size : Int)
              · rw [if_pos h7]
                obtain ⟨s, s1, s2⟩ := ok.sum n1.e (hG _ (by rw [he]; simp))
                rw [he] at s2
                obtain ⟨x, x1, x2⟩ := ok.plus d2 s2 (fun y hy => by
                  rcases List.mem_append.1 hy with hy | hy
                  · exact hGl y hy
                  · simp at hy; subst hy; exact hG y (by simp)) (by simp; omega)
                obtain ⟨z, z1, z2⟩ := ok.plus x2 f2 (fun y hy => by
                  simp only [List.mem_append, List.mem_singleton] at hy
                  rcases hy with (hy | rfl) | hy
                  · exact hGl y hy
                  · exact hG y (by simp)
                  · exact hGu y hy) (by simp; omega)
                refine ⟨z, ?_, by simpa using z2⟩
                simp only [h7.1, h7.2, decide_true, cond_true, s1, Option.bind_some, x1, z1]
              · rw [if_neg h7, List.nil_append]
                obtain ⟨z, z1, z2⟩ := ok.plus d2 f2 (fun y hy => by
                  rcases List.mem_append.1 hy with hy | hy
                  · exact hGl y hy
                  · exact hGu y hy) (by simp; omega)
                refine ⟨z, ?_, z2⟩
                by_cases h8 : i ≤ (l.size : Int)
                · have h9 : ¬ j > (l.size : Int) := fun h => h7 ⟨h8, h⟩
                  simp only [h8, h9, decide_true, decide_false, cond_true, cond_false, Option.bind_some, z1]
                · simp only [h8, decide_false, cond_false, Option.bind_some, z1]
structure Gr (S : A → List E → Prop) (lt : E → E → Prop) (G : E → Prop) (p : PN E A) (r : TRef) (l : List E) (c : Int) (B : Nat) : Prop where
  ex : ∃ t, PW p t.refs B ∧ Rep S p r t ∧ t.toList = l
  sorted : InOrd lt l
  good : ∀ x ∈ l, G x
  cap : p.cap = c
theorem Gr.new (c : Int) (B : Nat) (hB : B < 4294967295) : Gr S lt G (⟨[], [], c, 0, 0⟩ : PN E A) zTRef [] c B :=
  ⟨⟨.nil, PW.new c B hB, rfl, rfl⟩, List.Pairwise.nil, by simp, rfl⟩
theorem Gr.put (ok : OpsOk O k N G S lt) (hk : N ≤ k) {p : PN E A} {r : TRef} {l : List E} {c : Int} {B : Nat} (h : Gr S lt G p r l c B) (e : E) (hG : G e) (hB : B + 1 < 4294967295) (hN : l.length + 1 < N) :
    ∃ a m b, Cut lt e l a m b ∧ ((m = [] ∧ (l.length : Int) = c ∧ Tree_Put.f O k p r e = some (false, r, p)) ∨
      (∃ r' p', (m = [] → (l.length : Int) ≠ c) ∧ Tree_Put.f O k p r e = some (true, r', p') ∧ Gr S lt G p' r' (a ++ e :: b) c (B + 1))) := by
  obtain ⟨t, hP, hr, rfl⟩ := h.ex
  have hlen : t.refs.length = t.toList.length := by rw [Tr.len_refs, Tr.len_toList]
  have hll := Tr.len_toList t
  obtain ⟨a, m, b, hcut, hres⟩ := put_ok ok hk hP hB e hG k (by omega) hr hP.ld h.sorted h.good (by omega)
  refine ⟨a, m, b, hcut, ?_⟩
  unfold Tree_Put.f Tree_put.f
  rcases hres with ⟨h1, h2, rr, h3⟩ | ⟨r', p', t', F, h1, h2, h3, h4, h5⟩
  · exact .inl ⟨h1, by rw [← hlen, h2, h.cap], by rw [h3]; rfl⟩
  · refine .inr ⟨r', p', fun hm => by rw [← hlen, ← h.cap]; exact h1 hm, by rw [h3]; rfl, ⟨t', h5.pw.perm h5.refs.symm, h5.rep, h4⟩, hcut.put ok h.sorted, fun x hx => ?_, h5.cap.trans h.cap⟩
    have h8 : ∀ y, y ∈ a ∨ y ∈ b → y ∈ t.toList := fun y hy => by rw [hcut.eq]; rcases hy with hy | hy <;> simp [hy]
    simp only [List.mem_append, List.mem_cons] at hx
    rcases hx with hx | rfl | hx
    · exact h.good x (h8 x (.inl hx))
    · exact hG
    · exact h.good x (h8 x (.inr hx))
theorem Gr.len (ok : OpsOk O k N G S lt) {p : PN E A} {r : TRef} {l : List E} {c : Int} {B : Nat} (h : Gr S lt G p r l c B) : Tree_Len.f O k p r = some (l.length : Int) := by
  obtain ⟨t, hP, hr, rfl⟩ := h.ex
  obtain ⟨n, g1, g2⟩ := get_ok ok hP hr
  unfold Tree_Len.f
  rw [g1]; simp only [Option.bind_some, g2.size, Tr.len_toList]
theorem Gr.find (ok : OpsOk O k N G S lt) (hk : N ≤ k) {p : PN E A} {r : TRef} {l : List E} {c : Int} {B : Nat} (h : Gr S lt G p r l c B) (e : E) (hN : l.length < N) :
    ∃ a m b, Cut lt e l a m b ∧ Tree_Find.f O k p r e = some (match m with | y :: _ => (y, true) | [] => (O.zE, false)) := by
  obtain ⟨t, hP, hr, rfl⟩ := h.ex
  have hll := Tr.len_toList t
  obtain ⟨a, m, b, hcut, hres⟩ := find_ok ok hP e k (by omega) hr h.sorted
  refine ⟨a, m, b, hcut, ?_⟩
  unfold Tree_Find.f
  rw [hres]
  cases m <;> rfl
theorem Gr.rank (ok : OpsOk O k N G S lt) (hk : N ≤ k) {p : PN E A} {r : TRef} {l : List E} {c : Int} {B : Nat} (h : Gr S lt G p r l c B) (e : E) (hN : l.length < N) :
    ∃ a m b, Cut lt e l a m b ∧ Tree_Rank.f O k p r e = some (a.length : Int) := by
  obtain ⟨t, hP, hr, rfl⟩ := h.ex
  have hbig := ok.big
  have hll := Tr.len_toList t
  obtain ⟨a, m, b, hcut, hres⟩ := rank_ok ok hP e k 0 (by omega) hr h.sorted (by omega)
  refine ⟨a, m, b, hcut, ?_⟩
  unfold Tree_Rank.f
  have : Tree_Rank.l0 O k p e k (0, r) = some ((0 + a.length : Nat) : Int) := hres
  rw [this, Nat.zero_add]; rfl
theorem Gr.between (ok : OpsOk O k N G S lt) (hk : N ≤ k) {p : PN E A} {r : TRef} {l : List E} {c : Int} {B : Nat} (h : Gr S lt G p r l c B) (i j : Int) (hN : l.length < N) :
    ∃ s, Tree_Between.f O k p r i j = some s ∧ S s (seg l i j) := by
  have hlen := h.len ok
  obtain ⟨t, hP, hr, rfl⟩ := h.ex
  have hbig := ok.big
  have hll := Tr.len_toList t
  unfold Tree_Between.f
  rw [hlen]
  simp only [Option.bind_some]
  have hg : ∀ x : Int, gmin (gmax x 0) (t.toList.length : Int) = min (max x 0) (t.toList.length : Int) := fun x => by unfold gmin gmax; split <;> split <;> omega
  rw [hg, hg]
  obtain ⟨s, s1, s2⟩ := between_ok ok hP k (min (max i 0) (t.toList.length : Int)) (min (max j 0) (t.toList.length : Int)) (by omega) hr h.good (by omega) (by omega) (by omega) (by omega) (by omega)
  refine ⟨s, by unfold Tree_between.f; rw [s1]; rfl, ?_⟩
  have : seg t.toList (min (max i 0) (t.toList.length : Int)) (min (max j 0) (t.toList.length : Int)) = seg t.toList i j := by
    unfold seg
    have e1 : t.toList.take (min (max j 0) (t.toList.length : Int)).toNat = t.toList.take j.toNat := by
      by_cases hj : j ≤ t.toList.length
      · rw [show (min (max j 0) (t.toList.length : Int)).toNat = j.toNat by omega]
      · rw [List.take_of_length_le (by omega), List.take_of_length_le (by omega)]
    rw [e1]
    by_cases hi : i ≤ t.toList.length
    · rw [show (min (max i 0) (t.toList.length : Int)).toNat = i.toNat by omega]
    · rw [List.drop_eq_nil_of_le (by rw [List.length_take]; omega), List.drop_eq_nil_of_le (by rw [List.length_take]; omega)]
  rw [← this]; exact s2
end
end Go.Proofs.YtpeoalmhccmdiaaGreat
namespace Go.Proofs.YtpeoalmhccmdiaaGreat
open Go Go.Proofs.YtpeoalmhccmdiaaGreat.Sx
section
variable {E A : Type} {O : Ops E A} {k N : Nat} {G : E → Prop} {S : A → List E → Prop} {lt : E → E → Prop}
structure PredOk (N : Nat) (G : E → Prop) (S : A → List E → Prop) (P : List E → List E → Bool) (fn : A → A → Option Bool) : Prop where
  run : ∀ {a b l m}, S a l → S b m → (∀ e ∈ l ++ m, G e) → (l ++ m).length < N → fn a b = some (P l m)
  nil : ∀ l, P l [] = false
  app : ∀ l m n, P l (m ++ n) = (P l m || P (l ++ m) n)
def firstF (P : List E → List E → Bool) : List E → List E → Int → Int
  | _, [], _ => -1
  | pre, e :: u, s => if s ≤ 0 ∧ P pre [e] = true then 0 else if firstF P (pre ++ [e]) u (s - 1) ≥ 0 then firstF P (pre ++ [e]) u (s - 1) + 1 else -1
def lastF (P : List E → List E → Bool) : List E → List E → Int → Int
  | _, [], _ => -1
  | pre, e :: u, s => if lastF P (pre ++ [e]) u (s - 1) ≥ 0 then lastF P (pre ++ [e]) u (s - 1) + 1 else if s > 0 ∧ P pre [e] = true then 0 else -1
variable {P : List E → List E → Bool} {fn : A → A → Option Bool}
theorem firstF_cons (pre : List E) (e : E) (u : List E) (s : Int) : firstF P pre (e :: u) s = if s ≤ 0 ∧ P pre [e] = true then 0 else if firstF P (pre ++ [e]) u (s - 1) ≥ 0 then firstF P (pre ++ [e]) u (s - 1) + 1 else -1 := by rw [firstF]
theorem lastF_cons (pre : List E) (e : E) (u : List E) (s : Int) : lastF P pre (e :: u) s = if lastF P (pre ++ [e]) u (s - 1) ≥ 0 then lastF P (pre ++ [e]) u (s - 1) + 1 else if s > 0 ∧ P pre [e] = true then 0 else -1 := by rw [lastF]
theorem firstF_bound : ∀ (pre l : List E) (s : Int), firstF P pre l s = -1 ∨ (0 ≤ firstF P pre l s ∧ firstF P pre l s < l.length)
  | pre, [], s => .inl rfl
  | pre, e :: u, s => by
    rw [firstF]
    have := firstF_bound (pre ++ [e]) u (s - 1)
    simp only [List.length_cons]
    split
    · omega
    · split <;> omega
theorem lastF_bound : ∀ (pre l : List E) (s : Int), lastF P pre l s = -1 ∨ (0 ≤ lastF P pre l s ∧ lastF P pre l s < l.length)
  | pre, [], s => .inl rfl
  | pre, e :: u, s => by
    rw [lastF]
    have := lastF_bound (pre ++ [e]) u (s - 1)
    simp only [List.length_cons]
    split
    · omega
    · split <;> omega
theorem firstF_append : ∀ (pre l m : List E) (s : Int), firstF P pre (l ++ m) s = if firstF P pre l s ≥ 0 then firstF P pre l s else if firstF P (pre ++ l) m (s - l.length) ≥ 0 then firstF P (pre ++ l) m (s - l.length) + l.length else -1
  | pre, [], m, s => by
    have h := firstF_bound (P := P) pre m s
    simp only [firstF, List.nil_append, List.append_nil, List.length_nil, Int.natCast_zero, Int.sub_zero, Int.add_zero]
    rw [if_neg (by omega)]
    split <;> omega
  | pre, e :: u, m, s => by
    rw [List.cons_append, firstF, firstF, firstF_append (pre ++ [e]) u m (s - 1)]
    have e1 : pre ++ [e] ++ u = pre ++ e :: u := by simp
    have e2 : s - 1 - (u.length : Int) = s - ((e :: u).length : Int) := by simp; omega
    have e3 : ((e :: u).length : Int) = u.length + 1 := by simp
    rw [e1, e2, e3]
    have h := firstF_bound (P := P) (pre ++ [e]) u (s - 1)
    have h' := firstF_bound (P := P) (pre ++ e :: u) m (s - (u.length + 1))
    by_cases h1 : s ≤ 0 ∧ P pre [e] = true
    · simp [h1]
    · rw [if_neg h1, if_neg h1]
      generalize firstF P (pre ++ [e]) u (s - 1) = x at h ⊢
      generalize firstF P (pre ++ e :: u) m (s - (u.length + 1)) = y at h' ⊢
      repeat' split
      all_goals omega
theorem lastF_append : ∀ (pre l m : List E) (s : Int), lastF P pre (l ++ m) s = if lastF P (pre ++ l) m (s - l.length) ≥ 0 then lastF P (pre ++ l) m (s - l.length) + l.length else lastF P pre l s
  | pre, [], m, s => by
    have h := lastF_bound (P := P) pre m s
    simp only [lastF, List.nil_append, List.append_nil, List.length_nil, Int.natCast_zero, Int.sub_zero, Int.add_zero]
    split <;> omega
  | pre, e :: u, m, s => by
    rw [List.cons_append, lastF, lastF, lastF_append (pre ++ [e]) u m (s - 1)]
    have e1 : pre ++ [e] ++ u = pre ++ e :: u := by simp
    have e2 : s - 1 - (u.length : Int) = s - ((e :: u).length : Int) := by simp; omega
    have e3 : ((e :: u).length : Int) = u.length + 1 := by simp
    rw [e1, e2, e3]
    have h := lastF_bound (P := P) (pre ++ [e]) u (s - 1)
    have h' := lastF_bound (P := P) (pre ++ e :: u) m (s - (u.length + 1))
    by_cases h3 : lastF P (pre ++ e :: u) m (s - (u.length + 1)) ≥ 0
    · rw [if_pos h3, if_pos h3, if_pos (by omega)]; omega
    · rw [if_neg h3, if_neg h3]
theorem firstF_none (hp : PredOk N G S P fn) : ∀ (pre l : List E) (s : Int), P pre l = false → firstF P pre l s = -1
  | pre, [], s, _ => rfl
  | pre, e :: u, s, h => by
    have h1 := hp.app pre [e] u
    rw [show [e] ++ u = e :: u from rfl, h] at h1
    have h2 := Bool.or_eq_false_iff.1 h1.symm
    rw [firstF, firstF_none hp (pre ++ [e]) u (s - 1) h2.2, h2.1]
    simp
theorem lastF_none (hp : PredOk N G S P fn) : ∀ (pre l : List E) (s : Int), P pre l = false → lastF P pre l s = -1
  | pre, [], s, _ => rfl
  | pre, e :: u, s, h => by
    have h1 := hp.app pre [e] u
    rw [show [e] ++ u = e :: u from rfl, h] at h1
    have h2 := Bool.or_eq_false_iff.1 h1.symm
    rw [lastF, lastF_none hp (pre ++ [e]) u (s - 1) h2.2, h2.1]
    simp
theorem firstF_skip : ∀ (pre l : List E) (s : Int), s ≥ l.length → firstF P pre l s = -1
  | pre, [], s, _ => rfl
  | pre, e :: u, s, h => by
    simp only [List.length_cons] at h
    rw [firstF, firstF_skip (pre ++ [e]) u (s - 1) (by omega), if_neg (by omega)]; simp
theorem lastF_lim : ∀ (pre l : List E) (s : Int), s ≤ 0 → lastF P pre l s = -1
  | pre, [], s, _ => rfl
  | pre, e :: u, s, h => by
    rw [lastF, lastF_lim (pre ++ [e]) u (s - 1) (by omega), if_neg (by omega), if_neg (by omega)]
theorem firstF_low : ∀ (pre l : List E) (s s' : Int), s ≤ 0 → s' ≤ 0 → firstF P pre l s = firstF P pre l s'
  | pre, [], s, s', _, _ => rfl
  | pre, e :: u, s, s', h, h' => by
    rw [firstF, firstF, firstF_low (pre ++ [e]) u (s - 1) (s' - 1) (by omega) (by omega)]
    simp only [h, h', true_and]
theorem lastF_high : ∀ (pre l : List E) (s s' : Int), s ≥ l.length → s' ≥ l.length → lastF P pre l s = lastF P pre l s'
  | pre, [], s, s', _, _ => rfl
  | pre, e :: u, s, s', h, h' => by
    simp only [List.length_cons] at h h'
    rw [lastF, lastF, lastF_high (pre ++ [e]) u (s - 1) (s' - 1) (by omega) (by omega)]
    have h1 : s > 0 := by omega
    have h2 : s' > 0 := by omega
    simp only [h1, h2, true_and]
theorem firstF_clamp (l : List E) (s : Int) : firstF P [] l (min (max s 0) (l.length : Int)) = firstF P [] l s := by
  by_cases h : s ≤ 0
  · exact firstF_low _ _ _ _ (by omega) h
  · by_cases h' : s ≤ l.length
    · rw [show min (max s 0) (l.length : Int) = s by omega]
    · rw [firstF_skip _ _ _ (by omega), firstF_skip _ _ _ (by omega)]
theorem lastF_clamp (l : List E) (s : Int) : lastF P [] l (min (max s 0) (l.length : Int)) = lastF P [] l s := by
  by_cases h : s ≤ 0
  · rw [lastF_lim _ _ _ (by omega), lastF_lim _ _ _ h]
  · by_cases h' : s ≤ l.length
    · rw [show min (max s 0) (l.length : Int) = s by omega]
    · exact lastF_high _ _ _ _ (by omega) (by omega)
theorem first_ok (ok : OpsOk O k N G S lt) (hp : PredOk N G S P fn) {p : PN E A} {L : List TRef} {B : Nat} (hP : PW p L B) : ∀ (n : Nat) {r : TRef} {t : Tr E} (pre : List E) (s : Int) (acc : A), t.size < n → Rep S p r t → S acc pre → (∀ x ∈ pre ++ t.toList, G x) → (pre ++ t.toList).length < N →
    -4611686018427387904 ≤ s - t.size → s ≤ 4611686018427387904 → ∃ c, Tree_first.r O k n p r s acc fn = some (firstF P pre t.toList s, c) ∧ (firstF P pre t.toList s < 0 → S c (pre ++ t.toList))
  | 0, _, _, _, _, _, h, _, _, _, _, _, _ => by omega
  | n + 1, r, t, pre, s, acc, hn, hr, ha, hG, hN, b1, b2 => by
    have hbig := ok.big
    obtain ⟨n1, g1, g2⟩ := get_ok ok hP hr
    have hll := Tr.len_toList t
    obtain ⟨w, w1, w2⟩ := ok.plus ha g2.sum hG hN
    simp only [Tree_first.r, g1, Option.bind_some, g2.size, w1]
    by_cases h0 : t.size = 0
    · have e0 : ((t.size : Int) == 0) = true := by simp; exact h0
      have : t.toList = [] := List.eq_nil_of_length_eq_zero (by omega)
      simp only [e0, cond_true, Option.bind_some, Sum.elim_inl]
      have hf : firstF P pre t.toList s = -1 := by rw [this]; rfl
      rw [hf]; exact ⟨w, rfl, fun _ => w2⟩
    · have e0 : ((t.size : Int) == 0) = false := by simp; exact h0
      simp only [e0, cond_false]
      by_cases h1 : s ≥ (t.size : Int)
      · simp only [h1, decide_true, cond_true, Option.bind_some, Sum.elim_inl]
        rw [firstF_skip pre t.toList s (by omega)]; exact ⟨w, rfl, fun _ => w2⟩
      · simp only [h1, decide_false, cond_false, hp.run ha g2.sum hG hN, Option.bind_some]
        by_cases h2 : s ≤ 0 ∧ P pre t.toList = false
        · simp only [h2.1, h2.2, decide_true, cond_true, Bool.not_false, Option.bind_some, Sum.elim_inl]
          rw [firstF_none hp pre t.toList s h2.2]; exact ⟨w, rfl, fun _ => w2⟩
        · have h3 : (bif decide (s ≤ 0) then (bif !P pre t.toList then some (Sum.inl (-1, w)) else some (Sum.inr ())) else some (Sum.inr () : Sum (Int × A) Unit)) = some (Sum.inr ()) := by
            by_cases h4 : s ≤ 0
            · have h5 : P pre t.toList = true := by
                cases h6 : P pre t.toList
                · exact absurd ⟨h4, h6⟩ h2
                · rfl
              simp only [h4, h5, decide_true, cond_true, Bool.not_true, cond_false]
            · simp only [h4, decide_false, cond_false]
          rw [h3]
          cases t with
          | nil => exact absurd rfl h0
          | node r0 e0' l u =>
            obtain ⟨rfl, he, hl, hu, hlk⟩ := g2.node rfl
            obtain ⟨n2, g3, g4⟩ := get_ok ok hP hl
            have hsz : (Tr.node r e0' l u).size = l.size + 1 + u.size := rfl
            have hln : (Tr.node r e0' l u).toList = l.toList ++ e0' :: u.toList := rfl
            have hlu := Tr.len_toList u
            have hlL := Tr.len_toList l
            rw [hsz] at hn b1
            rw [hln] at hG hN ⊢
            simp only [List.length_append, List.length_cons] at hN
            have sub1 : ∀ x ∈ pre ++ l.toList, G x := fun x hx => hG x (by simp at hx ⊢; rcases hx with hx | hx <;> simp [hx])
            obtain ⟨c1, d1, d2⟩ := first_ok ok hp hP n pre s acc (by omega) hl ha sub1 (by simp; omega) (by omega) b2
            simp only [Option.bind_some, Sum.elim_inr, g3, d1]
            have hb := firstF_bound (P := P) pre l.toList s
            have happ := firstF_append (P := P) pre l.toList (e0' :: u.toList) s
            by_cases h4 : firstF P pre l.toList s ≥ 0
            · simp only [h4, decide_true, cond_true]
              rw [if_pos h4] at happ
              exact ⟨c1, by rw [happ], fun h => by omega⟩
            · simp only [h4, decide_false, cond_false]
              rw [if_neg h4] at happ
              have hc1 := d2 (by omega)
              obtain ⟨se, s1, s2⟩ := ok.sum n1.e (hG _ (by rw [he]; simp))
              rw [he] at s2
              have hGe : ∀ x ∈ (pre ++ l.toList) ++ [e0'], G x := fun x hx => hG x (by simp at hx ⊢; rcases hx with hx | hx | hx <;> simp [hx])
              have hNe : ((pre ++ l.toList) ++ [e0']).length < N := by simp; omega
              have hfn := hp.run hc1 s2 hGe hNe
              obtain ⟨c2, f1, f2⟩ := ok.plus hc1 s2 hGe hNe
              simp only [s1, Option.bind_some, g4.size, hfn, f1]
              have hq := firstF_cons (P := P) (pre ++ l.toList) e0' u.toList (s - l.toList.length)
              generalize firstF P (pre ++ l.toList) (e0' :: u.toList) (s - l.toList.length) = q at happ hq
              by_cases h5 : s ≤ (l.size : Int) ∧ P (pre ++ l.toList) [e0'] = true
              · simp only [h5.1, h5.2, decide_true, cond_true, Option.bind_some, Sum.elim_inl]
                rw [if_pos ⟨by omega, h5.2⟩] at hq
                rw [hq, if_pos (by omega)] at happ
                exact ⟨c1, by rw [happ]; congr 2; omega, fun h => by omega⟩
              · have h6 : (bif decide (s ≤ (l.size : Int)) then (bif P (pre ++ l.toList) [e0'] then some (Sum.inl ((l.size : Int), c1)) else some (Sum.inr ())) else some (Sum.inr () : Sum (Int × A) Unit)) = some (Sum.inr ()) := by
                  by_cases h7 : s ≤ (l.size : Int)
                  · have h8 : P (pre ++ l.toList) [e0'] = false := by
                      cases h6 : P (pre ++ l.toList) [e0']
                      · rfl
                      · exact absurd ⟨h7, h6⟩ h5
                    simp only [h7, h8, decide_true, cond_true, cond_false]
                  · simp only [h7, decide_false, cond_false]
                rw [h6]
                rw [if_neg (fun h => h5 ⟨by have := h.1; omega, h.2⟩)] at hq
                have v1 : w64 (w64 (s - (l.size : Int)) - 1) = s - (l.toList.length : Int) - 1 := by
                  rw [w64_id (x := s - (l.size : Int)) (by omega) (by omega), w64_id (by omega) (by omega), hlL]
                have hGr : ∀ x ∈ (pre ++ l.toList ++ [e0']) ++ u.toList, G x := fun x hx => hG x (by simpa using hx)
                obtain ⟨c3, y1, y2⟩ := first_ok ok hp hP n (pre ++ l.toList ++ [e0']) (s - (l.toList.length : Int) - 1) c2 (by omega) hu f2 hGr (by simp; omega) (by omega) (by omega)
                have hb3 := firstF_bound (P := P) (pre ++ l.toList ++ [e0']) u.toList (s - (l.toList.length : Int) - 1)
                simp only [Option.bind_some, Sum.elim_inr, v1, y1]
                by_cases h7 : firstF P (pre ++ l.toList ++ [e0']) u.toList (s - (l.toList.length : Int) - 1) ≥ 0
                · simp only [h7, decide_true, cond_true]
                  rw [if_pos h7] at hq
                  rw [hq, if_pos (by omega)] at happ
                  refine ⟨c3, ?_, fun h => by omega⟩
                  rw [happ, w64_id (x := (l.size : Int) + 1) (by omega) (by omega), w64_id (by omega) (by omega)]
                  congr 2; omega
                · simp only [h7, decide_false, cond_false]
                  rw [if_neg h7] at hq
                  rw [hq, if_neg (by omega)] at happ
                  refine ⟨c3, ?_, fun _ => by have := y2 (by omega); simpa using this⟩
                  rw [happ]
                  congr 2; omega
theorem last_of_ok (ok : OpsOk O k N G S lt) (hp : PredOk N G S P fn) {p : PN E A} {L : List TRef} {B : Nat} (hP : PW p L B) : ∀ (n : Nat) {r : TRef} {t : Tr E} (pre : List E) (s : Int) (acc : A), t.size < n → Rep S p r t → S acc pre → (∀ x ∈ pre ++ t.toList, G x) → (pre ++ t.toList).length < N →
    -4611686018427387904 ≤ s - t.size → s ≤ 4611686018427387904 → Tree_lastOf.r O k n p r s acc fn = some (lastF P pre t.toList s)
  | 0, _, _, _, _, _, h, _, _, _, _, _, _ => by omega
  | n + 1, r, t, pre, s, acc, hn, hr, ha, hG, hN, b1, b2 => by
    have hbig := ok.big
    obtain ⟨n1, g1, g2⟩ := get_ok ok hP hr
    have hll := Tr.len_toList t
    simp only [Tree_lastOf.r, g1, Option.bind_some, g2.size]
    by_cases h0 : t.size = 0
    · have e0 : ((t.size : Int) == 0) = true := by simp; exact h0
      have : t.toList = [] := List.eq_nil_of_length_eq_zero (by omega)
      simp only [e0, cond_true, Option.bind_some, Sum.elim_inl]
      have hf : lastF P pre t.toList s = -1 := by rw [this]; rfl
      rw [hf]
    · have e0 : ((t.size : Int) == 0) = false := by simp; exact h0
      simp only [e0, cond_false]
      by_cases h1 : s ≤ 0
      · simp only [h1, decide_true, cond_true, Option.bind_some, Sum.elim_inl]
        rw [lastF_lim pre t.toList s h1]
      · simp only [h1, decide_false, cond_false, hp.run ha g2.sum hG hN, Option.bind_some]
        by_cases h2 : s ≥ (t.size : Int) ∧ P pre t.toList = false
        · simp only [h2.1, h2.2, decide_true, cond_true, Bool.not_false, Option.bind_some, Sum.elim_inl]
          rw [lastF_none hp pre t.toList s h2.2]
        · have h3 : (bif decide (s ≥ (t.size : Int)) then (bif !P pre t.toList then some (Sum.inl (-1)) else some (Sum.inr ())) else some (Sum.inr () : Sum Int Unit)) = some (Sum.inr ()) := by
            by_cases h4 : s ≥ (t.size : Int)
            · have h5 : P pre t.toList = true := by
                cases h6 : P pre t.toList
                · exact absurd ⟨h4, h6⟩ h2
                · rfl
              simp only [h4, h5, decide_true, cond_true, Bool.not_true, cond_false]
            · simp only [h4, decide_false, cond_false]
          rw [h3]
          cases t with
          | nil => exact absurd rfl h0
          | node r0 e0' l u =>
            obtain ⟨rfl, he, hl, hu, hlk⟩ := g2.node rfl
            obtain ⟨n2, g3, g4⟩ := get_ok ok hP hl
            have hsz : (Tr.node r e0' l u).size = l.size + 1 + u.size := rfl
            have hln : (Tr.node r e0' l u).toList = l.toList ++ e0' :: u.toList := rfl
            have hlu := Tr.len_toList u
            have hlL := Tr.len_toList l
            rw [hsz] at hn b1
            rw [hln] at hG hN ⊢
            simp only [List.length_append, List.length_cons] at hN
            have sub1 : ∀ x ∈ pre ++ l.toList, G x := fun x hx => hG x (by simp at hx ⊢; rcases hx with hx | hx <;> simp [hx])
            obtain ⟨c1, d1, d2⟩ := ok.plus ha g4.sum sub1 (by simp; omega)
            obtain ⟨se, s1, s2⟩ := ok.sum n1.e (hG _ (by rw [he]; simp))
            rw [he] at s2
            have hGe : ∀ x ∈ (pre ++ l.toList) ++ [e0'], G x := fun x hx => hG x (by simp at hx ⊢; rcases hx with hx | hx | hx <;> simp [hx])
            have hNe : ((pre ++ l.toList) ++ [e0']).length < N := by simp; omega
            have hfn := hp.run d2 s2 hGe hNe
            obtain ⟨c2, f1, f2⟩ := ok.plus d2 s2 hGe hNe
            have v1 : w64 (w64 (s - (l.size : Int)) - 1) = s - (l.toList.length : Int) - 1 := by
              rw [w64_id (x := s - (l.size : Int)) (by omega) (by omega), w64_id (by omega) (by omega), hlL]
            have hGr : ∀ x ∈ (pre ++ l.toList ++ [e0']) ++ u.toList, G x := fun x hx => hG x (by simpa using hx)
            have hr1 := last_of_ok ok hp hP n (pre ++ l.toList ++ [e0']) (s - (l.toList.length : Int) - 1) c2 (by omega) hu f2 hGr (by simp; omega) (by omega) (by omega)
            have hl1 := last_of_ok ok hp hP n pre s acc (by omega) hl ha sub1 (by simp; omega) (by omega) b2
            have hb3 := lastF_bound (P := P) (pre ++ l.toList ++ [e0']) u.toList (s - (l.toList.length : Int) - 1)
            have happ := lastF_append (P := P) pre l.toList (e0' :: u.toList) s
            have hq := lastF_cons (P := P) (pre ++ l.toList) e0' u.toList (s - l.toList.length)
            generalize lastF P (pre ++ l.toList) (e0' :: u.toList) (s - l.toList.length) = q at happ hq
            simp only [Option.bind_some, Sum.elim_inr, g3, d1, s1, f1, v1, hr1, g4.size, hfn, hl1]
            by_cases h4 : lastF P (pre ++ l.toList ++ [e0']) u.toList (s - (l.toList.length : Int) - 1) ≥ 0
            · simp only [h4, decide_true, cond_true]
              rw [if_pos h4] at hq
              rw [hq, if_pos (by omega)] at happ
              rw [happ, w64_id (x := _ + (l.size : Int)) (by omega) (by omega), w64_id (by omega) (by omega)]
              congr 1; omega
            · simp only [h4, decide_false, cond_false]
              rw [if_neg h4] at hq
              by_cases h5 : s > (l.size : Int) ∧ P (pre ++ l.toList) [e0'] = true
              · simp only [h5.1, h5.2, decide_true, cond_true]
                rw [if_pos ⟨by omega, h5.2⟩] at hq
                rw [hq, if_pos (by omega)] at happ
                rw [happ]; congr 1; omega
              · rw [if_neg (fun h => h5 ⟨by have := h.1; omega, h.2⟩)] at hq
                rw [hq, if_neg (by omega)] at happ
                rw [happ]
                by_cases h7 : s > (l.size : Int)
                · have h8 : P (pre ++ l.toList) [e0'] = false := by
                    cases h6 : P (pre ++ l.toList) [e0']
                    · rfl
                    · exact absurd ⟨h7, h6⟩ h5
                  simp only [h7, h8, decide_true, cond_true, cond_false]
                · simp only [h7, decide_false, cond_false]
theorem Gr.first (ok : OpsOk O k N G S lt) (hk : N ≤ k) (hp : PredOk N G S P fn) {p : PN E A} {r : TRef} {l : List E} {c : Int} {B : Nat} (h : Gr S lt G p r l c B) (i : Int) (hN : l.length < N) :
    Tree_First.f O k p r i fn = some (firstF P [] l i) := by
  have hlen := h.len ok
  obtain ⟨t, hP, hr, rfl⟩ := h.ex
  have hbig := ok.big
  have hll := Tr.len_toList t
  have hg : gmin (gmax i 0) (t.toList.length : Int) = min (max i 0) (t.toList.length : Int) := by unfold gmin gmax; split <;> split <;> omega
  obtain ⟨c, h1, h2⟩ := first_ok ok hp hP k [] (min (max i 0) (t.toList.length : Int)) O.zA (by omega) hr ok.zero (by simpa using h.good) (by simpa using hN) (by omega) (by omega)
  unfold Tree_First.f Tree_first.f
  rw [hlen]
  simp only [Option.bind_some, hg, h1, firstF_clamp]
theorem Gr.last (ok : OpsOk O k N G S lt) (hk : N ≤ k) (hp : PredOk N G S P fn) {p : PN E A} {r : TRef} {l : List E} {c : Int} {B : Nat} (h : Gr S lt G p r l c B) (i : Int) (hN : l.length < N) :
    Tree_Last.f O k p r i fn = some (lastF P [] l i) := by
  have hlen := h.len ok
  obtain ⟨t, hP, hr, rfl⟩ := h.ex
  have hbig := ok.big
  have hll := Tr.len_toList t
  have hg : gmin (gmax i 0) (t.toList.length : Int) = min (max i 0) (t.toList.length : Int) := by unfold gmin gmax; split <;> split <;> omega
  have h1 := last_of_ok ok hp hP k [] (min (max i 0) (t.toList.length : Int)) O.zA (by omega) hr ok.zero (by simpa using h.good) (by simpa using hN) (by omega) (by omega)
  unfold Tree_Last.f Tree_lastOf.f
  rw [hlen]
  simp only [Option.bind_some, hg, h1, lastF_clamp]
end
end Go.Proofs.YtpeoalmhccmdiaaGreat
namespace Go.Proofs.YtpeoalmhccmdiaaGreat
open Go Go.Proofs.YtpeoalmhccmdiaaGreat.Sx
section
variable {E A : Type} {O : Ops E A} {k N : Nat} {G : E → Prop} {S : A → List E → Prop} {lt : E → E → Prop}
theorem last_ok (ok : OpsOk O k N G S lt) (hk : N ≤ k) : ∀ (n : Nat) {p : PN E A} {L : List TRef} {B : Nat} (hP : PW p L B) {r : TRef} {t : Tr E}, t.size < n → t ≠ .nil → Rep S p r t → t.refs.Nodup → (∀ x ∈ t.toList, G x) → t.size < N →
    ∃ r' m e p' nm, Tree_last.r O k n p r = some (r', m, p') ∧ (Tr.last k t).2 = some (m, e) ∧ Left S p p' L B r' (Tr.last k t).1 t.refs ∧ look p' m = some nm ∧ nm.e = e
  | 0, _, _, _, _, _, _, h, _, _, _, _, _ => by omega
  | n + 1, p, L, B, hP, r, .nil, _, h, _, _, _, _ => absurd rfl h
  | n + 1, p, L, B, hP, r, .node r0 e l u, hn, _, hr, hnd, hG, hN => by
    obtain ⟨n1, q1, q2⟩ := get_ok ok hP hr
    obtain ⟨rfl, he, hl, hu, hlk⟩ := q2.node rfl
    simp only [Tr.size] at hn hN
    simp only [Tree_last.r, q1, Option.bind_some]
    cases u with
    | nil =>
      have e0 : (n1.right.gen == 0) = true := by simpa using hu.nil_iff.2 rfl
      rw [e0]
      exact ⟨n1.left, r, e, p, n1, rfl, rfl, ⟨hP, hl, fun x _ => rfl, rfl⟩, hlk, he⟩
    | node r2 e2 c d =>
      have e0 : (n1.right.gen == 0) = false := by
        have : n1.right.gen ≠ 0 := fun h => by have := hu.nil_iff.1 h; cases this
        simpa using this
      rw [e0]
      obtain ⟨r1, m, x, p1, nm, t1, t2, t3, t4, t5⟩ := last_ok ok hk n hP (by omega) (by simp) hu (nodup_right hnd) (fun x hx => hG x (by simp [Tr.toList] at hx ⊢; rcases hx with hx | hx | hx <;> simp [hx])) (by omega)
      obtain ⟨m', x', s1, s2, s3⟩ := Tr.last_spec k (.node r2 e2 c d) (by simp)
      have hmm : m' = m ∧ x' = x := by rw [s1] at t2; cases t2; exact ⟨rfl, rfl⟩
      obtain ⟨rfl, rfl⟩ := hmm
      have hnd' : (l.refs ++ r :: ((Tr.last k (.node r2 e2 c d)).1.refs ++ [m'])).Nodup := by rw [← s3]; exact hnd
      have hsub : ∀ y ∈ (Tr.last k (.node r2 e2 c d)).1.refs, y ∈ (Tr.node r2 e2 c d).refs := fun y hy => by rw [s3]; exact List.mem_append_left _ hy
      have hlk1 : look p1 r = some n1 := by rw [t3.frame r (nodup_u hnd)]; exact hlk
      have hl1 : Rep S p1 n1.left l := hl.frame (fun y hy => t3.frame y (fun h => nodup_lu hnd hy h))
      have hszl : (Tr.last k (.node r2 e2 c d)).1.size + 1 = (Tr.node r2 e2 c d).size := by
        have := congrArg List.length s2
        simp only [List.length_append, List.length_singleton, Tr.len_toList] at this; omega
      have hnd1 : (l.refs ++ r :: (Tr.last k (.node r2 e2 c d)).1.refs).Nodup := List.Nodup.sublist (List.Sublist.append_left (List.Sublist.cons_cons _ (List.sublist_append_left _ _)) _) hnd'
      have hGl : ∀ y ∈ l.toList ++ n1.e :: (Tr.last k (.node r2 e2 c d)).1.toList, G y := by
        intro y hy
        refine hG y ?_
        have e1 : (Tr.node r e l (.node r2 e2 c d)).toList = l.toList ++ e :: ((Tr.last k (.node r2 e2 c d)).1.toList ++ [x']) := by rw [← s2]; rfl
        rw [e1]
        rw [he] at hy
        simp only [List.mem_append, List.mem_cons] at hy ⊢
        rcases hy with hy | hy | hy
        · exact .inl hy
        · exact .inr (.inl hy)
        · exact .inr (.inr (.inl hy))
      obtain ⟨r', p2, v1, v2⟩ := linkf_ok ok hk t3.pw hl1 hlk1 t3.rep hnd1 hGl (by omega)
      refine ⟨r', m', x', p2, nm, ?_, ?_, ⟨v2.pw, ?_, fun y hy => ?_, v2.cap.trans t3.cap⟩, ?_, t5⟩
      · simp only [cond_false, t1, Option.bind_some, v1]
      · rw [Tr.last]; exact s1
      · rw [Tr.last]; rw [he] at v2; exact v2.rep
      · simp only [Tr.refs, List.mem_append, List.mem_cons, not_or] at hy
        rw [v2.frame y (by
          simp only [List.mem_append, List.mem_cons, not_or]
          exact ⟨hy.1, hy.2.1, fun h => by have := hsub y h; simp only [Tr.refs, List.mem_append, List.mem_cons] at this; rcases this with h | h | h <;> simp_all⟩), t3.frame y (by simp only [Tr.refs, List.mem_append, List.mem_cons, not_or]; exact hy.2.2)]
      · rw [v2.frame m' (by
          simp only [List.mem_append, List.mem_cons, not_or]
          have hm' : m' ∈ (Tr.node r2 e2 c d).refs := by rw [s3]; simp
          refine ⟨fun h => nodup_lu hnd h hm', fun e => nodup_u hnd (e ▸ hm'), fun h => ?_⟩
          have hu2 := nodup_right hnd'
          exact (List.nodup_append.1 hu2).2.2 m' h m' (by simp) rfl)]
        exact t4
theorem merge_ok (ok : OpsOk O k N G S lt) (hk : N ≤ k) {p : PN E A} {L : List TRef} {B : Nat} (hP : PW p L B) {a b : TRef} {l u : Tr E} (hl : Rep S p a l) (hu : Rep S p b u) (hnd : (l.refs ++ u.refs).Nodup) (hG : ∀ x ∈ l.toList ++ u.toList, G x) (hN : l.size + u.size < N) :
    ∃ r' p', Tree_merge.f O k p a b = some (r', p') ∧ Left S p p' L B r' (Tr.merge k l u) (l.refs ++ u.refs) := by
  unfold Tree_merge.f
  cases l with
  | nil =>
    have e0 : (a.gen == 0) = true := by simpa using hl.nil_iff.2 rfl
    rw [e0]
    exact ⟨b, p, rfl, hP, by simpa [Tr.merge] using hu, fun _ _ => rfl, rfl⟩
  | node r e c d =>
    have e0 : (a.gen == 0) = false := by
      have : a.gen ≠ 0 := fun h => by have := hl.nil_iff.1 h; cases this
      simpa using this
    rw [e0]
    cases u with
    | nil =>
      have e1 : (b.gen == 0) = true := by simpa using hu.nil_iff.2 rfl
      rw [e1]
      exact ⟨a, p, rfl, hP, by simpa [Tr.merge] using hl, fun _ _ => rfl, rfl⟩
    | node r2 e2 f g =>
      have e1 : (b.gen == 0) = false := by
        have : b.gen ≠ 0 := fun h => by have := hu.nil_iff.1 h; cases this
        simpa using this
      rw [e1]
      obtain ⟨d1, d2, d3⟩ := List.nodup_append.1 hnd
      obtain ⟨r1, m, x, p1, nm, t1, t2, t3, t4, t5⟩ := last_ok ok hk k hP (by omega) (by simp) hl d1 (fun x hx => hG x (List.mem_append_left _ hx)) (by omega)
      obtain ⟨m', x', s1, s2, s3⟩ := Tr.last_spec k (.node r e c d) (by simp)
      have hmm : m' = m ∧ x' = x := by rw [s1] at t2; cases t2; exact ⟨rfl, rfl⟩
      obtain ⟨rfl, rfl⟩ := hmm
      have hszl : (Tr.last k (.node r e c d)).1.size + 1 = (Tr.node r e c d).size := by
        have := congrArg List.length s2
        simp only [List.length_append, List.length_singleton, Tr.len_toList] at this; omega
      have hu1 : Rep S p1 b (.node r2 e2 f g) := hu.frame (fun y hy => t3.frame y (fun h => d3 y h y hy rfl))
      have hnd1 : ((Tr.last k (.node r e c d)).1.refs ++ m' :: (Tr.node r2 e2 f g).refs).Nodup := by
        have : (Tr.last k (.node r e c d)).1.refs ++ m' :: (Tr.node r2 e2 f g).refs = (Tr.node r e c d).refs ++ (Tr.node r2 e2 f g).refs := by rw [s3]; simp
        rw [this]; exact hnd
      have hG1 : ∀ y ∈ (Tr.last k (.node r e c d)).1.toList ++ nm.e :: (Tr.node r2 e2 f g).toList, G y := by
        intro y hy
        refine hG y ?_
        rw [s2, t5.symm]; simpa using hy
      obtain ⟨r', p2, v1, v2⟩ := linkf_ok ok hk t3.pw t3.rep t4 hu1 hnd1 hG1 (by omega)
      have t1' : Tree_last.f O k p a = some (r1, m', p1) := t1
      refine ⟨r', p2, ?_, ⟨v2.pw, ?_, fun y hy => ?_, v2.cap.trans t3.cap⟩⟩
      · simp only [cond_false, t1', Option.bind_some, v1]
      · have : Tr.merge k (.node r e c d) (.node r2 e2 f g) = Tr.link k (Tr.last k (.node r e c d)).1 m' x' (.node r2 e2 f g) := by
          unfold Tr.merge
          have : Tr.last k (.node r e c d) = ((Tr.last k (.node r e c d)).1, some (m', x')) := by rw [← s1]
          simp only
          rw [this]
        rw [this, ← t5]; exact v2.rep
      · rw [List.mem_append, not_or] at hy
        have hy1 := hy.1
        rw [s3, List.mem_append, not_or] at hy1
        rw [v2.frame y (by simp only [List.mem_append, List.mem_cons, not_or]; exact ⟨hy1.1, by simpa using hy1.2, hy.2⟩), t3.frame y hy.1]
end
end Go.Proofs.YtpeoalmhccmdiaaGreat
namespace Go.Proofs.YtpeoalmhccmdiaaGreat
open Go Go.Proofs.YtpeoalmhccmdiaaGreat.Sx
section
variable {E A : Type} {O : Ops E A} {k N : Nat} {G : E → Prop} {S : A → List E → Prop} {lt : E → E → Prop}
structure DropL (S : A → List E → Prop) (p p' : PN E A) (L : List TRef) (B : Nat) (t t' : Tr E) (r' x0 : TRef) : Prop where
  pw : PW p' (L.erase x0) B
  rep : Rep S p' r' t'
  refs : (x0 :: t'.refs).Perm t.refs
  frame : ∀ x, x ∉ t.refs → look p' x = look p x
  cap : p'.cap = p.cap
theorem drop_ok (ok : OpsOk O k N G S lt) (hk : N ≤ k) {p : PN E A} {L : List TRef} {B : Nat} (hP : PW p L B) (e : E) : ∀ (n : Nat) {r : TRef} {t : Tr E}, t.size < n → Rep S p r t → t.refs.Nodup → InOrd lt t.toList → (∀ x ∈ t.toList, G x) → t.size < N →
    ∃ a m b, Cut lt e t.toList a m b ∧
      ((m = [] ∧ Tree_drop.r O k n p r e = some (r, O.zE, false, p)) ∨
       (∃ y r' p' t' x0, m = [y] ∧ Tree_drop.r O k n p r e = some (r', y, true, p') ∧ t'.toList = a ++ b ∧ DropL S p p' L B t t' r' x0))
  | 0, _, _, h, _, _, _, _, _ => by omega
  | n + 1, r, .nil, hn, hr, hnd, hs, hG, hN => by
    refine ⟨[], [], [], Cut.nil e, .inl ⟨rfl, ?_⟩⟩
    have e0 : (r.gen == 0) = true := by simpa using hr.nil_iff.2 rfl
    simp only [Tree_drop.r, e0, cond_true]
  | n + 1, r, .node r0 e0 l u, hn, hr, hnd, hs, hG, hN => by
    obtain ⟨n1, g1, g2⟩ := get_ok ok hP hr
    obtain ⟨rfl, he, hl, hu, hlk⟩ := g2.node rfl
    have hg : (r.gen == 0) = false := by
      have := hP.gen_ne (hP.mem hlk); simpa using this
    obtain ⟨c, c1, c2, c3⟩ := ok.cmp e n1.e
    have hsz : (Tr.node r e0 l u).size = l.size + 1 + u.size := rfl
    have hln : (Tr.node r e0 l u).toList = l.toList ++ e0 :: u.toList := rfl
    have hrL : r ∈ L := hP.mem hlk
    simp only [Tree_drop.r, hg, cond_false, g1, Option.bind_some, c1]
    rw [he] at c2 c3
    rw [hln] at hs hG ⊢
    by_cases h1 : c < 0
    · have hlt := c2.1 h1
      simp only [h1, decide_true, cond_true]
      obtain ⟨a, m, b, hcut, hres⟩ := drop_ok ok hk hP e n (by omega) hl (nodup_left hnd) (sorted_l hs) (fun x hx => hG x (List.mem_append_left _ hx)) (by omega)
      refine ⟨a, m, b ++ e0 :: u.toList, hcut.left ok hs hlt, ?_⟩
      rcases hres with ⟨h2, h4⟩ | ⟨y, r', p', t', x0, h2, h4, h5, h6⟩
      · exact .inl ⟨h2, by simp only [h4, Option.bind_some]; rfl⟩
      · right
        have hx0 : x0 ∈ l.refs := h6.refs.mem_iff.1 List.mem_cons_self
        have hlk1 : look p' r = some n1 := by rw [h6.frame r (nodup_l hnd)]; exact hlk
        have hu1 : Rep S p' n1.right u := hu.frame (fun x hx => h6.frame x (fun h => nodup_lu hnd h hx))
        have hperm : (x0 :: (t'.refs ++ r :: u.refs)).Perm (Tr.node r e0 l u).refs := by
          have := h6.refs.append_right (r :: u.refs)
          simpa [Tr.refs] using this
        have hnd2 : (x0 :: (t'.refs ++ r :: u.refs)).Nodup := hperm.nodup_iff.2 hnd
        have hts : t'.size ≤ l.size := by
          have := congrArg List.length h5
          have h7 := congrArg List.length hcut.eq
          simp only [Tr.len_toList, List.length_append, List.length_cons] at this h7; omega
        obtain ⟨r2, p2, v1, v2⟩ := linkf_ok ok hk h6.pw h6.rep hlk1 hu1 (List.nodup_cons.1 hnd2).2 (fun x hx => by
          rw [h5, he] at hx
          simp only [List.mem_append, List.mem_cons] at hx
          have h8 : ∀ y, y ∈ a ∨ y ∈ b → y ∈ l.toList := fun y hy => by rw [hcut.eq]; rcases hy with hy | hy <;> simp [hy]
          rcases hx with hx | rfl | hx
          · exact hG x (List.mem_append_left _ (h8 x hx))
          · exact hG x (by simp)
          · exact hG x (by simp [hx])) (by omega)
        refine ⟨y, r2, p2, Tr.link k t' r n1.e u, x0, h2, ?_, ?_, v2.pw, v2.rep, ?_, fun x hx2 => ?_, v2.cap.trans h6.cap⟩
        · simp only [h4, Option.bind_some, v1]; rfl
        · rw [Tr.link_list, h5, he]; simp
        · rw [Tr.link_refs]; exact hperm
        · have hx3 : x ∉ l.refs := fun h => hx2 (by simp [Tr.refs, h])
          rw [v2.frame x (fun h => hx2 (hperm.mem_iff.1 (List.mem_cons_of_mem _ h))), h6.frame x hx3]
    · simp only [h1, decide_false, cond_false]
      by_cases h1' : c > 0
      · have hlt := c3.1 h1'
        simp only [h1', decide_true, cond_true]
        obtain ⟨a, m, b, hcut, hres⟩ := drop_ok ok hk hP e n (by omega) hu (nodup_right hnd) (sorted_u hs) (fun x hx => hG x (by simp [hx])) (by omega)
        refine ⟨l.toList ++ e0 :: a, m, b, hcut.right ok hs hlt, ?_⟩
        rcases hres with ⟨h2, h4⟩ | ⟨y, r', p', t', x0, h2, h4, h5, h6⟩
        · exact .inl ⟨h2, by simp only [h4, Option.bind_some]; rfl⟩
        · right
          have hx0 : x0 ∈ u.refs := h6.refs.mem_iff.1 List.mem_cons_self
          have hlk1 : look p' r = some n1 := by rw [h6.frame r (nodup_u hnd)]; exact hlk
          have hl1 : Rep S p' n1.left l := hl.frame (fun x hx => h6.frame x (fun h => nodup_lu hnd hx h))
          have hperm : (x0 :: (l.refs ++ r :: t'.refs)).Perm (Tr.node r e0 l u).refs := by
            have h7 : (l.refs ++ r :: (x0 :: t'.refs)).Perm (l.refs ++ r :: u.refs) := List.Perm.append_left _ (List.Perm.cons _ h6.refs)
            refine List.Perm.trans ?_ h7
            rw [show l.refs ++ r :: x0 :: t'.refs = (l.refs ++ [r]) ++ x0 :: t'.refs by simp]
            refine List.Perm.trans ?_ List.perm_middle.symm
            simp
          have hnd2 : (x0 :: (l.refs ++ r :: t'.refs)).Nodup := hperm.nodup_iff.2 hnd
          have hts : t'.size ≤ u.size := by
            have := congrArg List.length h5
            have h7 := congrArg List.length hcut.eq
            simp only [Tr.len_toList, List.length_append, List.length_cons] at this h7; omega
          obtain ⟨r2, p2, v1, v2⟩ := linkf_ok ok hk h6.pw hl1 hlk1 h6.rep (List.nodup_cons.1 hnd2).2 (fun x hx => by
            rw [h5, he] at hx
            simp only [List.mem_append, List.mem_cons] at hx
            have h8 : ∀ y, y ∈ a ∨ y ∈ b → y ∈ u.toList := fun y hy => by rw [hcut.eq]; rcases hy with hy | hy <;> simp [hy]
            rcases hx with hx | rfl | hx
            · exact hG x (by simp [hx])
            · exact hG x (by simp)
            · exact hG x (by simp [h8 x hx])) (by omega)
          refine ⟨y, r2, p2, Tr.link k l r n1.e t', x0, h2, ?_, ?_, v2.pw, v2.rep, ?_, fun x hx2 => ?_, v2.cap.trans h6.cap⟩
          · simp only [h4, Option.bind_some, v1]; rfl
          · rw [Tr.link_list, h5, he]; simp
          · rw [Tr.link_refs]; exact hperm
          · have hx3 : x ∉ u.refs := fun h => hx2 (by simp [Tr.refs, h])
            rw [v2.frame x (fun h => hx2 (hperm.mem_iff.1 (List.mem_cons_of_mem _ h))), h6.frame x hx3]
      · simp only [h1', decide_false, cond_false]
        have n1' : ¬ lt e e0 := fun h => h1 (c2.2 h)
        have n2' : ¬ lt e0 e := fun h => h1' (c3.2 h)
        refine ⟨l.toList, [e0], u.toList, Cut.mid ok hs n1' n2', .inr ?_⟩
        obtain ⟨p1, q1, q2, q3, q4⟩ := hP.drop (z := zNode O) hlk
        have hl1 : Rep S p1 n1.left l := hl.frame (fun x hx => q3 x (fun h => nodup_l hnd (h ▸ hx)))
        have hu1 : Rep S p1 n1.right u := hu.frame (fun x hx => q3 x (fun h => nodup_u hnd (h ▸ hx)))
        have hperm : (r :: (l.refs ++ u.refs)).Perm (Tr.node r e0 l u).refs := List.perm_middle.symm
        have hnd2 : (r :: (l.refs ++ u.refs)).Nodup := hperm.nodup_iff.2 hnd
        obtain ⟨r2, p2, v1, v2⟩ := merge_ok ok hk q2 hl1 hu1 (List.nodup_cons.1 hnd2).2 (fun x hx => hG x (by
          rcases List.mem_append.1 hx with hx | hx <;> simp [hx])) (by omega)
        obtain ⟨w1, w2⟩ := Tr.merge_spec k l u
        refine ⟨e0, r2, p2, Tr.merge k l u, r, rfl, ?_, w1, v2.pw, v2.rep, by rw [w2]; exact hperm, fun x hx => ?_, v2.cap.trans q4⟩
        · simp only [q1, Option.bind_some, v1, he]
        · have hxr : x ≠ r := fun h => hx (by simp [Tr.refs, h])
          rw [v2.frame x (fun h => hx (hperm.mem_iff.1 (List.mem_cons_of_mem _ h))), q3 x hxr]
end
end Go.Proofs.YtpeoalmhccmdiaaGreat
namespace Go.Proofs.YtpeoalmhccmdiaaGreat
open Go Go.Proofs.YtpeoalmhccmdiaaGreat.Sx
section
variable {E A : Type} {O : Ops E A} {k N : Nat} {G : E → Prop} {S : A → List E → Prop} {lt : E → E → Prop}
theorem all_ok (ok : OpsOk O k N G S lt) {p : PN E A} {L : List TRef} {B : Nat} (hP : PW p L B) : ∀ (n : Nat) {r : TRef} {t : Tr E} (out : List E), t.size < n → Rep S p r t → out.length + t.size < 4294967296 → Tree_all.r O k n p r out = some (out ++ t.toList)
  | 0, _, _, _, h, _, _ => by omega
  | n + 1, r, .nil, out, hn, hr, hb => by
    have e0 : (r.gen == 0) = true := by simpa using hr.nil_iff.2 rfl
    simp only [Tree_all.r, e0, cond_true, Tr.toList, List.append_nil]
  | n + 1, r, .node r0 e0 l u, out, hn, hr, hb => by
    obtain ⟨n1, g1, g2⟩ := get_ok ok hP hr
    obtain ⟨rfl, he, hl, hu, hlk⟩ := g2.node rfl
    have hg := hP.ne0 hlk
    have hsz : (Tr.node r e0 l u).size = l.size + 1 + u.size := rfl
    have hll := Tr.len_toList l
    simp only [Tree_all.r, hg, cond_false, g1, Option.bind_some]
    rw [all_ok ok hP n out (by omega) hl (by omega)]
    simp only [Option.bind_some]
    rw [decide_eq_true (by simp; omega)]
    simp only [cond_true]
    rw [all_ok ok hP n _ (by omega) hu (by simp; omega)]
    simp [Tr.toList, he]
theorem Gr.drop (ok : OpsOk O k N G S lt) (hk : N ≤ k) {p : PN E A} {r : TRef} {l : List E} {c : Int} {B : Nat} (h : Gr S lt G p r l c B) (e : E) (hN : l.length < N) :
    ∃ a m b, Cut lt e l a m b ∧ ((m = [] ∧ Tree_Drop.f O k p r e = some (O.zE, false, r, p)) ∨
      (∃ y r' p', m = [y] ∧ Tree_Drop.f O k p r e = some (y, true, r', p') ∧ Gr S lt G p' r' (a ++ b) c B)) := by
  obtain ⟨t, hP, hr, rfl⟩ := h.ex
  have hll := Tr.len_toList t
  obtain ⟨a, m, b, hcut, hres⟩ := drop_ok ok hk hP e k (by omega) hr hP.ld h.sorted h.good (by omega)
  refine ⟨a, m, b, hcut, ?_⟩
  unfold Tree_Drop.f Tree_drop.f
  rcases hres with ⟨h1, h3⟩ | ⟨y, r', p', t', x0, h1, h3, h4, h5⟩
  · exact .inl ⟨h1, by rw [h3]; rfl⟩
  · refine .inr ⟨y, r', p', h1, by rw [h3]; rfl, ⟨t', h5.pw.perm ?_, h5.rep, h4⟩, hcut.drop h.sorted, fun x hx => h.good x ?_, h5.cap.trans h.cap⟩
    · have := h5.refs.erase x0
      rw [List.erase_cons_head] at this
      exact this.symm
    · rw [hcut.eq]; rcases List.mem_append.1 hx with hx | hx <;> simp [hx]
theorem Gr.all (ok : OpsOk O k N G S lt) (hk : N ≤ k) {p : PN E A} {r : TRef} {l : List E} {c : Int} {B : Nat} (h : Gr S lt G p r l c B) (hN : l.length < N) : Tree_All.f O k p r = some l := by
  obtain ⟨t, hP, hr, rfl⟩ := h.ex
  have hbig := ok.big
  have hll := Tr.len_toList t
  unfold Tree_All.f Tree_all.f
  rw [all_ok ok hP k [] (by omega) hr (by simp; omega)]; rfl
end
end Go.Proofs.YtpeoalmhccmdiaaGreat
namespace Go.Proofs.YtpeoalmhccmdiaaGreat
open Go Go.Proofs.YtpeoalmhccmdiaaGreat.Sx
abbrev K1 : Nat := 1000001
abbrev ltM (a b : TMark) : Prop := a.op.time < b.op.time
theorem okM : OpsOk opsM K1 1000000 (fun _ => True) IsSwell ltM where
  cmp a b := by
    refine ⟨csgn a.op.time b.op.time, ?_, ?_⟩
    · show wave_Mark_Compare.f K1 a b = _
      unfold wave_Mark_Compare.f; rw [cmpCompare_eq]; rfl
    · unfold csgn ltM
      by_cases h1 : a.op.time < b.op.time
      · simp [h1]; omega
      · by_cases h2 : b.op.time < a.op.time
        · simp [h1, h2]
        · simp [h1, h2]
  sum e _ := markSum K1 (by decide) e
  plus h g _ hN := swellPlus K1 (by decide) h g hN
  zero := IsSwell.nil
  irrefl a := by simp
  trans := by intro a b c h1 h2; unfold ltM at *; omega
  left := by intro a b c h1 h2 h3; unfold ltM at *; omega
  right := by intro a b c h1 h2 h3; unfold ltM at *; omega
  big := by decide
abbrev GrM := Gr IsSwell ltM (fun _ : TMark => True)
abbrev ltS (a b : TSlot) : Prop := ilt a.item b.item
abbrev lenS' (s : TSize) (l : List TSlot) : Prop := s = (l.length : Int)
theorem isgn_lt' {a b : TItem} : isgn a b < 0 ↔ ilt a b := by
  unfold isgn
  by_cases h : ilt a b
  · simp [h]
  · by_cases h2 : ilt b a <;> simp [h, h2]
theorem isgn_gt' {a b : TItem} : isgn a b > 0 ↔ ilt b a := by
  unfold isgn
  by_cases h : ilt a b
  · have : ¬ ilt b a := by unfold ilt at *; omega
    simp [h, this]
  · by_cases h2 : ilt b a <;> simp [h, h2]
theorem slotCompare_eq (a b : TSlot) : shelf_Slot_Compare.f K1 a b = some (isgn a.item b.item) := by
  unfold shelf_Slot_Compare.f; rw [itemCompare_eq K1 (by decide)]; rfl
theorem okS : OpsOk opsS K1 1000000 (fun _ => True) lenS' ltS where
  cmp a b := ⟨isgn a.item b.item, slotCompare_eq a b, isgn_lt', isgn_gt'⟩
  sum e _ := ⟨1, rfl, rfl⟩
  plus := by
    rintro a b l r rfl rfl _ hN
    refine ⟨_, rfl, ?_⟩
    show w64 ((l.length : Int) + (r.length : Int)) = _
    rw [List.length_append] at hN
    rw [w64_id (by omega) (by omega), List.length_append]; omega
  zero := rfl
  irrefl a := ilt_irrefl _
  trans := by intro a b c h1 h2; unfold ltS ilt at *; omega
  left := by intro a b c h1 h2 h3; unfold ltS ilt at *; omega
  right := by intro a b c h1 h2 h3; unfold ltS ilt at *; omega
  big := by decide
abbrev GrS := Gr lenS' ltS (fun _ : TSlot => True)
theorem Gr.mono {E A : Type} {S : A → List E → Prop} {lt : E → E → Prop} {G : E → Prop} {p : PN E A} {r : TRef} {l : List E} {c : Int} {B B' : Nat} (h : Gr S lt G p r l c B) (hB : B ≤ B') (hs : B' < 4294967295) : Gr S lt G p r l c B' := by
  obtain ⟨⟨t, h1, h2⟩, h3, h4, h5⟩ := h
  exact ⟨⟨t, h1.mono hB hs, h2⟩, h3, h4, h5⟩
def clampN (m : List TMark) (p : Int) : Nat := (min (max p 0) (m.length : Int)).toNat
theorem clampN_le (m : List TMark) (p : Int) : clampN m p ≤ m.length := by unfold clampN; omega
theorem clampN_nat {m : List TMark} {i : Nat} (h : i ≤ m.length) : clampN m (i : Int) = i := by unfold clampN; omega
theorem clampN_eq (m : List TMark) (p : Int) : gmin (gmax p 0) (m.length : Int) = (clampN m p : Int) := by
  unfold clampN gmin gmax; split <;> split <;> omega
theorem seg_nat {α : Type} (m : List α) (i j : Nat) : seg m (i : Int) (j : Int) = (m.take j).drop i := by
  unfold seg
  rw [Int.toNat_natCast, Int.toNat_natCast]
theorem seg_clamp (m : List TMark) (p : Int) : seg m 0 p = seg m 0 (clampN m p : Int) := by
  unfold seg clampN
  simp only [Int.toNat_natCast]
  by_cases h : p ≤ m.length
  · rw [show (min (max p 0) (m.length : Int)).toNat = p.toNat by omega]
  · rw [List.take_of_length_le (by omega), List.take_of_length_le (by omega)]
section
variable {p : PN TMark TSwell} {r : TRef} {m : List TMark} {c : Int} {B : Nat}
theorem between_ok' (h : GrM p r m c B) (hl : m.length < 100000) (i j : Nat) : ∃ s, Tree_Between.f opsM K1 p r (i : Int) (j : Int) = some s ∧ IsSwell s ((m.take j).drop i) := by
  obtain ⟨s, s1, s2⟩ := h.between okM (by decide) (i : Int) (j : Int) (by omega)
  rw [seg_nat] at s2
  exact ⟨s, s1, s2⟩
theorem len_ok (h : GrM p r m c B) : Tree_Len.f opsM K1 p r = some (m.length : Int) := h.len okM
theorem height_ok (h : GrM p r m c B) (hl : m.length < 100000) (i base : Int) : bridge_Height.f K1 p r i base = some (w64 (base + ((wts m).take (clampN m i)).sum)) := by
  obtain ⟨s, s1, s2⟩ := h.between okM (by decide) 0 i (by omega)
  rw [seg_clamp] at s2
  have e' : seg m 0 (clampN m i : Int) = (m.take (clampN m i)).drop 0 := seg_nat m 0 (clampN m i)
  rw [e', List.drop_zero] at s2
  unfold bridge_Height.f
  rw [s1]
  simp only [Option.bind_some, s2.weight, tideF]
  congr 3
  simp [List.map_take, wts]
end
section
variable {E : Type} {P : List E → List E → Bool}
theorem first_spec {L : List E} {H : Nat → Int} (hP : ∀ i x, L[i]? = some x → P (L.take i) [x] = decide (H (i + 1) ≤ 0)) (s : Int) : ∀ n, n ≤ L.length →
    (firstF P [] (L.take n) s = -1 ∧ ∀ i : Nat, s ≤ i → i < n → ¬ H (i + 1) ≤ 0) ∨ ∃ i : Nat, firstF P [] (L.take n) s = i ∧ s ≤ i ∧ i < n ∧ H (i + 1) ≤ 0 ∧ ∀ j : Nat, s ≤ j → j < i → ¬ H (j + 1) ≤ 0
  | 0, _ => .inl ⟨by simp [firstF], fun i _ h => by omega⟩
  | n + 1, h => by
    obtain ⟨x, hx, _⟩ := drop_cons (l := L) (i := n) (by omega)
    have ht : L.take (n + 1) = L.take n ++ [x] := by rw [List.take_add_one, hx]; rfl
    have happ := firstF_append (P := P) [] (L.take n) [x] s
    have hlen : (L.take n).length = n := by rw [List.length_take]; omega
    rw [← ht, hlen, List.nil_append] at happ
    have h1 : firstF P (L.take n) [x] (s - n) = if s - n ≤ 0 ∧ P (L.take n) [x] = true then 0 else -1 := by rw [firstF]; simp [firstF]
    rw [h1, hP n x hx] at happ
    rcases first_spec hP s n (by omega) with ⟨a1, a2⟩ | ⟨i, a1, a2, a3, a4, a5⟩
    · rw [a1, if_neg (by omega)] at happ
      by_cases hc : s - n ≤ 0 ∧ decide (H (n + 1) ≤ 0) = true
      · rw [if_pos hc, if_pos (by omega)] at happ
        exact .inr ⟨n, by omega, by omega, by omega, of_decide_eq_true hc.2, a2⟩
      · rw [if_neg hc, if_neg (by omega)] at happ
        refine .inl ⟨happ, fun i h1 h2 h3 => ?_⟩
        by_cases hi : i = n
        · subst hi; exact hc ⟨by omega, decide_eq_true h3⟩
        · exact a2 i h1 (by omega) h3
    · rw [a1, if_pos (by omega)] at happ
      exact .inr ⟨i, happ, a2, by omega, a4, a5⟩
theorem last_spec {L : List E} {H : Nat → Int} (hP : ∀ i x, L[i]? = some x → P (L.take i) [x] = decide (H (i + 1) ≤ 0)) (s : Int) : ∀ n, n ≤ L.length →
    (lastF P [] (L.take n) s = -1 ∧ ∀ i : Nat, (i : Int) < s → i < n → ¬ H (i + 1) ≤ 0) ∨ ∃ i : Nat, lastF P [] (L.take n) s = i ∧ (i : Int) < s ∧ i < n ∧ H (i + 1) ≤ 0 ∧ ∀ j : Nat, i < j → (j : Int) < s → j < n → ¬ H (j + 1) ≤ 0
  | 0, _ => .inl ⟨by simp [lastF], fun i _ h => by omega⟩
  | n + 1, h => by
    obtain ⟨x, hx, _⟩ := drop_cons (l := L) (i := n) (by omega)
    have ht : L.take (n + 1) = L.take n ++ [x] := by rw [List.take_add_one, hx]; rfl
    have happ := lastF_append (P := P) [] (L.take n) [x] s
    have hlen : (L.take n).length = n := by rw [List.length_take]; omega
    rw [← ht, hlen, List.nil_append] at happ
    have h1 : lastF P (L.take n) [x] (s - n) = if s - n > 0 ∧ P (L.take n) [x] = true then 0 else -1 := by rw [lastF]; simp [lastF]
    rw [h1, hP n x hx] at happ
    by_cases hc : s - n > 0 ∧ decide (H (n + 1) ≤ 0) = true
    · rw [if_pos hc, if_pos (by omega)] at happ
      exact .inr ⟨n, by omega, by omega, by omega, of_decide_eq_true hc.2, fun j h1 h2 h3 => by omega⟩
    · rw [if_neg hc, if_neg (by omega)] at happ
      have hno : (n : Int) < s → ¬ H (n + 1) ≤ 0 := fun h1 h3 => hc ⟨by omega, decide_eq_true h3⟩
      rcases last_spec hP s n (by omega) with ⟨a1, a2⟩ | ⟨i, a1, a2, a3, a4, a5⟩
      · refine .inl ⟨by rw [happ, a1], fun i g1 g2 => ?_⟩
        by_cases hi : i = n
        · subst hi; exact hno g1
        · exact a2 i g1 (by omega)
      · refine .inr ⟨i, by rw [happ, a1], a2, by omega, a4, fun j g1 g2 g3 => ?_⟩
        by_cases hj : j = n
        · subst hj; exact hno g2
        · exact a5 j g1 g2 (by omega)
end
def fallB (base : Int) (l u : List TMark) : Bool := decide (u ≠ []) && decide (base + (l.map mwt).sum + lowF (u.map mwt) ≤ 0)
abbrev SmallB (base : Int) : Prop := -1099511627776 ≤ base ∧ base ≤ 1099511627776
theorem fall_ok {base : Int} (hb : SmallB base) : PredOk 1000000 (fun _ => True) IsSwell (fallB base) (fun a b => bridge_low_1.f K1 a b base) where
  run := by
    intro a b l u hl hu _ hN
    have h1 := sum_bound (small_wt l)
    have h2 := low_bound (small_wt u)
    simp only [List.length_append] at hN
    simp only [List.length_map] at h1 h2
    unfold bridge_low_1.f fallB
    rw [hl.weight, hu.weight]
    unfold SmallB at hb
    cases u with
    | nil => simp [tideF]
    | cons x v =>
      have e0 : decide ((tideF ((x :: v).map mwt)).n > 0) = true := by simp [tideF]
      simp only [List.length_cons] at hN h2
      have hw : w64 (w64 (base + (tideF (l.map mwt)).sum) + (tideF ((x :: v).map mwt)).low) = base + (l.map mwt).sum + lowF ((x :: v).map mwt) := by
        have e1 : w64 (base + (tideF (l.map mwt)).sum) = base + (l.map mwt).sum := w64_id (x := base + (l.map mwt).sum) (by omega) (by omega)
        rw [e1]
        exact w64_id (x := base + (l.map mwt).sum + lowF ((x :: v).map mwt)) (by omega) (by omega)
      rw [e0]
      simp only [cond_true, hw]
      simp
  nil l := by simp [fallB]
  app l m n := by
    unfold fallB
    by_cases hm : m = []
    · subst hm; simp
    · by_cases hn : n = []
      · subst hn; simp
      · have h1 : lowF ((m ++ n).map mwt) = min (lowF (m.map mwt)) ((m.map mwt).sum + lowF (n.map mwt)) := by
          rw [List.map_append, lowF_append _ _ (by simpa using hm) (by simpa using hn)]
        have h2 : ((l ++ m).map mwt).sum = (l.map mwt).sum + (m.map mwt).sum := by simp
        rw [h1, h2]
        have h3 : m ++ n ≠ [] := by simp [hm]
        simp only [h3, hm, hn, ne_eq, not_false_eq_true, decide_true, Bool.true_and]
        rw [← Bool.decide_or]
        congr 1
        apply propext
        omega
theorem fall_at (m : List TMark) (base : Int) (i : Nat) (x : TMark) (hx : m[i]? = some x) : fallB base (m.take i) [x] = decide (hgt m base (i + 1) ≤ 0) := by
  unfold fallB hgt
  have ht : (wts m).take (i + 1) = (m.take i).map mwt ++ [mwt x] := by
    rw [List.map_take, List.take_add_one]
    simp only [wts, List.getElem?_map, hx]
    rfl
  rw [ht, List.sum_append]
  simp [lowF, Int.add_assoc]
theorem hgt_bound {m : List TMark} (hm : m.length < 100000) {base : Int} (hb : SmallB base) (n : Nat) : -4611686018427387904 ≤ hgt m base n ∧ hgt m base n ≤ 4611686018427387904 := by
  have h := sum_bound (ns := (wts m).take n) ((small_wt m).take n)
  have h2 : ((wts m).take n).length ≤ m.length := by simp [wts]; omega
  unfold hgt SmallB at *
  generalize (wts m).take n = q at *
  omega
section
variable {p : PN TMark TSwell} {r : TRef} {m : List TMark} {c : Int} {B : Nat}
theorem height_at (h : GrM p r m c B) (hl : m.length < 100000) {base : Int} (hb : SmallB base) (n : Nat) (hn : n ≤ m.length) : bridge_Height.f K1 p r (n : Int) base = some (hgt m base n) := by
  have hc : clampN m (n : Int) = n := by unfold clampN; omega
  have hb2 := hgt_bound hl hb n
  rw [height_ok h hl, hc]
  congr 1
  exact w64_id (x := hgt m base n) (by omega) (by omega)
theorem next_ok (h : GrM p r m c B) (hl : m.length < 100000) {base : Int} (hb : SmallB base) (i : Int) : ∃ v, bridge_Next.f K1 p r i base = some v ∧ IsNext m base (clampN m i) v := by
  have hc := clampN_le m i
  have q1 := h.first okM (by decide) (fall_ok hb) (clampN m i : Int) (by omega)
  unfold bridge_Next.f bridge_clamp.f bridge_low.f
  simp only [len_ok h, Option.bind_some, clampN_eq, height_at h hl hb _ hc, q1]
  by_cases h0 : hgt m base (clampN m i) ≤ 0
  · simp only [h0, decide_true, cond_true]
    exact ⟨_, rfl, .inr ⟨_, rfl, Nat.le_refl _, hc, h0, fun q h1 h2 => by omega⟩⟩
  · simp only [h0, decide_false, cond_false]
    have hs := first_spec (L := m) (H := hgt m base) (fall_at m base) (clampN m i : Int) m.length (by simp)
    rw [List.take_of_length_le (by simp)] at hs
    rcases hs with ⟨a1, a2⟩ | ⟨j, a1, a2, a3, a4, a5⟩
    · rw [a1]
      refine ⟨-1, rfl, .inl ⟨rfl, fun j h1 h2 => ?_⟩⟩
      by_cases hj : j = clampN m i
      · subst hj; exact h0
      · obtain ⟨q, rfl⟩ : ∃ q, j = q + 1 := ⟨j - 1, by omega⟩
        exact a2 q (by omega) (by omega)
    · rw [a1]
      have e0 : decide ((j : Int) ≥ 0) = true := by simp
      simp only [e0, cond_true]
      rw [w64_succ (by omega)]
      refine ⟨_, rfl, .inr ⟨j + 1, rfl, by omega, by omega, a4, fun q h1 h2 => ?_⟩⟩
      by_cases hq : q = clampN m i
      · subst hq; exact h0
      · obtain ⟨z, rfl⟩ : ∃ z, q = z + 1 := ⟨q - 1, by omega⟩
        exact a5 z (by omega) (by omega)
theorem prior_ok (h : GrM p r m c B) (hl : m.length < 100000) {base : Int} (hb : SmallB base) (i : Int) : ∃ v, bridge_Prior.f K1 p r i base = some v ∧ IsPrior m base (clampN m i) v := by
  have hc := clampN_le m i
  have q1 := h.last okM (by decide) (fall_ok hb) (clampN m i : Int) (by omega)
  have h00 : hgt m base 0 = base := by simp [hgt]
  unfold bridge_Prior.f bridge_clamp.f bridge_low.f
  simp only [len_ok h, Option.bind_some, clampN_eq, q1]
  have hs := last_spec (L := m) (H := hgt m base) (fall_at m base) (clampN m i : Int) m.length (by simp)
  rw [List.take_of_length_le (by simp)] at hs
  rcases hs with ⟨a1, a2⟩ | ⟨j, a1, a2, a3, a4, a5⟩
  · rw [a1]
    have hpos : ∀ q, 0 < q → q ≤ clampN m i → ¬ hgt m base q ≤ 0 := fun q h1 h2 => by
      obtain ⟨z, rfl⟩ : ∃ z, q = z + 1 := ⟨q - 1, by omega⟩
      exact a2 z (by omega) (by omega)
    have e0 : decide ((-1 : Int) ≥ 0) = false := rfl
    simp only [e0, cond_false]
    by_cases hb0 : base ≤ 0
    · simp only [hb0, decide_true, cond_true]
      exact ⟨_, rfl, .inr ⟨0, rfl, by omega, by rw [h00]; exact hb0, fun q h1 h2 => hpos q h1 h2⟩⟩
    · simp only [hb0, decide_false, cond_false]
      refine ⟨-1, rfl, .inl ⟨rfl, fun j hj => ?_⟩⟩
      by_cases hj0 : j = 0
      · subst hj0; rw [h00]; exact hb0
      · exact hpos j (by omega) hj
  · rw [a1]
    have e0 : decide ((j : Int) ≥ 0) = true := by simp
    simp only [e0, cond_true]
    rw [w64_succ (by omega)]
    refine ⟨_, rfl, .inr ⟨j + 1, rfl, by omega, a4, fun q h1 h2 => ?_⟩⟩
    obtain ⟨z, rfl⟩ : ∃ z, q = z + 1 := ⟨q - 1, by omega⟩
    exact a5 z (by omega) (by omega) (by omega)
end
end Go.Proofs.YtpeoalmhccmdiaaGreat
namespace Go.Proofs.YtpeoalmhccmdiaaGreat
open Go Go.Proofs.YtpeoalmhccmdiaaGreat.Sx
def keyM (t : Int) : TMark := ⟨⟨t, false, zTItem⟩, false, zTTook⟩
theorem key_ok (t : Int) : wave_Key.f K1 t = some (keyM t) := rfl
def slot (x : TItem) : TSlot := ⟨x, false, 0⟩
abbrev sls (l : List TItem) : List TSlot := l.map slot
theorem of_ok (x : TItem) : shelf_Of.f K1 x = some (slot x) := rfl
structure CutM (t : Int) (m A M D : List TMark) : Prop where
  eq : m = A ++ (M ++ D)
  la : ∀ x ∈ A, x.op.time < t
  lb : ∀ x ∈ D, t < x.op.time
  lm : M = [] ∨ ∃ y, M = [y] ∧ y.op.time = t
theorem CutM.of {e : TMark} {m a mm b : List TMark} (h : Cut ltM e m a mm b) : CutM e.op.time m a mm b :=
  ⟨h.eq, h.la, h.lb, h.lm.imp id (fun ⟨y, h1, h2, h3⟩ => ⟨y, h1, by unfold ltM at h2 h3; omega⟩)⟩
theorem CutM.fA {t : Int} {m A M D : List TMark} (h : CutM t m A M D) : m.filter (fun x => decide (x.op.time < t)) = A := by
  rw [h.eq, List.filter_append, List.filter_append]
  have h1 : A.filter (fun x => decide (x.op.time < t)) = A := List.filter_eq_self.2 (fun x hx => by simpa using h.la x hx)
  have h2 : D.filter (fun x => decide (x.op.time < t)) = [] := List.filter_eq_nil_iff.2 (fun x hx => by have := h.lb x hx; simp; omega)
  have h3 : M.filter (fun x => decide (x.op.time < t)) = [] := List.filter_eq_nil_iff.2 (fun x hx => by
    rcases h.lm with h4 | ⟨y, h4, h5⟩
    · subst h4; cases hx
    · subst h4; rw [List.mem_singleton.1 hx]; simp; omega)
  rw [h1, h2, h3]; simp
theorem CutM.fD {t : Int} {m A M D : List TMark} (h : CutM t m A M D) : m.filter (fun x => decide (t < x.op.time)) = D := by
  rw [h.eq, List.filter_append, List.filter_append]
  have h1 : A.filter (fun x => decide (t < x.op.time)) = [] := List.filter_eq_nil_iff.2 (fun x hx => by have := h.la x hx; simp; omega)
  have h2 : D.filter (fun x => decide (t < x.op.time)) = D := List.filter_eq_self.2 (fun x hx => by simpa using h.lb x hx)
  have h3 : M.filter (fun x => decide (t < x.op.time)) = [] := List.filter_eq_nil_iff.2 (fun x hx => by
    rcases h.lm with h4 | ⟨y, h4, h5⟩
    · subst h4; cases hx
    · subst h4; rw [List.mem_singleton.1 hx]; simp; omega)
  rw [h1, h2, h3]; simp
theorem CutM.unique {t : Int} {m A M D A' M' D' : List TMark} (h : CutM t m A M D) (g : CutM t m A' M' D') : A = A' ∧ M = M' ∧ D = D' := by
  have e1 : A = A' := h.fA.symm.trans g.fA
  have e2 : D = D' := h.fD.symm.trans g.fD
  subst e1 e2
  have := h.eq.symm.trans g.eq
  exact ⟨rfl, List.append_cancel_right (List.append_cancel_left this), rfl⟩
theorem CutM.mem {t : Int} {m A M D : List TMark} (h : CutM t m A M D) {x : TMark} (hx : x ∈ m) (ht : x.op.time = t) : M = [x] := by
  rw [h.eq] at hx
  rcases List.mem_append.1 hx with hx | hx
  · have := h.la x hx; omega
  · rcases List.mem_append.1 hx with hx | hx
    · rcases h.lm with h1 | ⟨y, h1, h2⟩
      · subst h1; cases hx
      · subst h1; rw [List.mem_singleton.1 hx]
    · have := h.lb x hx; omega
def fnd : List TMark → TMark × Bool
  | y :: _ => (y, true)
  | [] => (zTMark, false)
section
variable {p : PN TMark TSwell} {r : TRef} {m A M D : List TMark} {c : Int} {B : Nat} {t : Int}
theorem mcut (h : GrM p r m c B) (hl : m.length < 100000) (t : Int) : ∃ A M D, CutM t m A M D := by
  obtain ⟨a, mm, b, h1, _⟩ := h.find okM (by decide) (keyM t) (by omega)
  exact ⟨a, mm, b, .of h1⟩
theorem mfind (h : GrM p r m c B) (hl : m.length < 100000) (hc : CutM t m A M D) : Tree_Find.f opsM K1 p r (keyM t) = some (fnd M) := by
  obtain ⟨a, mm, b, h1, h2⟩ := h.find okM (by decide) (keyM t) (by omega)
  obtain ⟨rfl, rfl, rfl⟩ := hc.unique (.of h1)
  rw [h2]; cases M <;> rfl
theorem mrank (h : GrM p r m c B) (hl : m.length < 100000) (hc : CutM t m A M D) : Tree_Rank.f opsM K1 p r (keyM t) = some (A.length : Int) := by
  obtain ⟨a, mm, b, h1, h2⟩ := h.rank okM (by decide) (keyM t) (by omega)
  obtain ⟨rfl, rfl, rfl⟩ := hc.unique (.of h1)
  exact h2
theorem mput (h : GrM p r m c B) (hl : m.length < 100000) (hB : B < 1000000) (x : TMark) (hc : CutM x.op.time m A M D) (hcap : M = [] → (m.length : Int) ≠ c) : ∃ r' p', Tree_Put.f opsM K1 p r x = some (true, r', p') ∧ GrM p' r' (A ++ x :: D) c (B + 1) := by
  obtain ⟨a, mm, b, h1, h2⟩ := h.put okM (by decide) x trivial (by omega) (by omega)
  obtain ⟨rfl, rfl, rfl⟩ := hc.unique (.of h1)
  rcases h2 with ⟨g1, g2, _⟩ | ⟨r', p', _, g2, g3⟩
  · exact absurd g2 (hcap g1)
  · exact ⟨r', p', g2, g3⟩
end
section
variable {p : PN TSlot TSize} {r : TRef} {T : List TSlot} {c : Int} {B : Nat}
theorem scut_item {s : TSlot} {a mm b : List TSlot} (h : Cut ltS s T a mm b) : (mm = [] ∧ ∀ s' ∈ T, s'.item ≠ s.item) ∨ ∃ y, mm = [y] ∧ y.item = s.item := by
  have hne : ∀ x, ltS x s ∨ ltS s x → x.item ≠ s.item := fun x hx e => by
    unfold ltS at hx; rw [e] at hx; exact hx.elim (ilt_irrefl _) (ilt_irrefl _)
  rcases h.lm with h1 | ⟨y, h1, h2, h3⟩
  · refine .inl ⟨h1, fun s' hs => ?_⟩
    rw [h.eq, h1] at hs
    rcases List.mem_append.1 hs with hs | hs
    · exact hne s' (.inl (h.la s' hs))
    · exact hne s' (.inr (h.lb s' hs))
  · exact .inr ⟨y, h1, item_eq h3 h2⟩
theorem sfind (h : GrS p r T c B) (hl : T.length < 100000) (x : TItem) : ∃ s b, Tree_Find.f opsS K1 p r (slot x) = some (s, b) ∧ ((b = true ∧ s ∈ T ∧ s.item = x) ∨ (b = false ∧ ∀ s' ∈ T, s'.item ≠ x)) := by
  obtain ⟨a, mm, b, h1, h2⟩ := h.find okS (by decide) (slot x) (by omega)
  rcases scut_item h1 with ⟨rfl, h3⟩ | ⟨y, rfl, h3⟩
  · exact ⟨_, _, h2, .inr ⟨rfl, h3⟩⟩
  · exact ⟨_, _, h2, .inl ⟨rfl, by rw [h1.eq]; simp, h3⟩⟩
theorem sput (h : GrS p r T c B) (hl : T.length < 100000) (hB : B < 1000000) (s : TSlot) (hn : ∀ s' ∈ T, s'.item ≠ s.item) (hcap : (T.length : Int) ≠ c) : ∃ r' p' T', Tree_Put.f opsS K1 p r s = some (true, r', p') ∧ GrS p' r' T' c (B + 1) ∧ T'.Perm (s :: T) := by
  obtain ⟨a, mm, b, h1, h2⟩ := h.put okS (by decide) s trivial (by omega) (by omega)
  have hm : mm = [] := by
    rcases scut_item h1 with ⟨h3, _⟩ | ⟨y, h3, h4⟩
    · exact h3
    · exact absurd h4 (hn y (by rw [h1.eq, h3]; simp))
  rcases h2 with ⟨_, g2, _⟩ | ⟨r', p', _, g2, g3⟩
  · exact absurd g2 hcap
  · refine ⟨r', p', _, g2, g3, ?_⟩
    have e := h1.eq; rw [hm, List.nil_append] at e; rw [e]
    exact List.perm_middle
theorem sdrop (h : GrS p r T c B) (hl : T.length < 100000) (x : TItem) : ∃ e b r' p' T', Tree_Drop.f opsS K1 p r (slot x) = some (e, b, r', p') ∧ GrS p' r' T' c B ∧ ((∃ s, s.item = x ∧ T.Perm (s :: T')) ∨ ((∀ s ∈ T, s.item ≠ x) ∧ T' = T)) := by
  obtain ⟨a, mm, b, h1, h2⟩ := h.drop okS (by decide) (slot x) (by omega)
  rcases h2 with ⟨g1, g2⟩ | ⟨y, r', p', g1, g2, g3⟩
  · refine ⟨_, _, r, p, T, g2, h, .inr ⟨?_, rfl⟩⟩
    rcases scut_item h1 with ⟨_, h3⟩ | ⟨y, h3, _⟩
    · exact h3
    · rw [g1] at h3; cases h3
  · refine ⟨_, _, r', p', a ++ b, g2, g3, .inl ⟨y, ?_, ?_⟩⟩
    · rcases scut_item h1 with ⟨h3, _⟩ | ⟨y', h3, h4⟩
      · rw [g1] at h3; cases h3
      · rw [g1] at h3; cases h3; exact h4
    · rw [h1.eq, g1]; exact List.perm_middle
end
def slotsOf (m : List TMark) : List TSlot := (m.filter (·.op.insert)).map (fun x => ⟨x.op.item, true, x.op.time⟩)
theorem slotsOf_app (a b : List TMark) : slotsOf (a ++ b) = slotsOf a ++ slotsOf b := by simp [slotsOf]
theorem mem_slotsOf {m : List TMark} {s : TSlot} : s ∈ slotsOf m ↔ ∃ x ∈ m, x.op.insert = true ∧ s = ⟨x.op.item, true, x.op.time⟩ := by
  unfold slotsOf
  simp only [List.mem_map, List.mem_filter]
  constructor
  · rintro ⟨x, ⟨h1, h2⟩, rfl⟩; exact ⟨x, h1, h2, rfl⟩
  · rintro ⟨x, h1, h2, rfl⟩; exact ⟨x, ⟨h1, h2⟩, rfl⟩
theorem Dist.eq {m : List TMark} (h : Dist m) {x y : TMark} (hx : x ∈ m) (hy : y ∈ m) (h1 : x.op.insert = true) (h2 : y.op.insert = true) (h3 : x.op.item = y.op.item) : x = y := by
  obtain ⟨i, hi⟩ := List.mem_iff_getElem?.1 hx
  obtain ⟨j, hj⟩ := List.mem_iff_getElem?.1 hy
  have := h i j x y hi hj h1 h2 h3
  subst this; rw [hi] at hj; cases hj; rfl
theorem len_split (m : List TMark) : (hereI m).length + (goneI m).length ≤ m.length := by
  induction m with
  | nil => simp [hereI, goneI]
  | cons x m ih =>
    have h1 := hereI_app [x] m; have h2 := goneI_app [x] m
    rw [List.singleton_append] at h1 h2
    rw [h1, h2]
    simp only [List.length_append, List.length_cons]
    have : (hereI [x]).length + (goneI [x]).length ≤ 1 := by
      unfold hereI goneI
      cases hi : x.op.insert <;> cases hh : x.here <;> simp [hi, hh]
    omega
theorem len_slots (m : List TMark) : (slotsOf m).length ≤ m.length := by
  unfold slotsOf; rw [List.length_map]; exact List.length_filter_le ..
structure QRep (q : TQueue) (m : List TMark) (c : Int) (B : Nat) : Prop where
  cap : q.capacity = c
  marks : GrM q.marks.p q.marks.r m c B
  pres : ∃ T, GrS q.present.p q.present.r T c B ∧ T.Perm (sls (hereI m))
  gone : ∃ T, GrS q.gone.p q.gone.r T c B ∧ T.Perm (sls (goneI m))
  times : ∃ T, GrS q.times.p q.times.r T c B ∧ T.Perm (slotsOf m)
  dist : Dist m
  len : (m.length : Int) ≤ c
  lim : m.length ≤ 100
  bnd : B < 900000
  plain : ∀ x ∈ m, x.took = zTTook ∧ (x.op.insert = false → x.here = false ∧ x.op.item = zTItem)
theorem turnM_mid {A D : List TMark} {x : TMark} (hd : Dist (A ++ x :: D)) (hi : x.op.insert = true) (h : Bool) : turnM x.op.item h (A ++ x :: D) = A ++ ⟨x.op, h, x.took⟩ :: D := by
  apply List.ext_getElem?
  intro i
  rw [turnM_get]
  by_cases e : i = A.length
  · subst e
    rw [get_mid, get_mid, Option.map_some]
    unfold turnF; rw [if_pos ⟨hi, rfl⟩]
  · obtain ⟨q, rfl⟩ := PQ.sh_ex e
    rw [get_sh, get_sh]
    cases hq : (A ++ D)[q]? with
    | none => rfl
    | some y =>
      rw [Option.map_some]
      unfold turnF; rw [if_neg]
      rintro ⟨h3, h4⟩
      exact e (hd _ A.length y x (by rw [get_sh]; exact hq) (get_mid A D x) h3 hi h4)
theorem hereI_mid (A D : List TMark) (x : TMark) : hereI (A ++ x :: D) = hereI A ++ (hereI [x] ++ hereI D) := by
  rw [hereI_app, ← List.singleton_append (l := D), hereI_app]
theorem goneI_mid (A D : List TMark) (x : TMark) : goneI (A ++ x :: D) = goneI A ++ (goneI [x] ++ goneI D) := by
  rw [goneI_app, ← List.singleton_append (l := D), goneI_app]
theorem slotsOf_mid (A D : List TMark) (x : TMark) : slotsOf (A ++ x :: D) = slotsOf A ++ (slotsOf [x] ++ slotsOf D) := by
  rw [slotsOf_app, ← List.singleton_append (l := D), slotsOf_app]
theorem one_S {x : TMark} (h : isS x) : hereI [x] = [x.op.item] ∧ goneI [x] = [] := by simp [hereI, goneI, h.1, h.2]
theorem one_G {x : TMark} (h : isG x) : hereI [x] = [] ∧ goneI [x] = [x.op.item] := by simp [hereI, goneI, h.1, h.2]
theorem one_D {x : TMark} (h : x.op.insert = false) : hereI [x] = [] ∧ goneI [x] = [] ∧ slotsOf [x] = [] := by simp [hereI, goneI, slotsOf, h]
theorem one_I {x : TMark} (h : x.op.insert = true) : slotsOf [x] = [⟨x.op.item, true, x.op.time⟩] := by simp [slotsOf, h]
theorem sls_item {l : List TItem} {s : TSlot} (h : s ∈ sls l) : s = slot s.item ∧ s.item ∈ l := by
  obtain ⟨y, h1, rfl⟩ := List.mem_map.1 h
  exact ⟨rfl, h1⟩
theorem perm_less {T T' : List TSlot} {l l' : List TItem} {x : TItem} {s : TSlot} (h1 : T.Perm (sls l)) (h2 : l.Perm (x :: l')) (h3 : T.Perm (s :: T')) (h4 : s.item = x) : T'.Perm (sls l') := by
  have hs : s ∈ sls l := h1.mem_iff.1 (h3.mem_iff.2 List.mem_cons_self)
  have e : s = slot x := by rw [← h4]; exact (sls_item hs).1
  subst e
  have : (slot x :: T').Perm (slot x :: sls l') := h3.symm.trans (h1.trans (h2.map slot))
  exact this.cons_inv
theorem not_here {m : List TMark} (hd : Dist m) {x : TMark} (hx : x ∈ m) (hi : x.op.insert = true) (hh : x.here = false) : x.op.item ∉ hereI m := fun h => by
  obtain ⟨i, y, h1, h2, h3⟩ := mem_hereI.1 h
  have := hd.eq (List.mem_of_getElem? h1) hx h2.1 hi h3
  subst this; exact absurd (hh.symm.trans h2.2) (by decide)
theorem not_gone {m : List TMark} (hd : Dist m) {x : TMark} (hx : x ∈ m) (hi : x.op.insert = true) (hh : x.here = true) : x.op.item ∉ goneI m := fun h => by
  obtain ⟨i, y, h1, h2, h3⟩ := mem_goneI.1 h
  have := hd.eq (List.mem_of_getElem? h1) hx h2.1 hi h3
  subst this; exact absurd (hh.symm.trans h2.2) (by decide)
theorem turn_ok {q : TQueue} {m : List TMark} {c : Int} {B : Nat} (h : QRep q m c B) {x : TMark} (hx : x ∈ m) (hi : x.op.insert = true) {hh : Bool} (hf : x.here = !hh) (hb9 : B + 1 < 900000) :
    ∃ q', partial_Queue_turn.f K1 q x.op.item hh = some q' ∧ QRep q' (turnM x.op.item hh m) c (B + 1) ∧ q'.excess = q.excess := by
  obtain ⟨Tt, t1, t2⟩ := h.times
  obtain ⟨Tp, p1, p2⟩ := h.pres
  obtain ⟨Tg, g1, g2⟩ := h.gone
  have hlim := h.lim; have hbnd := h.bnd; have hlen := h.len
  have ls := len_split m
  have lt : Tt.length ≤ m.length := by rw [t2.length_eq]; exact len_slots m
  have lp : Tp.length = (hereI m).length := by rw [p2.length_eq]; simp
  have lg : Tg.length = (goneI m).length := by rw [g2.length_eq]; simp
  -- the time
  obtain ⟨s, b, f1, f2⟩ := sfind t1 (by omega) x.op.item
  have hs0 : (⟨x.op.item, true, x.op.time⟩ : TSlot) ∈ Tt := t2.mem_iff.2 (mem_slotsOf.2 ⟨x, hx, hi, rfl⟩)
  have hs : s.time = x.op.time := by
    rcases f2 with ⟨_, h1, h2⟩ | ⟨_, h1⟩
    · obtain ⟨y, y1, y2, rfl⟩ := mem_slotsOf.1 (t2.mem_iff.1 h1)
      rw [h.dist.eq y1 hx y2 hi h2]
    · exact absurd rfl (h1 _ hs0)
  -- the mark
  obtain ⟨A, M, D, hc⟩ := mcut h.marks (by omega) x.op.time
  have hM := hc.mem hx rfl
  subst hM
  have hm : m = A ++ x :: D := hc.eq
  obtain ⟨r1, q1, m1, m2⟩ := mput h.marks (by omega) (by omega) ⟨x.op, hh, x.took⟩ (A := A) (M := [x]) (D := D) hc (fun e => by cases e)
  have hd := h.dist
  rw [hm] at hd
  have ht := turnM_mid hd hi hh
  rw [← hm] at ht
  have hd' : Dist (turnM x.op.item hh m) := by
    intro i j a b ha hb h1 h2 h3
    rw [turnM_get] at ha hb
    obtain ⟨a', ha', rfl⟩ := Option.map_eq_some_iff.1 ha
    obtain ⟨b', hb', rfl⟩ := Option.map_eq_some_iff.1 hb
    rw [turnF_op] at h1 h2 h3
    rw [turnF_op] at h3
    exact h.dist i j a' b' ha' hb' h1 h2 h3
  have hsl : slotsOf (turnM x.op.item hh m) = slotsOf m := by
    rw [ht, hm, slotsOf_mid, slotsOf_mid]; rw [one_I hi, one_I (x := ⟨x.op, hh, x.took⟩) hi]
  have hpl : ∀ y ∈ turnM x.op.item hh m, y.took = zTTook ∧ (y.op.insert = false → y.here = false ∧ y.op.item = zTItem) := by
    intro y hy
    obtain ⟨y', h1, rfl⟩ := List.mem_map.1 hy
    have := h.plain y' h1
    rw [turnF_took, turnF_op]
    refine ⟨this.1, fun h2 => ?_⟩
    rw [turnF_del h2]; exact this.2 h2
  have hM1 : GrM q1 r1 (turnM x.op.item hh m) c (B + 1) := by rw [ht]; exact m2
  have hlen' := turnM_len x.op.item hh m
  unfold partial_Queue_turn.f
  simp only [of_ok, Option.bind_some, f1, hs, key_ok, mfind h.marks (by omega) hc, fnd, m1]
  cases hh with
  | true =>
    have hG : isG x := ⟨hi, hf⟩
    have hS : isS ⟨x.op, true, x.took⟩ := ⟨hi, rfl⟩
    have e1 : (goneI m).Perm (x.op.item :: goneI (turnM x.op.item true m)) := by
      rw [ht, hm, goneI_mid, goneI_mid, (one_G hG).2, (one_S hS).2]; exact List.perm_middle
    have e2 : (hereI (turnM x.op.item true m)).Perm (x.op.item :: hereI m) := by
      rw [ht, hm, hereI_mid, hereI_mid, (one_G hG).1, (one_S hS).1]; exact List.perm_middle
    obtain ⟨e, b, r2, q2, T2, d1, d2, d3⟩ := sdrop g1 (by omega) x.op.item
    have l1 := e1.length_eq
    simp only [List.length_cons] at l1
    obtain ⟨r3, q3, T3, u1, u2, u3⟩ := sput p1 (by omega) (by omega) (slot x.op.item) (fun s' hs' e' => by
      have := (sls_item (p2.mem_iff.1 hs')).2
      rw [e'] at this
      exact not_here h.dist hx hi hf this) (by omega)
    simp only [cond_true, d1, Option.bind_some, u1]
    refine ⟨_, rfl, ⟨h.cap, hM1, ⟨T3, u2, u3.trans ((p2.cons _).trans (e2.map slot).symm)⟩, ⟨T2, d2.mono (by omega) (by omega), ?_⟩, ⟨Tt, t1.mono (by omega) (by omega), hsl ▸ t2⟩, hd', by omega, by omega, hb9, hpl⟩, rfl⟩
    rcases d3 with ⟨s, s1, s2⟩ | ⟨s1, _⟩
    · exact perm_less g2 e1 s2 s1
    · exact absurd rfl (s1 (slot x.op.item) (g2.mem_iff.2 (List.mem_map_of_mem (e1.mem_iff.2 List.mem_cons_self))))
  | false =>
    have hS : isS x := ⟨hi, hf⟩
    have hG : isG ⟨x.op, false, x.took⟩ := ⟨hi, rfl⟩
    have e1 : (hereI m).Perm (x.op.item :: hereI (turnM x.op.item false m)) := by
      rw [ht, hm, hereI_mid, hereI_mid, (one_G hG).1, (one_S hS).1]; exact List.perm_middle
    have e2 : (goneI (turnM x.op.item false m)).Perm (x.op.item :: goneI m) := by
      rw [ht, hm, goneI_mid, goneI_mid, (one_G hG).2, (one_S hS).2]; exact List.perm_middle
    obtain ⟨e, b, r2, q2, T2, d1, d2, d3⟩ := sdrop p1 (by omega) x.op.item
    have l1 := e1.length_eq
    simp only [List.length_cons] at l1
    obtain ⟨r3, q3, T3, u1, u2, u3⟩ := sput g1 (by omega) (by omega) (slot x.op.item) (fun s' hs' e' => by
      have := (sls_item (g2.mem_iff.1 hs')).2
      rw [e'] at this
      exact not_gone h.dist hx hi hf this) (by omega)
    simp only [cond_false, d1, Option.bind_some, u1]
    refine ⟨_, rfl, ⟨h.cap, hM1, ⟨T2, d2.mono (by omega) (by omega), ?_⟩, ⟨T3, u2, u3.trans ((g2.cons _).trans (e2.map slot).symm)⟩, ⟨Tt, t1.mono (by omega) (by omega), hsl ▸ t2⟩, hd', by omega, by omega, hb9, hpl⟩, rfl⟩
    rcases d3 with ⟨s, s1, s2⟩ | ⟨s1, _⟩
    · exact perm_less p2 e1 s2 s1
    · exact absurd rfl (s1 (slot x.op.item) (p2.mem_iff.2 (List.mem_map_of_mem (e1.mem_iff.2 List.mem_cons_self))))
theorem QRep.exc {q : TQueue} {m : List TMark} {c : Int} {B : Nat} (h : QRep q m c B) (e : Int) : QRep ⟨q.capacity, q.marks, q.present, q.gone, q.times, e⟩ m c B := ⟨h.cap, h.marks, h.pres, h.gone, h.times, h.dist, h.len, h.lim, h.bnd, h.plain⟩
theorem wts_len (m : List TMark) : -(m.length : Int) ≤ (wts m).sum := by
  induction m with
  | nil => simp [wts]
  | cons x m ih =>
    have : -1 ≤ mwt x := by unfold mwt; split; split <;> omega; omega
    simp only [wts, List.map_cons, List.sum_cons, List.length_cons] at ih ⊢; omega
theorem cert_small {m : List TMark} {E : Int} (hc : CertM m E) : 0 ≤ E ∧ E ≤ m.length := by
  have h1 := hc.low 0 (Nat.zero_le _)
  rw [hgt_zero] at h1
  have h2 := hc.fin
  unfold hgt at h2
  rw [List.take_of_length_le (by simp [wts])] at h2
  have := wts_len m
  omega
theorem best_ok {p : PN TMark TSwell} {r : TRef} {m : List TMark} {c : Int} {B : Nat} (h : GrM p r m c B) (hl : m.length < 100000) {b : Nat} (hb : b ≤ m.length) : ∃ t, bridge_Best.f K1 p r (b : Int) = some t ∧ IsMax (goneI (m.drop b)) t := by
  obtain ⟨s, s1, s2⟩ := between_ok' h hl b m.length
  unfold bridge_Best.f bridge_clamp.f
  simp only [len_ok h, Option.bind_some, clampN_eq, clampN_nat hb, s1]
  refine ⟨_, rfl, ?_⟩
  have := s2.gone
  rwa [List.take_of_length_le (Nat.le_refl _)] at this
theorem least_ok {p : PN TMark TSwell} {r : TRef} {m : List TMark} {c : Int} {B : Nat} (h : GrM p r m c B) (hl : m.length < 100000) {b : Nat} (hb : b ≤ m.length) : ∃ t, bridge_Least.f K1 p r (b : Int) = some t ∧ IsMin (hereI (m.take b)) t := by
  obtain ⟨s, s1, s2⟩ := between_ok' h hl 0 b
  have s1' : Tree_Between.f opsM K1 p r 0 (b : Int) = some s := s1
  unfold bridge_Least.f bridge_clamp.f
  simp only [len_ok h, Option.bind_some, clampN_eq, clampN_nat hb, s1']
  exact ⟨_, rfl, s2.least⟩
section
variable {q : TQueue} {m : List TMark} {c : Int} {B : Nat} {E : Int}
theorem leave_ok (h : QRep q m c B) (hE : q.excess = E) (h0 : 0 ≤ E ∧ E ≤ 100) {n : Nat} (hn : n ≤ m.length) (hb9 : B + 1 < 900000) : ∃ v, IsNext m E n v ∧ ∀ b : Nat, v = b → b ≤ m.length → ∃ least, IsMin (hereI (m.take b)) least ∧
    ((least.found = false ∧ partial_Queue_leave.f K1 q (n : Int) = some (⟨[], []⟩, ⟨q.capacity, q.marks, q.present, q.gone, q.times, E + 1⟩)) ∨
     (least.found = true ∧ ((∃ x ∈ m, isS x ∧ x.op.item = least.item) → ∃ q', partial_Queue_leave.f K1 q (n : Int) = some (⟨[], [least.item]⟩, q') ∧ QRep q' (turnM least.item false m) c (B + 1) ∧ q'.excess = E))) := by
  have hlim := h.lim
  obtain ⟨v, v1, v2⟩ := next_ok h.marks (by omega) (base := E) ⟨by omega, by omega⟩ (n : Int)
  rw [clampN_nat hn] at v2
  refine ⟨v, v2, fun b hv hb => ?_⟩
  subst hv
  obtain ⟨t, t1, t2⟩ := least_ok h.marks (by omega) hb
  refine ⟨t, t2, ?_⟩
  unfold partial_Queue_leave.f
  simp only [hE, v1, Option.bind_some, t1]
  cases hf : t.found with
  | false =>
    refine .inl ⟨rfl, ?_⟩
    have hw : w64 (E + 1) = E + 1 := w64_id (by omega) (by omega)
    simp only [Bool.not_false, cond_true, hw]
  | true =>
    refine .inr ⟨rfl, ?_⟩
    rintro ⟨x, x1, x2, x3⟩
    obtain ⟨q', g1, g2, g3⟩ := turn_ok h x1 x2.1 (hh := false) x2.2 hb9
    rw [x3] at g1 g2
    simp only [Bool.not_true, cond_false, g1, Option.bind_some]
    exact ⟨q', rfl, g2, by rw [g3, hE]⟩
end
end Go.Proofs.YtpeoalmhccmdiaaGreat
namespace Go.Proofs.YtpeoalmhccmdiaaGreat
open Go Go.Proofs.YtpeoalmhccmdiaaGreat.Sx
def Chg (ch : TChange) (m m' : List TMark) : Prop :=
  (ch = ⟨[], []⟩ ∧ (hereI m').Perm (hereI m)) ∨ (∃ y, ch = ⟨[y], []⟩ ∧ (hereI m').Perm (y :: hereI m)) ∨ (∃ y, ch = ⟨[], [y]⟩ ∧ (hereI m).Perm (y :: hereI m'))
structure QOk (q : TQueue) (m : List TMark) (E c : Int) (B : Nat) : Prop where
  rep : QRep q m c B
  cert : CertM m E
  exc : q.excess = E
theorem turn_permG {m : List TMark} (hd : Dist m) {x : TMark} (hx : x ∈ m) (h : isG x) : (hereI (turnM x.op.item true m)).Perm (x.op.item :: hereI m) := by
  obtain ⟨A, D, rfl⟩ := List.append_of_mem hx
  rw [turnM_mid hd h.1 true, hereI_mid, hereI_mid, (one_G h).1, (one_S (x := ⟨x.op, true, x.took⟩) ⟨h.1, rfl⟩).1]; exact List.perm_middle
theorem turn_permS {m : List TMark} (hd : Dist m) {x : TMark} (hx : x ∈ m) (h : isS x) : (hereI m).Perm (x.op.item :: hereI (turnM x.op.item false m)) := by
  obtain ⟨A, D, rfl⟩ := List.append_of_mem hx
  rw [turnM_mid hd h.1 false, hereI_mid, hereI_mid, (one_S h).1, (one_G (x := ⟨x.op, false, x.took⟩) ⟨h.1, rfl⟩).1]; exact List.perm_middle
theorem dist_ins {A D : List TMark} {x : TMark} (hd : Dist (A ++ D)) (hn : x.op.insert = true → ∀ y ∈ A ++ D, y.op.insert = true → y.op.item ≠ x.op.item) : Dist (A ++ x :: D) := by
  intro i j a b ha hb h1 h2 h3
  by_cases ei : i = A.length
  · subst ei
    rw [get_mid] at ha; cases ha
    by_cases ej : j = A.length
    · exact ej.symm
    · obtain ⟨k, rfl⟩ := PQ.sh_ex ej
      rw [get_sh] at hb
      exact absurd h3.symm (hn h1 b (List.mem_of_getElem? hb) h2)
  · obtain ⟨k, rfl⟩ := PQ.sh_ex ei
    rw [get_sh] at ha
    by_cases ej : j = A.length
    · subst ej
      rw [get_mid] at hb; cases hb
      exact absurd h3 (hn h2 a (List.mem_of_getElem? ha) h1)
    · obtain ⟨l, rfl⟩ := PQ.sh_ex ej
      rw [get_sh] at hb
      rw [hd k l a b ha hb h1 h2 h3]
theorem dist_del {A D : List TMark} {x : TMark} (hd : Dist (A ++ x :: D)) : Dist (A ++ D) := by
  intro i j a b ha hb h1 h2 h3
  have := hd (PQ.sh A.length i) (PQ.sh A.length j) a b (by rw [get_sh]; exact ha) (by rw [get_sh]; exact hb) h1 h2 h3
  have c1 := PQ.sh_cases A.length i; have c2 := PQ.sh_cases A.length j
  omega
theorem CutM.turn {t : Int} {m A M D : List TMark} (h : CutM t m A M D) (it : TItem) (b : Bool) : CutM t (turnM it b m) (turnM it b A) (turnM it b M) (turnM it b D) := by
  have key : ∀ (l : List TMark) (x : TMark), x ∈ turnM it b l → ∃ y ∈ l, x.op = y.op := fun l x hx => by
    obtain ⟨y, h1, rfl⟩ := List.mem_map.1 hx
    exact ⟨y, h1, turnF_op ..⟩
  refine ⟨by rw [h.eq, turnM_app, turnM_app], fun x hx => ?_, fun x hx => ?_, ?_⟩
  · obtain ⟨y, h1, h2⟩ := key A x hx; rw [h2]; exact h.la y h1
  · obtain ⟨y, h1, h2⟩ := key D x hx; rw [h2]; exact h.lb y h1
  · rcases h.lm with h1 | ⟨y, h1, h2⟩
    · exact .inl (by rw [h1]; rfl)
    · exact .inr ⟨turnF it b y, by rw [h1]; rfl, by rw [turnF_op]; exact h2⟩
section
variable {q : TQueue} {m A D : List TMark} {c : Int} {B : Nat} {E t : Int}
theorem addD (h : QRep q m c B) (hc : CutM t m A [] D) (hl : (m.length : Int) ≠ c) (hl2 : m.length < 100) (hb9 : B + 1 < 900000) : ∃ r p, Tree_Put.f opsM K1 q.marks.p q.marks.r (keyM t) = some (true, r, p) ∧ QRep ⟨q.capacity, ⟨p, r⟩, q.present, q.gone, q.times, q.excess⟩ (A ++ keyM t :: D) c (B + 1) := by
  have hlim := h.lim; have hbnd := h.bnd; have hlen := h.len
  have e : m = A ++ D := by have := hc.eq; rwa [List.nil_append] at this
  have hl3 : (A ++ keyM t :: D).length = m.length + 1 := by rw [e]; simp; omega
  obtain ⟨r, p, m1, m2⟩ := mput h.marks (by omega) (by omega) (keyM t) (A := A) (M := []) (D := D) hc (fun _ => hl)
  have e1 : hereI (A ++ keyM t :: D) = hereI m := by rw [hereI_mid, (one_D (x := keyM t) rfl).1, e, hereI_app]; rfl
  have e2 : goneI (A ++ keyM t :: D) = goneI m := by rw [goneI_mid, (one_D (x := keyM t) rfl).2.1, e, goneI_app]; rfl
  have e3 : slotsOf (A ++ keyM t :: D) = slotsOf m := by rw [slotsOf_mid, (one_D (x := keyM t) rfl).2.2, e, slotsOf_app]; rfl
  obtain ⟨Tp, p1, p2⟩ := h.pres; obtain ⟨Tg, g1, g2⟩ := h.gone; obtain ⟨Tt, t1, t2⟩ := h.times
  refine ⟨r, p, m1, ⟨h.cap, m2, ⟨Tp, p1.mono (by omega) (by omega), e1 ▸ p2⟩, ⟨Tg, g1.mono (by omega) (by omega), e2 ▸ g2⟩, ⟨Tt, t1.mono (by omega) (by omega), e3 ▸ t2⟩, dist_ins (e ▸ h.dist) (fun h => by cases h), by omega, by omega, hb9, fun y hy => ?_⟩⟩
  rcases List.mem_append.1 hy with hy | hy
  · exact h.plain y (by rw [e]; exact List.mem_append_left _ hy)
  · rcases List.mem_cons.1 hy with rfl | hy
    · exact ⟨rfl, fun _ => ⟨rfl, rfl⟩⟩
    · exact h.plain y (by rw [e]; exact List.mem_append_right _ hy)
theorem may_ok {M : List TMark} (h : QRep q m c B) (hc : CutM t m A M D) : partial_Queue_may.f K1 q t = some (if (m.length : Int) = c then 10 else if M = [] then 0 else 11) := by
  have hlim := h.lim
  unfold partial_Queue_may.f
  simp only [len_ok h.marks, Option.bind_some, h.cap, key_ok, mfind h.marks (by omega) hc]
  by_cases e : (m.length : Int) = c
  · rw [if_pos e]; simp [e]
  · rw [if_neg e]
    have : ((m.length : Int) == c) = false := by simpa using e
    rw [this]
    rcases hc.lm with h1 | ⟨y, h1, _⟩
    · subst h1; rfl
    · subst h1; simp [fnd]
theorem insert_ok (h : QOk q m E c B) (hc : CutM t m A [] D) (x : TItem) (hl : (m.length : Int) ≠ c) (hl2 : m.length < 100) (hn : ∀ y ∈ m, y.op.insert = true → y.op.item ≠ x) (hb9 : B + 2 < 900000) :
    ∃ ch q' m' E', partial_Queue_Insert.f K1 q t x = some (ch, 0, q') ∧ QOk q' m' E' c (B + 2) ∧ m'.map (·.op) = A.map (·.op) ++ (⟨t, true, x⟩ :: D.map (·.op)) ∧ Chg ch m m' := by
  have hlim := h.rep.lim; have hbnd := h.rep.bnd; have hlen := h.rep.len
  have e : m = A ++ D := by have := hc.eq; rwa [List.nil_append] at this
  let xm : TMark := ⟨⟨t, true, x⟩, false, zTTook⟩
  have hxG : isG xm := ⟨rfl, rfl⟩
  have hl3 : (A ++ xm :: D).length = m.length + 1 := by rw [e]; simp; omega
  have hsm := cert_small h.cert
  obtain ⟨Tp, p1, p2⟩ := h.rep.pres; obtain ⟨Tg, g1, g2⟩ := h.rep.gone; obtain ⟨Tt, t1, t2⟩ := h.rep.times
  have ls := len_split m
  have lt : Tt.length ≤ m.length := by rw [t2.length_eq]; exact len_slots m
  have lg : Tg.length = (goneI m).length := by rw [g2.length_eq]; simp
  obtain ⟨s, b, f1, f2⟩ := sfind t1 (by omega) x
  have hT : ∀ s' ∈ Tt, s'.item ≠ x := fun s' hs' => by
    obtain ⟨y, y1, y2, rfl⟩ := mem_slotsOf.1 (t2.mem_iff.1 hs')
    exact hn y y1 y2
  have hb : b = false := by
    rcases f2 with ⟨_, h1, h2⟩ | ⟨h1, _⟩
    · exact absurd h2 (hT s h1)
    · exact h1
  subst hb
  obtain ⟨v, v1, v2⟩ := prior_ok h.rep.marks (by omega) (base := E) ⟨by omega, by omega⟩ (A.length : Int)
  rw [clampN_nat (by rw [e]; simp)] at v2
  obtain ⟨r3, p3, T3, u1, u2, u3⟩ := sput t1 (by omega) (by omega) ⟨x, true, t⟩ hT (by omega)
  obtain ⟨r4, p4, w1, w2⟩ := mput h.rep.marks (by omega) (by omega) xm (A := A) (M := []) (D := D) hc (fun _ => hl)
  obtain ⟨r5, p5, T5, y1, y2, y3⟩ := sput g1 (by omega) (by omega) (slot x) (fun s' hs' e' => by
    have := (sls_item (g2.mem_iff.1 hs')).2
    rw [e'] at this
    obtain ⟨i, y, z1, z2, z3⟩ := mem_goneI.1 this
    exact hn y (List.mem_of_getElem? z1) z2.1 z3) (by omega)
  have e1 : hereI (A ++ xm :: D) = hereI m := by rw [hereI_mid, (one_G hxG).1, e, hereI_app]; rfl
  have e2 : (goneI (A ++ xm :: D)).Perm (x :: goneI m) := by rw [goneI_mid, (one_G hxG).2, e, goneI_app]; exact List.perm_middle
  have e3 : (slotsOf (A ++ xm :: D)).Perm (⟨x, true, t⟩ :: slotsOf m) := by rw [slotsOf_mid, one_I (x := xm) rfl, e, slotsOf_app]; exact List.perm_middle
  have hd1 : Dist (A ++ xm :: D) := dist_ins (e ▸ h.rep.dist) (fun _ => e ▸ hn)
  have hR : ∀ ex, QRep ⟨q.capacity, ⟨p4, r4⟩, q.present, ⟨p5, r5⟩, ⟨p3, r3⟩, ex⟩ (A ++ xm :: D) c (B + 1) := fun ex =>
    ⟨h.rep.cap, w2, ⟨Tp, p1.mono (by omega) (by omega), e1 ▸ p2⟩, ⟨T5, y2, y3.trans ((g2.cons _).trans (e2.map slot).symm)⟩, ⟨T3, u2, u3.trans ((t2.cons _).trans e3.symm)⟩, hd1, by omega, by omega, by omega, fun y hy => by
      rcases List.mem_append.1 hy with hy | hy
      · exact h.rep.plain y (by rw [e]; exact List.mem_append_left _ hy)
      · rcases List.mem_cons.1 hy with rfl | hy
        · exact ⟨rfl, fun h => by cases h⟩
        · exact h.rep.plain y (by rw [e]; exact List.mem_append_right _ hy)⟩
  have ho : (A ++ xm :: D).map (·.op) = A.map (·.op) ++ (⟨t, true, x⟩ :: D.map (·.op)) := by simp [xm]
  unfold partial_Queue_Insert.f
  rw [may_ok h.rep hc, if_neg hl, if_pos rfl]
  have hz : ((0 : Int) != 0) = false := rfl
  simp only [Option.bind_some, hz, cond_false, of_ok, f1, key_ok, mrank h.rep.marks (by omega) hc, h.exc, v1, u1]
  rw [show (TMark.mk (TOp.mk t true x) false zTTook) = xm from rfl]
  simp only [w1, Option.bind_some, y1]
  rcases edit_insert hxG hd1 (e ▸ h.cert) (e ▸ v2) with ⟨rfl, hcert⟩ | ⟨b, rfl, hb1, hbest⟩
  · have hw : w64 (E - 1) = E - 1 := w64_id (by omega) (by omega)
    have e0 : decide ((-1 : Int) < 0) = true := rfl
    simp only [e0, cond_true, hw]
    exact ⟨_, _, _, E - 1, rfl, ⟨⟨(hR _).cap, (hR (E - 1)).marks.mono (by omega) (by omega), (hR (E - 1)).pres.imp (fun T h => ⟨h.1.mono (by omega) (by omega), h.2⟩), (hR (E - 1)).gone.imp (fun T h => ⟨h.1.mono (by omega) (by omega), h.2⟩), (hR (E - 1)).times.imp (fun T h => ⟨h.1.mono (by omega) (by omega), h.2⟩), hd1, (hR (E - 1)).len, (hR (E - 1)).lim, hb9, (hR (E - 1)).plain⟩, hcert, rfl⟩, ho, .inl ⟨rfl, by rw [e1]⟩⟩
  · have e0 : decide ((b : Int) < 0) = false := by simp
    have hbl : b ≤ (A ++ xm :: D).length := by simp; omega
    obtain ⟨best, b1, b2⟩ := best_ok w2 (by omega) hbl
    obtain ⟨c1, c2, z, y, z1, z2, z3⟩ := hbest best b2
    obtain ⟨q', k1, k2, k3⟩ := turn_ok (hR E) (List.mem_of_getElem? z1) z2.1 (hh := true) z2.2 hb9
    have hp := turn_permG hd1 (List.mem_of_getElem? z1) z2
    rw [z3] at k1 k2 hp
    rw [e1] at hp
    simp only [e0, cond_false, b1, Option.bind_some, k1]
    exact ⟨_, _, _, E, rfl, ⟨k2, c2, k3⟩, by rw [turnM_ops]; exact ho, .inr (.inl ⟨_, rfl, hp⟩)⟩
theorem delete_ok (h : QOk q m E c B) (hc : CutM t m A [] D) (hl : (m.length : Int) ≠ c) (hl2 : m.length < 100) (hb9 : B + 2 < 900000) :
    ∃ ch q' m' E', partial_Queue_Delete.f K1 q t = some (ch, 0, q') ∧ QOk q' m' E' c (B + 2) ∧ m'.map (·.op) = A.map (·.op) ++ (⟨t, false, zTItem⟩ :: D.map (·.op)) ∧ Chg ch m m' := by
  have hlim := h.rep.lim; have hbnd := h.rep.bnd; have hlen := h.rep.len
  have e : m = A ++ D := by have := hc.eq; rwa [List.nil_append] at this
  have hsm := cert_small h.cert
  have hd1 : Dist (A ++ keyM t :: D) := dist_ins (e ▸ h.rep.dist) (fun h => by cases h)
  have ho : (A ++ keyM t :: D).map (·.op) = A.map (·.op) ++ (⟨t, false, zTItem⟩ :: D.map (·.op)) := by simp [keyM]
  have e1 : hereI (A ++ keyM t :: D) = hereI m := by rw [hereI_mid, (one_D (x := keyM t) rfl).1, e, hereI_app]; rfl
  obtain ⟨v, v1, v2⟩ := leave_ok h.rep h.exc ⟨hsm.1, by omega⟩ (n := A.length) (by rw [e]; simp) (by omega)
  obtain ⟨b, rfl, hb1, hleast⟩ := edit_delete (x := keyM t) rfl hd1 (e ▸ h.cert) (e ▸ v1)
  obtain ⟨least, l1, l2⟩ := v2 b rfl (by rw [e]; exact hb1)
  unfold partial_Queue_Delete.f
  rw [may_ok h.rep hc, if_neg hl, if_pos rfl]
  have hz : ((0 : Int) != 0) = false := rfl
  simp only [Option.bind_some, hz, cond_false, key_ok, mrank h.rep.marks (by omega) hc]
  rw [e] at l1
  rcases hleast least l1 with ⟨g1, g2⟩ | ⟨g1, g2, z, y, z1, z2, z3⟩
  · rcases l2 with ⟨_, l3⟩ | ⟨l3, _⟩
    · obtain ⟨r, p, k1, k2⟩ := addD (h.rep.exc (E + 1)) hc hl hl2 (by omega)
      rw [l3]
      simp only [Option.bind_some] at k1 ⊢
      rw [k1]
      refine ⟨_, _, _, E + 1, rfl, ⟨⟨k2.cap, k2.marks.mono (by omega) (by omega), k2.pres.imp (fun T h => ⟨h.1.mono (by omega) (by omega), h.2⟩), k2.gone.imp (fun T h => ⟨h.1.mono (by omega) (by omega), h.2⟩), k2.times.imp (fun T h => ⟨h.1.mono (by omega) (by omega), h.2⟩), hd1, k2.len, k2.lim, hb9, k2.plain⟩, g2, rfl⟩, ho, .inl ⟨rfl, by rw [e1]⟩⟩
    · rw [g1] at l3; cases l3
  · rcases l2 with ⟨l3, _⟩ | ⟨_, l3⟩
    · rw [g1] at l3; cases l3
    · have hy : y ∈ m := by rw [e]; exact List.mem_of_getElem? z1
      obtain ⟨q', k1, k2, k3⟩ := l3 ⟨y, hy, z2, z3⟩
      have hcut := hc.turn least.item false
      have hml := turnM_len least.item false m
      obtain ⟨r, p, k4, k5⟩ := addD k2 hcut (by omega) (by omega) (by omega)
      rw [k1]
      simp only [Option.bind_some, k4]
      have e5 : turnM least.item false A ++ keyM t :: turnM least.item false D = turnM least.item false (A ++ keyM t :: D) := by
        rw [turnM_app, turnM_cons, turnF_del (x := keyM t) rfl]
      have hp := turn_permS h.rep.dist hy z2
      rw [z3] at hp
      rw [e5] at k5
      refine ⟨_, _, _, E, rfl, ⟨k5, g2, k3⟩, by rw [turnM_ops]; exact ho, .inr (.inr ⟨_, rfl, ?_⟩)⟩
      have e6 : hereI (turnM least.item false (A ++ keyM t :: D)) = hereI (turnM least.item false m) := by
        rw [← e5, hereI_mid, (one_D (x := keyM t) rfl).1, e, turnM_app, hereI_app]; rfl
      rw [e6]; exact hp
end
end Go.Proofs.YtpeoalmhccmdiaaGreat
namespace Go.Proofs.YtpeoalmhccmdiaaGreat
open Go Go.Proofs.YtpeoalmhccmdiaaGreat.Sx
theorem take_snoc {α : Type} {l : List α} {i : Nat} {x : α} (h : l[i]? = some x) : l.take (i + 1) = l.take i ++ [x] := by rw [List.take_add_one, h]; rfl
theorem nat_in {a n : Nat} (h : a ≤ n) : decide ((0 : Int) ≤ (a : Int) ∧ (a : Int) ≤ (n : Int)) = true := by simp; omega
theorem sitems_loop (T : List TSlot) (hl : T.length < 1000000) : ∀ (d i n : Nat), i + d = T.length → d < n → shelf_Items.l0 K1 T n ((T.take i).map (·.item), (i : Int)) = some (T.map (·.item))
  | d, i, 0, _, h => by omega
  | 0, i, n + 1, hi, _ => by
    simp only [shelf_Items.l0]
    rw [dec_nlt (by omega), List.take_of_length_le (by omega)]; rfl
  | d + 1, i, n + 1, hi, hn => by
    obtain ⟨x, hx, _⟩ := drop_cons (l := T) (i := i) (by omega)
    have e : (T.take i).map (·.item) ++ [x.item] = (T.take (i + 1)).map (·.item) := by rw [take_snoc hx]; simp
    simp only [shelf_Items.l0]
    rw [dec_lt (by omega)]
    simp only [cond_true, atL_nat hx, Option.bind_some]
    rw [decide_eq_true (by simp; omega)]
    simp only [cond_true, e, w64_succ (i := i) (by omega)]
    exact sitems_loop T hl d (i + 1) n (by omega) (by omega)
theorem sitems {p : PN TSlot TSize} {r : TRef} {T : List TSlot} {c : Int} {B : Nat} (h : GrS p r T c B) (hl : T.length < 100000) : shelf_Items.f K1 p r = some (T.map (·.item)) := by
  have e := sitems_loop T (by omega) T.length 0 K1 (Nat.zero_add _) (by unfold K1; omega)
  replace e : shelf_Items.l0 K1 T K1 ([], 0) = some (T.map (·.item)) := e
  unfold shelf_Items.f
  rw [h.all okS (by decide) (by omega)]
  simp only [Option.bind_some, e]
theorem same_loop (l : List TItem) (hl : l.length < 1000000) : ∀ (d i n : Nat), i + d = l.length → d < n → R02_Same.l0 K1 l l n (i : Int) = some (Sum.inr ())
  | d, i, 0, _, h => by omega
  | 0, i, n + 1, hi, _ => by
    simp only [R02_Same.l0]
    rw [dec_nlt (by omega)]; rfl
  | d + 1, i, n + 1, hi, hn => by
    obtain ⟨x, hx, _⟩ := drop_cons (l := l) (i := i) (by omega)
    simp only [R02_Same.l0]
    rw [dec_lt (by omega)]
    simp only [cond_true, atL_nat hx, Option.bind_some, beq_self_eq_true, Bool.and_self, Bool.not_true, cond_false, w64_succ (i := i) (by omega)]
    exact same_loop l hl d (i + 1) n (by omega) (by omega)
theorem refSame (l : List TItem) (hl : l.length < 1000000) : R02_Same.f K1 l l = some true := by
  unfold R02_Same.f
  have e0 : ((l.length : Int) != (l.length : Int)) = false := by simp
  have hlt : l.length < K1 := by unfold K1; omega
  have e := same_loop l hl l.length 0 K1 (Nat.zero_add _) hlt
  replace e : R02_Same.l0 K1 l l K1 0 = some (Sum.inr ()) := e
  rw [e0, e]; rfl
def delsO (l : List TOp) : List TOp := l.filter (fun o => !o.insert)
theorem runR_len (l : List TOp) : (runR l).here.length ≤ l.length ∧ (runR l).gone.length ≤ l.length ∧ (runR l).took.length = l.length ∧ 0 ≤ (runR l).free ∧ (runR l).free ≤ l.length := by
  have key : ∀ i, i ≤ l.length → (runR (l.take i)).here.length ≤ i ∧ (runR (l.take i)).gone.length ≤ i ∧ (runR (l.take i)).took.length = i ∧ 0 ≤ (runR (l.take i)).free ∧ (runR (l.take i)).free ≤ i := by
    intro i
    induction i with
    | zero => intro _; simp [runR]
    | succ i ih =>
      intro h
      obtain ⟨x, hx, _⟩ := drop_cons (l := l) (i := i) (by omega)
      obtain ⟨h1, h2, h3, h4, h5⟩ := ih (by omega)
      rw [runR_succ hx]
      unfold stepR
      split
      · have := (sins_perm x.item (runR (l.take i)).here).length_eq
        simp only [List.length_cons] at this
        simp only [List.length_append, List.length_singleton]; omega
      · split
        · rename_i hh; rw [hh] at h1; simp only [List.length_cons] at h1; simp only [List.length_append, List.length_singleton]; omega
        · rename_i hh; simp only [List.length_append, List.length_singleton, List.length_nil]; omega
  have := key l.length (Nat.le_refl _)
  rwa [List.take_length] at this
theorem runR_sorted (l : List TOp) : Sorted (runR l).here := by
  have key : ∀ i, i ≤ l.length → Sorted (runR (l.take i)).here := by
    intro i
    induction i with
    | zero => intro _; simp [runR]
    | succ i ih =>
      intro h
      obtain ⟨x, hx, _⟩ := drop_cons (l := l) (i := i) (by omega)
      have h1 := ih (by omega)
      rw [runR_succ hx]
      unfold stepR
      split
      · exact sins_sorted _ _ h1
      · split
        · rename_i hh; rw [hh] at h1; exact (List.pairwise_cons.1 h1).2
        · exact List.Pairwise.nil
  have := key l.length (Nat.le_refl _)
  rwa [List.take_length] at this
theorem runR_take_bounds (l : List TOp) {i : Nat} (h : i ≤ l.length) : (runR (l.take i)).here.length ≤ i ∧ (runR (l.take i)).gone.length ≤ i ∧ (runR (l.take i)).took.length = i ∧ 0 ≤ (runR (l.take i)).free ∧ (runR (l.take i)).free ≤ i := by
  have := runR_len (l.take i)
  rwa [List.length_take, Nat.min_eq_left h] at this
theorem run_loop (l : List TOp) (hl : l.length < 100000) : ∀ (d i n : Nat), i + d = l.length → d < n → R12_Run.l0 K1 l n ((runR (l.take i)).here, (runR (l.take i)).gone, (runR (l.take i)).took, (runR (l.take i)).free, (i : Int)) = some ((runR l).here, (runR l).gone, (runR l).took, (runR l).free)
  | d, i, 0, _, h => by omega
  | 0, i, n + 1, hi, _ => by
    simp only [R12_Run.l0]
    rw [dec_nlt (by omega), List.take_of_length_le (by omega)]; rfl
  | d + 1, i, n + 1, hi, hn => by
    obtain ⟨x, hx, _⟩ := drop_cons (l := l) (i := i) (by omega)
    obtain ⟨h1, h2, h3, h4, h5⟩ := runR_take_bounds l (i := i) (by omega)
    have hsr := runR_sorted (l.take i)
    have ih := run_loop l hl d (i + 1) n (by omega) (by omega)
    rw [runR_succ hx] at ih
    simp only [R12_Run.l0]
    rw [dec_lt (by omega)]
    generalize hs : runR (l.take i) = s at *
    simp only [cond_true, atL_nat hx, Option.bind_some, w64_succ (i := i) (by omega)]
    have hdT : ∀ z : TTook, decide (s.took.length + [z].length < 4294967296) = true := fun z => decide_eq_true (by rw [List.length_singleton]; omega)
    cases hx1 : x.insert with
    | true =>
      have e : stepR s x = ⟨sins x.item s.here, s.gone, s.free, s.took ++ [zTTook]⟩ := by unfold stepR; rw [if_pos hx1]
      rw [e] at ih
      obtain ⟨r, r1, r2, r3⟩ := sorted_f K1 (s.here ++ [x.item]) (by rw [List.length_append, List.length_singleton]; omega) (Nat.le_refl _)
      have hr : r = sins x.item s.here := sorted_perm_eq r2 (sins_sorted _ _ hsr) (r3.trans (List.perm_append_comm.trans (sins_perm _ _).symm))
      rw [hr] at r1
      simp only [cond_true, List.nil_append]
      rw [decide_eq_true (by rw [List.length_nil]; omega), cond_true, decide_eq_true (by rw [List.length_singleton]; omega), cond_true, r1]
      simp only [Option.bind_some, hdT, cond_true]
      exact ih
    | false =>
      simp only [cond_false]
      cases hh : s.here with
      | nil =>
        have e : stepR s x = ⟨[], s.gone, s.free + 1, s.took ++ [zTTook]⟩ := by unfold stepR; rw [hx1]; simp [hh]
        rw [e] at ih
        have e0 : decide ((([] : List TItem).length : Int) > 0) = false := rfl
        simp only [e0, cond_false, hdT, cond_true]
        rw [w64_id (by omega) (by omega)]
        exact ih
      | cons y t =>
        have e : stepR s x = ⟨t, s.gone ++ [y], s.free, s.took ++ [⟨true, y⟩]⟩ := by unfold stepR; rw [hx1]; simp [hh]
        rw [e] at ih
        rw [hh] at h1
        simp only [List.length_cons] at h1
        have e0 : decide (((y :: t).length : Int) > 0) = true := decide_eq_true (by rw [List.length_cons]; omega)
        have e1 : atL (y :: t) 0 = some y := atL_nat (i := 0) rfl
        have e2 : ((y :: t).drop (1 : Int).toNat).take ((y :: t).length - (1 : Int).toNat) = t := by
          show ((y :: t).drop 1).take ((y :: t).length - 1) = t
          simp
        simp only [e0, cond_true, e1, Option.bind_some, e2, List.nil_append, hdT]
        rw [decide_eq_true (by rw [List.length_singleton]; omega), cond_true, decide_eq_true (by rw [List.length_cons]; omega), cond_true, decide_eq_true (by rw [List.length_nil]; omega), cond_true]
        exact ih
theorem refRun (l : List TOp) (hl : l.length < 100000) : ∃ g, R12_Run.f K1 l = some ((runR l).here, g, (runR l).free, (runR l).took) ∧ Sorted g ∧ g.Perm (runR l).gone := by
  have e := run_loop l hl l.length 0 K1 (Nat.zero_add _) (by unfold K1; omega)
  replace e : R12_Run.l0 K1 l K1 ([], [], [], 0, 0) = some ((runR l).here, (runR l).gone, (runR l).took, (runR l).free) := e
  have hb := runR_len l
  obtain ⟨r, r1, r2, r3⟩ := sorted_f K1 (runR l).gone (by omega) (Nat.le_refl _)
  unfold R12_Run.f
  simp only [e, Option.bind_some, r1]
  exact ⟨r, rfl, r2, r3⟩
end Go.Proofs.YtpeoalmhccmdiaaGreat
namespace Go.Proofs.YtpeoalmhccmdiaaGreat
open Go Go.Proofs.YtpeoalmhccmdiaaGreat.Sx
theorem cap_bd (n : Int) : 0 ≤ gmin (gmax n 0) 65536 ∧ gmin (gmax n 0) 65536 ≤ 65536 := by
  unfold gmin gmax; split <;> split <;> omega
theorem hereI_nodup : ∀ {m : List TMark}, Dist m → (hereI m).Nodup
  | [], _ => List.nodup_nil
  | x :: m, h => by
    have hd : Dist m := dist_del (A := []) (x := x) h
    have e : hereI (x :: m) = hereI [x] ++ hereI m := hereI_app [x] m
    rw [e]
    have ih := hereI_nodup hd
    cases hi : x.op.insert with
    | false => rw [(one_D hi).1]; exact ih
    | true =>
      cases hh : x.here with
      | false => rw [(one_G ⟨hi, hh⟩).1]; exact ih
      | true =>
        rw [(one_S ⟨hi, hh⟩).1]
        refine List.nodup_cons.2 ⟨fun hx => ?_, ih⟩
        obtain ⟨i, y, h1, h2, h3⟩ := mem_hereI.1 hx
        have := h 0 (i + 1) x y rfl h1 hi h2.1 h3.symm
        omega
theorem new_ok (n : Int) : ∃ q, partial_New.f K1 n = some q ∧ QOk q [] 0 (gmin (gmax n 0) 65536) 0 := by
  have hb := cap_bd n
  have hc : capOf (gmin (gmax n 0) 65536) = gmin (gmax n 0) 65536 := by
    generalize gmin (gmax n 0) 65536 = c at *
    unfold capOf; split <;> split <;> omega
  unfold partial_New.f wave_New.f shelf_New.f Tree_New.f
  simp only [Option.bind_some, hc]
  refine ⟨_, rfl, ⟨⟨rfl, Gr.new _ 0 (by decide), ⟨[], Gr.new _ 0 (by decide), List.Perm.refl _⟩, ⟨[], Gr.new _ 0 (by decide), List.Perm.refl _⟩, ⟨[], Gr.new _ 0 (by decide), List.Perm.refl _⟩, ?_, by simpa using hb.1, by decide, by decide, fun x hx => by cases hx⟩, ?_, rfl⟩⟩
  · intro i j x y h1; simp at h1
  · refine ⟨fun p hp => ?_, ?_, fun i j hi => ?_, fun h => ?_⟩
    · have : p = 0 := by simpa using hp
      subst this; simp [hgt]
    · simp [hgt]
    · simp at hi
    · simp [hgt] at h
end Go.Proofs.YtpeoalmhccmdiaaGreat
namespace Go.Proofs.YtpeoalmhccmdiaaGreat
open Go Go.Proofs.YtpeoalmhccmdiaaGreat.Sx
theorem awake13 : Lw13_awake.f K1 = some true := by kernel_rfl
end Go.Proofs.YtpeoalmhccmdiaaGreat
namespace Go.Proofs.YtpeoalmhccmdiaaGreat
open Go Go.Proofs.YtpeoalmhccmdiaaGreat.Sx
def keyOp (id i x : Int) : TOp := if x < 0 then ⟨i, false, zTItem⟩ else ⟨i, true, ⟨x, w64 (id + i)⟩⟩
theorem refQueue_loop (l : List Int) (id : Int) (hl : l.length < 1000) : ∀ (d i n : Nat) (v : List TOp), i + d = l.length → d < n → v.length = i → R13_Queue.l0 K1 l id n (v, (i : Int)) = some (v ++ (l.drop i).mapIdx fun j x => keyOp id ((i + j : Nat) : Int) x)
  | d, i, 0, _, _, h, _ => by omega
  | 0, i, n + 1, v, hi, _, _ => by
    rw [R13_Queue.l0, dec_nlt (by omega), cond_false, List.drop_eq_nil_of_le (by omega)]; simp
  | d + 1, i, n + 1, v, hi, hn, hv => by
    obtain ⟨c, hc, hd⟩ := drop_cons (l := l) (i := i) (by omega)
    have ih := fun v hv => refQueue_loop l id hl d (i + 1) n v (by omega) (by omega) hv
    rw [R13_Queue.l0, dec_lt (by omega), cond_true, atL_nat hc, Option.bind_some, w64_succ (by omega)]
    have e : ∀ o : TOp, decide (v.length + ([o] : List TOp).length < 4294967296) = true := fun o => decide_eq_true (by show v.length + 1 < 4294967296; omega)
    by_cases h : c < 0
    · rw [decide_eq_true h, cond_true, e, cond_true, ih _ (by simp [hv]), hd, List.mapIdx_cons, keyOp, if_pos h]
      simp [Nat.add_assoc, Nat.add_comm 1]
    · rw [decide_eq_false h, cond_false, e, cond_true, ih _ (by simp [hv]), hd, List.mapIdx_cons, keyOp, if_neg h]
      simp [Nat.add_assoc, Nat.add_comm 1]
theorem refQueue_eq (l : List Int) (id : Int) (hl : l.length < 1000) : R13_Queue.f K1 l id = some (l.mapIdx fun j x => keyOp id (j : Int) x) := by
  have h := refQueue_loop l id hl l.length 0 K1 [] (by omega) (by unfold K1; omega) rfl
  unfold R13_Queue.f
  replace h : R13_Queue.l0 K1 l id K1 ([], 0) = _ := h
  rw [h]; simp
structure OpsOkL (os : List TOp) : Prop where
  time : ∀ (i j : Nat) (x y : TOp), os[i]? = some x → os[j]? = some y → i < j → x.time < y.time
  item : ∀ (i j : Nat) (x y : TOp), os[i]? = some x → os[j]? = some y → i < j → x.insert = true → y.insert = true → x.item ≠ y.item
  del : ∀ o ∈ os, o.insert = false → o.item = zTItem
theorem queue_loop (os : List TOp) (ho : OpsOkL os) (hl : os.length < 100) : ∀ (d i n : Nat) (q : TQueue) (m : List TMark) (E : Int), i + d = os.length → d < n → QOk q m E os.length (2 * i) → m.map (·.op) = os.take i →
    ∃ q' m' E', Lw13_Queue.l0 K1 os n (q, (i : Int)) = some (Sum.inr q') ∧ QOk q' m' E' os.length (2 * os.length) ∧ m'.map (·.op) = os
  | d, i, 0, _, _, _, _, h, _, _ => by omega
  | 0, i, n + 1, q, m, E, hi, _, hq, hm => by
    refine ⟨q, m, E, ?_, ?_, ?_⟩
    · rw [Lw13_Queue.l0, dec_nlt (by omega), cond_false]
    · have : i = os.length := by omega
      subst this; exact hq
    · rw [hm, List.take_of_length_le (by omega)]
  | d + 1, i, n + 1, q, m, E, hi, hn, hq, hm => by
    obtain ⟨o, hc, hd⟩ := drop_cons (l := os) (i := i) (by omega)
    have hml : m.length = i := by have := congrArg List.length hm; simp at this; omega
    have hmem : ∀ x ∈ m, ∃ j, j < i ∧ os[j]? = some x.op := fun x hx => by
      have h1 : x.op ∈ os.take i := by rw [← hm]; exact List.mem_map_of_mem hx
      obtain ⟨j, hj⟩ := List.getElem?_of_mem h1
      have h2 := (List.getElem?_eq_some_iff.1 hj).1
      rw [List.length_take] at h2
      refine ⟨j, by omega, ?_⟩
      rw [List.getElem?_take] at hj
      split at hj
      · exact hj
      · cases hj
    have hcut : CutM o.time m m [] [] := ⟨by simp, (fun x hx => by
      obtain ⟨j, h1, h2⟩ := hmem x hx
      exact ho.time j i x.op o h2 hc h1), fun x hx => (List.not_mem_nil hx).elim, Or.inl rfl⟩
    have htk : os.take (i + 1) = os.take i ++ [o] := by rw [List.take_add_one, hc]; rfl
    rw [Lw13_Queue.l0, dec_lt (by omega), cond_true, atL_nat hc, Option.bind_some, w64_succ (by omega)]
    cases hins : o.insert with
    | true =>
      obtain ⟨ch, q', m', E', e1, e2, e3, _⟩ := insert_ok hq hcut o.item (by omega) (by omega) (fun y hy hyi => by
        obtain ⟨j, h1, h2⟩ := hmem y hy
        exact ho.item j i y.op o h2 hc h1 hyi hins) (by omega)
      have eo : (⟨o.time, true, o.item⟩ : TOp) = o := by cases o; simp at hins; subst hins; rfl
      rw [cond_true, e1, Option.bind_some]
      simp only [bne_self_eq_false, cond_false]
      exact queue_loop os ho hl d (i + 1) n q' m' E' (by omega) (by omega) (by simpa [Nat.mul_add] using e2) (by rw [e3, hm, htk, eo]; rfl)
    | false =>
      obtain ⟨ch, q', m', E', e1, e2, e3, _⟩ := delete_ok hq hcut (by omega) (by omega) (by omega)
      have eo : (⟨o.time, false, zTItem⟩ : TOp) = o := by
        have := ho.del o (List.mem_of_getElem? hc) hins
        cases o; simp at hins this; subst hins; subst this; rfl
      rw [cond_false, e1, Option.bind_some]
      simp only [bne_self_eq_false, cond_false]
      exact queue_loop os ho hl d (i + 1) n q' m' E' (by omega) (by omega) (by simpa [Nat.mul_add] using e2) (by rw [e3, hm, htk, eo]; rfl)
theorem queue_ok (os : List TOp) (ho : OpsOkL os) (hl : os.length < 100) : ∃ q m E, Lw13_Queue.f K1 os = some q ∧ QOk q m E os.length (2 * os.length) ∧ m.map (·.op) = os := by
  obtain ⟨q0, h0, h1⟩ := new_ok (os.length : Int)
  have hcap : gmin (gmax (os.length : Int) 0) 65536 = (os.length : Int) := by unfold gmin gmax; split <;> split <;> omega
  rw [hcap] at h1
  obtain ⟨q, m, E, h2, h3, h4⟩ := queue_loop os ho hl os.length 0 K1 q0 [] 0 (by omega) (by unfold K1; omega) h1 rfl
  refine ⟨q, m, E, ?_, h3, h4⟩
  unfold Lw13_Queue.f
  rw [h0, Option.bind_some]
  replace h2 : Lw13_Queue.l0 K1 os K1 (q0, 0) = some (Sum.inr q) := h2
  rw [h2]; rfl
theorem keyOp_time (id i x : Int) : (keyOp id i x).time = i := by unfold keyOp; split <;> rfl
theorem keyOps_ok (l : List Int) (id : Int) (h0 : 0 ≤ id) (h1 : id < 1000000) (hl : l.length < 1000) : OpsOkL (l.mapIdx fun j x => keyOp id (j : Int) x) := by
  have get : ∀ (i : Nat) (x : TOp), (l.mapIdx fun j x => keyOp id (j : Int) x)[i]? = some x → i < 1000 ∧ ∃ y, x = keyOp id (i : Int) y := fun i x h => by
    rw [List.getElem?_mapIdx] at h
    obtain ⟨y, hy, rfl⟩ := Option.map_eq_some_iff.1 h
    have := (List.getElem?_eq_some_iff.1 hy).1
    exact ⟨by omega, y, rfl⟩
  refine ⟨fun i j x y hx hy hij => ?_, fun i j x y hx hy hij hi1 hi2 => ?_, fun o ho hi => ?_⟩
  · obtain ⟨_, a, rfl⟩ := get i x hx
    obtain ⟨_, b, rfl⟩ := get j y hy
    rw [keyOp_time, keyOp_time]; omega
  · obtain ⟨ha, a, rfl⟩ := get i x hx
    obtain ⟨hb, b, rfl⟩ := get j y hy
    unfold keyOp at hi1 hi2 ⊢
    split at hi1
    · cases hi1
    · split at hi2
      · cases hi2
      · rename_i h2 h3
        rw [if_neg h2, if_neg h3]
        intro e
        have e2 := congrArg TItem.id e
        simp only at e2
        rw [w64_id (by omega) (by omega), w64_id (by omega) (by omega)] at e2
        omega
  · obtain ⟨i, hi'⟩ := List.getElem?_of_mem ho
    obtain ⟨_, a, rfl⟩ := get i o hi'
    unfold keyOp at hi ⊢
    split at hi
    · rename_i h; rw [if_pos h]
    · cases hi
end Go.Proofs.YtpeoalmhccmdiaaGreat
namespace Go.Proofs.YtpeoalmhccmdiaaGreat
open Go Go.Proofs.YtpeoalmhccmdiaaGreat.Sx
def srt : List TItem → List TItem
  | [] => []
  | x :: l => sins x (srt l)
theorem srt_perm : ∀ l, (srt l).Perm l
  | [] => List.Perm.refl _
  | x :: l => (sins_perm x _).trans ((srt_perm l).cons x)
theorem srt_sorted : ∀ l, Sorted (srt l)
  | [] => List.Pairwise.nil
  | x :: l => sins_sorted x _ (srt_sorted l)
theorem srt_len (l : List TItem) : (srt l).length = l.length := (srt_perm l).length_eq
theorem srt_eq {l l' : List TItem} (h : l.Perm l') : srt l = srt l' := sorted_perm_eq (srt_sorted _) (srt_sorted _) (((srt_perm l).trans h).trans (srt_perm l').symm)
theorem srt_id {l : List TItem} (h : Sorted l) : srt l = l := sorted_perm_eq (srt_sorted _) h (srt_perm l)
theorem srt_of {l l' : List TItem} (h : Sorted l) (hp : l.Perm l') : l = srt l' := sorted_perm_eq h (srt_sorted _) (hp.trans (srt_perm l').symm)
theorem srt_min {x : TItem} {l : List TItem} (h : ∀ y ∈ l, ile x y) : srt (x :: l) = x :: srt l :=
  (srt_of (List.pairwise_cons.2 ⟨fun y hy => h y ((srt_perm l).mem_iff.1 hy), srt_sorted l⟩) ((srt_perm l).cons x)).symm
theorem drop_sorted {l : List TItem} (h : Sorted l) (n : Nat) : Sorted (l.drop n) := h.sublist (List.drop_sublist n l)
theorem drop_le {y z : TItem} : ∀ {A : List TItem} (n : Nat) {D : List TItem}, Sorted A → A.drop n = z :: D → ile y z → (sins y A).drop (n + 1) = A.drop n
  | [], n, _, _, h, _ => by simp at h
  | a :: t, 0, D, hs, h, hy => by
    obtain ⟨rfl, rfl⟩ : a = z ∧ t = D := by simpa using h
    unfold sins
    split
    · rfl
    · rename_i hn
      have e : y = a := ile_antisymm hy (not_ilt.1 hn)
      subst e
      exact sorted_perm_eq (sins_sorted y t (List.pairwise_cons.1 hs).2) hs (sins_perm y t)
  | a :: t, n + 1, D, hs, h, hy => by
    unfold sins
    split
    · rfl
    · exact drop_le (A := t) n (List.pairwise_cons.1 hs).2 (by simpa using h) hy
theorem drop_gt {y z : TItem} : ∀ {A : List TItem} (n : Nat) {D : List TItem}, Sorted A → A.drop n = z :: D → ilt z y → ((sins y A).drop (n + 1)).Perm (y :: D)
  | [], n, _, _, h, _ => by simp at h
  | a :: t, 0, D, hs, h, hy => by
    obtain ⟨rfl, rfl⟩ : a = z ∧ t = D := by simpa using h
    unfold sins
    rw [if_neg (fun h' => not_ilt.2 (ilt_ile hy) h')]
    exact sins_perm y t
  | a :: t, n + 1, D, hs, h, hy => by
    have h' : t.drop n = z :: D := by simpa using h
    have hz : z ∈ t := List.mem_of_mem_drop (by rw [h']; exact List.mem_cons_self)
    have ha := (List.pairwise_cons.1 hs).1 z hz
    unfold sins
    rw [if_neg (fun h2 => ilt_irrefl _ (ilt_trans_le h2 (ile_trans ha (ilt_ile hy))))]
    exact drop_gt (A := t) n (List.pairwise_cons.1 hs).2 h' hy
theorem drop_none {y : TItem} {A : List TItem} {n : Nat} (h : A.drop n = []) : (sins y A).drop (n + 1) = [] := by
  have h1 : A.length ≤ n := List.drop_eq_nil_iff.1 h
  exact List.drop_eq_nil_iff.2 (by have := (sins_perm y A).length_eq; simp at this; omega)
def hereS (s : List TItem) (o : TOp) : List TItem := if o.insert then sins o.item s else s.tail
theorem hereS_eq (s : RS) (o : TOp) : (stepR s o).here = hereS s.here o := by
  unfold stepR hereS
  split
  · rfl
  · split
    · rename_i h; rw [h]; rfl
    · rename_i h; rw [h]; rfl
theorem hereS_fold : ∀ (os : List TOp) (s : RS), (os.foldl stepR s).here = os.foldl hereS s.here
  | [], _ => rfl
  | o :: os, s => by rw [List.foldl_cons, List.foldl_cons, hereS_fold os, hereS_eq]
theorem runR_app (a b : List TOp) : (runR (a ++ b)).here = b.foldl hereS (runR a).here := by
  unfold runR; rw [List.foldl_append, hereS_fold]
abbrev delN (os : List TOp) : Nat := (delsO os).length
theorem delsO_app (a b : List TOp) : delsO (a ++ b) = delsO a ++ delsO b := List.filter_append ..
def fuseI (U P G : List TItem) (n : Nat) : List TItem := srt (P ++ (srt (U ++ G)).drop n)
def FuseP (U : List TItem) (os : List TOp) : Prop := os.foldl hereS U = fuseI U (runR os).here (runR os).gone (delN os)
theorem fuse_step (U : List TItem) (os : List TOp) (o : TOp) (ih : FuseP U os) : FuseP U (os ++ [o]) := by
    unfold FuseP at *
    rw [List.foldl_append, ih, List.foldl_cons, List.foldl_nil]
    have e : runR (os ++ [o]) = stepR (runR os) o := by unfold runR; rw [List.foldl_append]; rfl
    rw [e]
    have hP := runR_sorted os
    unfold delN
    rw [delsO_app]
    generalize runR os = s at *
    obtain ⟨P, G, fr, tk⟩ := s
    simp only [hereS, stepR]
    by_cases ho : o.insert = true
    · rw [if_pos ho, if_pos ho]
      have : delsO [o] = [] := by simp [delsO, ho]
      rw [this, List.append_nil]
      unfold fuseI
      exact sorted_perm_eq (sins_sorted _ _ (srt_sorted _)) (srt_sorted _) ((((sins_perm _ _).trans ((srt_perm _).cons _)).trans (((sins_perm o.item P).symm).append_right _)).trans (srt_perm _).symm)
    · have ho' : o.insert = false := by simpa using ho
      rw [if_neg ho, if_neg ho]
      have : delsO [o] = [o] := by simp [delsO, ho']
      rw [this, List.length_append, List.length_singleton]
      generalize (delsO os).length = n
      have hA := srt_sorted (U ++ G)
      cases P with
      | nil =>
        simp only [fuseI, List.nil_append]
        rw [srt_id (drop_sorted hA n), srt_id (drop_sorted hA (n + 1)), List.tail_drop]
      | cons y P' =>
        simp only
        have eA : srt (U ++ (G ++ [y])) = sins y (srt (U ++ G)) := (srt_of (sins_sorted y _ hA) (((sins_perm y _).trans ((srt_perm _).cons y)).trans (by rw [← List.append_assoc]; exact List.perm_append_comm (l₁ := [y])))).symm
        have hy := (List.pairwise_cons.1 hP).1
        unfold fuseI
        rw [eA]
        cases hD : (srt (U ++ G)).drop n with
        | nil =>
          rw [drop_none hD, List.append_nil, List.append_nil, srt_id hP, srt_id (List.pairwise_cons.1 hP).2]; rfl
        | cons z D1 =>
          have hzD : ∀ d ∈ D1, ile z d := (List.pairwise_cons.1 (hD ▸ drop_sorted hA n)).1
          by_cases hyz : ile y z
          · rw [drop_le n hA hD hyz, hD, List.cons_append, srt_min]; · rfl
            intro d hd
            rcases List.mem_append.1 hd with hd | hd
            · exact hy d hd
            · rcases List.mem_cons.1 hd with rfl | hd
              · exact hyz
              · exact ile_trans hyz (hzD d hd)
          · have hzy : ilt z y := by rw [← Classical.not_not (a := ilt z y), not_ilt]; exact hyz
            have h1 : ((y :: P') ++ z :: D1).Perm (z :: ((y :: P') ++ D1)) := List.perm_middle
            rw [srt_eq h1, srt_min]
            · rw [List.tail_cons]
              refine srt_eq ?_
              refine List.Perm.trans ?_ ((drop_gt n hA hD hzy).symm.append_left P')
              exact (List.perm_middle (a := y) (l₁ := P') (l₂ := D1)).symm
            · intro d hd
              rcases List.mem_append.1 hd with hd | hd
              · rcases List.mem_cons.1 hd with rfl | hd
                · exact ilt_ile hzy
                · exact ile_trans (ilt_ile hzy) (hy d hd)
              · exact hzD d hd
theorem fuse_from (U : List TItem) : ∀ (os2 os1 : List TOp), FuseP U os1 → FuseP U (os1 ++ os2)
  | [], os1, h => by rw [List.append_nil]; exact h
  | o :: os2, os1, h => by
    have := fuse_from U os2 (os1 ++ [o]) (fuse_step U os1 o h)
    rwa [List.append_assoc] at this
theorem fuse_run (U : List TItem) (hU : Sorted U) (os : List TOp) : os.foldl hereS U = fuseI U (runR os).here (runR os).gone (delN os) :=
  fuse_from U os [] (show U = fuseI U [] [] 0 by unfold fuseI; rw [List.append_nil, List.nil_append, List.drop_zero, srt_id hU, srt_id hU])
end Go.Proofs.YtpeoalmhccmdiaaGreat
namespace Go.Proofs.YtpeoalmhccmdiaaGreat
open Go Go.Proofs.YtpeoalmhccmdiaaGreat.Sx
section
variable {E A : Type} {O : Ops E A} {k N : Nat} {G : E → Prop} {S : A → List E → Prop} {lt : E → E → Prop}
theorem at_ok (ok : OpsOk O k N G S lt) {p : PN E A} {L : List TRef} {B : Nat} (hP : PW p L B) : ∀ (n : Nat) {r : TRef} {t : Tr E} (i : Int), t.size < n → Rep S p r t → 0 ≤ i → i < 9223372036854775808 → t.size < 4294967296 →
    Tree_At.l0 O k p n (i, r) = some (match t.toList[i.toNat]? with | some y => Sum.inl (y, true) | none => Sum.inr ())
  | 0, _, _, _, h, _, _, _, _ => by omega
  | n + 1, r, .nil, i, hn, hr, hi, hi2, hb => by
    have e0 : (r.gen != 0) = false := by simpa using hr.nil_iff.2 rfl
    simp only [Tree_At.l0, e0, cond_false, Tr.toList, List.getElem?_nil]
  | n + 1, r, .node r0 e0 l u, i, hn, hr, hi, hi2, hb => by
    obtain ⟨n1, g1, g2⟩ := get_ok ok hP hr
    obtain ⟨rfl, he, hl, hu, hlk⟩ := g2.node rfl
    have hg : (r.gen != 0) = true := by have := hP.ne0 hlk; rw [bne, this]; rfl
    have hsz : (Tr.node r e0 l u).size = l.size + 1 + u.size := rfl
    have hln : (Tr.node r e0 l u).toList = l.toList ++ e0 :: u.toList := rfl
    obtain ⟨n2, g3, g4⟩ := get_ok ok hP hl
    simp only [Tree_At.l0, hg, cond_true, g1, Option.bind_some, g3, g4.size]
    rw [hln]
    have hll := Tr.len_toList l
    by_cases h1 : i = (l.size : Int)
    · have h0 : (i == (l.size : Int)) = true := by simpa using h1
      simp only [h0, cond_true]
      rw [List.getElem?_append_right (by omega), show i.toNat - l.toList.length = 0 by omega]
      simp [he]
    · have h0 : (i == (l.size : Int)) = false := by simpa using h1
      simp only [h0, cond_false]
      by_cases h2 : i < (l.size : Int)
      · simp only [h2, decide_true, cond_true]
        rw [at_ok ok hP n i (by omega) hl hi hi2 (by omega), List.getElem?_append_left (by omega)]
      · simp only [h2, decide_false, cond_false]
        have e1 : w64 ((l.size : Int) + 1) = (l.size : Int) + 1 := w64_id (by omega) (by omega)
        rw [e1, w64_id (by omega) (by omega), at_ok ok hP n (i - ((l.size : Int) + 1)) (by omega) hu (by omega) (by omega) (by omega), List.getElem?_append_right (by omega)]
        rw [show i.toNat - l.toList.length = (i - ((l.size : Int) + 1)).toNat + 1 by omega, List.getElem?_cons_succ]
theorem Gr.at (ok : OpsOk O k N G S lt) (hk : N ≤ k) {p : PN E A} {r : TRef} {l : List E} {c : Int} {B : Nat} (h : Gr S lt G p r l c B) (i : Int) (hi : i < 9223372036854775808) (hN : l.length < N) :
    Tree_At.f O k p r i = some (if i < 0 then (O.zE, false) else match l[i.toNat]? with | some y => (y, true) | none => (O.zE, false)) := by
  obtain ⟨t, hP, hr, rfl⟩ := h.ex
  have hbig := ok.big
  have hll := Tr.len_toList t
  unfold Tree_At.f
  by_cases h0 : i < 0
  · simp only [h0, decide_true, cond_true, if_true]
  · simp only [h0, decide_false, cond_false, if_false]
    rw [at_ok ok hP k i (by omega) hr (by omega) hi (by omega)]
    cases t.toList[i.toNat]? <;> rfl
end
end Go.Proofs.YtpeoalmhccmdiaaGreat
namespace Go.Proofs.YtpeoalmhccmdiaaGreat
open Go Go.Proofs.YtpeoalmhccmdiaaGreat.Sx
structure CutI (x : TItem) (l A M B : List TItem) : Prop where
  eq : l = A ++ (M ++ B)
  la : ∀ y ∈ A, ilt y x
  lb : ∀ y ∈ B, ilt x y
  lm : M = [] ∨ M = [x]
theorem cutI {x : TItem} {l : List TItem} {a m b : List TSlot} (h : Cut ltS (slot x) (sls l) a m b) : ∃ A M B, CutI x l A M B ∧ sls A = a ∧ sls M = m ∧ sls B = b := by
  obtain ⟨A, R, h1, h2, h3⟩ := List.map_eq_append_iff.1 h.eq
  obtain ⟨M, B, h4, h5, h6⟩ := List.map_eq_append_iff.1 h3
  refine ⟨A, M, B, ⟨by rw [h1, h4], fun y hy => ?_, fun y hy => ?_, ?_⟩, h2, h5, h6⟩
  · exact h.la (slot y) (by rw [← h2]; exact List.mem_map.2 ⟨y, hy, rfl⟩)
  · exact h.lb (slot y) (by rw [← h6]; exact List.mem_map.2 ⟨y, hy, rfl⟩)
  · rcases h.lm with h7 | ⟨y, h7, h8, h9⟩
    · left; subst h7; exact List.map_eq_nil_iff.1 h5
    · right
      subst h7
      obtain ⟨z, hz, hzy⟩ := List.map_eq_singleton_iff.1 h5
      subst hzy
      have e := item_eq (a := x) (b := z) h8 h9
      rw [hz, e]
abbrev below (T : List TItem) (x : TItem) : List TItem := T.filter (fun y => decide (ilt y x))
abbrev behind (T : List TItem) (x : TItem) : List TItem := T.filter (fun y => decide (ilt x y))
theorem ilt_asymm {a b : TItem} (h : ilt a b) : ¬ ilt b a := fun h' => not_ilt.2 (ilt_ile h) h'
theorem ilt_trans {a b c : TItem} (h : ilt a b) (h' : ilt b c) : ilt a c := ilt_trans_le h (ilt_ile h')
theorem filt_all {T : List TItem} {p : TItem → Prop} [DecidablePred p] (h : ∀ y ∈ T, p y) : T.filter (fun y => decide (p y)) = T := List.filter_eq_self.2 (fun y hy => by simpa using h y hy)
theorem filt_none {T : List TItem} {p : TItem → Prop} [DecidablePred p] (h : ∀ y ∈ T, ¬ p y) : T.filter (fun y => decide (p y)) = [] := List.filter_eq_nil_iff.2 (fun y hy => by simpa using h y hy)
theorem CutI.behind {x : TItem} {l A M B : List TItem} (h : CutI x l A M B) : behind l x = B := by
  unfold Go.Proofs.YtpeoalmhccmdiaaGreat.behind
  rw [h.eq, List.filter_append, List.filter_append, filt_none (fun y hy => ilt_asymm (h.la y hy)), filt_all h.lb]
  rcases h.lm with h | h
  · rw [h]; rfl
  · rw [h]; simp [ilt_irrefl]
theorem CutI.below {x : TItem} {l A M B : List TItem} (h : CutI x l A M B) : below l x = A := by
  unfold Go.Proofs.YtpeoalmhccmdiaaGreat.below
  rw [h.eq, List.filter_append, List.filter_append, filt_none (T := B) (fun y hy => ilt_asymm (h.lb y hy)), filt_all h.la]
  rcases h.lm with h | h
  · rw [h]; simp
  · rw [h]; simp [ilt_irrefl]
theorem CutI.len {x : TItem} {l A M B : List TItem} (h : CutI x l A M B) : l.length = A.length + (M.length + B.length) := by rw [h.eq]; simp
theorem CutI.mem {x : TItem} {l A M B : List TItem} (h : CutI x l A M B) : x ∈ l ↔ M = [x] := by
  constructor
  · intro hx
    rcases h.lm with hm | hm
    · rw [h.eq, hm] at hx
      rcases List.mem_append.1 hx with hx | hx
      · exact absurd (h.la x hx) (ilt_irrefl x)
      · exact absurd (h.lb x (by simpa using hx)) (ilt_irrefl x)
    · exact hm
  · intro hm; rw [h.eq, hm]; simp
structure Sh (t : TS TSlot TSize) (T : List TItem) : Prop where
  ex : ∃ c B, GrS t.p t.r (sls T) c B
  len : T.length < 1000
theorem Sh.srt {t : TS TSlot TSize} {T : List TItem} (h : Sh t T) : T.Pairwise ilt := by
  obtain ⟨c, B, g⟩ := h.ex
  exact ((List.pairwise_map (f := slot) (R := ltS)).1 g.sorted).imp (fun h => h)
theorem Sh.size {t : TS TSlot TSize} {T : List TItem} (h : Sh t T) : Tree_Len.f opsS K1 t.p t.r = some (T.length : Int) := by
  obtain ⟨c, B, g⟩ := h.ex
  have := g.len okS (k := K1); rwa [List.length_map] at this
theorem Sh.cut {t : TS TSlot TSize} {T : List TItem} (h : Sh t T) (x : TItem) : ∃ A M B, CutI x T A M B := by
  obtain ⟨c, B, g⟩ := h.ex
  obtain ⟨a, m, b, hc, _⟩ := g.rank okS (by decide : 1000000 ≤ K1) (slot x) (by have := h.len; simp; omega)
  obtain ⟨A, M, B, c1, _⟩ := cutI hc
  exact ⟨A, M, B, c1⟩
theorem Sh.rank {t : TS TSlot TSize} {T : List TItem} (h : Sh t T) (x : TItem) : Tree_Rank.f opsS K1 t.p t.r (slot x) = some ((below T x).length : Int) := by
  obtain ⟨c, B, g⟩ := h.ex
  obtain ⟨a, m, b, hc, e⟩ := g.rank okS (by decide : 1000000 ≤ K1) (slot x) (by have := h.len; simp; omega)
  obtain ⟨A, M, B, c1, rfl, rfl, rfl⟩ := cutI hc
  rw [e, c1.below, List.length_map]
theorem Sh.find {t : TS TSlot TSize} {T : List TItem} (h : Sh t T) (x : TItem) : ∃ s, Tree_Find.f opsS K1 t.p t.r (slot x) = some (s, decide (x ∈ T)) := by
  obtain ⟨c, B, g⟩ := h.ex
  obtain ⟨a, m, b, hc, e⟩ := g.find okS (by decide : 1000000 ≤ K1) (slot x) (by have := h.len; simp; omega)
  obtain ⟨A, M, B, c1, rfl, rfl, rfl⟩ := cutI hc
  rw [e]
  rcases c1.lm with hm | hm
  · subst hm
    exact ⟨_, by rw [decide_eq_false (fun hx => by have := c1.mem.1 hx; cases this)]; rfl⟩
  · subst hm
    exact ⟨_, by rw [decide_eq_true (c1.mem.2 rfl)]; rfl⟩
theorem Sh.above {t : TS TSlot TSize} {T : List TItem} (h : Sh t T) (x : TItem) : shelf_Above.f K1 t.p t.r x = some ((behind T x).length : Int) := by
  obtain ⟨A, M, B, c1⟩ := h.cut x
  obtain ⟨s, hs⟩ := h.find x
  have hl := c1.len
  have hb := h.len
  unfold shelf_Above.f
  simp only [h.size, Option.bind_some, of_ok, h.rank x, hs, c1.below, c1.behind]
  rw [w64_id (x := (T.length : Int) - (A.length : Int)) (by omega) (by omega)]
  by_cases hx : x ∈ T
  · have := c1.mem.1 hx; subst this
    simp only [hx, decide_true, cond_true, List.length_singleton] at hl ⊢
    rw [w64_id (by omega) (by omega)]; congr 1; omega
  · have hm : M = [] := c1.lm.resolve_right (fun hm => hx (c1.mem.2 hm))
    subst hm
    simp only [hx, decide_false, cond_false, List.length_nil] at hl ⊢
    congr 1; omega
theorem Sh.at {t : TS TSlot TSize} {T : List TItem} (h : Sh t T) {i : Nat} {x : TItem} (hx : T[i]? = some x) : Tree_At.f opsS K1 t.p t.r (i : Int) = some (slot x, true) := by
  obtain ⟨c, B, g⟩ := h.ex
  have hi := (List.getElem?_eq_some_iff.1 hx).1
  have hb := h.len
  rw [g.at okS (by decide : 1000000 ≤ K1) (i : Int) (by omega) (by simp; omega)]
  simp [hx]
def pit (p : TPart) (T : List TItem) : List TItem := if p.floor.found = true then behind T p.floor.item else T
theorem pit_drop {p : TPart} {t : TS TSlot TSize} {T : List TItem} (h : Sh t T) : ∃ P, T = P ++ pit p T := by
  unfold pit
  split
  · obtain ⟨A, M, B, c1⟩ := h.cut p.floor.item
    exact ⟨A ++ M, by rw [c1.behind, List.append_assoc]; exact c1.eq⟩
  · exact ⟨[], rfl⟩
theorem pit_len (p : TPart) (T : List TItem) : (pit p T).length ≤ T.length := by
  unfold pit; split
  · exact List.length_filter_le _ _
  · exact Nat.le_refl _
def PartOk (Q : List TQueue) (v : TPart × List TItem) : Prop := ∃ t, hTree Q v.1.shelf = some t ∧ Sh t v.2
theorem ahead_ok {Q : List TQueue} {v : TPart × List TItem} (h : PartOk Q v) : fuse_part_ahead.f K1 Q v.1 = some ((v.2.length - (pit v.1 v.2).length : Nat) : Int) := by
  obtain ⟨p, T⟩ := v
  obtain ⟨t, h1, h2⟩ := h
  simp only at h1 h2 ⊢
  have hb := h2.len
  unfold fuse_part_ahead.f pit
  by_cases hf : p.floor.found = true
  · have hq : (behind T p.floor.item).length ≤ T.length := List.length_filter_le _ _
    simp only [hf, Bool.not_true, cond_false, h1, Option.bind_some, h2.size, h2.above, if_true]
    generalize behind T p.floor.item = R at hq ⊢
    rw [w64_id (by omega) (by omega)]; congr 1; omega
  · have hf' : p.floor.found = false := by simpa using hf
    simp [hf']
theorem psize_ok {Q : List TQueue} {v : TPart × List TItem} (h : PartOk Q v) : fuse_part_size.f K1 Q v.1 = some ((pit v.1 v.2).length : Int) := by
  have ha := ahead_ok h
  obtain ⟨p, T⟩ := v
  obtain ⟨t, h1, h2⟩ := h
  simp only at h1 h2 ha ⊢
  have hb := h2.len
  have := pit_len p T
  unfold fuse_part_size.f
  simp only [h1, Option.bind_some, h2.size, ha]
  rw [w64_id (by omega) (by omega)]; congr 1; omega
theorem below_app (a b : List TItem) (x : TItem) : below (a ++ b) x = below a x ++ below b x := List.filter_append ..
theorem below_len (a : List TItem) (x : TItem) : (below a x).length ≤ a.length := List.length_filter_le _ _
theorem below_part {P R : List TItem} (hs : (P ++ R).Pairwise ilt) (x : TItem) : gmax 0 (((below (P ++ R) x).length : Int) - (P.length : Int)) = ((below R x).length : Int) := by
  have h1 := below_len P x
  rw [below_app, List.length_append]
  by_cases hr : below R x = []
  · rw [hr]; unfold gmax; simp; omega
  · obtain ⟨y, hy⟩ := List.exists_mem_of_ne_nil _ hr
    have hy2 := List.mem_filter.1 hy
    have hyx : ilt y x := by simpa using hy2.2
    have : below P x = P := filt_all (fun z hz => ilt_trans ((List.pairwise_append.1 hs).2.2 z hz y hy2.1) hyx)
    rw [this]; unfold gmax; split <;> omega
theorem prank_ok {Q : List TQueue} {v : TPart × List TItem} (h : PartOk Q v) (x : TItem) : fuse_part_rank.f K1 Q v.1 x = some ((below (pit v.1 v.2) x).length : Int) := by
  have ha := ahead_ok h
  obtain ⟨p, T⟩ := v
  obtain ⟨t, h1, h2⟩ := h
  simp only at h1 h2 ha ⊢
  have hb := h2.len
  obtain ⟨P, hP⟩ := pit_drop (p := p) h2
  have hl : T.length = P.length + (pit p T).length := by
    have := congrArg List.length hP; simpa using this
  have hs := h2.srt
  have hlt := below_len T x
  unfold fuse_part_rank.f
  simp only [of_ok, h1, Option.bind_some, h2.rank, ha]
  rw [w64_id (by omega) (by omega)]
  congr 1
  generalize pit p T = R at *
  subst hP
  rw [← below_part hs x]; congr 2; omega
def itm (vs : List (TPart × List TItem)) : List TItem := vs.flatMap fun v => pit v.1 v.2
theorem itm_app (a b : List (TPart × List TItem)) : itm (a ++ b) = itm a ++ itm b := List.flatMap_append ..
abbrev fsts (vs : List (TPart × List TItem)) : List TPart := vs.map (·.1)
structure VOk (Q : List TQueue) (vs : List (TPart × List TItem)) : Prop where
  ok : ∀ v ∈ vs, PartOk Q v
  len : vs.length < 1000
theorem PartOk.len {Q : List TQueue} {v : TPart × List TItem} (h : PartOk Q v) : (pit v.1 v.2).length < 1000 := by
  obtain ⟨t, _, h2⟩ := h
  exact Nat.lt_of_le_of_lt (pit_len _ _) h2.len
theorem itm_len {Q : List TQueue} : ∀ {vs : List (TPart × List TItem)}, (∀ v ∈ vs, PartOk Q v) → (itm vs).length ≤ 1000 * vs.length
  | [], _ => by simp [itm]
  | v :: vs, h => by
    have h1 := (h v List.mem_cons_self).len
    have h2 := itm_len (vs := vs) (fun w hw => h w (List.mem_cons_of_mem _ hw))
    have : itm (v :: vs) = pit v.1 v.2 ++ itm vs := rfl
    rw [this, List.length_append, List.length_cons]; omega
theorem vtake {vs : List (TPart × List TItem)} {i : Nat} {v : TPart × List TItem} (h : vs[i]? = some v) : itm (vs.take (i + 1)) = itm (vs.take i) ++ pit v.1 v.2 := by
  rw [take_snoc h, itm_app]; simp [itm]
theorem VOk.itm_lt {Q : List TQueue} {vs : List (TPart × List TItem)} (h : VOk Q vs) (i : Nat) : (itm (vs.take i)).length < 999001 := by
  have h1 := itm_len (vs := vs.take i) (fun w hw => h.ok w (List.mem_of_mem_take hw))
  have h2 := List.length_take_le' i vs
  have := h.len
  have : (vs.take i).length ≤ 999 := by omega
  omega
theorem atL_fst {vs : List (TPart × List TItem)} {i : Nat} {v : TPart × List TItem} (h : vs[i]? = some v) : atL (fsts vs) (i : Int) = some v.1 := atL_nat (by simp [h])
theorem len_loop {Q : List TQueue} {vs : List (TPart × List TItem)} (h : VOk Q vs) : ∀ (d i n : Nat), i + d = vs.length → d < n →
    fuse_Views_Len.l0 K1 Q ⟨fsts vs⟩ n (((itm (vs.take i)).length : Int), (i : Int)) = some ((itm vs).length : Int)
  | d, i, 0, _, h => by omega
  | 0, i, n + 1, hi, _ => by
    have e := List.take_of_length_le (l := vs) (i := i) (by omega)
    simp only [fuse_Views_Len.l0, List.length_map, e]
    rw [dec_nlt (by omega)]; rfl
  | d + 1, i, n + 1, hi, hn => by
    obtain ⟨v, hv, _⟩ := drop_cons (l := vs) (i := i) (by omega)
    have ho := h.ok v (List.mem_of_getElem? hv)
    have h1 := h.itm_lt i
    have h2 := ho.len
    have hl := h.len
    simp only [fuse_Views_Len.l0, List.length_map]
    rw [dec_lt (by omega), cond_true, atL_fst hv, Option.bind_some, psize_ok ho, Option.bind_some, w64_succ (by omega), w64_id (by omega) (by omega)]
    have e : ((itm (vs.take i)).length : Int) + ((pit v.1 v.2).length : Int) = ((itm (vs.take (i + 1))).length : Int) := by rw [vtake hv, List.length_append]; omega
    rw [e]
    exact len_loop h d (i + 1) n (by omega) (by omega)
theorem vlen_ok {Q : List TQueue} {vs : List (TPart × List TItem)} (h : VOk Q vs) : fuse_Views_Len.f K1 Q ⟨fsts vs⟩ = some ((itm vs).length : Int) := by
  have := len_loop h vs.length 0 K1 (by omega) (by have := h.len; unfold K1; omega)
  unfold fuse_Views_Len.f
  replace this : fuse_Views_Len.l0 K1 Q ⟨fsts vs⟩ K1 (0, 0) = _ := this
  rw [this]; rfl
theorem rank_loop {Q : List TQueue} {vs : List (TPart × List TItem)} (h : VOk Q vs) (x : TItem) : ∀ (d i n : Nat), i + d = vs.length → d < n →
    fuse_Views_rank.l0 K1 Q ⟨fsts vs⟩ x n (((below (itm (vs.take i)) x).length : Int), (i : Int)) = some ((below (itm vs) x).length : Int)
  | d, i, 0, _, h => by omega
  | 0, i, n + 1, hi, _ => by
    have e := List.take_of_length_le (l := vs) (i := i) (by omega)
    simp only [fuse_Views_rank.l0, List.length_map, e]
    rw [dec_nlt (by omega)]; rfl
  | d + 1, i, n + 1, hi, hn => by
    obtain ⟨v, hv, _⟩ := drop_cons (l := vs) (i := i) (by omega)
    have ho := h.ok v (List.mem_of_getElem? hv)
    have h1 := h.itm_lt i
    have h2 := ho.len
    have h3 := below_len (itm (vs.take i)) x
    have h4 := below_len (pit v.1 v.2) x
    have hl := h.len
    simp only [fuse_Views_rank.l0, List.length_map]
    rw [dec_lt (by omega), cond_true, atL_fst hv, Option.bind_some, prank_ok ho, Option.bind_some, w64_succ (by omega), w64_id (by omega) (by omega)]
    have e : ((below (itm (vs.take i)) x).length : Int) + ((below (pit v.1 v.2) x).length : Int) = ((below (itm (vs.take (i + 1))) x).length : Int) := by rw [vtake hv, below_app, List.length_append]; omega
    rw [e]
    exact rank_loop h x d (i + 1) n (by omega) (by omega)
theorem vrank_ok {Q : List TQueue} {vs : List (TPart × List TItem)} (h : VOk Q vs) (x : TItem) : fuse_Views_rank.f K1 Q ⟨fsts vs⟩ x = some ((below (itm vs) x).length : Int) := by
  have := rank_loop h x vs.length 0 K1 (by omega) (by have := h.len; unfold K1; omega)
  unfold fuse_Views_rank.f
  replace this : fuse_Views_rank.l0 K1 Q ⟨fsts vs⟩ x K1 (0, 0) = _ := this
  rw [this]; rfl
theorem below_mono {U : List TItem} {x y : TItem} (h : ilt x y) : (below U x).length ≤ (below U y).length := by
  unfold below
  rw [← List.countP_eq_length_filter, ← List.countP_eq_length_filter]
  exact List.countP_mono_left (fun z _ hz => decide_eq_true (ilt_trans (of_decide_eq_true hz) h))
end Go.Proofs.YtpeoalmhccmdiaaGreat
namespace Go.Proofs.YtpeoalmhccmdiaaGreat
open Go Go.Proofs.YtpeoalmhccmdiaaGreat.Sx
theorem mid_ok {a b : Nat} (h : a < b) (hb : b < 1000) : w64 ((w64 ((a : Int) + (b : Int))).tdiv 2) = (((a + b) / 2 : Nat) : Int) := by
  rw [w64_id (x := (a : Int) + (b : Int)) (by omega) (by omega)]
  have : ((a : Int) + (b : Int)).tdiv 2 = (((a + b) / 2 : Nat) : Int) := by
    rw [Int.tdiv_eq_ediv_of_nonneg (by omega)]; omega
  rw [this, w64_id (by omega) (by omega)]
theorem within_loop {Q : List TQueue} {vs : List (TPart × List TItem)} (h : VOk Q vs) {v : TPart × List TItem} (hv : PartOk Q v) (k : Int) : ∀ (n a b : Nat), b ≤ v.2.length → a ≤ b → b < n + a →
    ∃ r, fuse_Views_within.l0 K1 Q ⟨fsts vs⟩ v.1 k n ((a : Int), (b : Int)) = some r ∧ ((r = Sum.inr () ∧ ∀ (j : Nat) (x : TItem), v.2[j]? = some x → a ≤ j → j < b → ((below (itm vs) x).length : Int) ≠ k) ∨
      ∃ (j : Nat) (x : TItem), v.2[j]? = some x ∧ a ≤ j ∧ j < b ∧ ((below (itm vs) x).length : Int) = k ∧ r = Sum.inl (x, true))
  | 0, a, b, _, _, h => by omega
  | n + 1, a, b, hb, hab', hn => by
    by_cases hab : a < b
    · obtain ⟨t, h1, h2⟩ := hv
      have hl := h2.len
      have hs := h2.srt
      have hm : (a + b) / 2 < v.2.length := by omega
      have hx : v.2[(a + b) / 2]? = some v.2[(a + b) / 2] := List.getElem?_eq_getElem hm
      generalize v.2[(a + b) / 2] = x at hx
      have e1 := h2.at hx
      have e2 := vrank_ok h x
      have mono : ∀ (i j : Nat) (y z : TItem), v.2[i]? = some y → v.2[j]? = some z → i ≤ j → (below (itm vs) y).length ≤ (below (itm vs) z).length := by
        intro i j y z hy hz hij
        by_cases e : i = j
        · subst e; rw [hy] at hz; cases hz; exact Nat.le_refl _
        · obtain ⟨hi', rfl⟩ := List.getElem?_eq_some_iff.1 hy
          obtain ⟨hj', rfl⟩ := List.getElem?_eq_some_iff.1 hz
          exact below_mono (List.pairwise_iff_getElem.1 hs i j hi' hj' (by omega))
      simp only [fuse_Views_within.l0]
      rw [dec_lt hab, cond_true, h1, Option.bind_some, mid_ok hab (by omega), e1, Option.bind_some]
      simp only [slot, e2, Option.bind_some]
      by_cases hk : ((below (itm vs) x).length : Int) = k
      · refine ⟨_, by rw [beq_iff_eq.2 hk, cond_true], .inr ⟨(a + b) / 2, x, hx, by omega, by omega, hk, rfl⟩⟩
      · rw [beq_eq_false_iff_ne.2 hk, cond_false]
        by_cases hlt : ((below (itm vs) x).length : Int) < k
        · rw [decide_eq_true hlt, cond_true, w64_succ (by omega)]
          obtain ⟨r, r1, r2⟩ := within_loop h ⟨t, h1, h2⟩ k n ((a + b) / 2 + 1) b hb (by omega) (by omega)
          refine ⟨r, r1, ?_⟩
          rcases r2 with ⟨r2, r3⟩ | ⟨j, y, hj, j1, j2, j3, j4⟩
          · refine .inl ⟨r2, fun j y hy ha hb => ?_⟩
            by_cases hj : (a + b) / 2 + 1 ≤ j
            · exact r3 j y hy hj hb
            · have := mono j _ y x hy hx (by omega); omega
          · exact .inr ⟨j, y, hj, by omega, j2, j3, j4⟩
        · rw [decide_eq_false hlt, cond_false]
          obtain ⟨r, r1, r2⟩ := within_loop h ⟨t, h1, h2⟩ k n a ((a + b) / 2) (by omega) (by omega) (by omega)
          refine ⟨r, r1, ?_⟩
          rcases r2 with ⟨r2, r3⟩ | ⟨j, y, hj, j1, j2, j3, j4⟩
          · refine .inl ⟨r2, fun j y hy ha hb => ?_⟩
            by_cases hj : j < (a + b) / 2
            · exact r3 j y hy ha hj
            · have := mono _ j x y hx hy (by omega); omega
          · exact .inr ⟨j, y, hj, j1, by omega, j3, j4⟩
    · refine ⟨_, ?_, .inl ⟨rfl, fun j x hx h1 h2 => by omega⟩⟩
      simp only [fuse_Views_within.l0]
      rw [dec_nlt (by omega)]; rfl
theorem pit_get {p : TPart} {t : TS TSlot TSize} {T : List TItem} (h : Sh t T) {x : TItem} : x ∈ pit p T ↔ ∃ j : Nat, T.length - (pit p T).length ≤ j ∧ T[j]? = some x := by
  obtain ⟨P, hP⟩ := pit_drop (p := p) h
  have hl : T.length = P.length + (pit p T).length := by
    have := congrArg List.length hP; simpa using this
  constructor
  · intro hx
    obtain ⟨i, hi⟩ := List.mem_iff_getElem?.1 hx
    refine ⟨P.length + i, by omega, ?_⟩
    rw [hP, List.getElem?_append_right (by omega), Nat.add_sub_cancel_left]; exact hi
  · rintro ⟨j, hj, hx⟩
    rw [hP, List.getElem?_append_right (by omega)] at hx
    exact List.mem_of_getElem? hx
theorem within_ok {Q : List TQueue} {vs : List (TPart × List TItem)} (h : VOk Q vs) {v : TPart × List TItem} (hv : PartOk Q v) (k : Int) :
    ∃ r, fuse_Views_within.f K1 Q ⟨fsts vs⟩ v.1 k = some r ∧ ((r = (zTItem, false) ∧ ∀ x ∈ pit v.1 v.2, ((below (itm vs) x).length : Int) ≠ k) ∨ ∃ x ∈ pit v.1 v.2, ((below (itm vs) x).length : Int) = k ∧ r = (x, true)) := by
  have ha := ahead_ok hv
  obtain ⟨t, h1, h2⟩ := id hv
  have hl := h2.len
  obtain ⟨r, r1, r2⟩ := within_loop h hv k K1 (v.2.length - (pit v.1 v.2).length) v.2.length (Nat.le_refl _) (by omega) (by unfold K1; omega)
  unfold fuse_Views_within.f
  simp only [ha, Option.bind_some, h1, h2.size, r1]
  rcases r2 with ⟨r2, r3⟩ | ⟨j, y, hj, j1, j2, j3, j4⟩
  · subst r2
    refine ⟨_, rfl, .inl ⟨rfl, fun x hx => ?_⟩⟩
    obtain ⟨j, g1, g2⟩ := (pit_get h2).1 hx
    exact r3 j x g2 g1 (List.getElem?_eq_some_iff.1 g2).1
  · subst j4
    exact ⟨_, rfl, .inr ⟨y, (pit_get h2).2 ⟨j, j1, hj⟩, j3, rfl⟩⟩
theorem mem_itm {vs : List (TPart × List TItem)} {x : TItem} : x ∈ itm vs ↔ ∃ v ∈ vs, x ∈ pit v.1 v.2 := List.mem_flatMap
theorem at_loop' {Q : List TQueue} {vs : List (TPart × List TItem)} (h : VOk Q vs) (k : Int) : ∀ (d i n : Nat), i + d = vs.length → d < n → (∀ x ∈ itm (vs.take i), ((below (itm vs) x).length : Int) ≠ k) →
    ∃ r, fuse_Views_At.l0 K1 Q ⟨fsts vs⟩ k n (i : Int) = some r ∧ ((r = Sum.inr () ∧ ∀ x ∈ itm vs, ((below (itm vs) x).length : Int) ≠ k) ∨ ∃ x ∈ itm vs, ((below (itm vs) x).length : Int) = k ∧ r = Sum.inl (x, true))
  | d, i, 0, _, h, _ => by omega
  | 0, i, n + 1, hi, _, hx => by
    rw [List.take_of_length_le (l := vs) (i := i) (by omega)] at hx
    refine ⟨_, ?_, .inl ⟨rfl, hx⟩⟩
    simp only [fuse_Views_At.l0, List.length_map]
    rw [dec_nlt (by omega)]; rfl
  | d + 1, i, n + 1, hi, hn, hx => by
    obtain ⟨v, hv, _⟩ := drop_cons (l := vs) (i := i) (by omega)
    have hvm := List.mem_of_getElem? hv
    obtain ⟨r, r1, r2⟩ := within_ok h (h.ok v hvm) k
    have hl := h.len
    simp only [fuse_Views_At.l0, List.length_map]
    rw [dec_lt (by omega), cond_true, atL_fst hv, Option.bind_some, r1, Option.bind_some]
    rcases r2 with ⟨rfl, r3⟩ | ⟨x, hx', r3, rfl⟩
    · simp only [cond_false]
      rw [w64_succ (by omega)]
      refine at_loop' h k d (i + 1) n (by omega) (by omega) (fun x hx2 => ?_)
      rw [vtake hv] at hx2
      rcases List.mem_append.1 hx2 with hx2 | hx2
      · exact hx x hx2
      · exact r3 x hx2
    · exact ⟨_, rfl, .inr ⟨x, mem_itm.2 ⟨v, hvm, hx'⟩, r3, rfl⟩⟩
theorem srt_strict {U : List TItem} (h : U.Nodup) : (srt U).Pairwise ilt := by
  have h1 := srt_sorted U
  have h2 : (srt U).Nodup := (srt_perm U).nodup_iff.2 h
  exact (h1.and h2).imp (fun h => ilt_iff.2 h)
theorem below_strict {l : List TItem} (h : l.Pairwise ilt) {i : Nat} {x : TItem} (hx : l[i]? = some x) : below l x = l.take i ∧ behind l x = l.drop (i + 1) := by
  have hi := (List.getElem?_eq_some_iff.1 hx).1
  have e : l = l.take i ++ x :: l.drop (i + 1) := by
    obtain ⟨y, hy, hd⟩ := drop_cons (l := l) (i := i) hi
    rw [hx] at hy; cases hy
    rw [← hd, List.take_append_drop]
  have hp := h
  rw [e] at hp
  have h1 := List.pairwise_append.1 hp
  have h2 := List.pairwise_cons.1 h1.2.1
  have c : CutI x l (l.take i) [x] (l.drop (i + 1)) := ⟨e, fun y hy => h1.2.2 y hy x List.mem_cons_self, h2.1, .inr rfl⟩
  exact ⟨c.below, c.behind⟩
theorem below_perm {U V : List TItem} (h : U.Perm V) (x : TItem) : (below U x).length = (below V x).length := (h.filter _).length_eq
theorem rank_srt {U : List TItem} (h : U.Nodup) {x : TItem} {k : Nat} : (x ∈ U ∧ (below U x).length = k) ↔ (srt U)[k]? = some x := by
  have hs := srt_strict h
  have key : ∀ j y, (srt U)[j]? = some y → (below U y).length = j := fun j y hy => by
    rw [← below_perm (srt_perm U), (below_strict hs hy).1, List.length_take]
    have := (List.getElem?_eq_some_iff.1 hy).1; omega
  constructor
  · rintro ⟨hx, hk⟩
    obtain ⟨j, hj⟩ := List.mem_iff_getElem?.1 ((srt_perm U).mem_iff.2 hx)
    have h1 := key j x hj
    rw [hk] at h1; rw [h1]; exact hj
  · intro hk
    exact ⟨(srt_perm U).mem_iff.1 (List.mem_of_getElem? hk), key k x hk⟩
def atI (l : List TItem) (k : Int) : TItem × Bool := if k < 0 then (zTItem, false) else match l[k.toNat]? with
  | some x => (x, true)
  | none => (zTItem, false)
theorem vat_ok {Q : List TQueue} {vs : List (TPart × List TItem)} (h : VOk Q vs) (hn : (itm vs).Nodup) (k : Int) : fuse_Views_At.f K1 Q ⟨fsts vs⟩ k = some (atI (srt (itm vs)) k) := by
  obtain ⟨r, r1, r2⟩ := at_loop' h k vs.length 0 K1 (by omega) (by have := h.len; unfold K1; omega) (fun x hx => by simp [itm] at hx)
  replace r1 : fuse_Views_At.l0 K1 Q ⟨fsts vs⟩ k K1 0 = some r := r1
  unfold fuse_Views_At.f atI
  rw [r1, Option.bind_some]
  rcases r2 with ⟨rfl, r3⟩ | ⟨x, hx, r3, rfl⟩
  · show some (zTItem, false) = _
    split
    · rfl
    · rename_i h0
      cases hg : (srt (itm vs))[k.toNat]? with
      | none => rfl
      | some x =>
        obtain ⟨g1, g2⟩ := (rank_srt hn).2 hg
        exact absurd (by rw [g2]; omega) (r3 x g1)
  · show some (x, true) = _
    rw [if_neg (by omega)]
    have : (srt (itm vs))[k.toNat]? = some x := (rank_srt hn).1 ⟨hx, by omega⟩
    rw [this]
theorem raised_ok (Q : List TQueue) (p : TPart) (x : TItem) : ∃ p', fuse_part_raised.f K1 Q p x = some p' ∧ p'.shelf = p.shelf ∧ ∀ T, pit p' T = behind (pit p T) x := by
  unfold fuse_part_raised.f
  by_cases hf : p.floor.found = true
  · simp only [hf, Bool.not_true, cond_false, itemCompare_eq K1 (by decide), Option.bind_some]
    by_cases hx : ilt p.floor.item x
    · rw [decide_eq_true (isgn_lt'.2 hx), cond_true]
      refine ⟨_, rfl, rfl, fun T => ?_⟩
      unfold pit; rw [if_pos rfl, if_pos hf]
      unfold behind
      rw [List.filter_filter]
      refine List.filter_congr (fun y _ => ?_)
      by_cases hy : ilt x y
      · simp [hy, ilt_trans hx hy]
      · simp [hy]
    · rw [decide_eq_false (fun h => hx (isgn_lt'.1 h)), cond_false]
      refine ⟨_, rfl, rfl, fun T => ?_⟩
      unfold pit; rw [if_pos hf]
      exact (filt_all (p := fun y => ilt x y) (fun y hy => ilt_of x p.floor.item y hx (of_decide_eq_true (List.mem_filter.1 hy).2))).symm
  · have hf' : p.floor.found = false := by simpa using hf
    simp only [hf', Bool.not_false, cond_true]
    refine ⟨_, rfl, rfl, fun T => ?_⟩
    unfold pit; rw [if_pos rfl, if_neg hf]
where
  ilt_of (x f y : TItem) (h : ¬ ilt f x) (hy : ilt f y) : ilt x y := ile_trans_lt (not_ilt.1 h) hy
theorem raise_loop (Q : List TQueue) (e : THp) (l0 : List TPart) (x : TItem × Bool) (g : TPart → TPart) (hg : ∀ p, fuse_part_raised.f K1 Q p x.1 = some (g p)) (ps : List TPart) (hl : ps.length < 1000) (hl0 : l0.length + 1 = ps.length) : ∀ (d i n : Nat), i + d = ps.length → d < n →
    fuse_Views_Then.l0 K1 Q e l0 x n ((ps.take i).map g ++ ps.drop i, (i : Int)) = some (ps.map g)
  | d, i, 0, _, h => by omega
  | 0, i, n + 1, hi, _ => by
    simp only [fuse_Views_Then.l0, List.length_append, List.length_singleton]
    rw [show ((l0.length + 1 : Nat) : Int) = (ps.length : Int) by omega, dec_nlt (by omega), cond_false, List.take_of_length_le (by omega), List.drop_eq_nil_of_le (by omega), List.append_nil]
  | d + 1, i, n + 1, hi, hn => by
    obtain ⟨p, hp, hd⟩ := drop_cons (l := ps) (i := i) (by omega)
    have hti : ((ps.take i).map g).length = i := by rw [List.length_map, List.length_take]; omega
    simp only [fuse_Views_Then.l0, List.length_append, List.length_singleton]
    have e1 : ((ps.take i).map g ++ ps.drop i)[i]? = some p := by rw [List.getElem?_append_right (by omega), hti, Nat.sub_self, hd]; rfl
    rw [show ((l0.length + 1 : Nat) : Int) = (ps.length : Int) by omega, dec_lt (by omega), cond_true, atL_nat e1, Option.bind_some, hg p, Option.bind_some, w64_succ (by omega), Int.toNat_natCast]
    have e2 : ((ps.take i).map g ++ ps.drop i).set i (g p) = (ps.take (i + 1)).map g ++ ps.drop (i + 1) := by
      rw [List.set_append_right _ _ (by omega), hti, Nat.sub_self, hd, List.set_cons_zero, take_snoc hp, List.map_append, List.append_assoc]; rfl
    rw [e2]
    exact raise_loop Q e l0 x g hg ps hl hl0 d (i + 1) n (by omega) (by omega)
theorem clone_ok (Q : List TQueue) (l : List TPart) (hl : l.length < 1000) : slices_Clone.f K1 Q l = some l := by
  unfold slices_Clone.f
  rw [decide_eq_true (by simp; omega), cond_true]; simp
structure QSt (q : TQueue) (P G : List TItem) (n : Nat) : Prop where
  pres : Sh q.present P
  gone : Sh q.gone G
  dels : partial_Queue_Deletes.f K1 q = some (n : Int)
theorem sh_of {p : PN TSlot TSize} {r : TRef} {l : List TItem} {c : Int} {B : Nat} (h : ∃ T, GrS p r T c B ∧ T.Perm (sls l)) (hl : l.length < 1000) : Sh ⟨p, r⟩ (srt l) := by
  obtain ⟨T, g, hp⟩ := h
  have e : T = sls (T.map (·.item)) := by
    show T = (T.map (·.item)).map slot
    rw [List.map_map]
    conv => lhs; rw [← List.map_id T]
    exact List.map_congr_left (fun s hs => (sls_item (hp.mem_iff.1 hs)).1)
  have hq : (T.map (·.item)).Perm l := by
    have := hp.map (·.item)
    rwa [List.map_map, show (fun s : TSlot => s.item) ∘ slot = id from rfl, List.map_id] at this
  have hs : Sorted (T.map (·.item)) := by
    refine (List.pairwise_map (f := fun s : TSlot => s.item) (R := ile)).2 (g.sorted.imp (fun h => ilt_ile h))
  rw [srt_of hs hq] at e
  rw [e] at g
  exact ⟨⟨c, B, g⟩, by rw [srt_len]; exact hl⟩
theorem qst_of {q : TQueue} {m : List TMark} {E c : Int} {B : Nat} (h : QOk q m E c B) {os : List TOp} (ho : m.map (·.op) = os) : QSt q (runR os).here (srt (runR os).gone) (delN os) := by
  have hl := h.rep.lim
  have ls := len_split m
  have r := run_cert h.rep.dist h.cert
  rw [ho] at r
  have hd : delN os = (dels m).length := by
    rw [← ho]; unfold delN delsO dels
    rw [List.filter_map, List.length_map]; rfl
  obtain ⟨s, s1, s2⟩ := between_ok' h.rep.marks (by omega) 0 m.length
  replace s1 : Tree_Between.f opsM K1 q.marks.p q.marks.r 0 (m.length : Int) = some s := s1
  rw [List.take_length, List.drop_zero] at s2
  refine ⟨?_, ?_, ?_⟩
  · rw [srt_of r.2.2.2 r.1]
    exact sh_of h.rep.pres (by omega)
  · rw [srt_eq r.2.1]
    exact sh_of h.rep.gone (by omega)
  · unfold partial_Queue_Deletes.f partial_Queue_all.f
    simp only [len_ok h.rep.marks, Option.bind_some, s1, s2.deletes, hd]
end Go.Proofs.YtpeoalmhccmdiaaGreat
namespace Go.Proofs.YtpeoalmhccmdiaaGreat
open Go Go.Proofs.YtpeoalmhccmdiaaGreat.Sx
theorem hQ1 {Q : List TQueue} {j : Nat} {q : TQueue} (h : Q[j]? = some q) : hQueue Q ⟨j, 1⟩ = some q := by unfold hQueue; rw [if_pos rfl]; exact h
theorem hT4 {Q : List TQueue} {j : Nat} {q : TQueue} (h : Q[j]? = some q) : hTree Q ⟨j, 4⟩ = some q.present := by
  unfold hTree; show (Q[j]?).bind _ = _; rw [h]; rfl
theorem hT6 {Q : List TQueue} {j : Nat} {q : TQueue} (h : Q[j]? = some q) : hTree Q ⟨j, 6⟩ = some q.gone := by
  unfold hTree; show (Q[j]?).bind _ = _; rw [h]; rfl
theorem pit0 (e : THp) (T : List TItem) : pit ⟨e, zTTook⟩ T = T := by unfold pit; exact if_neg (fun h => by cases h)
theorem itm_map {g : TPart → TPart} {x : TItem} (hg : ∀ p T, pit (g p) T = behind (pit p T) x) : ∀ vs : List (TPart × List TItem), itm (vs.map fun v => (g v.1, v.2)) = behind (itm vs) x
  | [] => rfl
  | v :: vs => by
    have e : itm ((v :: vs).map fun v => (g v.1, v.2)) = pit (g v.1) v.2 ++ itm (vs.map fun v => (g v.1, v.2)) := rfl
    have e2 : itm (v :: vs) = pit v.1 v.2 ++ itm vs := rfl
    rw [e, e2, hg, itm_map hg vs]; exact (List.filter_append ..).symm
theorem then_ok {Q : List TQueue} {vs : List (TPart × List TItem)} (h : VOk Q vs) {j : Nat} {q : TQueue} (hq : Q[j]? = some q) {P G : List TItem} {n : Nat} (hs : QSt q P G n) (hn9 : n < 1000) (hnd : (itm vs ++ G).Nodup) (hlen : vs.length + 2 < 1000) :
    ∃ vs', fuse_Views_Then.f K1 Q ⟨fsts vs⟩ ⟨j, 1⟩ = some ⟨fsts vs'⟩ ∧ VOk Q vs' ∧ (itm vs').Perm (fuseI (itm vs) P G n) ∧ vs'.length ≤ vs.length + 2 := by
  have own : PartOk Q (⟨⟨j, 4⟩, zTTook⟩, P) := ⟨_, hT4 hq, hs.pres⟩
  have all : VOk Q (vs ++ [(⟨⟨j, 6⟩, zTTook⟩, G)]) := ⟨fun v hv => by
    rcases List.mem_append.1 hv with hv | hv
    · exact h.ok v hv
    · rw [List.mem_singleton.1 hv]; exact ⟨_, hT6 hq, hs.gone⟩, by simp; omega⟩
  have eall : fsts (vs ++ [(⟨⟨j, 6⟩, zTTook⟩, G)]) = fsts vs ++ ([⟨⟨j, 6⟩, zTTook⟩] : List TPart) := by unfold fsts; rw [List.map_append]; rfl
  have iall : itm (vs ++ [(⟨⟨j, 6⟩, zTTook⟩, G)]) = itm vs ++ G := by
    rw [itm_app]; congr 1
    show pit _ _ ++ [] = _
    rw [List.append_nil, pit0]
  have iown : itm [((⟨⟨j, 4⟩, zTTook⟩, P) : TPart × List TItem)] = P := by
    show pit _ _ ++ [] = _
    rw [List.append_nil, pit0]
  have e1 := vlen_ok all
  have e2 := vat_ok all (by rw [iall]; exact hnd) ((n : Int) - 1)
  have hfl : (fsts vs).length = vs.length := List.length_map ..
  have hlim : ∀ m : Nat, m < 1000 → decide (m + 1 < 4294967296) = true := fun m hm => decide_eq_true (by omega)
  have hsl := srt_len (itm vs ++ G)
  rw [iall] at e1 e2
  rw [eall] at e1 e2
  unfold fuse_Views_Then.f
  simp only [hQ1 hq, Option.bind_some, partial_Queue_Present.f, partial_Queue_Gone.f, clone_ok Q (fsts vs) (by omega), List.length_singleton, hfl, hlim vs.length (by omega), cond_true, hs.dels, e1]
  by_cases hge : (n : Int) ≥ ((itm vs ++ G).length : Int)
  · rw [decide_eq_true hge, cond_true]
    refine ⟨[(⟨⟨j, 4⟩, zTTook⟩, P)], rfl, ⟨fun v hv => by rw [List.mem_singleton.1 hv]; exact own, by simp⟩, ?_, by simp⟩
    rw [iown]; unfold fuseI
    rw [List.drop_eq_nil_of_le (by rw [hsl]; omega), List.append_nil]
    exact (srt_perm P).symm
  · rw [decide_eq_false hge, cond_false, w64_id (by omega) (by omega), e2, Option.bind_some]
    by_cases h0 : n = 0
    · subst h0
      have : atI (srt (itm vs ++ G)) (((0 : Nat) : Int) - 1) = (zTItem, false) := rfl
      simp only [this, cond_false, Option.bind_some, List.length_append, List.length_singleton, hfl, hlim (vs.length + 1) (by omega), cond_true]
      refine ⟨(vs ++ [(⟨⟨j, 6⟩, zTTook⟩, G)]) ++ [(⟨⟨j, 4⟩, zTTook⟩, P)], ?_, ⟨fun v hv => ?_, by simp; omega⟩, ?_, by simp⟩
      · rw [← eall]; unfold fsts; rw [List.map_append (l₂ := [((⟨⟨j, 4⟩, zTTook⟩, P) : TPart × List TItem)])]; rfl
      · rcases List.mem_append.1 hv with hv | hv
        · exact all.ok v hv
        · rw [List.mem_singleton.1 hv]; exact own
      · rw [itm_app, iall, iown]; unfold fuseI
        rw [List.drop_zero]
        exact List.perm_append_comm.trans (((srt_perm _).symm.append_left P).trans (srt_perm _).symm)
    · have hlt : n - 1 < (srt (itm vs ++ G)).length := by rw [hsl]; omega
      have hx : (srt (itm vs ++ G))[n - 1]? = some (srt (itm vs ++ G))[n - 1] := List.getElem?_eq_getElem hlt
      generalize (srt (itm vs ++ G))[n - 1] = x at hx
      have : atI (srt (itm vs ++ G)) ((n : Int) - 1) = (x, true) := by
        unfold atI; rw [if_neg (by omega), show ((n : Int) - 1).toNat = n - 1 by omega, hx]
      obtain ⟨g, hg, hgs⟩ : ∃ g : TPart → TPart, (∀ p, fuse_part_raised.f K1 Q p x = some (g p)) ∧ ∀ p, (g p).shelf = p.shelf ∧ ∀ T, pit (g p) T = behind (pit p T) x :=
        ⟨fun p => (fuse_part_raised.f K1 Q p x).getD p, fun p => by obtain ⟨p', h1, _⟩ := raised_ok Q p x; simp only [h1, Option.getD_some], fun p => by obtain ⟨p', h1, h2, h3⟩ := raised_ok Q p x; simp only [h1, Option.getD_some]; exact ⟨h2, h3⟩⟩
      have hloop := raise_loop Q ⟨j, 1⟩ (fsts vs) (x, true) g hg (fsts vs ++ [⟨⟨j, 6⟩, zTTook⟩]) (by simp; omega) (by simp) (vs.length + 1) 0 K1 (by simp) (by unfold K1; omega)
      replace hloop : fuse_Views_Then.l0 K1 Q ⟨j, 1⟩ (fsts vs) (x, true) K1 (fsts vs ++ ([⟨⟨j, 6⟩, zTTook⟩] : List TPart), 0) = _ := hloop
      simp only [this, cond_true, hloop, Option.bind_some, List.length_map, List.length_append, List.length_singleton, hlim (vs.length + 1) (by omega)]
      refine ⟨(vs ++ [((⟨⟨j, 6⟩, zTTook⟩, G) : TPart × List TItem)]).map (fun v => (g v.1, v.2)) ++ [(⟨⟨j, 4⟩, zTTook⟩, P)], ?_, ⟨fun v hv => ?_, by simp; omega⟩, ?_, by simp⟩
      · rw [← eall]; unfold fsts; rw [List.map_append (l₂ := [((⟨⟨j, 4⟩, zTTook⟩, P) : TPart × List TItem)]), List.map_map, List.map_map]; rfl
      · rcases List.mem_append.1 hv with hv | hv
        · obtain ⟨v0, h1, rfl⟩ := List.mem_map.1 hv
          obtain ⟨t, g1, g2⟩ := all.ok v0 h1
          exact ⟨t, by rw [(hgs v0.1).1]; exact g1, g2⟩
        · rw [List.mem_singleton.1 hv]; exact own
      · rw [itm_app, itm_map (fun p T => (hgs p).2 T), iall, iown]; unfold fuseI
        have hb := (below_strict (srt_strict hnd) hx).2
        rw [show n - 1 + 1 = n by omega] at hb
        rw [← hb]
        exact List.perm_append_comm.trans (((((srt_perm _).filter _).symm).append_left P).trans (srt_perm _).symm)
theorem hereS_mem {U : List TItem} {os : List TOp} {x : TItem} : x ∈ os.foldl hereS U → x ∈ U ∨ ∃ o ∈ os, o.insert = true ∧ o.item = x := by
  induction os generalizing U with
  | nil => exact .inl
  | cons o os ih =>
    intro hx
    rw [List.foldl_cons] at hx
    rcases ih hx with hx | ⟨o', h1, h2⟩
    · unfold hereS at hx
      split at hx
      · rename_i ho
        rcases List.mem_cons.1 ((sins_perm _ _).mem_iff.1 hx) with rfl | hx
        · exact .inr ⟨o, List.mem_cons_self, ho, rfl⟩
        · exact .inl hx
      · exact .inl (List.mem_of_mem_tail hx)
    · exact .inr ⟨o', List.mem_cons_of_mem _ h1, h2⟩
theorem gone_mem {os : List TOp} {x : TItem} (hx : x ∈ (runR os).gone) : ∃ o ∈ os, o.insert = true ∧ o.item = x := by
  revert x
  have key : ∀ (os2 os1 : List TOp) (s : RS), (∀ x ∈ s.here ++ s.gone, ∃ o ∈ os1, o.insert = true ∧ o.item = x) → ∀ x ∈ (os2.foldl stepR s).gone, ∃ o ∈ os1 ++ os2, o.insert = true ∧ o.item = x := by
    intro os2
    induction os2 with
    | nil => intro os1 s h x hx; rw [List.append_nil]; exact h x (List.mem_append_right _ hx)
    | cons o os2 ih =>
      intro os1 s h x hx
      have := ih (os1 ++ [o]) (stepR s o) (fun y hy => ?_) x hx
      · rwa [List.append_assoc] at this
      · unfold stepR at hy
        split at hy
        · rename_i ho
          rcases List.mem_append.1 hy with hy | hy
          · rcases List.mem_cons.1 ((sins_perm _ _).mem_iff.1 hy) with rfl | hy
            · exact ⟨o, by simp, ho, rfl⟩
            · obtain ⟨o', g1, g2⟩ := h y (List.mem_append_left _ hy); exact ⟨o', List.mem_append_left _ g1, g2⟩
          · obtain ⟨o', g1, g2⟩ := h y (List.mem_append_right _ hy); exact ⟨o', List.mem_append_left _ g1, g2⟩
        · split at hy
          · rename_i z t hz
            have : y ∈ s.here ++ s.gone := by
              rw [hz]
              rcases List.mem_append.1 hy with hy | hy
              · exact List.mem_append_left _ (List.mem_cons_of_mem _ hy)
              · rcases List.mem_append.1 hy with hy | hy
                · exact List.mem_append_right _ hy
                · rw [List.mem_singleton.1 hy]; simp
            obtain ⟨o', g1, g2⟩ := h y this; exact ⟨o', List.mem_append_left _ g1, g2⟩
          · rename_i hz
            obtain ⟨o', g1, g2⟩ := h y (List.mem_append_right _ (by simpa using hy)); exact ⟨o', List.mem_append_left _ g1, g2⟩
  intro x hx
  have := key os [] ⟨[], [], 0, []⟩ (fun y hy => by cases hy) x hx
  simpa using this
theorem runR_part (os : List TOp) {q : TQueue} {m : List TMark} {E c : Int} {B : Nat} (h : QOk q m E c B) (ho : m.map (·.op) = os) : ((runR os).here ++ (runR os).gone).Nodup := by
  have r := run_cert h.rep.dist h.cert
  rw [ho] at r
  rw [(r.1.append r.2.1).nodup_iff]
  refine List.nodup_append.2 ⟨hereI_nodup h.rep.dist, goneI_nodup h.rep.dist, fun a ha b hb e => ?_⟩
  subst e
  obtain ⟨i, x, h1, h2, h3⟩ := mem_hereI.1 ha
  obtain ⟨j, y, h4, h5, h6⟩ := mem_goneI.1 hb
  have := h.rep.dist i j x y h1 h4 h2.1 h5.1 (h3.trans h6.symm)
  subst this
  rw [h1] at h4; cases h4
  have h7 := h5.2; rw [h2.2] at h7; cases h7
where
  goneI_nodup : ∀ {m : List TMark}, Dist m → (goneI m).Nodup := fun {m} hd => by
    unfold goneI
    have hp : m.Pairwise (fun x y => x.op.insert = true → y.op.insert = true → x.op.item ≠ y.op.item) := List.pairwise_iff_getElem.2 (fun i j hi hj hij h1 h2 h3 => by
      have := hd i j _ _ (List.getElem?_eq_getElem hi) (List.getElem?_eq_getElem hj) h1 h2 h3
      omega)
    refine (List.pairwise_map).2 ?_
    refine (List.Pairwise.imp_of_mem (fun {a b} ha hb h => ?_) (hp.filter _))
    have h1 := (List.mem_filter.1 ha).2
    have h2 := (List.mem_filter.1 hb).2
    simp only [Bool.and_eq_true] at h1 h2
    exact h h1.1 h2.1
end Go.Proofs.YtpeoalmhccmdiaaGreat
namespace Go.Proofs.YtpeoalmhccmdiaaGreat
open Go Go.Proofs.YtpeoalmhccmdiaaGreat.Sx
theorem hTree_grow {Q : List TQueue} {e : THp} {t : TS TSlot TSize} (q : TQueue) (h : hTree Q e = some t) : hTree (Q ++ [q]) e = some t := by
  unfold hTree at h ⊢
  obtain ⟨q0, h1, h2⟩ := Option.bind_eq_some_iff.1 h
  rw [List.getElem?_append_left (List.getElem?_eq_some_iff.1 h1).1, h1]; exact h2
theorem VOk.grow {Q : List TQueue} {vs : List (TPart × List TItem)} (h : VOk Q vs) (q : TQueue) : VOk (Q ++ [q]) vs :=
  ⟨fun v hv => by obtain ⟨t, h1, h2⟩ := h.ok v hv; exact ⟨t, hTree_grow q h1, h2⟩, h.len⟩
theorem VOk.parts {Q : List TQueue} {vs : List (TPart × List TItem)} (h : VOk Q vs) : partsIn Q.length (fsts vs) = true := by
  unfold partsIn fsts
  rw [List.all_map]
  refine List.all_eq_true.2 (fun v hv => ?_)
  obtain ⟨t, h1, _⟩ := h.ok v hv
  unfold hTree at h1
  obtain ⟨q0, h2, _⟩ := Option.bind_eq_some_iff.1 h1
  exact decide_eq_true (List.getElem?_eq_some_iff.1 h2).1
theorem new_at (Q : List TQueue) (q : TQueue) : (Q ++ [q])[Q.length]? = some q := by rw [List.getElem?_append_right (Nat.le_refl _), Nat.sub_self]; rfl
theorem delsO_len (os : List TOp) : (delsO os).length ≤ os.length := List.length_filter_le _ _
structure Vw0 (Q : List TQueue) (vs : List (TPart × List TItem)) (a : List TOp) : Prop where
  ok : VOk Q vs
  is : (itm vs).Perm (runR a).here
  nd : (runR a).here.Nodup
theorem Vw0.grow {Q : List TQueue} {vs : List (TPart × List TItem)} {a : List TOp} (h : Vw0 Q vs a) (q : TQueue) : Vw0 (Q ++ [q]) vs a := ⟨h.ok.grow q, h.is, h.nd⟩
theorem Vw0.len {Q : List TQueue} {vs : List (TPart × List TItem)} {a : List TOp} (h : Vw0 Q vs a) : fuse_Views_Len.f K1 Q ⟨fsts vs⟩ = some ((runR a).here.length : Int) := by rw [vlen_ok h.ok, h.is.length_eq]
theorem Vw0.none (Q : List TQueue) : Vw0 Q [] [] := ⟨⟨fun v hv => (by cases hv), by decide⟩, List.Perm.refl _, List.nodup_nil⟩
def Fresh (a os : List TOp) : Prop := ∀ x ∈ a, x.insert = true → ∀ o ∈ os, o.insert = true → x.item ≠ o.item
theorem here_mem {a : List TOp} {x : TItem} (h : x ∈ (runR a).here) : ∃ o ∈ a, o.insert = true ∧ o.item = x := by
  have : x ∈ a.foldl hereS [] := by rw [← hereS_fold a ⟨[], [], 0, []⟩]; exact h
  rcases hereS_mem this with h | h
  · cases h
  · exact h
theorem Vw0.step {Q : List TQueue} {vs : List (TPart × List TItem)} {a os : List TOp} (h : Vw0 Q vs a) {j : Nat} {q : TQueue} (hq : Q[j]? = some q) {m : List TMark} {E c : Int} {B : Nat} (hk : QOk q m E c B) (ho : m.map (·.op) = os) (hf : Fresh a os) (hlen : vs.length + 2 < 1000) :
    ∃ vs', fuse_Views_Then.f K1 Q ⟨fsts vs⟩ ⟨j, 1⟩ = some ⟨fsts vs'⟩ ∧ Vw0 Q vs' (a ++ os) ∧ vs'.length ≤ vs.length + 2 := by
  have hs := qst_of hk ho
  have hl : os.length ≤ 100 := by rw [← ho, List.length_map]; exact hk.rep.lim
  have hd := delsO_len os
  have hpart := runR_part os hk ho
  have dj : ∀ x ∈ (runR a).here, ∀ y ∈ (runR os).here ++ (runR os).gone, x ≠ y := by
    intro x hx y hy e
    obtain ⟨o1, g1, g2, g3⟩ := here_mem hx
    obtain ⟨o2, g4, g5, g6⟩ : ∃ o ∈ os, o.insert = true ∧ o.item = y := by
      rcases List.mem_append.1 hy with hy | hy
      · exact here_mem hy
      · exact gone_mem hy
    exact hf o1 g1 g2 o2 g4 g5 (g3.trans (e.trans g6.symm))
  have hp2 := List.nodup_append.1 hpart
  have n1 : ((runR a).here ++ srt (runR os).gone).Nodup := List.nodup_append.2 ⟨h.nd, (srt_perm _).nodup_iff.2 hp2.2.1, fun x hx y hy => dj x hx y (List.mem_append_right _ ((srt_perm _).mem_iff.1 hy))⟩
  obtain ⟨vs', r1, r2, r3, r4⟩ := then_ok h.ok hq hs (by unfold delN; omega) (((h.is.append_right _).nodup_iff).2 n1) hlen
  have e : fuseI (itm vs) (runR os).here (srt (runR os).gone) (delN os) = (runR (a ++ os)).here := by
    rw [runR_app, fuse_run _ (runR_sorted a)]
    unfold fuseI
    rw [srt_eq (h.is.append (srt_perm (runR os).gone))]
  rw [e] at r3
  refine ⟨vs', r1, ⟨r2, r3, ?_⟩, r4⟩
  rw [← e]
  unfold fuseI
  refine (srt_perm _).nodup_iff.2 (List.nodup_append.2 ⟨hp2.1, ?_, fun x hx y hy => ?_⟩)
  · exact (List.drop_sublist _ _).nodup ((srt_perm _).nodup_iff.2 (((h.is.append_right _).nodup_iff).2 n1))
  · have hy' := (srt_perm _).mem_iff.1 (List.mem_of_mem_drop hy)
    rcases List.mem_append.1 hy' with hy' | hy'
    · exact fun e => dj y (h.is.mem_iff.1 hy') x (List.mem_append_left _ hx) e.symm
    · exact hp2.2.2 x hx y ((srt_perm _).mem_iff.1 hy')
abbrev kops (l : List Int) (id : Int) : List TOp := l.mapIdx fun j x => keyOp id (j : Int) x
theorem kops_len (l : List Int) (id : Int) : (kops l id).length = l.length := List.length_mapIdx
end Go.Proofs.YtpeoalmhccmdiaaGreat
namespace Go.Proofs.YtpeoalmhccmdiaaGreat
open Go Go.Proofs.YtpeoalmhccmdiaaGreat.Sx
theorem srtBy_srt (l : List TItem) : srtBy isgn l = srt l := by
  refine sorted_perm_eq ((srtBy_sorted swoI l).imp (fun h => not_ilt.1 (fun h2 => h (isgnL.2 h2)))) (srt_sorted l) ((srtBy_perm swoI l).trans (srt_perm l).symm)
theorem itemSorted (l : List TItem) (hl : l.length < 1000000000) : item_Sorted.f K1 l = some (srt l) := by
  unfold item_Sorted.f
  rw [decide_eq_true (by omega), cond_true, srtBy_srt]
theorem Sh.items {t : TS TSlot TSize} {T : List TItem} (h : Sh t T) : shelf_Items.f K1 t.p t.r = some T := by
  obtain ⟨c, B, g⟩ := h.ex
  have := sitems g (by have := h.len; simp; omega)
  rw [this, List.map_map]
  congr 1
  exact List.map_id'' (fun _ => rfl) T
theorem vitems_loop {Q : List TQueue} {vs : List (TPart × List TItem)} (h : VOk Q vs) : ∀ (d i n : Nat), i + d = vs.length → d < n →
    fuse_Views_Items.l0 K1 Q ⟨fsts vs⟩ n (itm (vs.take i), (i : Int)) = some (itm vs)
  | d, i, 0, _, h => by omega
  | 0, i, n + 1, hi, _ => by
    have e := List.take_of_length_le (l := vs) (i := i) (by omega)
    simp only [fuse_Views_Items.l0, List.length_map, e]
    rw [dec_nlt (by omega)]; rfl
  | d + 1, i, n + 1, hi, hn => by
    obtain ⟨v, hv, _⟩ := drop_cons (l := vs) (i := i) (by omega)
    have ho := h.ok v (List.mem_of_getElem? hv)
    have ha := ahead_ok ho
    obtain ⟨t, g1, g2⟩ := id ho
    have hb := g2.len
    have hp := pit_len v.1 v.2
    have h1 := h.itm_lt i
    have hl := h.len
    obtain ⟨Pp, hP⟩ := pit_drop (p := v.1) g2
    have hlen : v.2.length = Pp.length + (pit v.1 v.2).length := by
      have := congrArg List.length hP; simpa using this
    have e1 : (v.2.drop (v.2.length - (pit v.1 v.2).length)).take (v.2.length - (v.2.length - (pit v.1 v.2).length)) = pit v.1 v.2 := by
      rw [List.take_of_length_le (by rw [List.length_drop]; omega)]
      have : v.2.length - (pit v.1 v.2).length = Pp.length := by omega
      rw [this]
      conv => lhs; arg 2; rw [hP]
      exact List.drop_left ..
    simp only [fuse_Views_Items.l0, List.length_map]
    rw [dec_lt (by omega), cond_true, atL_fst hv, Option.bind_some, g1, Option.bind_some, g2.items, Option.bind_some, ha, Option.bind_some, nat_in (by omega), cond_true, Int.toNat_natCast, e1, decide_eq_true (by omega), cond_true, w64_succ (by omega), ← vtake hv]
    exact vitems_loop h d (i + 1) n (by omega) (by omega)
theorem vitems_ok {Q : List TQueue} {vs : List (TPart × List TItem)} (h : VOk Q vs) : fuse_Views_Items.f K1 Q ⟨fsts vs⟩ = some (srt (itm vs)) := by
  have := vitems_loop h vs.length 0 K1 (by omega) (by have := h.len; unfold K1; omega)
  have hl := h.itm_lt vs.length
  rw [List.take_of_length_le (Nat.le_refl _)] at hl
  unfold fuse_Views_Items.f
  replace this : fuse_Views_Items.l0 K1 Q ⟨fsts vs⟩ K1 (([] : List TItem), 0) = _ := this
  rw [this, Option.bind_some, itemSorted _ (by omega)]; rfl
theorem Vw0.srt {Q : List TQueue} {vs : List (TPart × List TItem)} {a : List TOp} (h : Vw0 Q vs a) : Go.Proofs.YtpeoalmhccmdiaaGreat.srt (itm vs) = (runR a).here := (srt_of (runR_sorted a) h.is.symm).symm
theorem Vw0.at {Q : List TQueue} {vs : List (TPart × List TItem)} {a : List TOp} (h : Vw0 Q vs a) (k : Int) : fuse_Views_At.f K1 Q ⟨fsts vs⟩ k = some (atI (runR a).here k) := by
  rw [vat_ok h.ok (h.is.nodup_iff.2 h.nd), h.srt]
theorem Vw0.min {Q : List TQueue} {vs : List (TPart × List TItem)} {a : List TOp} (h : Vw0 Q vs a) : fuse_Views_Min.f K1 Q ⟨fsts vs⟩ = some (atI (runR a).here 0) := by
  unfold fuse_Views_Min.f; rw [h.at]; rfl
theorem Vw0.size {Q : List TQueue} {vs : List (TPart × List TItem)} {a : List TOp} (h : Vw0 Q vs a) : (runR a).here.length < 999001 := by
  have hl := h.ok.itm_lt vs.length
  rw [List.take_of_length_le (Nat.le_refl _), h.is.length_eq] at hl; exact hl
theorem same_loop13 {Q : List TQueue} {vs : List (TPart × List TItem)} {a : List TOp} (h : Vw0 Q vs a) : ∀ (d i n : Nat), i + d = (runR a).here.length + 1 → d < n →
    Lw13_Same.l0 K1 Q ⟨fsts vs⟩ (runR a).here n (i : Int) = some (Sum.inr ())
  | d, i, 0, _, h => by omega
  | 0, i, n + 1, hi, _ => by
    simp only [Lw13_Same.l0]
    rw [decide_eq_false (by omega)]; rfl
  | d + 1, i, n + 1, hi, hn => by
    have hs := h.size
    simp only [Lw13_Same.l0]
    rw [decide_eq_true (by omega), cond_true, h.at, Option.bind_some, decide_eq_true (by omega), cond_true, Option.bind_some, w64_succ (by omega)]
    have ih := same_loop13 h d (i + 1) n (by omega) (by omega)
    unfold atI
    rw [if_neg (by omega), Int.toNat_natCast]
    by_cases hlt : i < (runR a).here.length
    · obtain ⟨x, hx, _⟩ := drop_cons (l := (runR a).here) (i := i) hlt
      have e : decide ((i : Int) < ((runR a).here.length : Int)) = true := decide_eq_true (by omega)
      simp only [hx, e, atL_nat hx, Option.bind_some, beq_self_eq_true, Bool.not_true, cond_false, cond_true, Bool.and_true, Bool.and_self]
      exact ih
    · have e : decide ((i : Int) < ((runR a).here.length : Int)) = false := decide_eq_false (by omega)
      have hn0 : (runR a).here[i]? = none := List.getElem?_eq_none (by omega)
      simp only [hn0, e, beq_self_eq_true, Bool.not_true, cond_false, Bool.not_false, cond_true]
      exact ih
theorem same_ok13 {Q : List TQueue} {vs : List (TPart × List TItem)} {a : List TOp} (h : Vw0 Q vs a) : Lw13_Same.f K1 Q ⟨fsts vs⟩ (runR a).here = some true := by
  have hs := h.size
  have hl : Lw13_Same.l0 K1 Q ⟨fsts vs⟩ (runR a).here K1 (-1) = some (Sum.inr ()) := by
    have key : ∀ n, 1000000 < n + 1 → Lw13_Same.l0 K1 Q ⟨fsts vs⟩ (runR a).here (n + 1) (-1) = some (Sum.inr ()) := by
      intro n hn
      simp only [Lw13_Same.l0]
      rw [decide_eq_true (by omega), cond_true, h.at, Option.bind_some]
      have e1 : decide ((-1 : Int) ≥ 0) = false := rfl
      have e2 : w64 (-1 + 1) = ((0 : Nat) : Int) := rfl
      rw [e1, e2]
      have e3 : atI (runR a).here (-1) = (zTItem, false) := rfl
      rw [e3]
      exact same_loop13 h ((runR a).here.length + 1) 0 n (by omega) (by omega)
    exact key 1000000 (by omega)
  unfold Lw13_Same.f
  rw [h.len, Option.bind_some, bne_self_eq_false, cond_false, vitems_ok h.ok, h.srt, Option.bind_some, refSame _ (by omega), Option.bind_some]
  simp only [Bool.not_true, cond_false, Option.bind_some, Sum.elim_inr, hl, h.min]
  unfold atI
  rw [if_neg (by omega)]
  cases hr : (runR a).here with
  | nil => rfl
  | cons x t =>
    have e : decide ((((x :: t).length : Nat) : Int) > 0) = true := decide_eq_true (by simp)
    have e0 : atL (x :: t) 0 = some x := rfl
    simp only [e, e0, Int.toNat_zero, List.getElem?_cons_zero, beq_self_eq_true, cond_true, Bool.not_true, cond_false, Option.bind_some, Bool.and_true]
theorem left_loop (qs : List (List TOp)) (hl : qs.length < 1000) (ht : qs.flatten.length < 100000) : ∀ (d i n : Nat), i + d = qs.length → d < n →
    R13_Left.l0 K1 qs n ((qs.take i).flatten, (i : Int)) = some qs.flatten
  | d, i, 0, _, h => by omega
  | 0, i, n + 1, hi, _ => by
    simp only [R13_Left.l0]
    rw [dec_nlt (by omega), cond_false, List.take_of_length_le (by omega)]
  | d + 1, i, n + 1, hi, hn => by
    obtain ⟨x, hx, _⟩ := drop_cons (l := qs) (i := i) (by omega)
    have e : (qs.take (i + 1)).flatten = (qs.take i).flatten ++ x := by rw [take_snoc hx, List.flatten_append]; simp
    have hle : (qs.take (i + 1)).flatten.length ≤ qs.flatten.length := by
      conv => rhs; rw [← List.take_append_drop (i + 1) qs, List.flatten_append, List.length_append]
      omega
    rw [e, List.length_append] at hle
    simp only [R13_Left.l0]
    rw [dec_lt (by omega), cond_true, atL_nat hx, Option.bind_some, decide_eq_true (by omega), cond_true, w64_succ (by omega), ← e]
    exact left_loop qs hl ht d (i + 1) n (by omega) (by omega)
theorem left_ok (qs : List (List TOp)) (hl : qs.length < 1000) (ht : qs.flatten.length < 100000) : R13_Left.f K1 qs = some (runR qs.flatten).here := by
  have := left_loop qs hl ht qs.length 0 K1 (by omega) (by unfold K1; omega)
  obtain ⟨g, hg, _⟩ := refRun qs.flatten ht
  unfold R13_Left.f
  replace this : R13_Left.l0 K1 qs K1 (([] : List TOp), 0) = _ := this
  rw [this, Option.bind_some, hg]; rfl
end Go.Proofs.YtpeoalmhccmdiaaGreat
namespace Go.Proofs.YtpeoalmhccmdiaaGreat
open Go Go.Proofs.YtpeoalmhccmdiaaGreat.Sx
theorem wf_u8 {n : Int} (h : (Lit.int .u8 n).wf = true) : 0 ≤ n ∧ n < 256 := by
  unfold Lit.wf at h
  obtain ⟨h1, h2⟩ := (Bool.and_eq_true _ _).mp h
  have h3 := of_decide_eq_true h1
  have h4 := of_decide_eq_true h2
  have e1 : IntKind.u8.min = 0 := by decide
  have e2 : IntKind.u8.max = 255 := by decide
  omega
theorem OpsOkL.part {os : List TOp} (h : OpsOkL os) (a n : Nat) : OpsOkL ((os.drop a).take n) := by
  have g : ∀ (i : Nat) (x : TOp), ((os.drop a).take n)[i]? = some x → os[a + i]? = some x := fun i x hx => by
    rw [List.getElem?_take] at hx
    split at hx
    · rwa [List.getElem?_drop] at hx
    · cases hx
  refine ⟨fun i j x y hx hy hij => h.time _ _ x y (g i x hx) (g j y hy) (by omega), fun i j x y hx hy hij => h.item _ _ x y (g i x hx) (g j y hy) (by omega), fun o ho => h.del o (List.mem_of_mem_drop (List.mem_of_mem_take ho))⟩
theorem OpsOkL.fresh {os : List TOp} (h : OpsOkL os) (a b n : Nat) (hab : a ≤ b) : Fresh (os.take a) ((os.drop b).take n) := by
  intro x hx h1 o ho h2
  obtain ⟨i, hi⟩ := List.getElem?_of_mem hx
  obtain ⟨j, hj⟩ := List.getElem?_of_mem ho
  rw [List.getElem?_take] at hi hj
  split at hi
  · split at hj
    · rw [List.getElem?_drop] at hj
      exact h.item _ _ x o hi hj (by omega) h1 h2
    · cases hj
  · cases hi
theorem parts_eq (L : List TOp) (i k : Nat) (h1 : i ≤ k) (h2 : k ≤ L.length) : (L.drop 0).take (i - 0) = L.take i ∧ L.take i ++ (L.drop i).take (k - i) = L.take k ∧ L.take k ++ (L.drop k).take (L.length - k) = L := by
  refine ⟨by simp, ?_, ?_⟩
  · have : k = i + (k - i) := by omega
    conv => rhs; rw [this, List.take_add]
  · rw [List.take_of_length_le (l := L.drop k) (by rw [List.length_drop]; omega), List.take_append_drop]
theorem part_q {L : List TOp} (hL : OpsOkL L) (hl : L.length < 100) (a n : Nat) : ∃ q m E, Lw13_Queue.f K1 ((L.drop a).take n) = some q ∧ QOk q m E (((L.drop a).take n).length) (2 * ((L.drop a).take n).length) ∧ m.map (·.op) = (L.drop a).take n :=
  queue_ok _ (hL.part a n) (by rw [List.length_take, List.length_drop]; omega)
theorem parts_loop {L : List TOp} (hL : OpsOkL L) (hl : L.length < 100) (i k : Nat) (h1 : i ≤ k) (h2 : k ≤ L.length) (l : List Int) (a b : Int) (hm : gmin ((w64 a).tmod (w64 ((l.length : Int) + 1))) ((w64 b).tmod (w64 ((l.length : Int) + 1))) = (i : Int)) (hM : gmax ((w64 a).tmod (w64 ((l.length : Int) + 1))) ((w64 b).tmod (w64 ((l.length : Int) + 1))) = (k : Int)) : ∃ Q vs, Lw13_FuseParts.l0 K1 l a b L K1 ([], 0, []) = some (Sum.inr (fsts vs, Q)) ∧ Vw0 Q vs L ∧ vs.length ≤ 6 := by
  obtain ⟨p1, p2, p3⟩ := parts_eq L i k h1 h2
  obtain ⟨q0, m0, E0, a1, a2, a3⟩ := part_q hL hl 0 (i - 0)
  obtain ⟨q1, m1, E1, b1, b2, b3⟩ := part_q hL hl i (k - i)
  obtain ⟨q2, m2, E2, c1, c2, c3⟩ := part_q hL hl k (L.length - k)
  obtain ⟨v0, r0, w0, n0⟩ := ((Vw0.none []).grow q0).step (new_at [] q0) a2 a3 (fun x hx => by cases hx) (by decide)
  have e0 : [] ++ (L.drop 0).take (i - 0) = L.take i := by rw [p1]; rfl
  rw [e0] at w0
  have n0' : v0.length ≤ 2 := n0
  obtain ⟨v1, r1, w1, n1⟩ := (w0.grow q1).step (new_at ([] ++ [q0]) q1) b2 b3 (hL.fresh i i (k - i) (Nat.le_refl _)) (by omega)
  rw [p2] at w1
  obtain ⟨v2, r2, w2, n2⟩ := (w1.grow q2).step (new_at ([] ++ [q0] ++ [q1]) q2) c2 c3 (hL.fresh k k _ (Nat.le_refl _)) (by omega)
  rw [p3] at w2
  refine ⟨_, v2, ?_, w2, by omega⟩
  have s0 := (Vw0.none []).ok.parts
  have s1 := w0.ok.parts
  have s2 := w1.ok.parts
  replace r0 : fuse_Views_Then.f K1 ([] ++ [q0]) ⟨[]⟩ ⟨([] : List TQueue).length, 1⟩ = _ := r0
  replace s0 : partsIn ([] : List TQueue).length [] = true := s0
  have u1 : w64 (0 + 1) = 1 := rfl
  have u2 : w64 (1 + 1) = 2 := rfl
  have u3 : w64 (2 + 1) = 3 := rfl
  have g0 : ∀ (x y z : List TOp), atL [x, y, z] 0 = some x := fun _ _ _ => rfl
  have g1 : ∀ (x y z : List TOp), atL [x, y, z] 1 = some y := fun _ _ _ => rfl
  have g2 : ∀ (x y z : List TOp), atL [x, y, z] 2 = some z := fun _ _ _ => rfl
  have d0 : decide ((0 : Int) < 3) = true := rfl
  have d1 : decide ((1 : Int) < 3) = true := rfl
  have d2 : decide ((2 : Int) < 3) = true := rfl
  have d3 : decide ((3 : Int) < 3) = false := rfl
  have key : ∀ n, Lw13_FuseParts.l0 K1 l a b L (n + 4) ([], 0, []) = some (Sum.inr (fsts v2, [] ++ [q0] ++ [q1] ++ [q2])) := by
    intro n
    rw [Lw13_FuseParts.l0]
    simp only [d0, cond_true, hm, hM, Int.toNat_natCast, g0, Option.bind_some, a1, s0, decide_true, r0, u1]
    rw [Lw13_FuseParts.l0]
    simp only [d1, cond_true, hm, hM, Int.toNat_natCast, g1, Option.bind_some, b1, s1, decide_true, r1, u2]
    rw [Lw13_FuseParts.l0]
    simp only [d2, cond_true, hm, hM, Int.toNat_natCast, g2, Option.bind_some, c1, s2, decide_true, r2, u3]
    rw [Lw13_FuseParts.l0]
    simp only [d3, cond_false]
  exact key 999997
theorem FuseParts_pure (l : List Int) (a b : Int) (ha : 0 ≤ a) (ha' : a < 256) (hb : 0 ≤ b) (hb' : b < 256) : Lw13_FuseParts.f K1 l a b = some true := by
  unfold Lw13_FuseParts.f
  simp only [awake13, Option.bind_some, Bool.not_true, cond_false]
  by_cases h40 : (l.length : Int) > 40
  · rw [decide_eq_true h40]; rfl
  · rw [decide_eq_false h40, cond_false]
    have hl : l.length ≤ 40 := by omega
    have e1 : w64 ((l.length : Int) + 1) = ((l.length + 1 : Nat) : Int) := by rw [w64_succ (by omega)]
    have m1 : a.tmod ((l.length + 1 : Nat) : Int) = ((a.toNat % (l.length + 1) : Nat) : Int) := by
      rw [Int.tmod_eq_emod_of_nonneg ha, Int.natCast_emod, Int.toNat_of_nonneg ha]
    have m2 : b.tmod ((l.length + 1 : Nat) : Int) = ((b.toNat % (l.length + 1) : Nat) : Int) := by
      rw [Int.tmod_eq_emod_of_nonneg hb, Int.natCast_emod, Int.toNat_of_nonneg hb]
    have x1 := Nat.mod_lt a.toNat (Nat.succ_pos l.length)
    have x2 := Nat.mod_lt b.toNat (Nat.succ_pos l.length)
    obtain ⟨i, k, g1, g2, hik, hk⟩ : ∃ i k : Nat, gmin ((a.toNat % (l.length + 1) : Nat) : Int) ((b.toNat % (l.length + 1) : Nat) : Int) = (i : Int) ∧ gmax ((a.toNat % (l.length + 1) : Nat) : Int) ((b.toNat % (l.length + 1) : Nat) : Int) = (k : Int) ∧ i ≤ k ∧ k ≤ l.length := by
      generalize a.toNat % (l.length + 1) = x at *
      generalize b.toNat % (l.length + 1) = y at *
      refine ⟨min x y, max x y, ?_, ?_, by omega, by omega⟩
      · unfold gmin; split <;> omega
      · unfold gmax; split <;> omega
    have hm : gmin ((w64 a).tmod (w64 ((l.length : Int) + 1))) ((w64 b).tmod (w64 ((l.length : Int) + 1))) = (i : Int) := by rw [e1, w64_id (x := a) (by omega) (by omega), w64_id (x := b) (by omega) (by omega), m1, m2]; exact g1
    have hM : gmax ((w64 a).tmod (w64 ((l.length : Int) + 1))) ((w64 b).tmod (w64 ((l.length : Int) + 1))) = (k : Int) := by rw [e1, w64_id (x := a) (by omega) (by omega), w64_id (x := b) (by omega) (by omega), m1, m2]; exact g2
    have hq : R13_Queue.f K1 l 0 = some (kops l 0) := refQueue_eq l 0 (by omega)
    have hL : OpsOkL (kops l 0) := keyOps_ok l 0 (by decide) (by decide) (by omega)
    have hlen := kops_len l 0
    rw [← hlen] at hk
    obtain ⟨Q, vs, r1, r2, r3⟩ := parts_loop hL (by omega) i k hik hk l a b hm hM
    obtain ⟨q, m, E, c1, c2, c3⟩ := queue_ok (kops l 0) hL (by omega)
    obtain ⟨vs', s1, s2, s3⟩ := ((Vw0.none Q).grow q).step (new_at Q q) c2 c3 (fun x hx => by cases hx) (by decide)
    replace s1 : fuse_Views_Then.f K1 (Q ++ [q]) ⟨[]⟩ ⟨Q.length, 1⟩ = _ := s1
    replace s2 : Vw0 (Q ++ [q]) vs' (kops l 0) := s2
    have hleft := left_ok [kops l 0] (by simp) (by simp; omega)
    have ef : [kops l 0].flatten = kops l 0 := by simp
    rw [ef] at hleft
    have hp0 : partsIn Q.length ([] : List TPart) = true := rfl
    replace r1 : Lw13_FuseParts.l0 K1 l a b (kops l 0) K1 (([] : List TPart), 0, ([] : List TQueue)) = _ := r1
    have hne : decide (w64 ((l.length : Int) + 1) ≠ 0) = true := decide_eq_true (by rw [e1]; omega)
    rw [hne, cond_true, cond_true, hq, Option.bind_some]
    simp only [fuse_None.f, Option.bind_some, hm, hM]
    rw [decide_eq_true (by omega), cond_true, decide_eq_true (by omega), cond_true, decide_eq_true (by omega), cond_true, r1]
    simp only [Option.bind_some, Sum.elim_inr, hleft, same_ok13 r2, cond_true, c1, hp0, decide_true, s1, same_ok13 s2, r2.ok.parts]
end Go.Proofs.YtpeoalmhccmdiaaGreat

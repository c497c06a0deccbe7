/- Trees in a pool: putting in and dropping. -/
import Derived.Test.YthcehagablploaaTh
namespace Go.Proofs.Ythcehagablploaa
open Go Go.Proofs.Ythcehagablploaa.Sx
set_option linter.unusedVariables false
set_option linter.unusedSimpArgs false

/-- Where an element's place cuts a list. -/
structure Cut {E : Type} (lt : E → E → Prop) (e : E) (l a m b : List E) : Prop where
  eq : l = a ++ (m ++ b)
  la : ∀ x ∈ a, lt x e
  lb : ∀ x ∈ b, lt e x
  lm : m = [] ∨ ∃ y, m = [y] ∧ ¬ lt e y ∧ ¬ lt y e
abbrev InOrd {E : Type} (lt : E → E → Prop) (l : List E) : Prop := l.Pairwise lt
section
variable {E A : Type} {O : Ops E A} {k N : Nat} {G : E → Prop} {S : A → List E → Prop} {lt : E → E → Prop}
theorem Cut.nil (e : E) : Cut lt e [] [] [] [] := ⟨rfl, by simp, by simp, .inl rfl⟩
theorem Cut.left (ok : OpsOk O k N G S lt) {e n : E} {l a m b u : List E} (h : Cut lt e l a m b) (hs : InOrd lt (l ++ n :: u)) (hl : lt e n) : Cut lt e (l ++ n :: u) a m (b ++ n :: u) := by
  refine ⟨by rw [h.eq]; simp, h.la, fun x hx => ?_, h.lm⟩
  rcases List.mem_append.1 hx with hx | hx
  · exact h.lb x hx
  · rcases List.mem_cons.1 hx with rfl | hx
    · exact hl
    · exact ok.trans hl ((List.pairwise_cons.1 (List.pairwise_append.1 hs).2.1).1 x hx)
theorem Cut.right (ok : OpsOk O k N G S lt) {e n : E} {l a m b u : List E} (h : Cut lt e u a m b) (hs : InOrd lt (l ++ n :: u)) (hl : lt n e) : Cut lt e (l ++ n :: u) (l ++ n :: a) m b := by
  refine ⟨by rw [h.eq]; simp, fun x hx => ?_, h.lb, h.lm⟩
  rcases List.mem_append.1 hx with hx | hx
  · exact ok.trans ((List.pairwise_append.1 hs).2.2 x hx n List.mem_cons_self) hl
  · rcases List.mem_cons.1 hx with rfl | hx
    · exact hl
    · exact h.la x hx
theorem Cut.mid (ok : OpsOk O k N G S lt) {e n : E} {l u : List E} (hs : InOrd lt (l ++ n :: u)) (h1 : ¬ lt e n) (h2 : ¬ lt n e) : Cut lt e (l ++ n :: u) l [n] u := by
  refine ⟨by simp, fun x hx => ?_, fun x hx => ?_, .inr ⟨n, rfl, h1, h2⟩⟩
  · exact ok.right h2 h1 ((List.pairwise_append.1 hs).2.2 x hx n List.mem_cons_self)
  · exact ok.left h2 h1 ((List.pairwise_cons.1 (List.pairwise_append.1 hs).2.1).1 x hx)
theorem sorted_l {l u : List E} {n : E} (hs : InOrd lt (l ++ n :: u)) : InOrd lt l := (List.pairwise_append.1 hs).1
theorem sorted_u {l u : List E} {n : E} (hs : InOrd lt (l ++ n :: u)) : InOrd lt u := (List.pairwise_cons.1 (List.pairwise_append.1 hs).2.1).2
theorem Cut.put (ok : OpsOk O k N G S lt) {e : E} {l a m b : List E} (h : Cut lt e l a m b) (hs : InOrd lt l) : InOrd lt (a ++ e :: b) := by
  rw [h.eq] at hs
  obtain ⟨h1, h2, h3⟩ := List.pairwise_append.1 hs
  refine List.pairwise_append.2 ⟨h1, List.pairwise_cons.2 ⟨h.lb, (List.pairwise_append.1 h2).2.1⟩, fun x hx y hy => ?_⟩
  rcases List.mem_cons.1 hy with rfl | hy
  · exact h.la x hx
  · exact h3 x hx y (List.mem_append_right _ hy)
theorem Cut.drop {e : E} {l a m b : List E} (h : Cut lt e l a m b) (hs : InOrd lt l) : InOrd lt (a ++ b) := by
  rw [h.eq] at hs
  exact hs.sublist (List.Sublist.append_left (List.sublist_append_right _ _) _)
/-- What putting in leaves. -/
structure PutL (S : A → List E → Prop) (p p' : PN E A) (L : List TRef) (B : Nat) (t t' : Tr E) (r' : TRef) (F : List TRef) : Prop where
  pw : PW p' (F ++ L) (B + 1)
  rep : Rep S p' r' t'
  refs : t'.refs.Perm (F ++ t.refs)
  frame : ∀ x, x ∉ F → x ∉ t.refs → look p' x = look p x
  cap : p'.cap = p.cap
theorem put_ok (ok : OpsOk O k N G S lt) (hk : N ≤ k) {p : PN E A} {L : List TRef} {B : Nat} (hP : PW p L B) (hB : B + 1 < 4294967295) (e : E) (hGe : G e) : ∀ (n : Nat) {r : TRef} {t : Tr E}, t.size < n → Rep S p r t → t.refs.Nodup → InOrd lt t.toList → (∀ x ∈ t.toList, G x) → t.size + 1 < N →
    ∃ a m b, Cut lt e t.toList a m b ∧
      ((m = [] ∧ (L.length : Int) = p.cap ∧ ∃ rr, Tree_put.r O k n p r e = some (rr, false, p)) ∨
       (∃ r' p' t' F, (m = [] → (L.length : Int) ≠ p.cap) ∧ F.length + m.length = 1 ∧ Tree_put.r O k n p r e = some (r', true, p') ∧ t'.toList = a ++ e :: b ∧ PutL S p p' L B t t' r' F))
  | 0, _, _, h, _, _, _, _, _ => by omega
  | n + 1, r, .nil, hn, hr, hnd, hs, hG, hN => by
    refine ⟨[], [], [], Cut.nil e, ?_⟩
    have e0 : (r.gen == 0) = true := by simpa using hr.nil_iff.2 rfl
    obtain ⟨s, s1, s2⟩ := ok.sum e hGe
    simp only [Tree_put.r, e0, cond_true, s1, Option.bind_some]
    by_cases hc : (L.length : Int) = p.cap
    · exact .inl ⟨trivial, hc, ⟨⟨0, 0⟩, by rw [hP.put_full hc]; rfl⟩⟩
    · right
      obtain ⟨r1, p1, q1, q2, q3, q4, q5, q6, q7⟩ := hP.put (z := zNode O) hc hB (TNode.mk e zTRef zTRef 1 s)
      refine ⟨r1, p1, .node r1 e .nil .nil, [r1], fun _ => hc, rfl, by rw [q1]; rfl, rfl, q4, ⟨rfl, q3, _, q5, rfl, rfl, by simpa [Tr.toList] using s2, rfl, rfl⟩, by simp [Tr.refs], fun x hx _ => q6 x (by simpa using hx), q7⟩
  | n + 1, r, .node r0 e0 l u, hn, hr, hnd, hs, hG, hN => by
    obtain ⟨n1, g1, g2⟩ := get_ok ok hP hr
    obtain ⟨rfl, he, hl, hu, hlk⟩ := g2.node rfl
    have hg : (r.gen == 0) = false := by
      have := hP.gen_ne (hP.mem hlk); simpa using this
    obtain ⟨c, c1, c2, c3⟩ := ok.cmp e n1.e
    have hsz : (Tr.node r e0 l u).size = l.size + 1 + u.size := rfl
    have hln : (Tr.node r e0 l u).toList = l.toList ++ e0 :: u.toList := rfl
    have hrL : r ∈ L := hP.mem hlk
    simp only [Tree_put.r, hg, cond_false, g1, Option.bind_some, c1]
    rw [he] at c2 c3
    rw [hln] at hs hG ⊢
    by_cases h1 : c < 0
    · have hlt := c2.1 h1
      simp only [h1, decide_true, cond_true]
      obtain ⟨a, m, b, hcut, hres⟩ := put_ok ok hk hP hB e hGe n (by omega) hl (nodup_left hnd) (sorted_l hs) (fun x hx => hG x (List.mem_append_left _ hx)) (by omega)
      refine ⟨a, m, b ++ e0 :: u.toList, hcut.left ok hs hlt, ?_⟩
      rcases hres with ⟨h2, h3, rr, h4⟩ | ⟨r', p', t', F, h2, h3, h4, h5, h6⟩
      · exact .inl ⟨h2, h3, r, by simp only [h4, Option.bind_some]; rfl⟩
      · right
        have hF : ∀ x ∈ F, x ∉ L := fun x hx hL => (List.nodup_append.1 h6.pw.ld).2.2 x hx x hL rfl
        have hrF : r ∉ F := fun h => hF r h hrL
        have hlk1 : look p' r = some n1 := by rw [h6.frame r hrF (nodup_l hnd)]; exact hlk
        have hu1 : Rep S p' n1.right u := hu.frame (fun x hx => h6.frame x (fun h => hF x h (hu.sub hP x hx)) (fun h => nodup_lu hnd h hx))
        have hperm : (t'.refs ++ r :: u.refs).Perm (F ++ (Tr.node r e0 l u).refs) := by
          have := h6.refs.append_right (r :: u.refs)
          simpa [Tr.refs] using this
        have hFn : (F ++ (Tr.node r e0 l u).refs).Nodup := List.nodup_append.2 ⟨(List.nodup_append.1 h6.pw.ld).1, hnd, fun x hx y hy hxy => hF x hx (hxy ▸ hr.sub hP y hy)⟩
        have hts : t'.size ≤ l.size + 1 := by
          have := congrArg List.length h5
          have h7 := congrArg List.length hcut.eq
          simp only [Tr.len_toList, List.length_append, List.length_cons] at this h7; omega
        obtain ⟨r2, p2, v1, v2⟩ := linkf_ok ok hk h6.pw h6.rep hlk1 hu1 (hperm.nodup_iff.2 hFn) (fun x hx => by
          rw [h5, he] at hx
          simp only [List.mem_append, List.mem_cons] at hx
          have h8 : ∀ y, y ∈ a ∨ y ∈ b → y ∈ l.toList := fun y hy => by rw [hcut.eq]; rcases hy with hy | hy <;> simp [hy]
          rcases hx with (hx | rfl | hx) | rfl | hx
          · exact hG x (List.mem_append_left _ (h8 x (.inl hx)))
          · exact hGe
          · exact hG x (List.mem_append_left _ (h8 x (.inr hx)))
          · exact hG x (by simp)
          · exact hG x (by simp [hx])) (by omega)
        refine ⟨r2, p2, Tr.link k t' r n1.e u, F, h2, h3, ?_, ?_, v2.pw, v2.rep, ?_, fun x hx1 hx2 => ?_, v2.cap.trans h6.cap⟩
        · simp only [h4, Option.bind_some, v1]; rfl
        · rw [Tr.link_list, h5, he]; simp
        · rw [Tr.link_refs]; exact hperm
        · have hx3 : x ∉ l.refs := fun h => hx2 (by simp [Tr.refs, h])
          rw [v2.frame x (fun h => by
            rcases List.mem_append.1 (hperm.mem_iff.1 h) with h | h
            · exact hx1 h
            · exact hx2 h), h6.frame x hx1 hx3]
    · simp only [h1, decide_false, cond_false]
      by_cases h1' : c > 0
      · have hlt := c3.1 h1'
        simp only [h1', decide_true, cond_true]
        obtain ⟨a, m, b, hcut, hres⟩ := put_ok ok hk hP hB e hGe n (by omega) hu (nodup_right hnd) (sorted_u hs) (fun x hx => hG x (by simp [hx])) (by omega)
        refine ⟨l.toList ++ e0 :: a, m, b, hcut.right ok hs hlt, ?_⟩
        rcases hres with ⟨h2, h3, rr, h4⟩ | ⟨r', p', t', F, h2, h3, h4, h5, h6⟩
        · exact .inl ⟨h2, h3, r, by simp only [h4, Option.bind_some]; rfl⟩
        · right
          have hF : ∀ x ∈ F, x ∉ L := fun x hx hL => (List.nodup_append.1 h6.pw.ld).2.2 x hx x hL rfl
          have hrF : r ∉ F := fun h => hF r h hrL
          have hlk1 : look p' r = some n1 := by rw [h6.frame r hrF (nodup_u hnd)]; exact hlk
          have hl1 : Rep S p' n1.left l := hl.frame (fun x hx => h6.frame x (fun h => hF x h (hl.sub hP x hx)) (fun h => nodup_lu hnd hx h))
          have hperm : (l.refs ++ r :: t'.refs).Perm (F ++ (Tr.node r e0 l u).refs) := by
            have h7 : (l.refs ++ r :: t'.refs).Perm (l.refs ++ r :: (F ++ u.refs)) := List.Perm.append_left _ (List.Perm.cons _ h6.refs)
            refine h7.trans ?_
            have : (F ++ (Tr.node r e0 l u).refs) = F ++ ((l.refs ++ [r]) ++ u.refs) := by simp [Tr.refs]
            rw [this, show l.refs ++ r :: (F ++ u.refs) = (l.refs ++ [r]) ++ (F ++ u.refs) by simp, ← List.append_assoc, ← List.append_assoc]
            exact List.Perm.append_right _ List.perm_append_comm
          have hFn : (F ++ (Tr.node r e0 l u).refs).Nodup := List.nodup_append.2 ⟨(List.nodup_append.1 h6.pw.ld).1, hnd, fun x hx y hy hxy => hF x hx (hxy ▸ hr.sub hP y hy)⟩
          have hts : t'.size ≤ u.size + 1 := by
            have := congrArg List.length h5
            have h7 := congrArg List.length hcut.eq
            simp only [Tr.len_toList, List.length_append, List.length_cons] at this h7; omega
          obtain ⟨r2, p2, v1, v2⟩ := linkf_ok ok hk h6.pw hl1 hlk1 h6.rep (hperm.nodup_iff.2 hFn) (fun x hx => by
            rw [h5, he] at hx
            simp only [List.mem_append, List.mem_cons] at hx
            have h8 : ∀ y, y ∈ a ∨ y ∈ b → y ∈ u.toList := fun y hy => by rw [hcut.eq]; rcases hy with hy | hy <;> simp [hy]
            rcases hx with hx | rfl | hx | rfl | hx
            · exact hG x (by simp [hx])
            · exact hG x (by simp)
            · exact hG x (by simp [h8 x (.inl hx)])
            · exact hGe
            · exact hG x (by simp [h8 x (.inr hx)])) (by omega)
          refine ⟨r2, p2, Tr.link k l r n1.e t', F, h2, h3, ?_, ?_, v2.pw, v2.rep, ?_, fun x hx1 hx2 => ?_, v2.cap.trans h6.cap⟩
          · simp only [h4, Option.bind_some, v1]; rfl
          · rw [Tr.link_list, h5, he]; simp
          · rw [Tr.link_refs]; exact hperm
          · have hx3 : x ∉ u.refs := fun h => hx2 (by simp [Tr.refs, h])
            rw [v2.frame x (fun h => by
              rcases List.mem_append.1 (hperm.mem_iff.1 h) with h | h
              · exact hx1 h
              · exact hx2 h), h6.frame x hx1 hx3]
      · simp only [h1', decide_false, cond_false]
        have n1' : ¬ lt e e0 := fun h => h1 (c2.2 h)
        have n2' : ¬ lt e0 e := fun h => h1' (c3.2 h)
        refine ⟨l.toList, [e0], u.toList, Cut.mid ok hs n1' n2', .inr ?_⟩
        obtain ⟨p1, q1, q2, q3, q4, q5⟩ := hP.set hlk (TNode.mk e n1.left n1.right n1.size n1.sum)
        have hl1 : Rep S p1 n1.left l := hl.frame (fun x hx => q4 x (fun h => nodup_l hnd (h ▸ hx)))
        have hu1 : Rep S p1 n1.right u := hu.frame (fun x hx => q4 x (fun h => nodup_u hnd (h ▸ hx)))
        obtain ⟨p2, v1, v2⟩ := lay_ok ok q2 q3 hl1 hu1 (nodup_l hnd) (nodup_u hnd) (fun x hx => by
          simp only [List.mem_append, List.mem_cons] at hx
          rcases hx with hx | rfl | hx
          · exact hG x (by simp [hx])
          · exact hGe
          · exact hG x (by simp [hx])) (by omega)
        refine ⟨r, p2, .node r e l u, [], by simp, rfl, ?_, rfl, v2.pw.mono (Nat.le_succ _) hB, v2.rep, by simp [Tr.refs], fun x hx1 hx2 => ?_, v2.cap.trans q5⟩
        · simp only [q1, Option.bind_some, v1]
        · have hxr : x ≠ r := fun h => hx2 (by simp [Tr.refs, h])
          rw [v2.frame x (by simpa using hxr), q4 x hxr]
end
end Go.Proofs.Ythcehagablploaa

/- Trees in a pool: dropping. -/
import Derived.Test.YtjokolmijhhinaaTi
import Derived.Test.YtjokolmijhhinaaTl
namespace Go.Proofs.Ytjokolmijhhinaa
open Go Go.Proofs.Ytjokolmijhhinaa.Sx
set_option linter.unusedVariables false
set_option linter.unusedSimpArgs false

section
variable {E A : Type} {O : Ops E A} {k N : Nat} {G : E → Prop} {S : A → List E → Prop} {lt : E → E → Prop}
/-- What dropping leaves. -/
structure DropL (S : A → List E → Prop) (p p' : PN E A) (L : List TRef) (B : Nat) (t t' : Tr E) (r' x0 : TRef) : Prop where
  pw : PW p' (L.erase x0) B
  rep : Rep S p' r' t'
  refs : (x0 :: t'.refs).Perm t.refs
  frame : ∀ x, x ∉ t.refs → look p' x = look p x
  cap : p'.cap = p.cap
theorem drop_ok (ok : OpsOk O k N G S lt) (hk : N ≤ k) {p : PN E A} {L : List TRef} {B : Nat} (hP : PW p L B) (e : E) : ∀ (n : Nat) {r : TRef} {t : Tr E}, t.size < n → Rep S p r t → t.refs.Nodup → InOrd lt t.toList → (∀ x ∈ t.toList, G x) → t.size < N →
    ∃ a m b, Cut lt e t.toList a m b ∧
      ((m = [] ∧ Tree_drop.r O k n p r e = some (r, O.zE, false, p)) ∨
       (∃ y r' p' t' x0, m = [y] ∧ Tree_drop.r O k n p r e = some (r', y, true, p') ∧ t'.toList = a ++ b ∧ DropL S p p' L B t t' r' x0))
  | 0, _, _, h, _, _, _, _, _ => by omega
  | n + 1, r, .nil, hn, hr, hnd, hs, hG, hN => by
    refine ⟨[], [], [], Cut.nil e, .inl ⟨rfl, ?_⟩⟩
    have e0 : (r.gen == 0) = true := by simpa using hr.nil_iff.2 rfl
    simp only [Tree_drop.r, e0, cond_true]
  | n + 1, r, .node r0 e0 l u, hn, hr, hnd, hs, hG, hN => by
    obtain ⟨n1, g1, g2⟩ := get_ok ok hP hr
    obtain ⟨rfl, he, hl, hu, hlk⟩ := g2.node rfl
    have hg : (r.gen == 0) = false := by
      have := hP.gen_ne (hP.mem hlk); simpa using this
    obtain ⟨c, c1, c2, c3⟩ := ok.cmp e n1.e
    have hsz : (Tr.node r e0 l u).size = l.size + 1 + u.size := rfl
    have hln : (Tr.node r e0 l u).toList = l.toList ++ e0 :: u.toList := rfl
    have hrL : r ∈ L := hP.mem hlk
    simp only [Tree_drop.r, hg, cond_false, g1, Option.bind_some, c1]
    rw [he] at c2 c3
    rw [hln] at hs hG ⊢
    by_cases h1 : c < 0
    · have hlt := c2.1 h1
      simp only [h1, decide_true, cond_true]
      obtain ⟨a, m, b, hcut, hres⟩ := drop_ok ok hk hP e n (by omega) hl (nodup_left hnd) (sorted_l hs) (fun x hx => hG x (List.mem_append_left _ hx)) (by omega)
      refine ⟨a, m, b ++ e0 :: u.toList, hcut.left ok hs hlt, ?_⟩
      rcases hres with ⟨h2, h4⟩ | ⟨y, r', p', t', x0, h2, h4, h5, h6⟩
      · exact .inl ⟨h2, by simp only [h4, Option.bind_some]; rfl⟩
      · right
        have hx0 : x0 ∈ l.refs := h6.refs.mem_iff.1 List.mem_cons_self
        have hlk1 : look p' r = some n1 := by rw [h6.frame r (nodup_l hnd)]; exact hlk
        have hu1 : Rep S p' n1.right u := hu.frame (fun x hx => h6.frame x (fun h => nodup_lu hnd h hx))
        have hperm : (x0 :: (t'.refs ++ r :: u.refs)).Perm (Tr.node r e0 l u).refs := by
          have := h6.refs.append_right (r :: u.refs)
          simpa [Tr.refs] using this
        have hnd2 : (x0 :: (t'.refs ++ r :: u.refs)).Nodup := hperm.nodup_iff.2 hnd
        have hts : t'.size ≤ l.size := by
          have := congrArg List.length h5
          have h7 := congrArg List.length hcut.eq
          simp only [Tr.len_toList, List.length_append, List.length_cons] at this h7; omega
        obtain ⟨r2, p2, v1, v2⟩ := linkf_ok ok hk h6.pw h6.rep hlk1 hu1 (List.nodup_cons.1 hnd2).2 (fun x hx => by
          rw [h5, he] at hx
          simp only [List.mem_append, List.mem_cons] at hx
          have h8 : ∀ y, y ∈ a ∨ y ∈ b → y ∈ l.toList := fun y hy => by rw [hcut.eq]; rcases hy with hy | hy <;> simp [hy]
          rcases hx with hx | rfl | hx
          · exact hG x (List.mem_append_left _ (h8 x hx))
          · exact hG x (by simp)
          · exact hG x (by simp [hx])) (by omega)
        refine ⟨y, r2, p2, Tr.link k t' r n1.e u, x0, h2, ?_, ?_, v2.pw, v2.rep, ?_, fun x hx2 => ?_, v2.cap.trans h6.cap⟩
        · simp only [h4, Option.bind_some, v1]; rfl
        · rw [Tr.link_list, h5, he]; simp
        · rw [Tr.link_refs]; exact hperm
        · have hx3 : x ∉ l.refs := fun h => hx2 (by simp [Tr.refs, h])
          rw [v2.frame x (fun h => hx2 (hperm.mem_iff.1 (List.mem_cons_of_mem _ h))), h6.frame x hx3]
    · simp only [h1, decide_false, cond_false]
      by_cases h1' : c > 0
      · have hlt := c3.1 h1'
        simp only [h1', decide_true, cond_true]
        obtain ⟨a, m, b, hcut, hres⟩ := drop_ok ok hk hP e n (by omega) hu (nodup_right hnd) (sorted_u hs) (fun x hx => hG x (by simp [hx])) (by omega)
        refine ⟨l.toList ++ e0 :: a, m, b, hcut.right ok hs hlt, ?_⟩
        rcases hres with ⟨h2, h4⟩ | ⟨y, r', p', t', x0, h2, h4, h5, h6⟩
        · exact .inl ⟨h2, by simp only [h4, Option.bind_some]; rfl⟩
        · right
          have hx0 : x0 ∈ u.refs := h6.refs.mem_iff.1 List.mem_cons_self
          have hlk1 : look p' r = some n1 := by rw [h6.frame r (nodup_u hnd)]; exact hlk
          have hl1 : Rep S p' n1.left l := hl.frame (fun x hx => h6.frame x (fun h => nodup_lu hnd hx h))
          have hperm : (x0 :: (l.refs ++ r :: t'.refs)).Perm (Tr.node r e0 l u).refs := by
            have h7 : (l.refs ++ r :: (x0 :: t'.refs)).Perm (l.refs ++ r :: u.refs) := List.Perm.append_left _ (List.Perm.cons _ h6.refs)
            refine List.Perm.trans ?_ h7
            rw [show l.refs ++ r :: x0 :: t'.refs = (l.refs ++ [r]) ++ x0 :: t'.refs by simp]
            refine List.Perm.trans ?_ List.perm_middle.symm
            simp
          have hnd2 : (x0 :: (l.refs ++ r :: t'.refs)).Nodup := hperm.nodup_iff.2 hnd
          have hts : t'.size ≤ u.size := by
            have := congrArg List.length h5
            have h7 := congrArg List.length hcut.eq
            simp only [Tr.len_toList, List.length_append, List.length_cons] at this h7; omega
          obtain ⟨r2, p2, v1, v2⟩ := linkf_ok ok hk h6.pw hl1 hlk1 h6.rep (List.nodup_cons.1 hnd2).2 (fun x hx => by
            rw [h5, he] at hx
            simp only [List.mem_append, List.mem_cons] at hx
            have h8 : ∀ y, y ∈ a ∨ y ∈ b → y ∈ u.toList := fun y hy => by rw [hcut.eq]; rcases hy with hy | hy <;> simp [hy]
            rcases hx with hx | rfl | hx
            · exact hG x (by simp [hx])
            · exact hG x (by simp)
            · exact hG x (by simp [h8 x hx])) (by omega)
          refine ⟨y, r2, p2, Tr.link k l r n1.e t', x0, h2, ?_, ?_, v2.pw, v2.rep, ?_, fun x hx2 => ?_, v2.cap.trans h6.cap⟩
          · simp only [h4, Option.bind_some, v1]; rfl
          · rw [Tr.link_list, h5, he]; simp
          · rw [Tr.link_refs]; exact hperm
          · have hx3 : x ∉ u.refs := fun h => hx2 (by simp [Tr.refs, h])
            rw [v2.frame x (fun h => hx2 (hperm.mem_iff.1 (List.mem_cons_of_mem _ h))), h6.frame x hx3]
      · simp only [h1', decide_false, cond_false]
        have n1' : ¬ lt e e0 := fun h => h1 (c2.2 h)
        have n2' : ¬ lt e0 e := fun h => h1' (c3.2 h)
        refine ⟨l.toList, [e0], u.toList, Cut.mid ok hs n1' n2', .inr ?_⟩
        obtain ⟨p1, q1, q2, q3, q4⟩ := hP.drop (z := zNode O) hlk
        have hl1 : Rep S p1 n1.left l := hl.frame (fun x hx => q3 x (fun h => nodup_l hnd (h ▸ hx)))
        have hu1 : Rep S p1 n1.right u := hu.frame (fun x hx => q3 x (fun h => nodup_u hnd (h ▸ hx)))
        have hperm : (r :: (l.refs ++ u.refs)).Perm (Tr.node r e0 l u).refs := List.perm_middle.symm
        have hnd2 : (r :: (l.refs ++ u.refs)).Nodup := hperm.nodup_iff.2 hnd
        obtain ⟨r2, p2, v1, v2⟩ := merge_ok ok hk q2 hl1 hu1 (List.nodup_cons.1 hnd2).2 (fun x hx => hG x (by
          rcases List.mem_append.1 hx with hx | hx <;> simp [hx])) (by omega)
        obtain ⟨w1, w2⟩ := Tr.merge_spec k l u
        refine ⟨e0, r2, p2, Tr.merge k l u, r, rfl, ?_, w1, v2.pw, v2.rep, by rw [w2]; exact hperm, fun x hx => ?_, v2.cap.trans q4⟩
        · simp only [q1, Option.bind_some, v1, he]
        · have hxr : x ≠ r := fun h => hx (by simp [Tr.refs, h])
          rw [v2.frame x (fun h => hx (hperm.mem_iff.1 (List.mem_cons_of_mem _ h))), q3 x hxr]
end
end Go.Proofs.Ytjokolmijhhinaa

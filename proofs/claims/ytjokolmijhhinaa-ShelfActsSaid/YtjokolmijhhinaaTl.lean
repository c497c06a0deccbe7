/- Trees in a pool: a tree's last node, two trees made one. -/
import Derived.Test.YtjokolmijhhinaaTh
namespace Go.Proofs.Ytjokolmijhhinaa
open Go Go.Proofs.Ytjokolmijhhinaa.Sx
set_option linter.unusedVariables false
set_option linter.unusedSimpArgs false

section
variable {E A : Type} {O : Ops E A} {k N : Nat} {G : E → Prop} {S : A → List E → Prop} {lt : E → E → Prop}
theorem last_ok (ok : OpsOk O k N G S lt) (hk : N ≤ k) : ∀ (n : Nat) {p : PN E A} {L : List TRef} {B : Nat} (hP : PW p L B) {r : TRef} {t : Tr E}, t.size < n → t ≠ .nil → Rep S p r t → t.refs.Nodup → (∀ x ∈ t.toList, G x) → t.size < N →
    ∃ r' m e p' nm, Tree_last.r O k n p r = some (r', m, p') ∧ (Tr.last k t).2 = some (m, e) ∧ Left S p p' L B r' (Tr.last k t).1 t.refs ∧ look p' m = some nm ∧ nm.e = e
  | 0, _, _, _, _, _, _, h, _, _, _, _, _ => by omega
  | n + 1, p, L, B, hP, r, .nil, _, h, _, _, _, _ => absurd rfl h
  | n + 1, p, L, B, hP, r, .node r0 e l u, hn, _, hr, hnd, hG, hN => by
    obtain ⟨n1, q1, q2⟩ := get_ok ok hP hr
    obtain ⟨rfl, he, hl, hu, hlk⟩ := q2.node rfl
    simp only [Tr.size] at hn hN
    simp only [Tree_last.r, q1, Option.bind_some]
    cases u with
    | nil =>
      have e0 : (n1.right.gen == 0) = true := by simpa using hu.nil_iff.2 rfl
      rw [e0]
      exact ⟨n1.left, r, e, p, n1, rfl, rfl, ⟨hP, hl, fun x _ => rfl, rfl⟩, hlk, he⟩
    | node r2 e2 c d =>
      have e0 : (n1.right.gen == 0) = false := by
        have : n1.right.gen ≠ 0 := fun h => by have := hu.nil_iff.1 h; cases this
        simpa using this
      rw [e0]
      obtain ⟨r1, m, x, p1, nm, t1, t2, t3, t4, t5⟩ := last_ok ok hk n hP (by omega) (by simp) hu (nodup_right hnd) (fun x hx => hG x (by simp [Tr.toList] at hx ⊢; rcases hx with hx | hx | hx <;> simp [hx])) (by omega)
      obtain ⟨m', x', s1, s2, s3⟩ := Tr.last_spec k (.node r2 e2 c d) (by simp)
      have hmm : m' = m ∧ x' = x := by rw [s1] at t2; cases t2; exact ⟨rfl, rfl⟩
      obtain ⟨rfl, rfl⟩ := hmm
      have hnd' : (l.refs ++ r :: ((Tr.last k (.node r2 e2 c d)).1.refs ++ [m'])).Nodup := by rw [← s3]; exact hnd
      have hsub : ∀ y ∈ (Tr.last k (.node r2 e2 c d)).1.refs, y ∈ (Tr.node r2 e2 c d).refs := fun y hy => by rw [s3]; exact List.mem_append_left _ hy
      have hlk1 : look p1 r = some n1 := by rw [t3.frame r (nodup_u hnd)]; exact hlk
      have hl1 : Rep S p1 n1.left l := hl.frame (fun y hy => t3.frame y (fun h => nodup_lu hnd hy h))
      have hszl : (Tr.last k (.node r2 e2 c d)).1.size + 1 = (Tr.node r2 e2 c d).size := by
        have := congrArg List.length s2
        simp only [List.length_append, List.length_singleton, Tr.len_toList] at this; omega
      have hnd1 : (l.refs ++ r :: (Tr.last k (.node r2 e2 c d)).1.refs).Nodup := List.Nodup.sublist (List.Sublist.append_left (List.Sublist.cons_cons _ (List.sublist_append_left _ _)) _) hnd'
      have hGl : ∀ y ∈ l.toList ++ n1.e :: (Tr.last k (.node r2 e2 c d)).1.toList, G y := by
        intro y hy
        refine hG y ?_
        have e1 : (Tr.node r e l (.node r2 e2 c d)).toList = l.toList ++ e :: ((Tr.last k (.node r2 e2 c d)).1.toList ++ [x']) := by rw [← s2]; rfl
        rw [e1]
        rw [he] at hy
        simp only [List.mem_append, List.mem_cons] at hy ⊢
        rcases hy with hy | hy | hy
        · exact .inl hy
        · exact .inr (.inl hy)
        · exact .inr (.inr (.inl hy))
      obtain ⟨r', p2, v1, v2⟩ := linkf_ok ok hk t3.pw hl1 hlk1 t3.rep hnd1 hGl (by omega)
      refine ⟨r', m', x', p2, nm, ?_, ?_, ⟨v2.pw, ?_, fun y hy => ?_, v2.cap.trans t3.cap⟩, ?_, t5⟩
      · simp only [cond_false, t1, Option.bind_some, v1]
      · rw [Tr.last]; exact s1
      · rw [Tr.last]; rw [he] at v2; exact v2.rep
      · simp only [Tr.refs, List.mem_append, List.mem_cons, not_or] at hy
        rw [v2.frame y (by
          simp only [List.mem_append, List.mem_cons, not_or]
          exact ⟨hy.1, hy.2.1, fun h => by have := hsub y h; simp only [Tr.refs, List.mem_append, List.mem_cons] at this; rcases this with h | h | h <;> simp_all⟩), t3.frame y (by simp only [Tr.refs, List.mem_append, List.mem_cons, not_or]; exact hy.2.2)]
      · rw [v2.frame m' (by
          simp only [List.mem_append, List.mem_cons, not_or]
          have hm' : m' ∈ (Tr.node r2 e2 c d).refs := by rw [s3]; simp
          refine ⟨fun h => nodup_lu hnd h hm', fun e => nodup_u hnd (e ▸ hm'), fun h => ?_⟩
          have hu2 := nodup_right hnd'
          exact (List.nodup_append.1 hu2).2.2 m' h m' (by simp) rfl)]
        exact t4
theorem merge_ok (ok : OpsOk O k N G S lt) (hk : N ≤ k) {p : PN E A} {L : List TRef} {B : Nat} (hP : PW p L B) {a b : TRef} {l u : Tr E} (hl : Rep S p a l) (hu : Rep S p b u) (hnd : (l.refs ++ u.refs).Nodup) (hG : ∀ x ∈ l.toList ++ u.toList, G x) (hN : l.size + u.size < N) :
    ∃ r' p', Tree_merge.f O k p a b = some (r', p') ∧ Left S p p' L B r' (Tr.merge k l u) (l.refs ++ u.refs) := by
  unfold Tree_merge.f
  cases l with
  | nil =>
    have e0 : (a.gen == 0) = true := by simpa using hl.nil_iff.2 rfl
    rw [e0]
    exact ⟨b, p, rfl, hP, by simpa [Tr.merge] using hu, fun _ _ => rfl, rfl⟩
  | node r e c d =>
    have e0 : (a.gen == 0) = false := by
      have : a.gen ≠ 0 := fun h => by have := hl.nil_iff.1 h; cases this
      simpa using this
    rw [e0]
    cases u with
    | nil =>
      have e1 : (b.gen == 0) = true := by simpa using hu.nil_iff.2 rfl
      rw [e1]
      exact ⟨a, p, rfl, hP, by simpa [Tr.merge] using hl, fun _ _ => rfl, rfl⟩
    | node r2 e2 f g =>
      have e1 : (b.gen == 0) = false := by
        have : b.gen ≠ 0 := fun h => by have := hu.nil_iff.1 h; cases this
        simpa using this
      rw [e1]
      obtain ⟨d1, d2, d3⟩ := List.nodup_append.1 hnd
      obtain ⟨r1, m, x, p1, nm, t1, t2, t3, t4, t5⟩ := last_ok ok hk k hP (by omega) (by simp) hl d1 (fun x hx => hG x (List.mem_append_left _ hx)) (by omega)
      obtain ⟨m', x', s1, s2, s3⟩ := Tr.last_spec k (.node r e c d) (by simp)
      have hmm : m' = m ∧ x' = x := by rw [s1] at t2; cases t2; exact ⟨rfl, rfl⟩
      obtain ⟨rfl, rfl⟩ := hmm
      have hszl : (Tr.last k (.node r e c d)).1.size + 1 = (Tr.node r e c d).size := by
        have := congrArg List.length s2
        simp only [List.length_append, List.length_singleton, Tr.len_toList] at this; omega
      have hu1 : Rep S p1 b (.node r2 e2 f g) := hu.frame (fun y hy => t3.frame y (fun h => d3 y h y hy rfl))
      have hnd1 : ((Tr.last k (.node r e c d)).1.refs ++ m' :: (Tr.node r2 e2 f g).refs).Nodup := by
        have : (Tr.last k (.node r e c d)).1.refs ++ m' :: (Tr.node r2 e2 f g).refs = (Tr.node r e c d).refs ++ (Tr.node r2 e2 f g).refs := by rw [s3]; simp
        rw [this]; exact hnd
      have hG1 : ∀ y ∈ (Tr.last k (.node r e c d)).1.toList ++ nm.e :: (Tr.node r2 e2 f g).toList, G y := by
        intro y hy
        refine hG y ?_
        rw [s2, t5.symm]; simpa using hy
      obtain ⟨r', p2, v1, v2⟩ := linkf_ok ok hk t3.pw t3.rep t4 hu1 hnd1 hG1 (by omega)
      have t1' : Tree_last.f O k p a = some (r1, m', p1) := t1
      refine ⟨r', p2, ?_, ⟨v2.pw, ?_, fun y hy => ?_, v2.cap.trans t3.cap⟩⟩
      · simp only [cond_false, t1', Option.bind_some, v1]
      · have : Tr.merge k (.node r e c d) (.node r2 e2 f g) = Tr.link k (Tr.last k (.node r e c d)).1 m' x' (.node r2 e2 f g) := by
          unfold Tr.merge
          have : Tr.last k (.node r e c d) = ((Tr.last k (.node r e c d)).1, some (m', x')) := by rw [← s1]
          simp only
          rw [this]
        rw [this, ← t5]; exact v2.rep
      · rw [List.mem_append, not_or] at hy
        have hy1 := hy.1
        rw [s3, List.mem_append, not_or] at hy1
        rw [v2.frame y (by simp only [List.mem_append, List.mem_cons, not_or]; exact ⟨hy1.1, by simpa using hy1.2, hy.2⟩), t3.frame y hy.1]
end
end Go.Proofs.Ytjokolmijhhinaa

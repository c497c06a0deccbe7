/- My texts that the proof of PartialVisits rests on, part 6: a calculus of walks, the walks, and the plain law. -/
import Derived.KernelRfl
import Derived.Test.YtpeoalmhccmdiaaGreatPve
set_option linter.unusedVariables false
set_option linter.unusedSimpArgs false
namespace Go.Proofs.YtpeoalmhccmdiaaGreat
open Go Go.Proofs.YtpeoalmhccmdiaaGreat.Sx
section
variable {E A : Type} {O : Ops E A} {k N : Nat} {G : E → Prop} {S : A → List E → Prop} {lt : E → E → Prop}
theorem rank_v (ok : OpsOk O k N G S lt) {p : PN E A} {L : List TRef} {B : Nat} (hP : PW p L B) (e : E) : ∀ (n : Nat) {r : TRef} {t : Tr E} {s x : Int}, Rep S p r t → t.size < N → Tree_Rank.l0 O k p e n (s, r) = some x → ∀ {v : Int}, 0 ≤ v → v + 1000 * (t.size + 1 : Nat) < 4611686018427387904 →
    ∃ v', VTree_Rank.l0 O k e n (vz p v, s, r) = some (x, vz p v') ∧ v ≤ v' ∧ v' ≤ v + 2 * (t.ht : Nat)
  | 0, _, _, _, _, _, _, h, _, _, _ => by cases h
  | n + 1, r, .nil, s, x, hr, hN, h, v, h0, hb => by
    have e0 : (r.gen != 0) = false := by simpa using hr.nil_iff.2 rfl
    simp only [Tree_Rank.l0, e0, cond_false] at h
    simp only [VTree_Rank.l0, e0, cond_false]
    cases h
    exact ⟨v, rfl, by omega, by omega⟩
  | n + 1, r, .node r0 e0 l u, s, x, hr, hN, h, v, h0, hb => by
    obtain ⟨n1, g1, g2⟩ := get_ok ok hP hr
    obtain ⟨rfl, he, hl, hu, hlk⟩ := g2.node rfl
    have hg : (r.gen != 0) = true := by have := hP.ne0 hlk; rw [bne, this]; rfl
    have hsz : (Tr.node r e0 l u).size = l.size + 1 + u.size := rfl
    have hht : (Tr.node r e0 l u).ht = 1 + max l.ht u.ht := rfl
    obtain ⟨c, c1, c2, c3⟩ := ok.cmp e n1.e
    obtain ⟨v1, a1, b1, d1⟩ := get_v g1 h0 (by omega)
    simp only [Tree_Rank.l0, hg, cond_true, g1, Option.bind_some, c1] at h
    simp only [VTree_Rank.l0, hg, cond_true, a1, Option.bind_some, c1]
    by_cases h1 : c ≤ 0
    · simp only [h1, decide_true, cond_true] at h ⊢
      obtain ⟨v2, a2, b2, d2⟩ := rank_v ok hP e n hl (by omega) h (v := v1) (by omega) (by omega)
      exact ⟨v2, a2, by omega, by omega⟩
    · simp only [h1, decide_false, cond_false] at h ⊢
      obtain ⟨x4, g4, h⟩ := bnd h
      obtain ⟨v2, a2, b2, d2⟩ := weight_v g4 (v := v1) (by omega) (by omega)
      obtain ⟨v3, a3, b3, d3⟩ := rank_v ok hP e n hu (by omega) h (v := v2) (by omega) (by omega)
      exact ⟨v3, by simp only [a2, Option.bind_some, a3], by omega, by omega⟩
theorem find_v (ok : OpsOk O k N G S lt) {p : PN E A} {L : List TRef} {B : Nat} (hP : PW p L B) (e : E) : ∀ (n : Nat) {r : TRef} {t : Tr E} {x : Sum (E × Bool) Unit}, Rep S p r t → t.size < N → Tree_Find.l0 O k p e n r = some x → ∀ {v : Int}, 0 ≤ v → v + 1000 * (t.size + 1 : Nat) < 4611686018427387904 →
    ∃ v', VTree_Find.l0 O k e n (vz p v, r) = some (match x with | .inl q => .inl (q.1, q.2, vz p v') | .inr _ => .inr (vz p v')) ∧ v ≤ v' ∧ v' ≤ v + (t.ht : Nat)
  | 0, _, _, _, _, _, h, _, _, _ => by cases h
  | n + 1, r, .nil, x, hr, hN, h, v, h0, hb => by
    have e0 : (r.gen != 0) = false := by simpa using hr.nil_iff.2 rfl
    simp only [Tree_Find.l0, e0, cond_false] at h
    simp only [VTree_Find.l0, e0, cond_false]
    cases h
    exact ⟨v, rfl, by omega, by omega⟩
  | n + 1, r, .node r0 e0 l u, x, hr, hN, h, v, h0, hb => by
    obtain ⟨n1, g1, g2⟩ := get_ok ok hP hr
    obtain ⟨rfl, he, hl, hu, hlk⟩ := g2.node rfl
    have hg : (r.gen != 0) = true := by have := hP.ne0 hlk; rw [bne, this]; rfl
    have hsz : (Tr.node r e0 l u).size = l.size + 1 + u.size := rfl
    have hht : (Tr.node r e0 l u).ht = 1 + max l.ht u.ht := rfl
    obtain ⟨c, c1, c2, c3⟩ := ok.cmp e n1.e
    obtain ⟨v1, a1, b1, d1⟩ := get_v g1 h0 (by omega)
    simp only [Tree_Find.l0, hg, cond_true, g1, Option.bind_some, c1] at h
    simp only [VTree_Find.l0, hg, cond_true, a1, Option.bind_some, c1]
    cases hc : (c == 0) with
    | true =>
      rw [hc, cond_true] at h
      rw [cond_true]
      cases h
      exact ⟨v1, rfl, by omega, by omega⟩
    | false =>
      rw [hc, cond_false] at h
      rw [cond_false]
      by_cases h1 : c < 0
      · simp only [h1, decide_true, cond_true] at h ⊢
        obtain ⟨v2, a2, b2, d2⟩ := find_v ok hP e n hl (by omega) h (v := v1) (by omega) (by omega)
        exact ⟨v2, a2, by omega, by omega⟩
      · simp only [h1, decide_false, cond_false] at h ⊢
        obtain ⟨v2, a2, b2, d2⟩ := find_v ok hP e n hu (by omega) h (v := v1) (by omega) (by omega)
        exact ⟨v2, a2, by omega, by omega⟩
end
end Go.Proofs.YtpeoalmhccmdiaaGreat
namespace Go.Proofs.YtpeoalmhccmdiaaGreat
open Go Go.Proofs.YtpeoalmhccmdiaaGreat.Sx
section
variable {E A : Type} {O : Ops E A} {k N : Nat} {G : E → Prop} {S : A → List E → Prop} {lt : E → E → Prop}
theorem last_ok (ok : OpsOk O k N G S lt) (hk : N ≤ k) : ∀ (n : Nat) {p : PN E A} {L : List TRef} {B : Nat} (hP : PW p L B) {r : TRef} {t : Tr E}, t.size < n → t ≠ .nil → Rep S p r t → t.refs.Nodup → (∀ x ∈ t.toList, G x) → t.size < N →
    ∃ r' m e p' nm, Tree_last.r O k n p r = some (r', m, p') ∧ (Tr.last k t).2 = some (m, e) ∧ Left S p p' L B r' (Tr.last k t).1 t.refs ∧ look p' m = some nm ∧ nm.e = e
  | 0, _, _, _, _, _, _, h, _, _, _, _, _ => by omega
  | n + 1, p, L, B, hP, r, .nil, _, h, _, _, _, _ => absurd rfl h
  | n + 1, p, L, B, hP, r, .node r0 e l u, hn, _, hr, hnd, hG, hN => by
    obtain ⟨n1, q1, q2⟩ := get_ok ok hP hr
    obtain ⟨rfl, he, hl, hu, hlk⟩ := q2.node rfl
    simp only [Tr.size] at hn hN
    simp only [Tree_last.r, q1, Option.bind_some]
    cases u with
    | nil =>
      have e0 : (n1.right.gen == 0) = true := by simpa using hu.nil_iff.2 rfl
      rw [e0]
      exact ⟨n1.left, r, e, p, n1, rfl, rfl, ⟨hP, hl, fun x _ => rfl, rfl⟩, hlk, he⟩
    | node r2 e2 c d =>
      have e0 : (n1.right.gen == 0) = false := by
        have : n1.right.gen ≠ 0 := fun h => by have := hu.nil_iff.1 h; cases this
        simpa using this
      rw [e0]
      obtain ⟨r1, m, x, p1, nm, t1, t2, t3, t4, t5⟩ := last_ok ok hk n hP (by omega) (by simp) hu (nodup_right hnd) (fun x hx => hG x (by simp [Tr.toList] at hx ⊢; rcases hx with hx | hx | hx <;> simp [hx])) (by omega)
      obtain ⟨m', x', s1, s2, s3⟩ := Tr.last_spec k (.node r2 e2 c d) (by simp)
      have hmm : m' = m ∧ x' = x := by rw [s1] at t2; cases t2; exact ⟨rfl, rfl⟩
      obtain ⟨rfl, rfl⟩ := hmm
      have hnd' : (l.refs ++ r :: ((Tr.last k (.node r2 e2 c d)).1.refs ++ [m'])).Nodup := by rw [← s3]; exact hnd
      have hsub : ∀ y ∈ (Tr.last k (.node r2 e2 c d)).1.refs, y ∈ (Tr.node r2 e2 c d).refs := fun y hy => by rw [s3]; exact List.mem_append_left _ hy
      have hlk1 : look p1 r = some n1 := by rw [t3.frame r (nodup_u hnd)]; exact hlk
      have hl1 : Rep S p1 n1.left l := hl.frame (fun y hy => t3.frame y (fun h => nodup_lu hnd hy h))
      have hszl : (Tr.last k (.node r2 e2 c d)).1.size + 1 = (Tr.node r2 e2 c d).size := by
        have := congrArg List.length s2
        simp only [List.length_append, List.length_singleton, Tr.len_toList] at this; omega
      have hnd1 : (l.refs ++ r :: (Tr.last k (.node r2 e2 c d)).1.refs).Nodup := List.Nodup.sublist (List.Sublist.append_left (List.Sublist.cons_cons _ (List.sublist_append_left _ _)) _) hnd'
      have hGl : ∀ y ∈ l.toList ++ n1.e :: (Tr.last k (.node r2 e2 c d)).1.toList, G y := by
        intro y hy
        refine hG y ?_
        have e1 : (Tr.node r e l (.node r2 e2 c d)).toList = l.toList ++ e :: ((Tr.last k (.node r2 e2 c d)).1.toList ++ [x']) := by rw [← s2]; rfl
        rw [e1]
        rw [he] at hy
        simp only [List.mem_append, List.mem_cons] at hy ⊢
        rcases hy with hy | hy | hy
        · exact .inl hy
        · exact .inr (.inl hy)
        · exact .inr (.inr (.inl hy))
      obtain ⟨r', p2, v1, v2⟩ := linkf_ok ok hk t3.pw hl1 hlk1 t3.rep hnd1 hGl (by omega)
      refine ⟨r', m', x', p2, nm, ?_, ?_, ⟨v2.pw, ?_, fun y hy => ?_, v2.cap.trans t3.cap⟩, ?_, t5⟩
      · simp only [cond_false, t1, Option.bind_some, v1]
      · rw [Tr.last]; exact s1
      · rw [Tr.last]; rw [he] at v2; exact v2.rep
      · simp only [Tr.refs, List.mem_append, List.mem_cons, not_or] at hy
        rw [v2.frame y (by
          simp only [List.mem_append, List.mem_cons, not_or]
          exact ⟨hy.1, hy.2.1, fun h => by have := hsub y h; simp only [Tr.refs, List.mem_append, List.mem_cons] at this; rcases this with h | h | h <;> simp_all⟩), t3.frame y (by simp only [Tr.refs, List.mem_append, List.mem_cons, not_or]; exact hy.2.2)]
      · rw [v2.frame m' (by
          simp only [List.mem_append, List.mem_cons, not_or]
          have hm' : m' ∈ (Tr.node r2 e2 c d).refs := by rw [s3]; simp
          refine ⟨fun h => nodup_lu hnd h hm', fun e => nodup_u hnd (e ▸ hm'), fun h => ?_⟩
          have hu2 := nodup_right hnd'
          exact (List.nodup_append.1 hu2).2.2 m' h m' (by simp) rfl)]
        exact t4
theorem merge_ok (ok : OpsOk O k N G S lt) (hk : N ≤ k) {p : PN E A} {L : List TRef} {B : Nat} (hP : PW p L B) {a b : TRef} {l u : Tr E} (hl : Rep S p a l) (hu : Rep S p b u) (hnd : (l.refs ++ u.refs).Nodup) (hG : ∀ x ∈ l.toList ++ u.toList, G x) (hN : l.size + u.size < N) :
    ∃ r' p', Tree_merge.f O k p a b = some (r', p') ∧ Left S p p' L B r' (Tr.merge k l u) (l.refs ++ u.refs) := by
  unfold Tree_merge.f
  cases l with
  | nil =>
    have e0 : (a.gen == 0) = true := by simpa using hl.nil_iff.2 rfl
    rw [e0]
    exact ⟨b, p, rfl, hP, by simpa [Tr.merge] using hu, fun _ _ => rfl, rfl⟩
  | node r e c d =>
    have e0 : (a.gen == 0) = false := by
      have : a.gen ≠ 0 := fun h => by have := hl.nil_iff.1 h; cases this
      simpa using this
    rw [e0]
    cases u with
    | nil =>
      have e1 : (b.gen == 0) = true := by simpa using hu.nil_iff.2 rfl
      rw [e1]
      exact ⟨a, p, rfl, hP, by simpa [Tr.merge] using hl, fun _ _ => rfl, rfl⟩
    | node r2 e2 f g =>
      have e1 : (b.gen == 0) = false := by
        have : b.gen ≠ 0 := fun h => by have := hu.nil_iff.1 h; cases this
        simpa using this
      rw [e1]
      obtain ⟨d1, d2, d3⟩ := List.nodup_append.1 hnd
      obtain ⟨r1, m, x, p1, nm, t1, t2, t3, t4, t5⟩ := last_ok ok hk k hP (by omega) (by simp) hl d1 (fun x hx => hG x (List.mem_append_left _ hx)) (by omega)
      obtain ⟨m', x', s1, s2, s3⟩ := Tr.last_spec k (.node r e c d) (by simp)
      have hmm : m' = m ∧ x' = x := by rw [s1] at t2; cases t2; exact ⟨rfl, rfl⟩
      obtain ⟨rfl, rfl⟩ := hmm
      have hszl : (Tr.last k (.node r e c d)).1.size + 1 = (Tr.node r e c d).size := by
        have := congrArg List.length s2
        simp only [List.length_append, List.length_singleton, Tr.len_toList] at this; omega
      have hu1 : Rep S p1 b (.node r2 e2 f g) := hu.frame (fun y hy => t3.frame y (fun h => d3 y h y hy rfl))
      have hnd1 : ((Tr.last k (.node r e c d)).1.refs ++ m' :: (Tr.node r2 e2 f g).refs).Nodup := by
        have : (Tr.last k (.node r e c d)).1.refs ++ m' :: (Tr.node r2 e2 f g).refs = (Tr.node r e c d).refs ++ (Tr.node r2 e2 f g).refs := by rw [s3]; simp
        rw [this]; exact hnd
      have hG1 : ∀ y ∈ (Tr.last k (.node r e c d)).1.toList ++ nm.e :: (Tr.node r2 e2 f g).toList, G y := by
        intro y hy
        refine hG y ?_
        rw [s2, t5.symm]; simpa using hy
      obtain ⟨r', p2, v1, v2⟩ := linkf_ok ok hk t3.pw t3.rep t4 hu1 hnd1 hG1 (by omega)
      have t1' : Tree_last.f O k p a = some (r1, m', p1) := t1
      refine ⟨r', p2, ?_, ⟨v2.pw, ?_, fun y hy => ?_, v2.cap.trans t3.cap⟩⟩
      · simp only [cond_false, t1', Option.bind_some, v1]
      · have : Tr.merge k (.node r e c d) (.node r2 e2 f g) = Tr.link k (Tr.last k (.node r e c d)).1 m' x' (.node r2 e2 f g) := by
          unfold Tr.merge
          have : Tr.last k (.node r e c d) = ((Tr.last k (.node r e c d)).1, some (m', x')) := by rw [← s1]
          simp only
          rw [this]
        rw [this, ← t5]; exact v2.rep
      · rw [List.mem_append, not_or] at hy
        have hy1 := hy.1
        rw [s3, List.mem_append, not_or] at hy1
        rw [v2.frame y (by simp only [List.mem_append, List.mem_cons, not_or]; exact ⟨hy1.1, by simpa using hy1.2, hy.2⟩), t3.frame y hy.1]
end
end Go.Proofs.YtpeoalmhccmdiaaGreat
namespace Go.Proofs.YtpeoalmhccmdiaaGreat
open Go Go.Proofs.YtpeoalmhccmdiaaGreat.Sx
section
variable {E A : Type} {O : Ops E A} {k N : Nat} {G : E → Prop} {S : A → List E → Prop} {lt : E → E → Prop}
structure DropL (S : A → List E → Prop) (p p' : PN E A) (L : List TRef) (B : Nat) (t t' : Tr E) (r' x0 : TRef) : Prop where
  pw : PW p' (L.erase x0) B
  rep : Rep S p' r' t'
  refs : (x0 :: t'.refs).Perm t.refs
  frame : ∀ x, x ∉ t.refs → look p' x = look p x
  cap : p'.cap = p.cap
theorem drop_ok (ok : OpsOk O k N G S lt) (hk : N ≤ k) {p : PN E A} {L : List TRef} {B : Nat} (hP : PW p L B) (e : E) : ∀ (n : Nat) {r : TRef} {t : Tr E}, t.size < n → Rep S p r t → t.refs.Nodup → InOrd lt t.toList → (∀ x ∈ t.toList, G x) → t.size < N →
    ∃ a m b, Cut lt e t.toList a m b ∧
      ((m = [] ∧ Tree_drop.r O k n p r e = some (r, O.zE, false, p)) ∨
       (∃ y r' p' t' x0, m = [y] ∧ Tree_drop.r O k n p r e = some (r', y, true, p') ∧ t'.toList = a ++ b ∧ DropL S p p' L B t t' r' x0))
  | 0, _, _, h, _, _, _, _, _ => by omega
  | n + 1, r, .nil, hn, hr, hnd, hs, hG, hN => by
    refine ⟨[], [], [], Cut.nil e, .inl ⟨rfl, ?_⟩⟩
    have e0 : (r.gen == 0) = true := by simpa using hr.nil_iff.2 rfl
    simp only [Tree_drop.r, e0, cond_true]
  | n + 1, r, .node r0 e0 l u, hn, hr, hnd, hs, hG, hN => by
    obtain ⟨n1, g1, g2⟩ := get_ok ok hP hr
    obtain ⟨rfl, he, hl, hu, hlk⟩ := g2.node rfl
    have hg : (r.gen == 0) = false := by
      have := hP.gen_ne (hP.mem hlk); simpa using this
    obtain ⟨c, c1, c2, c3⟩ := ok.cmp e n1.e
    have hsz : (Tr.node r e0 l u).size = l.size + 1 + u.size := rfl
    have hln : (Tr.node r e0 l u).toList = l.toList ++ e0 :: u.toList := rfl
    have hrL : r ∈ L := hP.mem hlk
    simp only [Tree_drop.r, hg, cond_false, g1, Option.bind_some, c1]
    rw [he] at c2 c3
    rw [hln] at hs hG ⊢
    by_cases h1 : c < 0
    · have hlt := c2.1 h1
      simp only [h1, decide_true, cond_true]
      obtain ⟨a, m, b, hcut, hres⟩ := drop_ok ok hk hP e n (by omega) hl (nodup_left hnd) (sorted_l hs) (fun x hx => hG x (List.mem_append_left _ hx)) (by omega)
      refine ⟨a, m, b ++ e0 :: u.toList, hcut.left ok hs hlt, ?_⟩
      rcases hres with ⟨h2, h4⟩ | ⟨y, r', p', t', x0, h2, h4, h5, h6⟩
      · exact .inl ⟨h2, by simp only [h4, Option.bind_some]; rfl⟩
      · right
        have hx0 : x0 ∈ l.refs := h6.refs.mem_iff.1 List.mem_cons_self
        have hlk1 : look p' r = some n1 := by rw [h6.frame r (nodup_l hnd)]; exact hlk
        have hu1 : Rep S p' n1.right u := hu.frame (fun x hx => h6.frame x (fun h => nodup_lu hnd h hx))
        have hperm : (x0 :: (t'.refs ++ r :: u.refs)).Perm (Tr.node r e0 l u).refs := by
          have := h6.refs.append_right (r :: u.refs)
          simpa [Tr.refs] using this
        have hnd2 : (x0 :: (t'.refs ++ r :: u.refs)).Nodup := hperm.nodup_iff.2 hnd
        have hts : t'.size ≤ l.size := by
          have := congrArg List.length h5
          have h7 := congrArg List.length hcut.eq
          simp only [Tr.len_toList, List.length_append, List.length_cons] at this h7; omega
        obtain ⟨r2, p2, v1, v2⟩ := linkf_ok ok hk h6.pw h6.rep hlk1 hu1 (List.nodup_cons.1 hnd2).2 (fun x hx => by
          rw [h5, he] at hx
          simp only [List.mem_append, List.mem_cons] at hx
          have h8 : ∀ y, y ∈ a ∨ y ∈ b → y ∈ l.toList := fun y hy => by rw [hcut.eq]; rcases hy with hy | hy <;> simp [hy]
          rcases hx with hx | rfl | hx
          · exact hG x (List.mem_append_left _ (h8 x hx))
          · exact hG x (by simp)
          · exact hG x (by simp [hx])) (by omega)
        refine ⟨y, r2, p2, Tr.link k t' r n1.e u, x0, h2, ?_, ?_, v2.pw, v2.rep, ?_, fun x hx2 => ?_, v2.cap.trans h6.cap⟩
        · simp only [h4, Option.bind_some, v1]; rfl
        · rw [Tr.link_list, h5, he]; simp
        · rw [Tr.link_refs]; exact hperm
        · have hx3 : x ∉ l.refs := fun h => hx2 (by simp [Tr.refs, h])
          rw [v2.frame x (fun h => hx2 (hperm.mem_iff.1 (List.mem_cons_of_mem _ h))), h6.frame x hx3]
    · simp only [h1, decide_false, cond_false]
      by_cases h1' : c > 0
      · have hlt := c3.1 h1'
        simp only [h1', decide_true, cond_true]
        obtain ⟨a, m, b, hcut, hres⟩ := drop_ok ok hk hP e n (by omega) hu (nodup_right hnd) (sorted_u hs) (fun x hx => hG x (by simp [hx])) (by omega)
        refine ⟨l.toList ++ e0 :: a, m, b, hcut.right ok hs hlt, ?_⟩
        rcases hres with ⟨h2, h4⟩ | ⟨y, r', p', t', x0, h2, h4, h5, h6⟩
        · exact .inl ⟨h2, by simp only [h4, Option.bind_some]; rfl⟩
        · right
          have hx0 : x0 ∈ u.refs := h6.refs.mem_iff.1 List.mem_cons_self
          have hlk1 : look p' r = some n1 := by rw [h6.frame r (nodup_u hnd)]; exact hlk
          have hl1 : Rep S p' n1.left l := hl.frame (fun x hx => h6.frame x (fun h => nodup_lu hnd hx h))
          have hperm : (x0 :: (l.refs ++ r :: t'.refs)).Perm (Tr.node r e0 l u).refs := by
            have h7 : (l.refs ++ r :: (x0 :: t'.refs)).Perm (l.refs ++ r :: u.refs) := List.Perm.append_left _ (List.Perm.cons _ h6.refs)
            refine List.Perm.trans ?_ h7
            rw [show l.refs ++ r :: x0 :: t'.refs = (l.refs ++ [r]) ++ x0 :: t'.refs by simp]
            refine List.Perm.trans ?_ List.perm_middle.symm
            simp
          have hnd2 : (x0 :: (l.refs ++ r :: t'.refs)).Nodup := hperm.nodup_iff.2 hnd
          have hts : t'.size ≤ u.size := by
            have := congrArg List.length h5
            have h7 := congrArg List.length hcut.eq
            simp only [Tr.len_toList, List.length_append, List.length_cons] at this h7; omega
          obtain ⟨r2, p2, v1, v2⟩ := linkf_ok ok hk h6.pw hl1 hlk1 h6.rep (List.nodup_cons.1 hnd2).2 (fun x hx => by
            rw [h5, he] at hx
            simp only [List.mem_append, List.mem_cons] at hx
            have h8 : ∀ y, y ∈ a ∨ y ∈ b → y ∈ u.toList := fun y hy => by rw [hcut.eq]; rcases hy with hy | hy <;> simp [hy]
            rcases hx with hx | rfl | hx
            · exact hG x (by simp [hx])
            · exact hG x (by simp)
            · exact hG x (by simp [h8 x hx])) (by omega)
          refine ⟨y, r2, p2, Tr.link k l r n1.e t', x0, h2, ?_, ?_, v2.pw, v2.rep, ?_, fun x hx2 => ?_, v2.cap.trans h6.cap⟩
          · simp only [h4, Option.bind_some, v1]; rfl
          · rw [Tr.link_list, h5, he]; simp
          · rw [Tr.link_refs]; exact hperm
          · have hx3 : x ∉ u.refs := fun h => hx2 (by simp [Tr.refs, h])
            rw [v2.frame x (fun h => hx2 (hperm.mem_iff.1 (List.mem_cons_of_mem _ h))), h6.frame x hx3]
      · simp only [h1', decide_false, cond_false]
        have n1' : ¬ lt e e0 := fun h => h1 (c2.2 h)
        have n2' : ¬ lt e0 e := fun h => h1' (c3.2 h)
        refine ⟨l.toList, [e0], u.toList, Cut.mid ok hs n1' n2', .inr ?_⟩
        obtain ⟨p1, q1, q2, q3, q4⟩ := hP.drop (z := zNode O) hlk
        have hl1 : Rep S p1 n1.left l := hl.frame (fun x hx => q3 x (fun h => nodup_l hnd (h ▸ hx)))
        have hu1 : Rep S p1 n1.right u := hu.frame (fun x hx => q3 x (fun h => nodup_u hnd (h ▸ hx)))
        have hperm : (r :: (l.refs ++ u.refs)).Perm (Tr.node r e0 l u).refs := List.perm_middle.symm
        have hnd2 : (r :: (l.refs ++ u.refs)).Nodup := hperm.nodup_iff.2 hnd
        obtain ⟨r2, p2, v1, v2⟩ := merge_ok ok hk q2 hl1 hu1 (List.nodup_cons.1 hnd2).2 (fun x hx => hG x (by
          rcases List.mem_append.1 hx with hx | hx <;> simp [hx])) (by omega)
        obtain ⟨w1, w2⟩ := Tr.merge_spec k l u
        refine ⟨e0, r2, p2, Tr.merge k l u, r, rfl, ?_, w1, v2.pw, v2.rep, by rw [w2]; exact hperm, fun x hx => ?_, v2.cap.trans q4⟩
        · simp only [q1, Option.bind_some, v1, he]
        · have hxr : x ≠ r := fun h => hx (by simp [Tr.refs, h])
          rw [v2.frame x (fun h => hx (hperm.mem_iff.1 (List.mem_cons_of_mem _ h))), q3 x hxr]
end
end Go.Proofs.YtpeoalmhccmdiaaGreat
namespace Go.Proofs.YtpeoalmhccmdiaaGreat
open Go Go.Proofs.YtpeoalmhccmdiaaGreat.Sx
namespace Tr
variable {E : Type}
theorem last_wb {k : Nat} (hk : 3 ≤ k) : ∀ (t : Tr E), t ≠ nil → WB t → WB (last k t).1 ∧ (last k t).1.size + 1 = t.size
  | nil, h, _ => absurd rfl h
  | node r e l nil, _, h => ⟨h.2.2.1, by show l.size + 1 = _; simp only [size]⟩
  | node r e l (node r2 e2 c d), _, h => by
    obtain ⟨h1, h2, h3, h4⟩ := h
    obtain ⟨i1, i2⟩ := last_wb hk (node r2 e2 c d) (by simp) h4
    have e1 : (last k (node r e l (node r2 e2 c d))).1 = link k l r e (last k (node r2 e2 c d)).1 := by rw [last]
    rw [e1]
    refine ⟨link_wbk hk h3 i1 ?_, ?_⟩
    · constructor <;> simp only [w] at * <;> omega
    · rw [link_size]
      have : (node r e l (node r2 e2 c d)).size = l.size + 1 + (node r2 e2 c d).size := rfl
      omega
theorem merge_wb {k : Nat} (hk : 3 ≤ k) {l u : Tr E} (hl : WB l) (hu : WB u) (h1 : l.w ≤ 3 * u.w) (h2 : u.w ≤ 3 * l.w) : WB (merge k l u) := by
  cases l with
  | nil => simpa [merge] using hu
  | node r e a b =>
    cases u with
    | nil => simpa [merge] using hl
    | node r2 e2 c d =>
      obtain ⟨m, x, s1, s2, s3⟩ := last_spec k (node r e a b) (by simp)
      obtain ⟨i1, i2⟩ := last_wb hk (node r e a b) (by simp) hl
      have : merge k (node r e a b) (node r2 e2 c d) = link k (last k (node r e a b)).1 m x (node r2 e2 c d) := by
        unfold merge
        have : last k (node r e a b) = ((last k (node r e a b)).1, some (m, x)) := by rw [← s1]
        simp only
        rw [this]
      rw [this]
      exact link_wbk hk i1 hu (by constructor <;> simp only [w] at * <;> omega)
theorem merge_size (k : Nat) (l u : Tr E) : (merge k l u).size = l.size + u.size := by
  rw [← len_toList, (merge_spec k l u).1, List.length_append, len_toList, len_toList]
end Tr
section
variable {E A : Type} {O : Ops E A} {k N : Nat} {G : E → Prop} {S : A → List E → Prop} {lt : E → E → Prop}
theorem last_v (ok : OpsOk O k N G S lt) (hk : N ≤ k) (h3 : 3 ≤ k) : ∀ (n : Nat) {p : PN E A} {L : List TRef} {B : Nat} (hP : PW p L B) {r : TRef} {t : Tr E}, t.size < n → t ≠ .nil → Rep S p r t → t.refs.Nodup → (∀ x ∈ t.toList, G x) → t.size < N → Tr.WB t →
    ∀ {r' m : TRef} {p' : PN E A}, Tree_last.r O k n p r = some (r', m, p') → ∀ {v : Int}, 0 ≤ v → v + 1000 * (t.ht + 1 : Nat) < 4611686018427387904 →
    ∃ v', VTree_last.r O k n (vz p v) r = some (r', m, vz p' v') ∧ v ≤ v' ∧ v' ≤ v + 82 * (t.ht : Nat)
  | 0, _, _, _, _, _, _, h, _, _, _, _, _, _, _, _, _, _, _, _, _ => by omega
  | n + 1, p, L, B, hP, r, .nil, _, h, _, _, _, _, _, _, _, _, _, _, _, _ => absurd rfl h
  | n + 1, p, L, B, hP, r, .node r0 e l u, hn, _, hr, hnd, hG, hN, hw, rz, mz, pz, h, v, h0, hb => by
    obtain ⟨n1, q1, q2⟩ := get_ok ok hP hr
    obtain ⟨rfl, he, hl, hu, hlk⟩ := q2.node rfl
    have hht : (Tr.node r e l u).ht = 1 + max l.ht u.ht := rfl
    obtain ⟨w1, w2, w3', w4⟩ := hw
    simp only [Tr.size] at hn hN
    obtain ⟨v1, a1, b1, d1⟩ := get_v q1 h0 (by omega)
    simp only [Tree_last.r, q1, Option.bind_some] at h
    simp only [VTree_last.r, a1, Option.bind_some]
    cases u with
    | nil =>
      have e0 : (n1.right.gen == 0) = true := by simpa using hu.nil_iff.2 rfl
      rw [e0] at h ⊢
      cases h
      exact ⟨v1, rfl, by omega, by omega⟩
    | node r2 e2 c d =>
      have e0 : (n1.right.gen == 0) = false := by
        have : n1.right.gen ≠ 0 := fun h => by have := hu.nil_iff.1 h; cases this
        simpa using this
      rw [e0, cond_false] at h
      rw [e0, cond_false]
      obtain ⟨x2, g2, h⟩ := bnd h
      obtain ⟨x3, g3, h⟩ := bnd h
      cases h
      have hGu : ∀ x ∈ (Tr.node r2 e2 c d).toList, G x := fun x hx => hG x (by simp [Tr.toList] at hx ⊢; rcases hx with hx | hx | hx <;> simp [hx])
      obtain ⟨v2, a2, b2, d2⟩ := last_v ok hk h3 n hP (by omega) (by simp) hu (nodup_right hnd) hGu (by omega) w4 (r' := x2.1) (m := x2.2.1) (p' := x2.2.2) g2 (v := v1) (by omega) (by omega)
      obtain ⟨r1, m, x, p1, nm, t1, t2, t3, t4, t5⟩ := last_ok ok hk n hP (by omega) (by simp) hu (nodup_right hnd) hGu (by omega)
      rw [t1] at g2
      cases g2
      have hl1 : Rep S p1 n1.left l := hl.frame (fun y hy => t3.frame y (fun h => nodup_lu hnd hy h))
      obtain ⟨i1, i2⟩ := Tr.last_wb h3 (.node r2 e2 c d) (by simp) w4
      have hnear : Tr.Near l (Tr.last k (.node r2 e2 c d)).1 := by constructor <;> simp only [Tr.w] at * <;> omega
      obtain ⟨v3, a3, b3, d3⟩ := linkf_v ok t3.pw hl1 t3.rep (by omega) w3' i1 hnear (r' := x3.1) (p' := x3.2) g3 (v := v2) (by omega) (by omega)
      exact ⟨v3, by simp only [a2, a3, Option.bind_some], by omega, by omega⟩
theorem merge_v (ok : OpsOk O k N G S lt) (hk : N ≤ k) (h3 : 3 ≤ k) {p : PN E A} {L : List TRef} {B : Nat} (hP : PW p L B) {a b : TRef} {l u : Tr E} (hl : Rep S p a l) (hu : Rep S p b u) (hnd : (l.refs ++ u.refs).Nodup) (hG : ∀ x ∈ l.toList ++ u.toList, G x) (hN : l.size + u.size < N) (wl : Tr.WB l) (wu : Tr.WB u) (h1 : l.w ≤ 3 * u.w) (h2 : u.w ≤ 3 * l.w)
    {r' : TRef} {p' : PN E A} (h : Tree_merge.f O k p a b = some (r', p')) {v : Int} (h0 : 0 ≤ v) (hb : v + 1000 * (l.ht + 1 : Nat) < 4611686018427387904) :
    ∃ v', VTree_merge.f O k (vz p v) a b = some (r', vz p' v') ∧ v ≤ v' ∧ v' ≤ v + 82 * (l.ht : Nat) + 80 := by
  unfold Tree_merge.f at h
  unfold VTree_merge.f
  cases l with
  | nil =>
    have e0 : (a.gen == 0) = true := by simpa using hl.nil_iff.2 rfl
    rw [e0] at h ⊢
    cases h
    exact ⟨v, rfl, by omega, by omega⟩
  | node r e c d =>
    have e0 : (a.gen == 0) = false := by
      have : a.gen ≠ 0 := fun h => by have := hl.nil_iff.1 h; cases this
      simpa using this
    rw [e0, cond_false] at h
    rw [e0, cond_false]
    cases u with
    | nil =>
      have e1 : (b.gen == 0) = true := by simpa using hu.nil_iff.2 rfl
      rw [e1] at h ⊢
      cases h
      exact ⟨v, rfl, by omega, by omega⟩
    | node r2 e2 f g =>
      have e1 : (b.gen == 0) = false := by
        have : b.gen ≠ 0 := fun h => by have := hu.nil_iff.1 h; cases this
        simpa using this
      rw [e1, cond_false] at h
      rw [e1, cond_false]
      obtain ⟨x2, g2, h⟩ := bnd h
      obtain ⟨x3, g3, h⟩ := bnd h
      cases h
      obtain ⟨d1, d2, d3⟩ := List.nodup_append.1 hnd
      obtain ⟨v2, a2, b2, c2⟩ := last_v ok hk h3 k hP (by omega) (by simp) hl d1 (fun x hx => hG x (List.mem_append_left _ hx)) (by omega) wl (r' := x2.1) (m := x2.2.1) (p' := x2.2.2) g2 (v := v) h0 (by omega)
      obtain ⟨r1, m, x, p1, nm, t1, t2, t3, t4, t5⟩ := last_ok ok hk k hP (by omega) (by simp) hl d1 (fun x hx => hG x (List.mem_append_left _ hx)) (by omega)
      have g2' : Tree_last.r O k k p a = some x2 := g2
      rw [t1] at g2'
      cases g2'
      have hu1 : Rep S p1 b (.node r2 e2 f g) := hu.frame (fun y hy => t3.frame y (fun h => d3 y h y hy rfl))
      obtain ⟨i1, i2⟩ := Tr.last_wb h3 (.node r e c d) (by simp) wl
      have hnear : Tr.Near (Tr.last k (.node r e c d)).1 (.node r2 e2 f g) := by constructor <;> simp only [Tr.w] at * <;> omega
      obtain ⟨v3, a3, b3, c3⟩ := linkf_v ok t3.pw t3.rep hu1 (by omega) i1 wu hnear (r' := x3.1) (p' := x3.2) g3 (v := v2) (by omega) (by omega)
      have a2' : VTree_last.f O k (vz p v) a = _ := a2
      exact ⟨v3, by simp only [a2', a3, Option.bind_some], by omega, by omega⟩
theorem drop_v (ok : OpsOk O k N G S lt) (hk : N ≤ k) (h3 : 3 ≤ k) {p : PN E A} {L : List TRef} {B : Nat} (hP : PW p L B) (e : E) : ∀ (n : Nat) {r : TRef} {t : Tr E}, t.size < n → Rep S p r t → t.refs.Nodup → InOrd lt t.toList → (∀ x ∈ t.toList, G x) → t.size < N → Tr.WB t →
    ∀ {r' : TRef} {y : E} {f : Bool} {p' : PN E A}, Tree_drop.r O k n p r e = some (r', y, f, p') → ∀ {v : Int}, 0 ≤ v → v + 1000 * (t.ht + 1 : Nat) < 4611686018427387904 →
    (f = true → ∃ t', Rep S p' r' t' ∧ Tr.WB t' ∧ t'.w + 1 = t.w) ∧ ∃ v', VTree_drop.r O k n (vz p v) r e = some (r', y, f, vz p' v') ∧ v ≤ v' ∧ v' ≤ v + 82 * (t.ht : Nat) + 82
  | 0, _, _, h, _, _, _, _, _, _, _, _, _, _, _, _, _, _ => by omega
  | n + 1, r, .nil, hn, hr, hnd, hs, hG, hN, hw, r', y, f, p', h, v, h0, hb => by
    have e0 : (r.gen == 0) = true := by simpa using hr.nil_iff.2 rfl
    simp only [Tree_drop.r, e0, cond_true] at h
    simp only [VTree_drop.r, e0, cond_true]
    cases h
    exact ⟨fun h => (by cases h), v, rfl, by omega, by omega⟩
  | n + 1, r, .node r0 e0 l u, hn, hr, hnd, hs, hG, hN, hw, rz, yz, f, pz, h, v, h0, hb => by
    obtain ⟨n1, g1, g2⟩ := get_ok ok hP hr
    obtain ⟨rfl, he, hl, hu, hlk⟩ := g2.node rfl
    have hg : (r.gen == 0) = false := by
      have := hP.gen_ne (hP.mem hlk); simpa using this
    obtain ⟨c, c1, c2, c3⟩ := ok.cmp e n1.e
    have hsz : (Tr.node r e0 l u).size = l.size + 1 + u.size := rfl
    have hln : (Tr.node r e0 l u).toList = l.toList ++ e0 :: u.toList := rfl
    have hht : (Tr.node r e0 l u).ht = 1 + max l.ht u.ht := rfl
    have hww := Tr.w_node r e0 l u
    obtain ⟨w1, w2, w3', w4⟩ := hw
    obtain ⟨v1, a1, b1, d1⟩ := get_v g1 h0 (by omega)
    simp only [Tree_drop.r, hg, cond_false, g1, Option.bind_some, c1] at h
    simp only [VTree_drop.r, hg, cond_false, a1, Option.bind_some, c1]
    rw [hln] at hs hG
    by_cases h1 : c < 0
    · simp only [h1, decide_true, cond_true] at h ⊢
      obtain ⟨x5, g5, h⟩ := bnd h
      obtain ⟨ih1, v2, a2, b2, d2⟩ := drop_v ok hk h3 hP e n (by omega) hl (nodup_left hnd) (sorted_l hs) (fun x hx => hG x (List.mem_append_left _ hx)) (by omega) w3' (r' := x5.1) (y := x5.2.1) (f := x5.2.2.1) (p' := x5.2.2.2) g5 (v := v1) (by omega) (by omega)
      simp only [a2, Option.bind_some]
      obtain ⟨a, m, b, hcut, hres⟩ := drop_ok ok hk hP e n (by omega) hl (nodup_left hnd) (sorted_l hs) (fun x hx => hG x (List.mem_append_left _ hx)) (by omega)
      rcases hres with ⟨_, h4⟩ | ⟨y, r', p', t', x0, h2, h4, h5, h6⟩
      · rw [h4] at g5
        cases g5
        simp only [Bool.not_false, cond_true] at h ⊢
        cases h
        exact ⟨fun h => (by cases h), v2, rfl, by omega, by omega⟩
      · rw [h4] at g5
        cases g5
        simp only [Bool.not_true, cond_false] at h ⊢
        obtain ⟨x6, g6, h⟩ := bnd h
        cases h
        have hlk1 : look p' r = some n1 := by rw [h6.frame r (nodup_l hnd)]; exact hlk
        have hu1 : Rep S p' n1.right u := hu.frame (fun x hx => h6.frame x (fun h => nodup_lu hnd h hx))
        have hperm : (x0 :: (t'.refs ++ r :: u.refs)).Perm (Tr.node r e0 l u).refs := by
          have := h6.refs.append_right (r :: u.refs)
          simpa [Tr.refs] using this
        have hnd2 : (x0 :: (t'.refs ++ r :: u.refs)).Nodup := hperm.nodup_iff.2 hnd
        obtain ⟨t2, k1, k2, k3⟩ := ih1 rfl
        have k1' : Rep S p' r' t2 := k1
        have := h6.rep.uniq k1'
        subst this
        have hts : t'.size + 1 = l.size := by simp only [Tr.w] at k3; omega
        obtain ⟨r2, p2, y1, y2⟩ := linkf_ok ok hk h6.pw h6.rep hlk1 hu1 (List.nodup_cons.1 hnd2).2 (fun x hx => by
          rw [h5, he] at hx
          simp only [List.mem_append, List.mem_cons] at hx
          have h8 : ∀ y, y ∈ a ∨ y ∈ b → y ∈ l.toList := fun y hy => by rw [hcut.eq]; rcases hy with hy | hy <;> simp [hy]
          rcases hx with hx | rfl | hx
          · exact hG x (List.mem_append_left _ (h8 x hx))
          · exact hG x (by simp)
          · exact hG x (by simp [hx])) (by omega)
        have hnear : Tr.Near t' u := ⟨by omega, by omega⟩
        have g6' : Tree_link.f O k p' r' r n1.right = some x6 := g6
        have y1' := y1
        rw [y1] at g6'
        cases g6'
        obtain ⟨v3, a3, b3, d3⟩ := linkf_v ok h6.pw h6.rep hu1 (by omega) k2 w4 hnear y1' (v := v2) (by omega) (by omega)
        have a3' : VTree_link.f O k (vz p' v2) r' r n1.right = _ := a3
        refine ⟨fun _ => ⟨_, y2.rep, Tr.link_wbk h3 k2 w4 hnear, ?_⟩, v3, by simp only [a3', Option.bind_some], by omega, by omega⟩
        have := Tr.link_size k t' r n1.e u
        simp only [Tr.w] at *; omega
    · simp only [h1, decide_false, cond_false] at h ⊢
      by_cases h1' : c > 0
      · simp only [h1', decide_true, cond_true] at h ⊢
        obtain ⟨x5, g5, h⟩ := bnd h
        obtain ⟨ih1, v2, a2, b2, d2⟩ := drop_v ok hk h3 hP e n (by omega) hu (nodup_right hnd) (sorted_u hs) (fun x hx => hG x (by simp [hx])) (by omega) w4 (r' := x5.1) (y := x5.2.1) (f := x5.2.2.1) (p' := x5.2.2.2) g5 (v := v1) (by omega) (by omega)
        simp only [a2, Option.bind_some]
        obtain ⟨a, m, b, hcut, hres⟩ := drop_ok ok hk hP e n (by omega) hu (nodup_right hnd) (sorted_u hs) (fun x hx => hG x (by simp [hx])) (by omega)
        rcases hres with ⟨_, h4⟩ | ⟨y, r', p', t', x0, h2, h4, h5, h6⟩
        · rw [h4] at g5
          cases g5
          simp only [Bool.not_false, cond_true] at h ⊢
          cases h
          exact ⟨fun h => (by cases h), v2, rfl, by omega, by omega⟩
        · rw [h4] at g5
          cases g5
          simp only [Bool.not_true, cond_false] at h ⊢
          obtain ⟨x6, g6, h⟩ := bnd h
          cases h
          have hlk1 : look p' r = some n1 := by rw [h6.frame r (nodup_u hnd)]; exact hlk
          have hl1 : Rep S p' n1.left l := hl.frame (fun x hx => h6.frame x (fun h => nodup_lu hnd hx h))
          have hperm : (x0 :: (l.refs ++ r :: t'.refs)).Perm (Tr.node r e0 l u).refs := by
            have h7 : (l.refs ++ r :: (x0 :: t'.refs)).Perm (l.refs ++ r :: u.refs) := List.Perm.append_left _ (List.Perm.cons _ h6.refs)
            refine List.Perm.trans ?_ h7
            rw [show l.refs ++ r :: x0 :: t'.refs = (l.refs ++ [r]) ++ x0 :: t'.refs by simp]
            refine List.Perm.trans ?_ List.perm_middle.symm
            simp
          have hnd2 : (x0 :: (l.refs ++ r :: t'.refs)).Nodup := hperm.nodup_iff.2 hnd
          obtain ⟨t2, k1, k2, k3⟩ := ih1 rfl
          have k1' : Rep S p' r' t2 := k1
          have := h6.rep.uniq k1'
          subst this
          have hts : t'.size + 1 = u.size := by simp only [Tr.w] at k3; omega
          obtain ⟨r2, p2, y1, y2⟩ := linkf_ok ok hk h6.pw hl1 hlk1 h6.rep (List.nodup_cons.1 hnd2).2 (fun x hx => by
            rw [h5, he] at hx
            simp only [List.mem_append, List.mem_cons] at hx
            have h8 : ∀ y, y ∈ a ∨ y ∈ b → y ∈ u.toList := fun y hy => by rw [hcut.eq]; rcases hy with hy | hy <;> simp [hy]
            rcases hx with hx | rfl | hx
            · exact hG x (by simp [hx])
            · exact hG x (by simp)
            · exact hG x (by simp [h8 x hx])) (by omega)
          have hnear : Tr.Near l t' := ⟨by omega, by omega⟩
          have g6' : Tree_link.f O k p' n1.left r r' = some x6 := g6
          have y1' := y1
          rw [y1] at g6'
          cases g6'
          obtain ⟨v3, a3, b3, d3⟩ := linkf_v ok h6.pw hl1 h6.rep (by omega) w3' k2 hnear y1' (v := v2) (by omega) (by omega)
          have a3' : VTree_link.f O k (vz p' v2) n1.left r r' = _ := a3
          refine ⟨fun _ => ⟨_, y2.rep, Tr.link_wbk h3 w3' k2 hnear, ?_⟩, v3, by simp only [a3', Option.bind_some], by omega, by omega⟩
          have := Tr.link_size k l r n1.e t'
          simp only [Tr.w] at *; omega
      · simp only [h1', decide_false, cond_false] at h ⊢
        obtain ⟨x9, g9, h⟩ := bnd h
        obtain ⟨x10, g10, h⟩ := bnd h
        cases h
        obtain ⟨p1, q1, q2, q3, q4⟩ := hP.drop (z := zNode O) hlk
        have hl1 : Rep S p1 n1.left l := hl.frame (fun x hx => q3 x (fun h => nodup_l hnd (h ▸ hx)))
        have hu1 : Rep S p1 n1.right u := hu.frame (fun x hx => q3 x (fun h => nodup_u hnd (h ▸ hx)))
        have hperm : (r :: (l.refs ++ u.refs)).Perm (Tr.node r e0 l u).refs := List.perm_middle.symm
        have hnd2 : (r :: (l.refs ++ u.refs)).Nodup := hperm.nodup_iff.2 hnd
        have hGm : ∀ x ∈ l.toList ++ u.toList, G x := fun x hx => hG x (by
          rcases List.mem_append.1 hx with hx | hx <;> simp [hx])
        obtain ⟨r2, p2, y1, y2⟩ := merge_ok ok hk q2 hl1 hu1 (List.nodup_cons.1 hnd2).2 hGm (by omega)
        obtain ⟨v2, a2, b2, d2⟩ := pDrop_v g9 (v := v1) (by omega) (by omega)
        rw [q1] at g9
        cases g9
        have g10' : Tree_merge.f O k p1 n1.left n1.right = some x10 := g10
        obtain ⟨v3, a3, b3, d3⟩ := merge_v ok hk h3 q2 hl1 hu1 (List.nodup_cons.1 hnd2).2 hGm (by omega) w3' w4 w1 w2 (r' := x10.1) (p' := x10.2) g10' (v := v2) (by omega) (by omega)
        rw [y1] at g10'
        cases g10'
        refine ⟨fun _ => ⟨_, y2.rep, Tr.merge_wb h3 w3' w4 w1 w2, ?_⟩, v3, ?_, by omega, by omega⟩
        · have := Tr.merge_size k l u
          simp only [Tr.w] at *; omega
        · simp only [a2, Option.bind_some]
          rw [show VTree_merge.f O k (vz p1 v2) n1.left n1.right = _ from a3]; rfl
end
end Go.Proofs.YtpeoalmhccmdiaaGreat
namespace Go.Proofs.YtpeoalmhccmdiaaGreat
open Go Go.Proofs.YtpeoalmhccmdiaaGreat.Sx
theorem log_two {n : Nat} (h : 2 ≤ n) : Nat.log2 n = Nat.log2 (n / 2) + 1 := by
  rw [Nat.log2_def, if_pos h]
theorem log_small {n : Nat} (h : n < 2) : Nat.log2 n = 0 := by
  rw [Nat.log2_def, if_neg (by omega)]
theorem log_mono : ∀ (a b : Nat), a ≤ b → Nat.log2 a ≤ Nat.log2 b
  | a, b, h => by
    by_cases ha : a < 2
    · rw [log_small ha]; exact Nat.zero_le _
    · rw [log_two (n := a) (by omega), log_two (n := b) (by omega)]
      have := log_mono (a / 2) (b / 2) (by omega)
      omega
theorem log_lt (n : Nat) (h : n < 1024) : Nat.log2 n ≤ 9 := by
  have := log_mono n 1023 (by omega)
  have e : Nat.log2 1023 = 9 := by decide
  omega
theorem hmax_lt (n : Nat) (h : n < 1023) : hmax n ≤ 29 := by
  have := log_lt (n + 1) (by omega)
  unfold hmax; omega
def GV {E A : Type} (S : A → List E → Prop) (lt : E → E → Prop) (p : PN E A) (r : TRef) (n : Nat) : Prop := ∃ l c B, GrV S lt (fun _ => True) p r l c B ∧ l.length ≤ n ∧ B ≤ n
section
variable {E A : Type} {O : Ops E A} {k : Nat} {S : A → List E → Prop} {lt : E → E → Prop} {P : List E → List E → Bool} {fn : A → A → Option Bool}
variable {p : PN E A} {r : TRef} {n : Nat}
theorem GV.mono (h : GV S lt p r n) {n' : Nat} (hn : n ≤ n') : GV S lt p r n' := by
  obtain ⟨l, c, B, h1, h2, h3⟩ := h
  exact ⟨l, c, B, h1, by omega, by omega⟩
theorem GV.new (c : Int) : GV S lt (⟨[], [], c, 0, 0⟩ : PN E A) zTRef 0 := ⟨[], c, 0, GrV.new c 0 (by decide), Nat.le_refl _, Nat.le_refl _⟩
theorem GV.put (ok : OpsOk O k 1000000 (fun _ => True) S lt) (hk : 1000000 ≤ k) (h : GV S lt p r n) (hn : n < 1000) {e : E} {x : Bool × TRef × PN E A} (hp : Tree_Put.f O k p r e = some x) {v : Int} (h0 : 0 ≤ v) (hb : v < 1000000000000) :
    ∃ v', VTree_Put.f O k (vz p v) r e = some (x.1, x.2.1, vz x.2.2 v') ∧ v ≤ v' ∧ v' ≤ v + 2500 ∧ GV S lt x.2.2 x.2.1 (n + 1) := by
  obtain ⟨l, c, B, h, hl, hB⟩ := h
  obtain ⟨t, hP, hr, rfl, hw⟩ := h.ex
  have hll := Tr.len_toList t
  have hhs := Tr.ht_size t
  have hwh := wb_h hw
  have hh := hmax_lt t.toList.length (by omega)
  obtain ⟨a, m, b, hcut, hres⟩ := put_ok ok hk hP (by omega) e trivial k (by omega) hr hP.ld h.sorted h.good (by omega)
  have pv := fun {r' : TRef} {f : Bool} {p' : PN E A} (hh : Tree_put.r O k k p r e = some (r', f, p')) => put_v ok hk (by omega) hP (by omega) e trivial k (by omega) hr hP.ld h.sorted h.good (by omega) hw hh h0 (by omega)
  unfold Tree_Put.f Tree_put.f at hp
  unfold VTree_Put.f VTree_put.f
  rcases hres with ⟨h1, h2, rr, h3'⟩ | ⟨r', p', t', F, h1, h2, h3', h4, h5⟩
  · obtain ⟨_, v', a1, b1, c1⟩ := pv h3'
    rw [h3'] at hp
    simp only [Option.bind_some, cond_false, Option.some.injEq] at hp
    subst hp
    exact ⟨v', by rw [a1]; rfl, b1, by omega, ⟨t.toList, c, B, h, by omega, by omega⟩⟩
  · obtain ⟨q1, v', a1, b1, c1⟩ := pv h3'
    obtain ⟨t2, k1, k2, k3, k4⟩ := q1 rfl
    have := h5.rep.uniq k1
    subst this
    rw [h3'] at hp
    simp only [Option.bind_some, cond_true, Option.some.injEq] at hp
    subst hp
    have e1 := congrArg List.length h4
    have e2 := congrArg List.length hcut.eq
    have e3 := Tr.len_toList t'
    simp only [Tr.w] at k3 k4
    refine ⟨v', by rw [a1]; rfl, b1, by omega, ⟨a ++ e :: b, c, B + 1, ⟨⟨t', h5.pw.perm h5.refs.symm, h5.rep, h4, k2⟩, hcut.put ok h.sorted, fun _ _ => trivial, h5.cap.trans h.cap⟩, by omega, by omega⟩⟩
theorem GV.drop (ok : OpsOk O k 1000000 (fun _ => True) S lt) (hk : 1000000 ≤ k) (h : GV S lt p r n) (hn : n < 1000) {e : E} {x : E × Bool × TRef × PN E A} (hp : Tree_Drop.f O k p r e = some x) {v : Int} (h0 : 0 ≤ v) (hb : v < 1000000000000) :
    ∃ v', VTree_Drop.f O k (vz p v) r e = some (x.1, x.2.1, x.2.2.1, vz x.2.2.2 v') ∧ v ≤ v' ∧ v' ≤ v + 2500 ∧ GV S lt x.2.2.2 x.2.2.1 n := by
  obtain ⟨l, c, B, h, hl, hB⟩ := h
  obtain ⟨t, hP, hr, rfl, hw⟩ := h.ex
  have hll := Tr.len_toList t
  have hhs := Tr.ht_size t
  have hwh := wb_h hw
  have hh := hmax_lt t.toList.length (by omega)
  obtain ⟨a, m, b, hcut, hres⟩ := drop_ok ok hk hP e k (by omega) hr hP.ld h.sorted h.good (by omega)
  have pv := fun {r' : TRef} {y : E} {f : Bool} {p' : PN E A} (hh : Tree_drop.r O k k p r e = some (r', y, f, p')) => drop_v ok hk (by omega) hP e k (by omega) hr hP.ld h.sorted h.good (by omega) hw hh h0 (by omega)
  unfold Tree_Drop.f Tree_drop.f at hp
  unfold VTree_Drop.f VTree_drop.f
  rcases hres with ⟨h1, h3'⟩ | ⟨y, r', p', t', x0, h1, h3', h4, h5⟩
  · obtain ⟨_, v', a1, b1, c1⟩ := pv h3'
    rw [h3'] at hp
    simp only [Option.bind_some, Option.some.injEq] at hp
    subst hp
    exact ⟨v', by rw [a1]; rfl, b1, by omega, ⟨t.toList, c, B, h, by omega, by omega⟩⟩
  · obtain ⟨q1, v', a1, b1, c1⟩ := pv h3'
    obtain ⟨t2, k1, k2, k3⟩ := q1 rfl
    have := h5.rep.uniq k1
    subst this
    rw [h3'] at hp
    simp only [Option.bind_some, Option.some.injEq] at hp
    subst hp
    have e3 := Tr.len_toList t'
    have e1 := congrArg List.length h4
    simp only [Tr.w] at k3
    refine ⟨v', by rw [a1]; rfl, b1, by omega, ⟨a ++ b, c, B, ⟨⟨t', h5.pw.perm ?_, h5.rep, h4, k2⟩, hcut.drop h.sorted, fun _ _ => trivial, h5.cap.trans h.cap⟩, by omega, by omega⟩⟩
    have := h5.refs.erase x0
    rw [List.erase_cons_head] at this
    exact this.symm
theorem GV.len (ok : OpsOk O k 1000000 (fun _ => True) S lt) (h : GV S lt p r n) {x : Int} (hp : Tree_Len.f O k p r = some x) {v : Int} (h0 : 0 ≤ v) (hb : v < 1000000000000) : ∃ v', VTree_Len.f O k (vz p v) r = some (x, vz p v') ∧ v ≤ v' ∧ v' ≤ v + 1 := by
  obtain ⟨l, c, B, h, hl, hB⟩ := h
  obtain ⟨v', a1, b1, c1⟩ := h.len ok h0 (by omega)
  have := h.gr.len ok
  rw [hp] at this
  cases this
  exact ⟨v', a1, b1, c1⟩
theorem GV.find (ok : OpsOk O k 1000000 (fun _ => True) S lt) (h : GV S lt p r n) (hn : n < 1000) {e : E} {x : E × Bool} (hp : Tree_Find.f O k p r e = some x) {v : Int} (h0 : 0 ≤ v) (hb : v < 1000000000000) : ∃ v', VTree_Find.f O k (vz p v) r e = some (x.1, x.2, vz p v') ∧ v ≤ v' ∧ v' ≤ v + 30 := by
  obtain ⟨l, c, B, h, hl, hB⟩ := h
  obtain ⟨t, hP, hr, rfl, hw⟩ := h.ex
  have hll := Tr.len_toList t
  have hwh := wb_h hw
  have hh := hmax_lt t.toList.length (by omega)
  unfold Tree_Find.f at hp
  obtain ⟨y, hy, hp⟩ := bnd hp
  obtain ⟨v', a1, b1, c1⟩ := find_v (k := k) ok hP e k hr (by omega) hy h0 (by omega)
  unfold VTree_Find.f
  rw [a1]
  rcases y with y | y
  · cases hp; exact ⟨v', rfl, b1, by omega⟩
  · cases hp; exact ⟨v', rfl, b1, by omega⟩
theorem GV.rank (ok : OpsOk O k 1000000 (fun _ => True) S lt) (h : GV S lt p r n) (hn : n < 1000) {e : E} {x : Int} (hp : Tree_Rank.f O k p r e = some x) {v : Int} (h0 : 0 ≤ v) (hb : v < 1000000000000) : ∃ v', VTree_Rank.f O k (vz p v) r e = some (x, vz p v') ∧ v ≤ v' ∧ v' ≤ v + 60 := by
  obtain ⟨l, c, B, h, hl, hB⟩ := h
  obtain ⟨t, hP, hr, rfl, hw⟩ := h.ex
  have hll := Tr.len_toList t
  have hwh := wb_h hw
  have hh := hmax_lt t.toList.length (by omega)
  unfold Tree_Rank.f at hp
  obtain ⟨y, hy, hp⟩ := bnd hp
  cases hp
  obtain ⟨v', a1, b1, c1⟩ := rank_v (k := k) ok hP e k hr (by omega) hy h0 (by omega)
  unfold VTree_Rank.f
  rw [a1]
  exact ⟨v', rfl, b1, by omega⟩
theorem GV.between (ok : OpsOk O k 1000000 (fun _ => True) S lt) (hk : 1000000 ≤ k) (h : GV S lt p r n) (hn : n < 1000) {i j : Int} {x : A} (hp : Tree_Between.f O k p r i j = some x) {v : Int} (h0 : 0 ≤ v) (hb : v < 1000000000000) : ∃ v', VTree_Between.f O k (vz p v) r i j = some (x, vz p v') ∧ v ≤ v' ∧ v' ≤ v + 270 := by
  obtain ⟨l, c, B, h, hl, hB⟩ := h
  have hh := hmax_lt l.length (by omega)
  obtain ⟨v', a1, b1, c1⟩ := h.between ok hk i j (by omega) h0 (by omega) hp
  exact ⟨v', a1, b1, by omega⟩
theorem GV.first (ok : OpsOk O k 1000000 (fun _ => True) S lt) (hk : 1000000 ≤ k) (hq : PredOk 1000000 (fun _ => True) S P fn) (h : GV S lt p r n) (hn : n < 1000) {i : Int} {x : Int} (hp : Tree_First.f O k p r i fn = some x) {v : Int} (h0 : 0 ≤ v) (hb : v < 1000000000000) : ∃ v', VTree_First.f O k (vz p v) r i fn = some (x, vz p v') ∧ v ≤ v' ∧ v' ≤ v + 180 := by
  obtain ⟨l, c, B, h, hl, hB⟩ := h
  have hh := hmax_lt l.length (by omega)
  obtain ⟨v', a1, b1, c1⟩ := h.first ok hk hq i (by omega) h0 (by omega)
  have := h.gr.first ok hk hq i (by omega)
  rw [hp] at this
  cases this
  exact ⟨v', a1, b1, by omega⟩
theorem GV.last (ok : OpsOk O k 1000000 (fun _ => True) S lt) (hk : 1000000 ≤ k) (hq : PredOk 1000000 (fun _ => True) S P fn) (h : GV S lt p r n) (hn : n < 1000) {i : Int} {x : Int} (hp : Tree_Last.f O k p r i fn = some x) {v : Int} (h0 : 0 ≤ v) (hb : v < 1000000000000) : ∃ v', VTree_Last.f O k (vz p v) r i fn = some (x, vz p v') ∧ v ≤ v' ∧ v' ≤ v + 180 := by
  obtain ⟨l, c, B, h, hl, hB⟩ := h
  have hh := hmax_lt l.length (by omega)
  obtain ⟨v', a1, b1, c1⟩ := h.last ok hk hq i (by omega) h0 (by omega)
  have := h.gr.last ok hk hq i (by omega)
  rw [hp] at this
  cases this
  exact ⟨v', a1, b1, by omega⟩
theorem all_v {L : List TRef} {B : Nat} {G : E → Prop} {N : Nat} (ok : OpsOk O k N G S lt) (hP : PW p L B) : ∀ (n : Nat) {r : TRef} {t : Tr E} {l x : List E}, Rep S p r t → Tree_all.r O k n p r l = some x → ∀ {v : Int}, 0 ≤ v → v + 1000 * (t.size + 1 : Nat) < 4611686018427387904 →
    ∃ v', VTree_all.r O k n (vz p v) r l = some (x, vz p v') ∧ v ≤ v' ∧ v' ≤ v + (t.size : Nat)
  | 0, _, _, _, _, _, h, _, _, _ => by cases h
  | n + 1, r, .nil, l, x, hr, h, v, h0, hb => by
    have e0 : (r.gen == 0) = true := by simpa using hr.nil_iff.2 rfl
    simp only [Tree_all.r, e0, cond_true] at h
    simp only [VTree_all.r, e0, cond_true]
    cases h
    exact ⟨v, rfl, by omega, by omega⟩
  | n + 1, r, .node r0 e0 l1 u, l, x, hr, h, v, h0, hb => by
    obtain ⟨n1, g1, g2⟩ := get_ok ok hP hr
    obtain ⟨rfl, he, hl, hu, hlk⟩ := g2.node rfl
    have hg : (r.gen == 0) = false := by simpa using hP.gen_ne (hP.mem hlk)
    have hsz : (Tr.node r e0 l1 u).size = l1.size + 1 + u.size := rfl
    obtain ⟨v1, a1, b1, d1⟩ := get_v g1 h0 (by omega)
    simp only [Tree_all.r, hg, cond_false, g1, Option.bind_some] at h
    simp only [VTree_all.r, hg, cond_false, a1, Option.bind_some]
    obtain ⟨x2, f2, h⟩ := bnd h
    obtain ⟨v2, a2, b2, d2⟩ := all_v ok hP n hl f2 (v := v1) (by omega) (by omega)
    simp only [a2, Option.bind_some]
    cases hc : decide (x2.length + ([n1.e] : List E).length < 4294967296) with
    | false => rw [hc] at h; cases h
    | true =>
      rw [hc, cond_true] at h
      obtain ⟨x3, f3, h⟩ := bnd h
      cases h
      obtain ⟨v3, a3, b3, d3⟩ := all_v ok hP n hu f3 (v := v2) (by omega) (by omega)
      exact ⟨v3, by simp only [cond_true, a3, Option.bind_some], by omega, by omega⟩
theorem GV.all (ok : OpsOk O k 1000000 (fun _ => True) S lt) (h : GV S lt p r n) (hn : n < 1000) {x : List E} (hp : Tree_All.f O k p r = some x) {v : Int} (h0 : 0 ≤ v) (hb : v < 1000000000000) : ∃ v', VTree_All.f O k (vz p v) r = some (x, vz p v') ∧ v ≤ v' ∧ v' ≤ v + 1000 := by
  obtain ⟨l, c, B, h, hl, hB⟩ := h
  obtain ⟨t, hP, hr, rfl, hw⟩ := h.ex
  have hll := Tr.len_toList t
  unfold Tree_All.f Tree_all.f at hp
  obtain ⟨y, hy, hp⟩ := bnd hp
  cases hp
  obtain ⟨v', a1, b1, c1⟩ := all_v ok hP k hr hy h0 (by omega)
  unfold VTree_All.f VTree_all.f
  rw [a1]
  exact ⟨v', rfl, b1, by omega⟩
end
end Go.Proofs.YtpeoalmhccmdiaaGreat
namespace Go.Proofs.YtpeoalmhccmdiaaGreat.PQ
structure Cert (n : Nat) (G S : Nat → Prop) (lt : Nat → Nat → Prop) (H : Nat → Int) : Prop where
  low : ∀ p, p ≤ n → 0 ≤ H p
  fin : H n = 0
  two : ∀ i j, i < n → j < n → G i → S j → lt j i → ∃ b, i < b ∧ b ≤ j ∧ H b = 0
  free : 0 < H 0 → ∀ j, j < n → S j → ∃ b, b ≤ j ∧ H b = 0
structure More (n t : Nat) (G S : Nat → Prop) (lt : Nat → Nat → Prop) (H : Nat → Int) : Prop where
  le : t ≤ n
  low : ∀ p, p ≤ n → (if p < t then 0 else 1) ≤ H p
  fin : H n = 1
  two : ∀ i j, i < n → j < n → i + 1 ≠ t → G i → S j → lt j i → ∃ b, i < b ∧ b ≤ j ∧ H b = if b < t then 0 else 1
  free : 0 < H 0 → ∀ j, j < n → S j → ∃ b, b ≤ j ∧ H b = if b < t then 0 else 1
theorem More.none {n t : Nat} {G S : Nat → Prop} {lt : Nat → Nat → Prop} {H : Nat → Int} (h : More n t G S lt H) (hb : ∀ b, b < t → H b ≠ 0) : Cert n G S lt (fun p => H p - 1) := by
  have pos : ∀ p, p ≤ n → 1 ≤ H p := fun p hp => by
    have := h.low p hp
    by_cases e : p < t
    · rw [if_pos e] at this; have := hb p e; omega
    · rw [if_neg e] at this; exact this
  have lv : ∀ b, (H b = if b < t then 0 else 1) → H b - 1 = 0 ∧ t ≤ b := fun b hb' => by
    by_cases e : b < t
    · rw [if_pos e] at hb'; exact absurd hb' (hb b e)
    · rw [if_neg e] at hb'; omega
  refine ⟨fun p hp => by have := pos p hp; show 0 ≤ H p - 1; omega, by show H n - 1 = 0; rw [h.fin]; rfl, fun i j hi hj hg hs hl => ?_, fun _ j hj hs => ?_⟩
  · by_cases e : i + 1 = t
    · obtain ⟨b, h1, h2⟩ := h.free (by have := pos 0 (Nat.zero_le _); omega) j hj hs
      have := lv b h2
      exact ⟨b, by omega, h1, this.1⟩
    · obtain ⟨b, h1, h2, h3⟩ := h.two i j hi hj e hg hs hl
      exact ⟨b, h1, h2, (lv b h3).1⟩
  · obtain ⟨b, h1, h2⟩ := h.free (by have := pos 0 (Nat.zero_le _); omega) j hj hs
    exact ⟨b, h1, (lv b h2).1⟩
theorem More.some {n t : Nat} {G S : Nat → Prop} {lt : Nat → Nat → Prop} {H : Nat → Int} (tr : ∀ a b c, lt a b → lt b c → lt a c) (ir : ∀ a, ¬ lt a a) (h : More n t G S lt H) {b z : Nat} (hb : b < t) (hb0 : H b = 0) (hb1 : ∀ q, b < q → q < t → H q ≠ 0)
    (hz : b ≤ z) (hzn : z < n) (hzG : G z) (hzm : ∀ i, i < n → b ≤ i → G i → i = z ∨ lt i z) (hGS : ∀ i, G i → ¬ S i) :
    Cert n (fun i => G i ∧ i ≠ z) (fun i => S i ∨ i = z) lt (fun p => H p - if z < p then 1 else 0) := by
  have last : ∀ q, q < t → H q = 0 → q ≤ b := fun q h1 h2 => Classical.byContradiction fun hn => hb1 q (by omega) h1 h2
  refine ⟨fun p hp => ?_, ?_, fun i j hi hj hg hs hl => ?_, fun h0 j hj hs => ?_⟩
  · have h1 := h.low p hp
    show 0 ≤ H p - _
    by_cases e : z < p
    · rw [if_pos e]
      by_cases e' : p < t
      · have := hb1 p (by omega) e'; rw [if_pos e'] at h1; omega
      · rw [if_neg e'] at h1; omega
    · rw [if_neg e]; split at h1 <;> omega
  · show H n - _ = 0
    rw [if_pos hzn, h.fin]; rfl
  · show ∃ c, i < c ∧ c ≤ j ∧ H c - (if z < c then 1 else 0) = 0
    have hbr : ∀ c, z < c → (H c = if c < t then 0 else 1) → H c - (if z < c then 1 else 0) = 0 ∧ t ≤ c := fun c h1 h2 => by
      by_cases e : c < t
      · rw [if_pos e] at h2; have := last c e h2; omega
      · rw [if_neg e] at h2; rw [if_pos h1]; omega
    have b0 : H b - (if z < b then 1 else 0) = 0 := by rw [if_neg (by omega)]; omega
    have zj : z + 1 ≠ t → ∀ j, j < n → S j → lt j z → ∃ c, z < c ∧ c ≤ j ∧ t ≤ c ∧ H c - (if z < c then 1 else 0) = 0 := fun e j hj hs hl => by
      obtain ⟨c, h1, h2, h3⟩ := h.two z j hzn hj e hzG hs hl
      have := hbr c h1 h3; exact ⟨c, h1, h2, this.2, this.1⟩
    rcases hs with hs | rfl
    · by_cases e : i + 1 = t
      · have hiz : lt i z := (hzm i hi (by omega) hg.1).resolve_left hg.2
        obtain ⟨c, h1, h2, h3, h4⟩ := zj (fun e' => hg.2 (by omega)) j hj hs (tr _ _ _ hl hiz)
        exact ⟨c, by omega, h2, h4⟩
      · obtain ⟨c, h1, h2, h3⟩ := h.two i j hi hj e hg.1 hs hl
        by_cases e1 : z < c
        · exact ⟨c, h1, h2, (hbr c e1 h3).1⟩
        · by_cases e2 : c < t
          · rw [if_pos e2] at h3; exact ⟨c, h1, h2, by rw [if_neg e1]; omega⟩
          · by_cases e3 : b ≤ i
            · have hiz : lt i z := (hzm i hi e3 hg.1).resolve_left hg.2
              obtain ⟨c', h1', h2', h3', h4'⟩ := zj (by omega) j hj hs (tr _ _ _ hl hiz)
              exact ⟨c', by omega, h2', h4'⟩
            · exact ⟨b, by omega, by omega, b0⟩
    · by_cases e : b ≤ i
      · exact absurd (tr _ _ _ hl ((hzm i hi e hg.1).resolve_left hg.2)) (ir _)
      · exact ⟨b, by omega, hz, b0⟩
  · show ∃ c, c ≤ j ∧ H c - (if z < c then 1 else 0) = 0
    have b0 : H b - (if z < b then 1 else 0) = 0 := by rw [if_neg (by omega)]; omega
    have h0' : 0 < H 0 := by have h0 : 0 < H 0 - (if z < 0 then 1 else 0) := h0; rw [if_neg (by omega)] at h0; omega
    rcases hs with hs | rfl
    · obtain ⟨c, h1, h2⟩ := h.free h0' j hj hs
      by_cases e1 : z < c
      · by_cases e : c < t
        · rw [if_pos e] at h2; have := last c e h2; omega
        · rw [if_neg e] at h2; exact ⟨c, h1, by rw [if_pos e1]; omega⟩
      · by_cases e2 : c < t
        · rw [if_pos e2] at h2; exact ⟨c, h1, by rw [if_neg e1]; omega⟩
        · exact ⟨b, by omega, b0⟩
    · exact ⟨b, hz, b0⟩
structure Less (n t : Nat) (G S : Nat → Prop) (lt : Nat → Nat → Prop) (H : Nat → Int) : Prop where
  le : t ≤ n
  low : ∀ p, p ≤ n → (if p < t then 0 else -1) ≤ H p
  fin : H n = -1
  two : ∀ i j, i < n → j < n → G i → S j → lt j i → ∃ b, i < b ∧ b ≤ j ∧ H b = if b < t then 0 else -1
  free : 0 < H 0 → ∀ j, j < n → S j → ∃ b, b ≤ j ∧ H b = if b < t then 0 else -1
theorem Less.none {n t : Nat} {G S : Nat → Prop} {lt : Nat → Nat → Prop} {H : Nat → Int} (h : Less n t G S lt H) {b : Nat} (hb : t ≤ b) (hbn : b ≤ n) (hb0 : H b = -1) (hb1 : ∀ q, t ≤ q → q < b → H q ≠ -1)
    (hS : ∀ j, j < b → ¬ S j) : Cert n G S lt (fun p => H p + 1) := by
  have lv : ∀ c j, S j → c ≤ j → (H c = if c < t then 0 else -1) → ∃ c', c ≤ c' ∧ c' ≤ j ∧ H c' + 1 = 0 := fun c j hs h1 h2 => by
    by_cases e : c < t
    · have : b ≤ j := Classical.byContradiction fun hn => hS j (by omega) hs
      exact ⟨b, by omega, this, by omega⟩
    · rw [if_neg e] at h2; exact ⟨c, Nat.le_refl _, h1, by omega⟩
  refine ⟨fun p hp => ?_, by show H n + 1 = 0; rw [h.fin]; rfl, fun i j hi hj hg hs hl => ?_, fun _ j hj hs => ?_⟩
  · have := h.low p hp; show 0 ≤ H p + 1; split at this <;> omega
  · obtain ⟨c, h1, h2, h3⟩ := h.two i j hi hj hg hs hl
    obtain ⟨c', h4, h5, h6⟩ := lv c j hs h2 h3
    exact ⟨c', by omega, h5, h6⟩
  · have : b ≤ j := Classical.byContradiction fun hn => hS j (by omega) hs
    exact ⟨b, this, by show H b + 1 = 0; omega⟩
theorem Less.some {n t : Nat} {G S : Nat → Prop} {lt : Nat → Nat → Prop} {H : Nat → Int} (tr : ∀ a b c, lt a b → lt b c → lt a c) (ir : ∀ a, ¬ lt a a) (h : Less n t G S lt H) {b z : Nat} (hb : t ≤ b) (hbn : b ≤ n) (hb0 : H b = -1) (hb1 : ∀ q, t ≤ q → q < b → H q ≠ -1)
    (hzb : z < b) (hzS : S z) (hzm : ∀ j, j < b → S j → j = z ∨ lt z j) :
    Cert n (fun i => G i ∨ i = z) (fun i => S i ∧ i ≠ z) lt (fun p => H p + if z < p then 1 else 0) := by
  have low' : ∀ c, t ≤ c → H c = -1 → H c + (if z < c then 1 else 0) = 0 := fun c h1 h2 => by
    have : b ≤ c := Classical.byContradiction fun hn => hb1 c h1 (by omega) h2
    rw [if_pos (by omega)]; omega
  have b0 := low' b hb hb0
  refine ⟨fun p hp => ?_, ?_, fun i j hi hj hg hs hl => ?_, fun h0 j hj hs => ?_⟩
  · have h1 := h.low p hp
    show 0 ≤ H p + _
    by_cases e : p < t
    · rw [if_pos e] at h1; split <;> omega
    · rw [if_neg e] at h1
      by_cases e' : z < p
      · rw [if_pos e']; omega
      · have := hb1 p (by omega) (by omega); rw [if_neg e']; omega
  · show H n + _ = 0
    rw [if_pos (by omega), h.fin]; rfl
  · show ∃ c, i < c ∧ c ≤ j ∧ H c + (if z < c then 1 else 0) = 0
    by_cases ei : i = z
    · subst ei
      have : b ≤ j := Classical.byContradiction fun hn => by
        rcases hzm j (by omega) hs.1 with e | e
        · exact hs.2 e
        · exact ir _ (tr _ _ _ hl e)
      exact ⟨b, hzb, this, b0⟩
    · have hg := hg.resolve_right ei
      obtain ⟨c, h1, h2, h3⟩ := h.two i j hi hj hg hs.1 hl
      by_cases e : c < t
      · rw [if_pos e] at h3
        by_cases e1 : z < c
        · by_cases e2 : b ≤ j
          · exact ⟨b, by omega, e2, b0⟩
          · have hzj := (hzm j (by omega) hs.1).resolve_left hs.2
            obtain ⟨c2, h4, h5, h6⟩ := h.two i z hi (by omega) hg hzS (tr _ _ _ hzj hl)
            rw [if_pos (by omega)] at h6
            exact ⟨c2, h4, by omega, by rw [if_neg (by omega)]; omega⟩
        · exact ⟨c, h1, h2, by rw [if_neg e1]; omega⟩
      · rw [if_neg e] at h3
        exact ⟨c, h1, h2, low' c (by omega) h3⟩
  · show ∃ c, c ≤ j ∧ H c + (if z < c then 1 else 0) = 0
    have h0' : 0 < H 0 := by have h0 : 0 < H 0 + (if z < 0 then 1 else 0) := h0; rw [if_neg (by omega)] at h0; omega
    obtain ⟨c, h2, h3⟩ := h.free h0' j hj hs.1
    by_cases e : c < t
    · rw [if_pos e] at h3
      by_cases e1 : z < c
      · by_cases e2 : b ≤ j
        · exact ⟨b, e2, b0⟩
        · obtain ⟨c2, h5, h6⟩ := h.free h0' z (by omega) hzS
          rw [if_pos (by omega)] at h6
          exact ⟨c2, by omega, by rw [if_neg (by omega)]; omega⟩
      · exact ⟨c, h2, by rw [if_neg e1]; omega⟩
    · rw [if_neg e] at h3
      exact ⟨c, h2, low' c (by omega) h3⟩
def sh (a i : Nat) : Nat := if i < a then i else i + 1
theorem sh_lt {a i : Nat} (h : i < a) : sh a i = i := if_pos h
theorem sh_ge {a i : Nat} (h : a ≤ i) : sh a i = i + 1 := if_neg (by omega)
theorem sh_cases (a i : Nat) : (i < a ∧ sh a i = i) ∨ (a ≤ i ∧ sh a i = i + 1) := by
  by_cases h : i < a
  · exact .inl ⟨h, sh_lt h⟩
  · exact .inr ⟨by omega, sh_ge (by omega)⟩
theorem sh_ex {a i : Nat} (h : i ≠ a) : ∃ q, i = sh a q := by
  by_cases e : i < a
  · exact ⟨i, (sh_lt e).symm⟩
  · exact ⟨i - 1, by rw [sh_ge (by omega)]; omega⟩
structure Ins (n a : Nat) (w : Int) (G1 S1 : Nat → Prop) (lt1 : Nat → Nat → Prop) (H1 : Nat → Int) (G2 S2 : Nat → Prop) (lt2 : Nat → Nat → Prop) (H2 : Nat → Int) : Prop where
  le : a ≤ n
  g : ∀ i, G2 (sh a i) ↔ G1 i
  s : ∀ i, S2 (sh a i) ↔ S1 i
  l : ∀ i j, lt2 (sh a i) (sh a j) ↔ lt1 i j
  lo : ∀ p, p ≤ a → H2 p = H1 p
  hi : ∀ p, a ≤ p → H2 (p + 1) = H1 p + w
section
variable {n a : Nat} {w : Int} {G1 S1 : Nat → Prop} {lt1 : Nat → Nat → Prop} {H1 : Nat → Int} {G2 S2 : Nat → Prop} {lt2 : Nat → Nat → Prop} {H2 : Nat → Int}
theorem Ins.up (h : Ins n a w G1 S1 lt1 H1 G2 S2 lt2 H2) {i j b : Nat} (h1 : i < b) (h2 : b ≤ j) (hb : H1 b = 0) : ∃ c, sh a i < c ∧ c ≤ sh a j ∧ H2 c = if c < a + 1 then 0 else w := by
  have hi := sh_cases a i
  have hj := sh_cases a j
  by_cases e : b ≤ a
  · exact ⟨b, by omega, by omega, by rw [if_pos (by omega), h.lo b e, hb]⟩
  · exact ⟨b + 1, by omega, by omega, by rw [if_neg (by omega), h.hi b (by omega), hb]; omega⟩
theorem Ins.up0 (h : Ins n a w G1 S1 lt1 H1 G2 S2 lt2 H2) {j b : Nat} (h2 : b ≤ j) (hb : H1 b = 0) : ∃ c, c ≤ sh a j ∧ H2 c = if c < a + 1 then 0 else w := by
  have hj := sh_cases a j
  by_cases e : b ≤ a
  · exact ⟨b, by omega, by rw [if_pos (by omega), h.lo b e, hb]⟩
  · exact ⟨b + 1, by omega, by rw [if_neg (by omega), h.hi b (by omega), hb]; omega⟩
theorem sh_bd {n a i : Nat} (ha : a ≤ n) : sh a i < n + 1 ↔ i < n := by
  have := sh_cases a i; omega
theorem Ins.more (h : Ins n a 1 G1 S1 lt1 H1 G2 S2 lt2 H2) (hS : ¬ S2 a) (c : Cert n G1 S1 lt1 H1) : More (n + 1) (a + 1) G2 S2 lt2 H2 := by
  have hle := h.le
  have h0 := h.lo 0 (Nat.zero_le _)
  refine ⟨by omega, fun p hp => ?_, ?_, fun i j hi hj hia hg hs hl => ?_, fun hf j hj hs => ?_⟩
  · by_cases e : p ≤ a
    · rw [if_pos (by omega), h.lo p e]; exact c.low p (by omega)
    · rw [if_neg (by omega)]
      have := h.hi (p - 1) (by omega); rw [show p - 1 + 1 = p by omega] at this
      have := c.low (p - 1) (by omega); omega
  · rw [h.hi n hle, c.fin]; rfl
  · obtain ⟨i', rfl⟩ := sh_ex (a := a) (i := i) (by omega)
    obtain ⟨j', rfl⟩ := sh_ex (a := a) (i := j) (by rintro rfl; exact hS hs)
    obtain ⟨b, h1, h2, h3⟩ := c.two i' j' ((sh_bd hle).1 hi) ((sh_bd hle).1 hj) ((h.g _).1 hg) ((h.s _).1 hs) ((h.l _ _).1 hl)
    exact h.up h1 h2 h3
  · obtain ⟨j', rfl⟩ := sh_ex (a := a) (i := j) (by rintro rfl; exact hS hs)
    obtain ⟨b, h1, h2⟩ := c.free (by omega) j' ((sh_bd hle).1 hj) ((h.s _).1 hs)
    exact h.up0 h1 h2
theorem Ins.less (h : Ins n a (-1) G1 S1 lt1 H1 G2 S2 lt2 H2) (hG : ¬ G2 a) (hS : ¬ S2 a) (c : Cert n G1 S1 lt1 H1) : Less (n + 1) (a + 1) G2 S2 lt2 H2 := by
  have hle := h.le
  have h0 := h.lo 0 (Nat.zero_le _)
  refine ⟨by omega, fun p hp => ?_, ?_, fun i j hi hj hg hs hl => ?_, fun hf j hj hs => ?_⟩
  · by_cases e : p ≤ a
    · rw [if_pos (by omega), h.lo p e]; exact c.low p (by omega)
    · rw [if_neg (by omega)]
      have := h.hi (p - 1) (by omega); rw [show p - 1 + 1 = p by omega] at this
      have := c.low (p - 1) (by omega); omega
  · rw [h.hi n hle, c.fin]; rfl
  · obtain ⟨i', rfl⟩ := sh_ex (a := a) (i := i) (by rintro rfl; exact hG hg)
    obtain ⟨j', rfl⟩ := sh_ex (a := a) (i := j) (by rintro rfl; exact hS hs)
    obtain ⟨b, h1, h2, h3⟩ := c.two i' j' ((sh_bd hle).1 hi) ((sh_bd hle).1 hj) ((h.g _).1 hg) ((h.s _).1 hs) ((h.l _ _).1 hl)
    exact h.up h1 h2 h3
  · obtain ⟨j', rfl⟩ := sh_ex (a := a) (i := j) (by rintro rfl; exact hS hs)
    obtain ⟨b, h1, h2⟩ := c.free (by omega) j' ((sh_bd hle).1 hj) ((h.s _).1 hs)
    exact h.up0 h1 h2
theorem Ins.revD (h : Ins n a (-1) G1 S1 lt1 H1 G2 S2 lt2 H2) (c : Cert (n + 1) G2 S2 lt2 H2) : More n a G1 S1 lt1 H1 := by
  have hle := h.le
  have h0 := h.lo 0 (Nat.zero_le _)
  have ha : H2 a ≠ 0 := fun e => by
    have h1 := h.hi a (Nat.le_refl _); have h2 := h.lo a (Nat.le_refl _); have h3 := c.low (a + 1) (by omega); omega
  have down : ∀ b, H2 b = 0 → (b < a ∧ H1 b = if b < a then 0 else 1) ∨ (a + 1 ≤ b ∧ H1 (b - 1) = if b - 1 < a then 0 else 1) := fun b hb => by
    by_cases e : b < a
    · exact .inl ⟨e, by rw [if_pos e, ← h.lo b (by omega), hb]⟩
    · by_cases e' : b = a
      · subst e'; exact absurd hb ha
      · have := h.hi (b - 1) (by omega); rw [show b - 1 + 1 = b by omega] at this
        exact .inr ⟨by omega, by rw [if_neg (by omega)]; omega⟩
  refine ⟨hle, fun p hp => ?_, ?_, fun i j hi hj _ hg hs hl => ?_, fun hf j hj hs => ?_⟩
  · by_cases e : p < a
    · rw [if_pos e, ← h.lo p (by omega)]; exact c.low p (by omega)
    · rw [if_neg e]
      have := h.hi p (by omega); have := c.low (p + 1) (by omega); omega
  · have := h.hi n hle; rw [c.fin] at this; omega
  · obtain ⟨b, h1, h2, h3⟩ := c.two _ _ ((sh_bd hle).2 hi) ((sh_bd hle).2 hj) ((h.g _).2 hg) ((h.s _).2 hs) ((h.l _ _).2 hl)
    have := sh_cases a i; have := sh_cases a j
    rcases down b h3 with ⟨e1, e2⟩ | ⟨e1, e2⟩
    · exact ⟨b, by omega, by omega, e2⟩
    · exact ⟨b - 1, by omega, by omega, e2⟩
  · obtain ⟨b, h2, h3⟩ := c.free (by omega) _ ((sh_bd hle).2 hj) ((h.s _).2 hs)
    have := sh_cases a j
    rcases down b h3 with ⟨e1, e2⟩ | ⟨e1, e2⟩
    · exact ⟨b, by omega, e2⟩
    · exact ⟨b - 1, by omega, e2⟩
theorem Ins.revG (h : Ins n a 1 G1 S1 lt1 H1 G2 S2 lt2 H2) (c : Cert (n + 1) G2 S2 lt2 H2) : Less n (a + 1) G1 S1 lt1 H1 := by
  have hle := h.le
  have h0 := h.lo 0 (Nat.zero_le _)
  have h1a := h.hi a (Nat.le_refl _)
  have h2a := h.lo a (Nat.le_refl _)
  have h3a := c.low a (by omega)
  have han : a + 1 ≤ n := Classical.byContradiction fun hn => by
    have : a = n := by omega
    subst this; rw [c.fin] at h1a; omega
  have down : ∀ b, H2 b = 0 → (b ≤ a ∧ H1 b = if b < a + 1 then 0 else -1) ∨ (a + 2 ≤ b ∧ H1 (b - 1) = if b - 1 < a + 1 then 0 else -1) := fun b hb => by
    by_cases e : b ≤ a
    · exact .inl ⟨e, by rw [if_pos (by omega), ← h.lo b e, hb]⟩
    · by_cases e' : b = a + 1
      · subst e'; omega
      · have := h.hi (b - 1) (by omega); rw [show b - 1 + 1 = b by omega] at this
        exact .inr ⟨by omega, by rw [if_neg (by omega)]; omega⟩
  refine ⟨han, fun p hp => ?_, ?_, fun i j hi hj hg hs hl => ?_, fun hf j hj hs => ?_⟩
  · by_cases e : p < a + 1
    · rw [if_pos e, ← h.lo p (by omega)]; exact c.low p (by omega)
    · rw [if_neg e]
      have := h.hi p (by omega); have := c.low (p + 1) (by omega); omega
  · have := h.hi n hle; rw [c.fin] at this; omega
  · obtain ⟨b, h1, h2, h3⟩ := c.two _ _ ((sh_bd hle).2 hi) ((sh_bd hle).2 hj) ((h.g _).2 hg) ((h.s _).2 hs) ((h.l _ _).2 hl)
    have := sh_cases a i; have := sh_cases a j
    rcases down b h3 with ⟨e1, e2⟩ | ⟨e1, e2⟩
    · exact ⟨b, by omega, by omega, e2⟩
    · exact ⟨b - 1, by omega, by omega, e2⟩
  · obtain ⟨b, h2, h3⟩ := c.free (by omega) _ ((sh_bd hle).2 hj) ((h.s _).2 hs)
    have := sh_cases a j
    rcases down b h3 with ⟨e1, e2⟩ | ⟨e1, e2⟩
    · exact ⟨b, by omega, e2⟩
    · exact ⟨b - 1, by omega, e2⟩
theorem Ins.revS (h : Ins n a 0 G1 S1 lt1 H1 G2 S2 lt2 H2) (c : Cert (n + 1) G2 S2 lt2 H2) : Cert n G1 S1 lt1 H1 := by
  have hle := h.le
  have h0 := h.lo 0 (Nat.zero_le _)
  have down : ∀ b, H2 b = 0 → (b ≤ a ∧ H1 b = 0) ∨ (a + 1 ≤ b ∧ H1 (b - 1) = 0) := fun b hb => by
    by_cases e : b ≤ a
    · exact .inl ⟨e, by rw [← h.lo b e, hb]⟩
    · have := h.hi (b - 1) (by omega); rw [show b - 1 + 1 = b by omega] at this
      exact .inr ⟨by omega, by omega⟩
  refine ⟨fun p hp => ?_, ?_, fun i j hi hj hg hs hl => ?_, fun hf j hj hs => ?_⟩
  · by_cases e : p ≤ a
    · rw [← h.lo p e]; exact c.low p (by omega)
    · have := h.hi p (by omega); have := c.low (p + 1) (by omega); omega
  · have := h.hi n hle; rw [c.fin] at this; omega
  · obtain ⟨b, h1, h2, h3⟩ := c.two _ _ ((sh_bd hle).2 hi) ((sh_bd hle).2 hj) ((h.g _).2 hg) ((h.s _).2 hs) ((h.l _ _).2 hl)
    have := sh_cases a i; have := sh_cases a j
    rcases down b h3 with ⟨e1, e2⟩ | ⟨e1, e2⟩
    · exact ⟨b, by omega, by omega, e2⟩
    · exact ⟨b - 1, by omega, by omega, e2⟩
  · obtain ⟨b, h2, h3⟩ := c.free (by omega) _ ((sh_bd hle).2 hj) ((h.s _).2 hs)
    have := sh_cases a j
    rcases down b h3 with ⟨e1, e2⟩ | ⟨e1, e2⟩
    · exact ⟨b, by omega, e2⟩
    · exact ⟨b - 1, by omega, e2⟩
end
end Go.Proofs.YtpeoalmhccmdiaaGreat.PQ
namespace Go.Proofs.YtpeoalmhccmdiaaGreat
open Go Go.Proofs.YtpeoalmhccmdiaaGreat.Sx
def lowF : List Int → Int
  | [] => 0
  | [x] => x
  | x :: y :: l => min x (x + lowF (y :: l))
def tideF (ns : List Int) : TTide := ⟨ns.length, ns.sum, lowF ns⟩
theorem lowF_append : ∀ (a b : List Int), a ≠ [] → b ≠ [] → lowF (a ++ b) = min (lowF a) (a.sum + lowF b)
  | [x], b, _, hb => by
    cases b with
    | nil => exact absurd rfl hb
    | cons y l => simp [lowF]
  | x :: y :: l, b, _, hb => by
    have ih := lowF_append (y :: l) b (by simp) hb
    have e : lowF (x :: y :: l ++ b) = min x (x + lowF (y :: l ++ b)) := by simp [lowF]
    rw [e, ih]
    have e2 : lowF (x :: y :: l) = min x (x + lowF (y :: l)) := rfl
    have e3 : (x :: y :: l).sum = x + (y :: l).sum := by simp
    rw [e2, e3]
    omega
  | [], _, h, _ => absurd rfl h
def smallN (ns : List Int) : Prop := ∀ x ∈ ns, -1099511627776 ≤ x ∧ x ≤ 1099511627776
theorem smallN.append {a b : List Int} (ha : smallN a) (hb : smallN b) : smallN (a ++ b) := fun x hx => (List.mem_append.1 hx).elim (ha x) (hb x)
theorem smallN.left {a b : List Int} (h : smallN (a ++ b)) : smallN a := fun x hx => h x (List.mem_append_left _ hx)
theorem smallN.right {a b : List Int} (h : smallN (a ++ b)) : smallN b := fun x hx => h x (List.mem_append_right _ hx)
theorem smallN.take {a : List Int} (h : smallN a) (i : Nat) : smallN (a.take i) := fun x hx => h x (List.mem_of_mem_take hx)
theorem sum_bound : ∀ {ns : List Int}, smallN ns → -1099511627776 * (ns.length : Int) ≤ ns.sum ∧ ns.sum ≤ 1099511627776 * (ns.length : Int)
  | [], _ => by simp
  | x :: l, h => by
    have h1 := h x List.mem_cons_self
    have h2 := sum_bound (ns := l) (fun y hy => h y (List.mem_cons_of_mem _ hy))
    simp only [List.sum_cons, List.length_cons]
    omega
theorem low_bound : ∀ {ns : List Int}, smallN ns → -1099511627776 * (ns.length : Int) ≤ lowF ns ∧ lowF ns ≤ 1099511627776 * (ns.length : Int)
  | [], _ => by simp [lowF]
  | [x], h => by have := h x List.mem_cons_self; simp [lowF]; omega
  | x :: y :: l, h => by
    have h1 := h x List.mem_cons_self
    have h2 := low_bound (ns := y :: l) (fun z hz => h z (List.mem_cons_of_mem _ hz))
    have e : lowF (x :: y :: l) = min x (x + lowF (y :: l)) := rfl
    simp only [List.length_cons] at h2 ⊢
    rw [e]
    omega
theorem tidePlus_eq (k : Nat) {a b : List Int} (h : smallN (a ++ b)) (hl : (a ++ b).length < 1000000) : tide_Tide_Plus.f k (tideF a) (tideF b) = some (tideF (a ++ b)) := by
  have ha := sum_bound h.left
  have hb := sum_bound h.right
  have la := low_bound h.left
  have lb := low_bound h.right
  simp only [List.length_append] at hl
  unfold tide_Tide_Plus.f
  by_cases h1 : a = []
  · subst h1; simp [tideF]
  · have p1 : a.length ≠ 0 := fun e => h1 (List.eq_nil_of_length_eq_zero e)
    by_cases h2 : b = []
    · subst h2
      have : ((tideF a).n == 0) = false := by simp [tideF]; exact h1
      simp only [this, cond_false]; simp [tideF]
    · have p2 : b.length ≠ 0 := fun e => h2 (List.eq_nil_of_length_eq_zero e)
      have e1 : ((a.length : Int) == 0) = false := by simp; exact h1
      have e2 : ((b.length : Int) == 0) = false := by simp; exact h2
      simp only [tideF, e1, e2, cond_false]
      rw [w64_id (by omega) (by omega), w64_id (by omega) (by omega), w64_id (by omega) (by omega), lowF_append a b h1 h2, List.sum_append, List.length_append]
      have e : gmin (lowF a) (a.sum + lowF b) = min (lowF a) (a.sum + lowF b) := by unfold gmin; split <;> omega
      rw [e, Int.natCast_add]
theorem tideOf_loop (k : Nat) (l : List Int) (hs : smallN l) (hl : l.length < 1000000) : ∀ (d i n : Nat), i + d = l.length → d < n → tide_Of.l0 k l n (tideF (l.take i), (i : Int)) = some (tideF l)
  | d, i, 0, _, h => by omega
  | 0, i, n + 1, hi, _ => by
    simp only [tide_Of.l0]
    rw [dec_nlt (by omega), List.take_of_length_le (by omega)]; rfl
  | d + 1, i, n + 1, hi, hn => by
    obtain ⟨x, hx, hdr⟩ := drop_cons (l := l) (i := i) (by omega)
    have ht : l.take (i + 1) = l.take i ++ [x] := by rw [List.take_add_one, hx]; rfl
    have e1 : (⟨1, x, x⟩ : TTide) = tideF [x] := by simp [tideF, lowF]
    simp only [tide_Of.l0]
    rw [dec_lt (by omega)]
    simp only [cond_true, atL_nat hx, Option.bind_some, e1]
    rw [tidePlus_eq k (by rw [← ht]; exact hs.take _) (by rw [← ht]; simp; omega)]
    simp only [Option.bind_some, w64_succ (i := i) (by omega), ← ht]
    exact tideOf_loop k l hs hl d (i + 1) n (by omega) (by omega)
theorem tideOf_eq (k : Nat) {l : List Int} (hs : smallN l) (hl : l.length < 1000000) (hk : l.length < k) : tide_Of.f k l = some (tideF l) := by
  have := tideOf_loop k l hs hl l.length 0 k (by omega) hk
  have e : tide_Of.l0 k l k (zTTide, 0) = some (tideF l) := this
  unfold tide_Of.f; rw [e]; rfl
end Go.Proofs.YtpeoalmhccmdiaaGreat
namespace Go.Proofs.YtpeoalmhccmdiaaGreat
open Go Go.Proofs.YtpeoalmhccmdiaaGreat.Sx
def ilt (a b : TItem) : Prop := a.key < b.key ∨ (a.key = b.key ∧ a.id < b.id)
def ile (a b : TItem) : Prop := a.key < b.key ∨ (a.key = b.key ∧ a.id ≤ b.id)
instance (a b : TItem) : Decidable (ilt a b) := by unfold ilt; infer_instance
instance (a b : TItem) : Decidable (ile a b) := by unfold ile; infer_instance
theorem item_ext {a b : TItem} (h1 : a.key = b.key) (h2 : a.id = b.id) : a = b := by cases a; cases b; simp_all
theorem ile_refl (a : TItem) : ile a a := by unfold ile; omega
theorem ile_trans {a b c : TItem} (h : ile a b) (h' : ile b c) : ile a c := by unfold ile at *; omega
theorem ile_antisymm {a b : TItem} (h : ile a b) (h' : ile b a) : a = b := by unfold ile at *; exact item_ext (by omega) (by omega)
theorem not_ilt {a b : TItem} : ¬ ilt a b ↔ ile b a := by unfold ilt ile; omega
theorem ilt_ile {a b : TItem} (h : ilt a b) : ile a b := by unfold ilt at h; unfold ile; omega
theorem ilt_iff {a b : TItem} : ilt a b ↔ ile a b ∧ a ≠ b := by
  constructor
  · intro h; exact ⟨ilt_ile h, fun e => by subst e; unfold ilt at h; omega⟩
  · rintro ⟨h, hn⟩
    rcases Classical.em (ilt a b) with h1 | h1
    · exact h1
    · exact absurd (ile_antisymm h (not_ilt.1 h1)) hn
theorem ilt_trans_le {a b c : TItem} (h : ilt a b) (h' : ile b c) : ilt a c := by unfold ilt ile at *; omega
theorem ilt_irrefl (a : TItem) : ¬ ilt a a := by unfold ilt; omega
def isgn (a b : TItem) : Int := if ilt a b then -1 else if ilt b a then 1 else 0
def csgn (a b : Int) : Int := if a < b then -1 else if b < a then 1 else 0
theorem cmpCompare_eq (k : Nat) (a b : Int) : cmp_Compare.f k a b = some (csgn a b) := by
  unfold cmp_Compare.f cmp_isNaN.f csgn
  by_cases h1 : a < b
  · simp [h1]
  · by_cases h2 : b < a
    · simp [h1, h2]
    · simp [h1, h2]
theorem cmpOr_eq (k : Nat) (hk : 3 ≤ k) (a b : Int) : cmp_Or.f k [a, b] = some (if a ≠ 0 then a else b) := by
  obtain ⟨m, rfl⟩ : ∃ m, k = m + 3 := ⟨k - 3, by omega⟩
  unfold cmp_Or.f
  have e1 : w64 (0 + 1) = 1 := by decide
  have e2 : w64 1 = 1 := by decide
  have e3 : w64 2 = 2 := by decide
  by_cases h1 : a = 0
  · subst h1
    by_cases h2 : b = 0
    · subst h2; simp [cmp_Or.l0, atL, e1, e2, e3]
    · have h3 : (b != 0) = true := by simpa using h2
      simp [cmp_Or.l0, atL, e1, e2, e3, h2, h3]
  · have h3 : (a != 0) = true := by simpa using h1
    simp [cmp_Or.l0, atL, e1, e2, e3, h1, h3]
theorem itemCompare_eq (k : Nat) (hk : 3 ≤ k) (a b : TItem) : item_Compare.f k a b = some (isgn a b) := by
  unfold item_Compare.f
  simp only [cmpCompare_eq, Option.bind_some, cmpOr_eq k hk]
  congr 1
  unfold csgn isgn ilt
  by_cases h1 : a.key < b.key
  · simp [h1]
  · by_cases h2 : b.key < a.key
    · have h3 : ¬ a.key = b.key := by omega
      have h4 : ¬ b.key = a.key := by omega
      simp [h1, h2, h3, h4]
    · have h3 : a.key = b.key := by omega
      simp [h3]
end Go.Proofs.YtpeoalmhccmdiaaGreat
namespace Go.Proofs.YtpeoalmhccmdiaaGreat
open Go Go.Proofs.YtpeoalmhccmdiaaGreat.Sx
def IsMax (xs : List TItem) (t : TTook) : Prop := (xs = [] ∧ t = zTTook) ∨ (t.found = true ∧ t.item ∈ xs ∧ ∀ y ∈ xs, ile y t.item)
def IsMin (xs : List TItem) (t : TTook) : Prop := (xs = [] ∧ t = zTTook) ∨ (t.found = true ∧ t.item ∈ xs ∧ ∀ y ∈ xs, ile t.item y)
theorem IsMax.nil : IsMax [] zTTook := .inl ⟨rfl, rfl⟩
theorem IsMin.nil : IsMin [] zTTook := .inl ⟨rfl, rfl⟩
theorem IsMax.one (x : TItem) : IsMax [x] ⟨true, x⟩ := .inr ⟨rfl, by simp, fun y hy => by simp at hy; subst hy; exact ile_refl _⟩
theorem IsMin.one (x : TItem) : IsMin [x] ⟨true, x⟩ := .inr ⟨rfl, by simp, fun y hy => by simp at hy; subst hy; exact ile_refl _⟩
theorem isgn_lt {a b : TItem} : isgn a b < 0 ↔ ilt a b := by
  unfold isgn
  by_cases h1 : ilt a b
  · simp [h1]
  · by_cases h2 : ilt b a <;> simp [h1, h2]
theorem isgn_gt {a b : TItem} : isgn a b > 0 ↔ ilt b a := by
  unfold isgn
  by_cases h1 : ilt a b
  · have : ¬ ilt b a := fun h => ilt_irrefl a (ilt_trans_le h1 (ilt_ile h))
    simp [h1, this]
  · by_cases h2 : ilt b a <;> simp [h1, h2]
theorem isgn_cases (a b : TItem) : isgn a b = -1 ∨ isgn a b = 0 ∨ isgn a b = 1 := by
  unfold isgn; split
  · exact .inl rfl
  · split
    · exact .inr (.inr rfl)
    · exact .inr (.inl rfl)
theorem betterMax (k : Nat) (hk : 3 ≤ k) {xs ys : List TItem} {a b : TTook} (ha : IsMax xs a) (hb : IsMax ys b) : ∃ c, wave_better.f k (-1) a b = some c ∧ IsMax (xs ++ ys) c := by
  unfold wave_better.f
  rcases ha with ⟨rfl, rfl⟩ | ⟨h1, h2, h3⟩
  · exact ⟨b, rfl, hb⟩
  · simp only [h1, Bool.not_true, cond_false]
    rcases hb with ⟨rfl, rfl⟩ | ⟨g1, g2, g3⟩
    · exact ⟨a, rfl, .inr ⟨h1, by simpa using h2, by simpa using h3⟩⟩
    · simp only [g1, cond_true, itemCompare_eq k hk, Option.bind_some]
      have e : w64 (-1 * isgn b.item a.item) = -1 * isgn b.item a.item := by rcases isgn_cases b.item a.item with h | h | h <;> rw [h] <;> rfl
      rw [e]
      by_cases hc : isgn b.item a.item > 0
      · have : decide (-1 * isgn b.item a.item < 0) = true := by simp; omega
        rw [this]
        have hlt := isgn_gt.1 hc
        refine ⟨b, rfl, .inr ⟨g1, List.mem_append_right _ g2, fun y hy => ?_⟩⟩
        rcases List.mem_append.1 hy with hy | hy
        · exact ile_trans (h3 y hy) (ilt_ile hlt)
        · exact g3 y hy
      · have : decide (-1 * isgn b.item a.item < 0) = false := by simp; omega
        rw [this]
        have hle : ile b.item a.item := not_ilt.1 (fun h => hc (isgn_gt.2 h))
        refine ⟨a, rfl, .inr ⟨h1, List.mem_append_left _ h2, fun y hy => ?_⟩⟩
        rcases List.mem_append.1 hy with hy | hy
        · exact h3 y hy
        · exact ile_trans (g3 y hy) hle
theorem betterMin (k : Nat) (hk : 3 ≤ k) {xs ys : List TItem} {a b : TTook} (ha : IsMin xs a) (hb : IsMin ys b) : ∃ c, wave_better.f k 1 a b = some c ∧ IsMin (xs ++ ys) c := by
  unfold wave_better.f
  rcases ha with ⟨rfl, rfl⟩ | ⟨h1, h2, h3⟩
  · exact ⟨b, rfl, hb⟩
  · simp only [h1, Bool.not_true, cond_false]
    rcases hb with ⟨rfl, rfl⟩ | ⟨g1, g2, g3⟩
    · exact ⟨a, rfl, .inr ⟨h1, by simpa using h2, by simpa using h3⟩⟩
    · simp only [g1, cond_true, itemCompare_eq k hk, Option.bind_some]
      have e : w64 (1 * isgn b.item a.item) = isgn b.item a.item := by rcases isgn_cases b.item a.item with h | h | h <;> rw [h] <;> rfl
      rw [e]
      by_cases hc : isgn b.item a.item < 0
      · have : decide (isgn b.item a.item < 0) = true := by simpa using hc
        rw [this]
        have hlt := isgn_lt.1 hc
        refine ⟨b, rfl, .inr ⟨g1, List.mem_append_right _ g2, fun y hy => ?_⟩⟩
        rcases List.mem_append.1 hy with hy | hy
        · exact ile_trans (ilt_ile hlt) (h3 y hy)
        · exact g3 y hy
      · have : decide (isgn b.item a.item < 0) = false := by simpa using hc
        rw [this]
        have hle : ile a.item b.item := not_ilt.1 (fun h => hc (isgn_lt.2 h))
        refine ⟨a, rfl, .inr ⟨h1, List.mem_append_left _ h2, fun y hy => ?_⟩⟩
        rcases List.mem_append.1 hy with hy | hy
        · exact h3 y hy
        · exact ile_trans hle (g3 y hy)
def mcnt (m : TMark) : Int := if m.op.insert then 1 else -1
def mwt (m : TMark) : Int := if m.op.insert then (if m.here then 0 else 1) else -1
def dels (l : List TMark) : List TMark := l.filter (fun m => !m.op.insert)
def frees (l : List TMark) : List TMark := l.filter (fun m => !m.op.insert && !m.took.found)
def tookI (l : List TMark) : List TItem := (l.filter (fun m => !m.op.insert && m.took.found)).map (·.took.item)
def goneI (l : List TMark) : List TItem := (l.filter (fun m => m.op.insert && !m.here)).map (·.op.item)
def hereI (l : List TMark) : List TItem := (l.filter (fun m => m.op.insert && m.here)).map (·.op.item)
structure IsSwell (s : TSwell) (l : List TMark) : Prop where
  count : s.count = tideF (l.map mcnt)
  weight : s.weight = tideF (l.map mwt)
  deletes : s.deletes = ((dels l).length : Int)
  free : s.free = ((frees l).length : Int)
  most : ∃ t, IsMax (tookI l) t ∧ s.most = t.item
  gone : IsMax (goneI l) s.gone
  least : IsMin (hereI l) s.least
theorem IsSwell.nil : IsSwell zTSwell [] := ⟨rfl, rfl, rfl, rfl, ⟨_, IsMax.nil, rfl⟩, IsMax.nil, IsMin.nil⟩
theorem small_cnt (l : List TMark) : smallN (l.map mcnt) := by
  intro x hx
  obtain ⟨m, _, rfl⟩ := List.mem_map.1 hx
  unfold mcnt; split <;> omega
theorem small_wt (l : List TMark) : smallN (l.map mwt) := by
  intro x hx
  obtain ⟨m, _, rfl⟩ := List.mem_map.1 hx
  unfold mwt
  split
  · split <;> omega
  · omega
theorem dels_len (l : List TMark) : (dels l).length = (frees l).length + (tookI l).length := by
  induction l with
  | nil => rfl
  | cons m l ih =>
    unfold dels frees tookI at *
    cases h1 : m.op.insert <;> cases h2 : m.took.found <;> simp [List.filter_cons, h1, h2] at ih ⊢ <;> omega
theorem taken_max (k : Nat) {s : TSwell} {l : List TMark} (h : IsSwell s l) : ∃ t, wave_Swell_taken.f k s = some t ∧ IsMax (tookI l) t := by
  obtain ⟨a, ha, ha'⟩ := h.most
  have hl := dels_len l
  unfold wave_Swell_taken.f
  rw [h.deletes, h.free]
  by_cases h0 : tookI l = []
  · have : (((dels l).length : Int) == ((frees l).length : Int)) = true := by rw [hl, h0]; simp
    rw [this]; exact ⟨_, rfl, .inl ⟨h0, rfl⟩⟩
  · have hp : (tookI l).length ≠ 0 := fun e => h0 (List.eq_nil_of_length_eq_zero e)
    have : (((dels l).length : Int) == ((frees l).length : Int)) = false := by simp; omega
    rw [this]
    refine ⟨_, rfl, ?_⟩
    rcases ha with ⟨h1, _⟩ | ⟨h1, h2, h3⟩
    · exact absurd h1 h0
    · rw [ha']; exact .inr ⟨rfl, h2, h3⟩
theorem swellPlus (k : Nat) (hk : 3 ≤ k) {s t : TSwell} {l r : List TMark} (h : IsSwell s l) (g : IsSwell t r) (hl : (l ++ r).length < 1000000) : ∃ c, wave_Swell_Plus.f k s t = some c ∧ IsSwell c (l ++ r) := by
  obtain ⟨a, a1, a2⟩ := taken_max k h
  obtain ⟨b, b1, b2⟩ := taken_max k g
  obtain ⟨x5, c1, c2⟩ := betterMax k hk a2 b2
  obtain ⟨x6, d1, d2⟩ := betterMax k hk h.gone g.gone
  obtain ⟨x7, e1, e2⟩ := betterMin k hk h.least g.least
  have q1 : (dels l).length ≤ l.length := List.length_filter_le _ _
  have q2 : (dels r).length ≤ r.length := List.length_filter_le _ _
  have q3 : (frees l).length ≤ l.length := List.length_filter_le _ _
  have q4 : (frees r).length ≤ r.length := List.length_filter_le _ _
  rw [List.length_append] at hl
  unfold wave_Swell_Plus.f
  rw [h.count, g.count, h.weight, g.weight, tidePlus_eq k (by rw [← List.map_append]; exact small_cnt _) (by simp; omega), tidePlus_eq k (by rw [← List.map_append]; exact small_wt _) (by simp; omega), a1, b1]
  simp only [Option.bind_some, c1, d1, e1]
  refine ⟨_, rfl, ?_⟩
  constructor
  · show tideF _ = _; rw [List.map_append]
  · show tideF _ = _; rw [List.map_append]
  · show w64 _ = _; rw [h.deletes, g.deletes, w64_id (by omega) (by omega)]; simp [dels]
  · show w64 _ = _; rw [h.free, g.free, w64_id (by omega) (by omega)]; simp [frees]
  · refine ⟨x5, ?_, rfl⟩; simpa [tookI] using c2
  · simpa [goneI] using d2
  · simpa [hereI] using e2
theorem smallN1 {x : Int} (h : -1099511627776 ≤ x ∧ x ≤ 1099511627776) : smallN [x] := fun y hy => by simp at hy; subst hy; exact h
theorem markSum (k : Nat) (hk : 3 ≤ k) (m : TMark) : ∃ s, wave_Mark_Sum.f k m = some s ∧ IsSwell s [m] := by
  have t1 : tide_Of.f k [1] = some (tideF [1]) := tideOf_eq k (smallN1 (by omega)) (by simp) (by simp; omega)
  have t0 : tide_Of.f k [0] = some (tideF [0]) := tideOf_eq k (smallN1 (by omega)) (by simp) (by simp; omega)
  have tm : tide_Of.f k [-1] = some (tideF [-1]) := tideOf_eq k (smallN1 (by omega)) (by simp) (by simp; omega)
  unfold wave_Mark_Sum.f
  cases h1 : m.op.insert
  · cases h2 : m.took.found
    · simp only [cond_false, Option.bind_some, Sum.elim_inr, tm]
      exact ⟨_, rfl, by simp [mcnt, h1], by simp [mwt, h1], by simp [dels, h1], by simp [frees, h1, h2], ⟨_, by simp [tookI, h1, h2]; exact IsMax.nil, rfl⟩, by simp [goneI, h1]; exact IsMax.nil, by simp [hereI, h1]; exact IsMin.nil⟩
    · simp only [cond_false, cond_true, Option.bind_some, Sum.elim_inr, tm]
      exact ⟨_, rfl, by simp [mcnt, h1], by simp [mwt, h1], by simp [dels, h1], by simp [frees, h1, h2], ⟨⟨true, m.took.item⟩, by simp [tookI, h1, h2]; exact IsMax.one _, rfl⟩, by simp [goneI, h1]; exact IsMax.nil, by simp [hereI, h1]; exact IsMin.nil⟩
  · cases h2 : m.here
    · simp only [cond_false, cond_true, Option.bind_some, Sum.elim_inl, t1]
      exact ⟨_, rfl, by simp [mcnt, h1], by simp [mwt, h1, h2], by simp [dels, h1], by simp [frees, h1], ⟨_, by simp [tookI, h1]; exact IsMax.nil, rfl⟩, by simp [goneI, h1, h2]; exact IsMax.one _, by simp [hereI, h1, h2]; exact IsMin.nil⟩
    · simp only [cond_true, Option.bind_some, Sum.elim_inl, t1, t0]
      exact ⟨_, rfl, by simp [mcnt, h1], by simp [mwt, h1, h2], by simp [dels, h1], by simp [frees, h1], ⟨_, by simp [tookI, h1]; exact IsMax.nil, rfl⟩, by simp [goneI, h1, h2]; exact IsMax.nil, by simp [hereI, h1, h2]; exact IsMin.one _⟩
end Go.Proofs.YtpeoalmhccmdiaaGreat
namespace Go.Proofs.YtpeoalmhccmdiaaGreat
open Go Go.Proofs.YtpeoalmhccmdiaaGreat.Sx
theorem item_eq {a b : TItem} (h1 : ¬ ilt a b) (h2 : ¬ ilt b a) : a = b := by
  unfold ilt at *; exact item_ext (by omega) (by omega)
instance : DecidableEq TItem := fun a b => if h : a.key = b.key ∧ a.id = b.id then .isTrue (item_ext h.1 h.2) else .isFalse (fun e => h (by rw [e]; exact ⟨rfl, rfl⟩))
def wts (m : List TMark) : List Int := m.map mwt
def hgt (m : List TMark) (base : Int) (n : Nat) : Int := base + ((wts m).take n).sum
def isG (x : TMark) : Prop := x.op.insert = true ∧ x.here = false
def isS (x : TMark) : Prop := x.op.insert = true ∧ x.here = true
def atG (m : List TMark) (i : Nat) : Prop := ∃ x, m[i]? = some x ∧ isG x
def atS (m : List TMark) (i : Nat) : Prop := ∃ x, m[i]? = some x ∧ isS x
def ltI (m : List TMark) (i j : Nat) : Prop := ∃ x y, m[i]? = some x ∧ m[j]? = some y ∧ ilt x.op.item y.op.item
def CertM (m : List TMark) (E : Int) : Prop := PQ.Cert m.length (atG m) (atS m) (ltI m) (hgt m E)
def Dist (m : List TMark) : Prop := ∀ (i j : Nat) (x y : TMark), m[i]? = some x → m[j]? = some y → x.op.insert = true → y.op.insert = true → x.op.item = y.op.item → i = j
theorem hgt_succ {m : List TMark} {E : Int} {i : Nat} {x : TMark} (h : m[i]? = some x) : hgt m E (i + 1) = hgt m E i + mwt x := by
  unfold hgt
  have : (wts m)[i]? = some (mwt x) := by simp [wts, h]
  rw [List.take_add_one, this, List.sum_append]; simp [Int.add_assoc]
theorem hereI_app (a b : List TMark) : hereI (a ++ b) = hereI a ++ hereI b := by simp [hereI]
theorem goneI_app (a b : List TMark) : goneI (a ++ b) = goneI a ++ goneI b := by simp [goneI]
theorem mem_hereI {m : List TMark} {x : TItem} : x ∈ hereI m ↔ ∃ (i : Nat) (y : TMark), m[i]? = some y ∧ isS y ∧ y.op.item = x := by
  unfold hereI isS
  simp only [List.mem_map, List.mem_filter, Bool.and_eq_true]
  constructor
  · rintro ⟨y, ⟨h1, h2⟩, h3⟩
    obtain ⟨i, hi⟩ := List.mem_iff_getElem?.1 h1
    exact ⟨i, y, hi, h2, h3⟩
  · rintro ⟨i, y, h1, h2, h3⟩; exact ⟨y, ⟨List.mem_of_getElem? h1, h2⟩, h3⟩
theorem mem_goneI {m : List TMark} {x : TItem} : x ∈ goneI m ↔ ∃ (i : Nat) (y : TMark), m[i]? = some y ∧ isG y ∧ y.op.item = x := by
  unfold goneI isG
  simp only [List.mem_map, List.mem_filter, Bool.and_eq_true, Bool.not_eq_true']
  constructor
  · rintro ⟨y, ⟨h1, h2⟩, h3⟩
    obtain ⟨i, hi⟩ := List.mem_iff_getElem?.1 h1
    exact ⟨i, y, hi, h2, h3⟩
  · rintro ⟨i, y, h1, h2, h3⟩; exact ⟨y, ⟨List.mem_of_getElem? h1, h2⟩, h3⟩
theorem take_get {α : Type} {l : List α} {p i : Nat} {x : α} (h : (l.take p)[i]? = some x) : i < p ∧ l[i]? = some x := by
  rw [List.getElem?_take] at h
  split at h
  · rename_i hi; exact ⟨hi, h⟩
  · cases h
end Go.Proofs.YtpeoalmhccmdiaaGreat
namespace Go.Proofs.YtpeoalmhccmdiaaGreat
open Go Go.Proofs.YtpeoalmhccmdiaaGreat.Sx
def IsNext (m : List TMark) (base : Int) (c : Nat) (v : Int) : Prop := (v = -1 ∧ ∀ j, c ≤ j → j ≤ m.length → ¬ hgt m base j ≤ 0) ∨ ∃ j : Nat, v = j ∧ c ≤ j ∧ j ≤ m.length ∧ hgt m base j ≤ 0 ∧ ∀ q, c ≤ q → q < j → ¬ hgt m base q ≤ 0
def IsPrior (m : List TMark) (base : Int) (c : Nat) (v : Int) : Prop := (v = -1 ∧ ∀ j, j ≤ c → ¬ hgt m base j ≤ 0) ∨ ∃ j : Nat, v = j ∧ j ≤ c ∧ hgt m base j ≤ 0 ∧ ∀ q, j < q → q ≤ c → ¬ hgt m base q ≤ 0
def turnF (it : TItem) (h : Bool) (x : TMark) : TMark := if x.op.insert = true ∧ x.op.item = it then ⟨x.op, h, x.took⟩ else x
def turnM (it : TItem) (h : Bool) (m : List TMark) : List TMark := m.map (turnF it h)
theorem turnF_op (it : TItem) (h : Bool) (x : TMark) : (turnF it h x).op = x.op := by unfold turnF; split <;> rfl
theorem turnF_took (it : TItem) (h : Bool) (x : TMark) : (turnF it h x).took = x.took := by unfold turnF; split <;> rfl
theorem turnM_ops (it : TItem) (h : Bool) (m : List TMark) : (turnM it h m).map (·.op) = m.map (·.op) := by
  unfold turnM; rw [List.map_map]; exact List.map_congr_left (fun x _ => turnF_op it h x)
theorem turnM_app (it : TItem) (h : Bool) (a b : List TMark) : turnM it h (a ++ b) = turnM it h a ++ turnM it h b := List.map_append
theorem turnM_cons (it : TItem) (h : Bool) (x : TMark) (b : List TMark) : turnM it h (x :: b) = turnF it h x :: turnM it h b := rfl
theorem turnF_del {it : TItem} {h : Bool} {x : TMark} (hx : x.op.insert = false) : turnF it h x = x := by unfold turnF; rw [if_neg (by simp [hx])]
theorem turnM_len (it : TItem) (h : Bool) (m : List TMark) : (turnM it h m).length = m.length := List.length_map ..
theorem turnM_get (it : TItem) (h : Bool) (m : List TMark) (i : Nat) : (turnM it h m)[i]? = (m[i]?).map (turnF it h) := List.getElem?_map ..
theorem cert_congr {n : Nat} {G S G' S' : Nat → Prop} {lt lt' : Nat → Nat → Prop} {H H' : Nat → Int} (h : PQ.Cert n G S lt H) (hg : ∀ i, i < n → (G' i → G i)) (hs : ∀ i, i < n → (S' i → S i)) (hl : ∀ i j, lt' i j → lt i j) (hH : ∀ p, p ≤ n → H' p = H p) : PQ.Cert n G' S' lt' H' := by
  refine ⟨fun p hp => by rw [hH p hp]; exact h.low p hp, by rw [hH n (Nat.le_refl _)]; exact h.fin, fun i j hi hj h1 h2 h3 => ?_, fun h0 j hj h2 => ?_⟩
  · obtain ⟨b, b1, b2, b3⟩ := h.two i j hi hj (hg i hi h1) (hs j hj h2) (hl _ _ h3)
    exact ⟨b, b1, b2, by rw [hH b (by omega)]; exact b3⟩
  · rw [hH 0 (Nat.zero_le _)] at h0
    obtain ⟨b, b1, b2⟩ := h.free h0 j hj (hs j hj h2)
    exact ⟨b, b1, by rw [hH b (by omega)]; exact b2⟩
theorem ltI_trans (m : List TMark) : ∀ a b c, ltI m a b → ltI m b c → ltI m a c := by
  rintro a b c ⟨x, y, h1, h2, h3⟩ ⟨y', z, h4, h5, h6⟩
  rw [h2] at h4; cases h4
  exact ⟨x, z, h1, h5, ilt_trans_le h3 (ilt_ile h6)⟩
theorem ltI_irrefl (m : List TMark) : ∀ a, ¬ ltI m a a := by
  rintro a ⟨x, y, h1, h2, h3⟩
  rw [h1] at h2; cases h2
  exact ilt_irrefl _ h3
theorem atG_S (m : List TMark) : ∀ i, atG m i → ¬ atS m i := by
  rintro i ⟨x, h1, h2⟩ ⟨y, h3, h4⟩
  rw [h1] at h3; cases h3
  exact absurd (h2.2.symm.trans h4.2) (by decide)
theorem hgt_base (m : List TMark) (E d : Int) (p : Nat) : hgt m (E + d) p = hgt m E p + d := by unfold hgt; omega
theorem hgt_zero (m : List TMark) (E : Int) : hgt m E 0 = E := by simp [hgt]
theorem hgt_turn {m : List TMark} (hd : Dist m) {z : Nat} {x : TMark} (hz : m[z]? = some x) (hi : x.op.insert = true) (E : Int) (h : Bool) : ∀ p, p ≤ m.length → hgt (turnM x.op.item h m) E p = hgt m E p + if z < p then mwt ⟨x.op, h, x.took⟩ - mwt x else 0
  | 0, _ => by rw [hgt_zero, hgt_zero, if_neg (by omega)]; omega
  | p + 1, hp => by
    obtain ⟨y, hy⟩ : ∃ y, m[p]? = some y := ⟨_, List.getElem?_eq_getElem (by omega)⟩
    have h1 : (turnM x.op.item h m)[p]? = some (turnF x.op.item h y) := by rw [turnM_get, hy]; rfl
    rw [hgt_succ h1, hgt_succ hy, hgt_turn hd hz hi E h p (by omega)]
    by_cases e : p = z
    · subst e
      rw [hz] at hy; cases hy
      rw [if_neg (by omega), if_pos (by omega)]
      unfold turnF; rw [if_pos ⟨hi, rfl⟩]; omega
    · have : turnF x.op.item h y = y := by
        unfold turnF; rw [if_neg]
        rintro ⟨h2, h3⟩
        exact e (hd p z y x hy hz h2 hi h3)
      rw [this]
      by_cases e' : z < p
      · rw [if_pos e', if_pos (by omega)]; omega
      · rw [if_neg e', if_neg (by omega)]; omega
theorem turn_at {m : List TMark} (hd : Dist m) {z : Nat} {x : TMark} (hz : m[z]? = some x) (hi : x.op.insert = true) (h : Bool) {i : Nat} {y : TMark} (hy : (turnM x.op.item h m)[i]? = some y) : (i = z ∧ y = ⟨x.op, h, x.took⟩) ∨ (i ≠ z ∧ m[i]? = some y) := by
  rw [turnM_get] at hy
  obtain ⟨y', h1, rfl⟩ := Option.map_eq_some_iff.1 hy
  by_cases e : i = z
  · subst e; rw [hz] at h1; cases h1
    exact .inl ⟨rfl, by unfold turnF; rw [if_pos ⟨hi, rfl⟩]⟩
  · refine .inr ⟨e, ?_⟩
    unfold turnF; rw [if_neg]
    · exact h1
    · rintro ⟨h2, h3⟩; exact e (hd i z y' x h1 hz h2 hi h3)
theorem ltI_turn {m : List TMark} {it : TItem} {h : Bool} {i j : Nat} (hl : ltI (turnM it h m) i j) : ltI m i j := by
  obtain ⟨x, y, h1, h2, h3⟩ := hl
  rw [turnM_get] at h1 h2
  obtain ⟨x', g1, rfl⟩ := Option.map_eq_some_iff.1 h1
  obtain ⟨y', g2, rfl⟩ := Option.map_eq_some_iff.1 h2
  rw [turnF_op, turnF_op] at h3
  exact ⟨x', y', g1, g2, h3⟩
theorem more_none {m : List TMark} {E : Int} {t : Nat} (h : PQ.More m.length t (atG m) (atS m) (ltI m) (hgt m E)) (hb : ∀ b, b < t → hgt m E b ≠ 0) : CertM m (E - 1) := by
  refine cert_congr (h.none hb) (fun _ _ => id) (fun _ _ => id) (fun _ _ => id) (fun p _ => ?_)
  have := hgt_base m E (-1) p
  rw [show E - 1 = E + -1 by omega, this]; show _ = hgt m E p - 1; omega
theorem gone_ex {m : List TMark} {E : Int} {b : Nat} (hb : hgt m E b = 0) : ∀ d, b + d ≤ m.length → 1 ≤ hgt m E (b + d) → ∃ i, b ≤ i ∧ i < b + d ∧ atG m i
  | 0, _, h => by rw [Nat.add_zero, hb] at h; omega
  | d + 1, hl, h => by
    obtain ⟨y, hy⟩ : ∃ y, m[b + d]? = some y := ⟨_, List.getElem?_eq_getElem (by omega)⟩
    rw [show b + (d + 1) = b + d + 1 by omega, hgt_succ hy] at h
    by_cases e : isG y
    · exact ⟨b + d, by omega, by omega, y, hy, e⟩
    · have : mwt y ≤ 0 := by
        unfold mwt
        by_cases h1 : y.op.insert = true
        · by_cases h2 : y.here = true
          · simp [h1, h2]
          · exact absurd ⟨h1, by simpa using h2⟩ e
        · rw [if_neg h1]; omega
      obtain ⟨i, h1, h2, h3⟩ := gone_ex hb d (by omega) (by omega)
      exact ⟨i, h1, by omega, h3⟩
theorem mem_drop_goneI {m : List TMark} {b : Nat} {x : TItem} : x ∈ goneI (m.drop b) ↔ ∃ (i : Nat) (y : TMark), b ≤ i ∧ m[i]? = some y ∧ isG y ∧ y.op.item = x := by
  rw [mem_goneI]
  constructor
  · rintro ⟨i, y, h1, h2⟩
    rw [List.getElem?_drop] at h1
    exact ⟨b + i, y, by omega, h1, h2⟩
  · rintro ⟨i, y, h0, h1, h2⟩
    exact ⟨i - b, y, by rw [List.getElem?_drop, show b + (i - b) = i by omega]; exact h1, h2⟩
theorem mem_take_hereI {m : List TMark} {b : Nat} {x : TItem} : x ∈ hereI (m.take b) ↔ ∃ (i : Nat) (y : TMark), i < b ∧ m[i]? = some y ∧ isS y ∧ y.op.item = x := by
  rw [mem_hereI]
  constructor
  · rintro ⟨i, y, h1, h2⟩
    obtain ⟨h3, h4⟩ := take_get h1
    exact ⟨i, y, h3, h4, h2⟩
  · rintro ⟨i, y, h0, h1, h2⟩
    exact ⟨i, y, by rw [List.getElem?_take, if_pos h0]; exact h1, h2⟩
theorem more_some {m : List TMark} {E : Int} {t b : Nat} (hd : Dist m) (h : PQ.More m.length t (atG m) (atS m) (ltI m) (hgt m E)) (hbt : b < t) (hb0 : hgt m E b = 0) (hb1 : ∀ q, b < q → q < t → hgt m E q ≠ 0) {best : TTook} (hm : IsMax (goneI (m.drop b)) best) :
    best.found = true ∧ CertM (turnM best.item true m) E ∧ ∃ (z : Nat) (x : TMark), m[z]? = some x ∧ isG x ∧ x.op.item = best.item ∧ b ≤ z := by
  have hle := h.le
  obtain ⟨i, h1, h2, y, h3, h4⟩ := gone_ex hb0 (m.length - b) (by omega) (by rw [show b + (m.length - b) = m.length by omega, h.fin]; omega)
  rcases hm with ⟨hn, _⟩ | ⟨g1, g2, g3⟩
  · have : y.op.item ∈ goneI (m.drop b) := mem_drop_goneI.2 ⟨i, y, h1, h3, h4, rfl⟩
    rw [hn] at this; cases this
  · obtain ⟨z, x, hz1, hz2, hz3, hz4⟩ := mem_drop_goneI.1 g2
    have hzn : z < m.length := (List.getElem?_eq_some_iff.1 hz2).1
    refine ⟨g1, ?_, z, x, hz2, hz3, hz4, hz1⟩
    have hC := h.some (z := z) (ltI_trans m) (ltI_irrefl m) hbt hb0 hb1 hz1 hzn ⟨x, hz2, hz3⟩ (fun j hj hbj hG => by
      obtain ⟨w, w1, w2⟩ := hG
      have := g3 _ (mem_drop_goneI.2 ⟨j, w, hbj, w1, w2, rfl⟩)
      rw [← hz4] at this
      by_cases e : j = z
      · exact .inl e
      · exact .inr ⟨w, x, w1, hz2, ilt_iff.2 ⟨this, fun e' => e (hd j z w x w1 hz2 w2.1 hz3.1 e')⟩⟩) (atG_S m)
    rw [← hz4]
    have hlen : (turnM x.op.item true m).length = m.length := turnM_len _ _ _
    unfold CertM; rw [hlen]
    refine cert_congr hC (fun j _ => ?_) (fun j _ => ?_) (fun _ _ => ltI_turn) (fun p hp => ?_)
    · rintro ⟨w, w1, w2⟩
      rcases turn_at hd hz2 hz3.1 true w1 with ⟨rfl, rfl⟩ | ⟨e, w3⟩
      · cases w2.2
      · exact ⟨⟨w, w3, w2⟩, e⟩
    · rintro ⟨w, w1, w2⟩
      rcases turn_at hd hz2 hz3.1 true w1 with ⟨rfl, rfl⟩ | ⟨e, w3⟩
      · exact .inr rfl
      · exact .inl ⟨w, w3, w2⟩
    · rw [hgt_turn hd hz2 hz3.1 E true p hp]
      have e1 : mwt x = 1 := by simp [mwt, hz3.1, hz3.2]
      have e2 : mwt ⟨x.op, true, x.took⟩ = 0 := by simp [mwt, hz3.1]
      rw [e1, e2]; show _ = hgt m E p - _
      split <;> omega
theorem less_all {m : List TMark} {E : Int} {t b : Nat} (hd : Dist m) (h : PQ.Less m.length t (atG m) (atS m) (ltI m) (hgt m E)) (hbt : t ≤ b) (hbn : b ≤ m.length) (hb0 : hgt m E b = -1) (hb1 : ∀ q, t ≤ q → q < b → hgt m E q ≠ -1) {least : TTook} (hm : IsMin (hereI (m.take b)) least) :
    (least.found = false ∧ CertM m (E + 1)) ∨ (least.found = true ∧ CertM (turnM least.item false m) E ∧ ∃ (z : Nat) (x : TMark), m[z]? = some x ∧ isS x ∧ x.op.item = least.item) := by
  rcases hm with ⟨hn, rfl⟩ | ⟨g1, g2, g3⟩
  · refine .inl ⟨rfl, ?_⟩
    refine cert_congr (h.none hbt hbn hb0 hb1 (fun j hj hS => ?_)) (fun _ _ => id) (fun _ _ => id) (fun _ _ => id) (fun p _ => hgt_base m E 1 p)
    obtain ⟨w, w1, w2⟩ := hS
    have : w.op.item ∈ hereI (m.take b) := mem_take_hereI.2 ⟨j, w, hj, w1, w2, rfl⟩
    rw [hn] at this; cases this
  · obtain ⟨z, x, hz1, hz2, hz3, hz4⟩ := mem_take_hereI.1 g2
    refine .inr ⟨g1, ?_, z, x, hz2, hz3, hz4⟩
    have hC := h.some (z := z) (ltI_trans m) (ltI_irrefl m) hbt hbn hb0 hb1 hz1 ⟨x, hz2, hz3⟩ (fun j hj hS => by
      obtain ⟨w, w1, w2⟩ := hS
      have := g3 _ (mem_take_hereI.2 ⟨j, w, hj, w1, w2, rfl⟩)
      rw [← hz4] at this
      by_cases e : j = z
      · exact .inl e
      · exact .inr ⟨x, w, hz2, w1, ilt_iff.2 ⟨this, fun e' => e (hd j z w x w1 hz2 w2.1 hz3.1 e'.symm)⟩⟩)
    rw [← hz4]
    have hlen : (turnM x.op.item false m).length = m.length := turnM_len _ _ _
    unfold CertM; rw [hlen]
    refine cert_congr hC (fun j _ => ?_) (fun j _ => ?_) (fun _ _ => ltI_turn) (fun p hp => ?_)
    · rintro ⟨w, w1, w2⟩
      rcases turn_at hd hz2 hz3.1 false w1 with ⟨rfl, rfl⟩ | ⟨e, w3⟩
      · exact .inr rfl
      · exact .inl ⟨w, w3, w2⟩
    · rintro ⟨w, w1, w2⟩
      rcases turn_at hd hz2 hz3.1 false w1 with ⟨rfl, rfl⟩ | ⟨e, w3⟩
      · cases w2.2
      · exact ⟨⟨w, w3, w2⟩, e⟩
    · rw [hgt_turn hd hz2 hz3.1 E false p hp]
      have e1 : mwt x = 0 := by simp [mwt, hz3.1, hz3.2]
      have e2 : mwt ⟨x.op, false, x.took⟩ = 1 := by simp [mwt, hz3.1]
      rw [e1, e2]; rfl
theorem take_app {α : Type} (A B : List α) (d : Nat) : (A ++ B).take (A.length + d) = A ++ B.take d := by
  rw [List.take_append, List.take_of_length_le (l := A) (by omega), show A.length + d - A.length = d by omega]
theorem get_sh (A B : List TMark) (x : TMark) (i : Nat) : (A ++ x :: B)[PQ.sh A.length i]? = (A ++ B)[i]? := by
  rcases PQ.sh_cases A.length i with ⟨h1, h2⟩ | ⟨h1, h2⟩
  · rw [h2, List.getElem?_append_left h1, List.getElem?_append_left h1]
  · rw [h2, List.getElem?_append_right (by omega), List.getElem?_append_right h1, show i + 1 - A.length = (i - A.length) + 1 by omega, List.getElem?_cons_succ]
theorem get_mid (A B : List TMark) (x : TMark) : (A ++ x :: B)[A.length]? = some x := by
  rw [List.getElem?_append_right (Nat.le_refl _), Nat.sub_self]; rfl
theorem hgt_lo (A B : List TMark) (E : Int) {p : Nat} (h : p ≤ A.length) : hgt (A ++ B) E p = hgt A E p := by
  unfold hgt wts; rw [List.map_append, List.take_append_of_le_length (by simpa using h)]
theorem ins_of (A B : List TMark) (x : TMark) (E : Int) : PQ.Ins (A ++ B).length A.length (mwt x) (atG (A ++ B)) (atS (A ++ B)) (ltI (A ++ B)) (hgt (A ++ B) E) (atG (A ++ x :: B)) (atS (A ++ x :: B)) (ltI (A ++ x :: B)) (hgt (A ++ x :: B) E) := by
  refine ⟨by simp, fun i => ?_, fun i => ?_, fun i j => ?_, fun p hp => ?_, fun p hp => ?_⟩
  · unfold atG; rw [get_sh]
  · unfold atS; rw [get_sh]
  · unfold ltI; rw [get_sh, get_sh]
  · rw [hgt_lo _ _ _ hp, hgt_lo _ _ _ hp]
  · unfold hgt wts
    obtain ⟨d, rfl⟩ : ∃ d, p = A.length + d := ⟨p - A.length, by omega⟩
    have e1 := take_app (A.map mwt) (mwt x :: B.map mwt) (d + 1)
    have e2 := take_app (A.map mwt) (B.map mwt) d
    rw [List.length_map] at e1 e2
    rw [List.map_append, List.map_append, List.map_cons, e2, show A.length + d + 1 = A.length + (d + 1) by omega, e1, List.take_succ_cons]
    simp only [List.sum_append, List.sum_cons]; omega
theorem edit_insert {A B : List TMark} {x : TMark} {E : Int} (hx : isG x) (hd : Dist (A ++ x :: B)) (hc : CertM (A ++ B) E) {v : Int} (hv : IsPrior (A ++ B) E A.length v) :
    (v = -1 ∧ CertM (A ++ x :: B) (E - 1)) ∨ ∃ b : Nat, v = b ∧ b ≤ A.length ∧ ∀ best, IsMax (goneI ((A ++ x :: B).drop b)) best →
      best.found = true ∧ CertM (turnM best.item true (A ++ x :: B)) E ∧ ∃ (z : Nat) (y : TMark), (A ++ x :: B)[z]? = some y ∧ isG y ∧ y.op.item = best.item := by
  have hw : mwt x = 1 := by simp [mwt, hx.1, hx.2]
  have hi := ins_of A B x E
  rw [hw] at hi
  have hm := hi.more (fun ⟨y, h1, h2⟩ => by rw [get_mid] at h1; cases h1; exact absurd (hx.2.symm.trans h2.2) (by decide)) hc
  have hlen : (A ++ x :: B).length = (A ++ B).length + 1 := by simp; omega
  rw [← hlen] at hm
  rcases hv with ⟨h1, h2⟩ | ⟨b, h1, h2, h3, h4⟩
  · refine .inl ⟨h1, more_none hm (fun b hb => ?_)⟩
    rw [hi.lo b (by omega)]
    intro e; exact h2 b (by omega) (by omega)
  · refine .inr ⟨b, h1, h2, fun best hb => ?_⟩
    have hA : A.length ≤ (A ++ B).length := by simp
    have hb0 : hgt (A ++ x :: B) E b = 0 := by rw [hi.lo b h2]; have := hc.low b (by omega); omega
    obtain ⟨g1, g2, z, y, g3, g4, g5, _⟩ := more_some hd hm (by omega) hb0 (fun q q1 q2 e => h4 q q1 (by omega) (by rw [← hi.lo q (by omega)]; omega)) hb
    exact ⟨g1, g2, z, y, g3, g4, g5⟩
theorem edit_delete {A B : List TMark} {x : TMark} {E : Int} (hx : x.op.insert = false) (hd : Dist (A ++ x :: B)) (hc : CertM (A ++ B) E) {v : Int} (hv : IsNext (A ++ B) E A.length v) :
    ∃ b : Nat, v = b ∧ b ≤ (A ++ B).length ∧ ∀ least, IsMin (hereI ((A ++ B).take b)) least → (least.found = false ∧ CertM (A ++ x :: B) (E + 1)) ∨
      (least.found = true ∧ CertM (turnM least.item false (A ++ x :: B)) E ∧ ∃ (z : Nat) (y : TMark), (A ++ B)[z]? = some y ∧ isS y ∧ y.op.item = least.item) := by
  have hw : mwt x = -1 := by simp [mwt, hx]
  have hi := ins_of A B x E
  rw [hw] at hi
  have hne : ∀ y, (A ++ x :: B)[A.length]? = some y → ¬ y.op.insert = true := fun y h1 h2 => by
    rw [get_mid] at h1; cases h1; rw [hx] at h2; cases h2
  have hm := hi.less (fun ⟨y, h1, h2⟩ => hne y h1 h2.1) (fun ⟨y, h1, h2⟩ => hne y h1 h2.1) hc
  have hlen : (A ++ x :: B).length = (A ++ B).length + 1 := by simp; omega
  rw [← hlen] at hm
  have hA : A.length ≤ (A ++ B).length := by simp
  rcases hv with ⟨h1, h2⟩ | ⟨b, h1, h2, h5, h3, h4⟩
  · exact absurd (by rw [hc.fin]; omega) (h2 (A ++ B).length hA (Nat.le_refl _))
  · refine ⟨b, h1, h5, fun least hl => ?_⟩
    have hb0 : hgt (A ++ B) E b = 0 := by have := hc.low b h5; omega
    have ht : hereI ((A ++ x :: B).take (b + 1)) = hereI ((A ++ B).take b) := by
      obtain ⟨d, rfl⟩ : ∃ d, b = A.length + d := ⟨b - A.length, by omega⟩
      rw [show A.length + d + 1 = A.length + (d + 1) by omega, take_app, take_app, List.take_succ_cons, hereI_app, hereI_app]
      congr 1
      simp [hereI, hx]
    rw [← ht] at hl
    rcases less_all hd hm (b := b + 1) (by omega) (by omega) (by rw [hi.hi b h2, hb0]; rfl) (fun q q1 q2 e => by
      have := hi.hi (q - 1) (by omega)
      rw [show q - 1 + 1 = q by omega] at this
      exact h4 (q - 1) (by omega) (by omega) (by omega)) hl with g | ⟨g1, g2, z, y, g3, g4, g5⟩
    · exact .inl g
    · refine .inr ⟨g1, g2, ?_⟩
      have hz : z ≠ A.length := by rintro rfl; exact hne y g3 g4.1
      obtain ⟨q, rfl⟩ := PQ.sh_ex hz
      rw [get_sh] at g3
      exact ⟨q, y, g3, g4, g5⟩
theorem edit_revD {A B : List TMark} {x : TMark} {E : Int} (hx : x.op.insert = false) (hd : Dist (A ++ B)) (hc : CertM (A ++ x :: B) E) {v : Int} (hv : IsPrior (A ++ x :: B) E A.length v) :
    (v = -1 ∧ CertM (A ++ B) (E - 1)) ∨ ∃ b : Nat, v = b ∧ b ≤ A.length ∧ ∀ best, IsMax (goneI ((A ++ x :: B).drop b)) best →
      best.found = true ∧ CertM (turnM best.item true (A ++ B)) E ∧ ∃ (z : Nat) (y : TMark), (A ++ B)[z]? = some y ∧ isG y ∧ y.op.item = best.item := by
  have hw : mwt x = -1 := by simp [mwt, hx]
  have hi := ins_of A B x E
  rw [hw] at hi
  have hlen : (A ++ x :: B).length = (A ++ B).length + 1 := by simp; omega
  have hc' := hc
  unfold CertM at hc'
  rw [hlen] at hc'
  have hm := hi.revD hc'
  have hA : A.length ≤ (A ++ B).length := by simp
  have ha : hgt (A ++ x :: B) E A.length ≠ 0 := fun e => by
    have h1 := hi.hi A.length (Nat.le_refl _); have h2 := hi.lo A.length (Nat.le_refl _); have h3 := hc'.low (A.length + 1) (by omega); omega
  rcases hv with ⟨h1, h2⟩ | ⟨b, h1, h2, h3, h4⟩
  · refine .inl ⟨h1, more_none hm (fun b hb => ?_)⟩
    rw [← hi.lo b (by omega)]
    intro e; exact h2 b (by omega) (by omega)
  · refine .inr ⟨b, h1, h2, fun best hb => ?_⟩
    have hb0 : hgt (A ++ x :: B) E b = 0 := by have := hc'.low b (by omega); omega
    have hbA : b < A.length := by
      rcases Nat.lt_or_ge b A.length with h | h
      · exact h
      · have : b = A.length := by omega
        subst this; exact absurd hb0 ha
    have ht : goneI ((A ++ x :: B).drop b) = goneI ((A ++ B).drop b) := by
      rw [List.drop_append_of_le_length h2, List.drop_append_of_le_length h2, goneI_app, goneI_app]
      congr 1
      simp [goneI, hx]
    rw [ht] at hb
    obtain ⟨g1, g2, z, y, g3, g4, g5, _⟩ := more_some hd hm hbA (by rw [← hi.lo b h2]; exact hb0) (fun q q1 q2 e => h4 q q1 (by omega) (by rw [hi.lo q (by omega)]; omega)) hb
    exact ⟨g1, g2, z, y, g3, g4, g5⟩
theorem edit_revG {A B : List TMark} {x : TMark} {E : Int} (hx : isG x) (hd : Dist (A ++ B)) (hc : CertM (A ++ x :: B) E) {v : Int} (hv : IsNext (A ++ x :: B) E (A.length + 1) v) :
    ∃ b : Nat, v = b ∧ b ≤ (A ++ x :: B).length ∧ ∀ least, IsMin (hereI ((A ++ x :: B).take b)) least → (least.found = false ∧ CertM (A ++ B) (E + 1)) ∨
      (least.found = true ∧ CertM (turnM least.item false (A ++ B)) E ∧ ∃ (z : Nat) (y : TMark), (A ++ B)[z]? = some y ∧ isS y ∧ y.op.item = least.item) := by
  have hw : mwt x = 1 := by simp [mwt, hx.1, hx.2]
  have hi := ins_of A B x E
  rw [hw] at hi
  have hlen : (A ++ x :: B).length = (A ++ B).length + 1 := by simp; omega
  have hc' := hc
  unfold CertM at hc'
  rw [hlen] at hc'
  have hm := hi.revG hc'
  have hA : A.length ≤ (A ++ B).length := by simp
  have h1a := hi.hi A.length (Nat.le_refl _)
  have h2a := hi.lo A.length (Nat.le_refl _)
  have h3a := hc'.low A.length (by omega)
  rcases hv with ⟨h1, h2⟩ | ⟨b, h1, h2, h5, h3, h4⟩
  · exact absurd (by rw [hc.fin]; omega) (h2 (A ++ x :: B).length (by omega) (Nat.le_refl _))
  · refine ⟨b, h1, h5, fun least hl => ?_⟩
    have hb0 : hgt (A ++ x :: B) E b = 0 := by have := hc.low b h5; omega
    have hbA : A.length + 2 ≤ b := by
      rcases Nat.lt_or_ge (A.length + 1) b with h | h
      · exact h
      · have : b = A.length + 1 := by omega
        subst this; omega
    have ht : hereI ((A ++ x :: B).take b) = hereI ((A ++ B).take (b - 1)) := by
      obtain ⟨d, rfl⟩ : ∃ d, b = A.length + d + 1 := ⟨b - 1 - A.length, by omega⟩
      rw [show A.length + d + 1 - 1 = A.length + d by omega, show A.length + d + 1 = A.length + (d + 1) by omega, take_app, take_app, List.take_succ_cons, hereI_app, hereI_app]
      congr 1
      simp [hereI, hx.1, hx.2]
    rw [ht] at hl
    have hbb := hi.hi (b - 1) (by omega)
    rw [show b - 1 + 1 = b by omega, hb0] at hbb
    exact less_all hd hm (b := b - 1) (by omega) (by omega) (by omega) (fun q q1 q2 e => by
      have := hi.hi q (by omega)
      exact h4 (q + 1) (by omega) (by omega) (by omega)) hl
theorem edit_revS {A B : List TMark} {x : TMark} {E : Int} (hx : isS x) (hc : CertM (A ++ x :: B) E) : CertM (A ++ B) E := by
  have hw : mwt x = 0 := by simp [mwt, hx.1, hx.2]
  have hi := ins_of A B x E
  rw [hw] at hi
  have hlen : (A ++ x :: B).length = (A ++ B).length + 1 := by simp; omega
  unfold CertM at hc
  rw [hlen] at hc
  exact hi.revS hc
end Go.Proofs.YtpeoalmhccmdiaaGreat
namespace Go.Proofs.YtpeoalmhccmdiaaGreat
open Go Go.Proofs.YtpeoalmhccmdiaaGreat.Sx
section
variable {E A : Type} {O : Ops E A} {k N : Nat} {G : E → Prop} {S : A → List E → Prop} {lt : E → E → Prop}
theorem all_ok (ok : OpsOk O k N G S lt) {p : PN E A} {L : List TRef} {B : Nat} (hP : PW p L B) : ∀ (n : Nat) {r : TRef} {t : Tr E} (out : List E), t.size < n → Rep S p r t → out.length + t.size < 4294967296 → Tree_all.r O k n p r out = some (out ++ t.toList)
  | 0, _, _, _, h, _, _ => by omega
  | n + 1, r, .nil, out, hn, hr, hb => by
    have e0 : (r.gen == 0) = true := by simpa using hr.nil_iff.2 rfl
    simp only [Tree_all.r, e0, cond_true, Tr.toList, List.append_nil]
  | n + 1, r, .node r0 e0 l u, out, hn, hr, hb => by
    obtain ⟨n1, g1, g2⟩ := get_ok ok hP hr
    obtain ⟨rfl, he, hl, hu, hlk⟩ := g2.node rfl
    have hg := hP.ne0 hlk
    have hsz : (Tr.node r e0 l u).size = l.size + 1 + u.size := rfl
    have hll := Tr.len_toList l
    simp only [Tree_all.r, hg, cond_false, g1, Option.bind_some]
    rw [all_ok ok hP n out (by omega) hl (by omega)]
    simp only [Option.bind_some]
    rw [decide_eq_true (by simp; omega)]
    simp only [cond_true]
    rw [all_ok ok hP n _ (by omega) hu (by simp; omega)]
    simp [Tr.toList, he]
theorem Gr.drop (ok : OpsOk O k N G S lt) (hk : N ≤ k) {p : PN E A} {r : TRef} {l : List E} {c : Int} {B : Nat} (h : Gr S lt G p r l c B) (e : E) (hN : l.length < N) :
    ∃ a m b, Cut lt e l a m b ∧ ((m = [] ∧ Tree_Drop.f O k p r e = some (O.zE, false, r, p)) ∨
      (∃ y r' p', m = [y] ∧ Tree_Drop.f O k p r e = some (y, true, r', p') ∧ Gr S lt G p' r' (a ++ b) c B)) := by
  obtain ⟨t, hP, hr, rfl⟩ := h.ex
  have hll := Tr.len_toList t
  obtain ⟨a, m, b, hcut, hres⟩ := drop_ok ok hk hP e k (by omega) hr hP.ld h.sorted h.good (by omega)
  refine ⟨a, m, b, hcut, ?_⟩
  unfold Tree_Drop.f Tree_drop.f
  rcases hres with ⟨h1, h3⟩ | ⟨y, r', p', t', x0, h1, h3, h4, h5⟩
  · exact .inl ⟨h1, by rw [h3]; rfl⟩
  · refine .inr ⟨y, r', p', h1, by rw [h3]; rfl, ⟨t', h5.pw.perm ?_, h5.rep, h4⟩, hcut.drop h.sorted, fun x hx => h.good x ?_, h5.cap.trans h.cap⟩
    · have := h5.refs.erase x0
      rw [List.erase_cons_head] at this
      exact this.symm
    · rw [hcut.eq]; rcases List.mem_append.1 hx with hx | hx <;> simp [hx]
theorem Gr.all (ok : OpsOk O k N G S lt) (hk : N ≤ k) {p : PN E A} {r : TRef} {l : List E} {c : Int} {B : Nat} (h : Gr S lt G p r l c B) (hN : l.length < N) : Tree_All.f O k p r = some l := by
  obtain ⟨t, hP, hr, rfl⟩ := h.ex
  have hbig := ok.big
  have hll := Tr.len_toList t
  unfold Tree_All.f Tree_all.f
  rw [all_ok ok hP k [] (by omega) hr (by simp; omega)]; rfl
end
end Go.Proofs.YtpeoalmhccmdiaaGreat
namespace Go.Proofs.YtpeoalmhccmdiaaGreat
open Go Go.Proofs.YtpeoalmhccmdiaaGreat.Sx
abbrev K1 : Nat := 1000001
abbrev ltM (a b : TMark) : Prop := a.op.time < b.op.time
theorem okM : OpsOk opsM K1 1000000 (fun _ => True) IsSwell ltM where
  cmp a b := by
    refine ⟨csgn a.op.time b.op.time, ?_, ?_⟩
    · show wave_Mark_Compare.f K1 a b = _
      unfold wave_Mark_Compare.f; rw [cmpCompare_eq]; rfl
    · unfold csgn ltM
      by_cases h1 : a.op.time < b.op.time
      · simp [h1]; omega
      · by_cases h2 : b.op.time < a.op.time
        · simp [h1, h2]
        · simp [h1, h2]
  sum e _ := markSum K1 (by decide) e
  plus h g _ hN := swellPlus K1 (by decide) h g hN
  zero := IsSwell.nil
  irrefl a := by simp
  trans := by intro a b c h1 h2; unfold ltM at *; omega
  left := by intro a b c h1 h2 h3; unfold ltM at *; omega
  right := by intro a b c h1 h2 h3; unfold ltM at *; omega
  big := by decide
abbrev GrM := Gr IsSwell ltM (fun _ : TMark => True)
abbrev ltS (a b : TSlot) : Prop := ilt a.item b.item
abbrev lenS' (s : TSize) (l : List TSlot) : Prop := s = (l.length : Int)
theorem isgn_lt' {a b : TItem} : isgn a b < 0 ↔ ilt a b := by
  unfold isgn
  by_cases h : ilt a b
  · simp [h]
  · by_cases h2 : ilt b a <;> simp [h, h2]
theorem isgn_gt' {a b : TItem} : isgn a b > 0 ↔ ilt b a := by
  unfold isgn
  by_cases h : ilt a b
  · have : ¬ ilt b a := by unfold ilt at *; omega
    simp [h, this]
  · by_cases h2 : ilt b a <;> simp [h, h2]
theorem slotCompare_eq (a b : TSlot) : shelf_Slot_Compare.f K1 a b = some (isgn a.item b.item) := by
  unfold shelf_Slot_Compare.f; rw [itemCompare_eq K1 (by decide)]; rfl
theorem okS : OpsOk opsS K1 1000000 (fun _ => True) lenS' ltS where
  cmp a b := ⟨isgn a.item b.item, slotCompare_eq a b, isgn_lt', isgn_gt'⟩
  sum e _ := ⟨1, rfl, rfl⟩
  plus := by
    rintro a b l r rfl rfl _ hN
    refine ⟨_, rfl, ?_⟩
    show w64 ((l.length : Int) + (r.length : Int)) = _
    rw [List.length_append] at hN
    rw [w64_id (by omega) (by omega), List.length_append]; omega
  zero := rfl
  irrefl a := ilt_irrefl _
  trans := by intro a b c h1 h2; unfold ltS ilt at *; omega
  left := by intro a b c h1 h2 h3; unfold ltS ilt at *; omega
  right := by intro a b c h1 h2 h3; unfold ltS ilt at *; omega
  big := by decide
abbrev GrS := Gr lenS' ltS (fun _ : TSlot => True)
theorem Gr.mono {E A : Type} {S : A → List E → Prop} {lt : E → E → Prop} {G : E → Prop} {p : PN E A} {r : TRef} {l : List E} {c : Int} {B B' : Nat} (h : Gr S lt G p r l c B) (hB : B ≤ B') (hs : B' < 4294967295) : Gr S lt G p r l c B' := by
  obtain ⟨⟨t, h1, h2⟩, h3, h4, h5⟩ := h
  exact ⟨⟨t, h1.mono hB hs, h2⟩, h3, h4, h5⟩
def clampN (m : List TMark) (p : Int) : Nat := (min (max p 0) (m.length : Int)).toNat
theorem clampN_le (m : List TMark) (p : Int) : clampN m p ≤ m.length := by unfold clampN; omega
theorem clampN_nat {m : List TMark} {i : Nat} (h : i ≤ m.length) : clampN m (i : Int) = i := by unfold clampN; omega
theorem clampN_eq (m : List TMark) (p : Int) : gmin (gmax p 0) (m.length : Int) = (clampN m p : Int) := by
  unfold clampN gmin gmax; split <;> split <;> omega
theorem seg_nat {α : Type} (m : List α) (i j : Nat) : seg m (i : Int) (j : Int) = (m.take j).drop i := by
  unfold seg
  rw [Int.toNat_natCast, Int.toNat_natCast]
theorem seg_clamp (m : List TMark) (p : Int) : seg m 0 p = seg m 0 (clampN m p : Int) := by
  unfold seg clampN
  simp only [Int.toNat_natCast]
  by_cases h : p ≤ m.length
  · rw [show (min (max p 0) (m.length : Int)).toNat = p.toNat by omega]
  · rw [List.take_of_length_le (by omega), List.take_of_length_le (by omega)]
section
variable {p : PN TMark TSwell} {r : TRef} {m : List TMark} {c : Int} {B : Nat}
theorem between_ok' (h : GrM p r m c B) (hl : m.length < 100000) (i j : Nat) : ∃ s, Tree_Between.f opsM K1 p r (i : Int) (j : Int) = some s ∧ IsSwell s ((m.take j).drop i) := by
  obtain ⟨s, s1, s2⟩ := h.between okM (by decide) (i : Int) (j : Int) (by omega)
  rw [seg_nat] at s2
  exact ⟨s, s1, s2⟩
theorem len_ok (h : GrM p r m c B) : Tree_Len.f opsM K1 p r = some (m.length : Int) := h.len okM
theorem height_ok (h : GrM p r m c B) (hl : m.length < 100000) (i base : Int) : bridge_Height.f K1 p r i base = some (w64 (base + ((wts m).take (clampN m i)).sum)) := by
  obtain ⟨s, s1, s2⟩ := h.between okM (by decide) 0 i (by omega)
  rw [seg_clamp] at s2
  have e' : seg m 0 (clampN m i : Int) = (m.take (clampN m i)).drop 0 := seg_nat m 0 (clampN m i)
  rw [e', List.drop_zero] at s2
  unfold bridge_Height.f
  rw [s1]
  simp only [Option.bind_some, s2.weight, tideF]
  congr 3
  simp [List.map_take, wts]
end
section
variable {E : Type} {P : List E → List E → Bool}
theorem first_spec {L : List E} {H : Nat → Int} (hP : ∀ i x, L[i]? = some x → P (L.take i) [x] = decide (H (i + 1) ≤ 0)) (s : Int) : ∀ n, n ≤ L.length →
    (firstF P [] (L.take n) s = -1 ∧ ∀ i : Nat, s ≤ i → i < n → ¬ H (i + 1) ≤ 0) ∨ ∃ i : Nat, firstF P [] (L.take n) s = i ∧ s ≤ i ∧ i < n ∧ H (i + 1) ≤ 0 ∧ ∀ j : Nat, s ≤ j → j < i → ¬ H (j + 1) ≤ 0
  | 0, _ => .inl ⟨by simp [firstF], fun i _ h => by omega⟩
  | n + 1, h => by
    obtain ⟨x, hx, _⟩ := drop_cons (l := L) (i := n) (by omega)
    have ht : L.take (n + 1) = L.take n ++ [x] := by rw [List.take_add_one, hx]; rfl
    have happ := firstF_append (P := P) [] (L.take n) [x] s
    have hlen : (L.take n).length = n := by rw [List.length_take]; omega
    rw [← ht, hlen, List.nil_append] at happ
    have h1 : firstF P (L.take n) [x] (s - n) = if s - n ≤ 0 ∧ P (L.take n) [x] = true then 0 else -1 := by rw [firstF]; simp [firstF]
    rw [h1, hP n x hx] at happ
    rcases first_spec hP s n (by omega) with ⟨a1, a2⟩ | ⟨i, a1, a2, a3, a4, a5⟩
    · rw [a1, if_neg (by omega)] at happ
      by_cases hc : s - n ≤ 0 ∧ decide (H (n + 1) ≤ 0) = true
      · rw [if_pos hc, if_pos (by omega)] at happ
        exact .inr ⟨n, by omega, by omega, by omega, of_decide_eq_true hc.2, a2⟩
      · rw [if_neg hc, if_neg (by omega)] at happ
        refine .inl ⟨happ, fun i h1 h2 h3 => ?_⟩
        by_cases hi : i = n
        · subst hi; exact hc ⟨by omega, decide_eq_true h3⟩
        · exact a2 i h1 (by omega) h3
    · rw [a1, if_pos (by omega)] at happ
      exact .inr ⟨i, happ, a2, by omega, a4, a5⟩
theorem last_spec {L : List E} {H : Nat → Int} (hP : ∀ i x, L[i]? = some x → P (L.take i) [x] = decide (H (i + 1) ≤ 0)) (s : Int) : ∀ n, n ≤ L.length →
    (lastF P [] (L.take n) s = -1 ∧ ∀ i : Nat, (i : Int) < s → i < n → ¬ H (i + 1) ≤ 0) ∨ ∃ i : Nat, lastF P [] (L.take n) s = i ∧ (i : Int) < s ∧ i < n ∧ H (i + 1) ≤ 0 ∧ ∀ j : Nat, i < j → (j : Int) < s → j < n → ¬ H (j + 1) ≤ 0
  | 0, _ => .inl ⟨by simp [lastF], fun i _ h => by omega⟩
  | n + 1, h => by
    obtain ⟨x, hx, _⟩ := drop_cons (l := L) (i := n) (by omega)
    have ht : L.take (n + 1) = L.take n ++ [x] := by rw [List.take_add_one, hx]; rfl
    have happ := lastF_append (P := P) [] (L.take n) [x] s
    have hlen : (L.take n).length = n := by rw [List.length_take]; omega
    rw [← ht, hlen, List.nil_append] at happ
    have h1 : lastF P (L.take n) [x] (s - n) = if s - n > 0 ∧ P (L.take n) [x] = true then 0 else -1 := by rw [lastF]; simp [lastF]
    rw [h1, hP n x hx] at happ
    by_cases hc : s - n > 0 ∧ decide (H (n + 1) ≤ 0) = true
    · rw [if_pos hc, if_pos (by omega)] at happ
      exact .inr ⟨n, by omega, by omega, by omega, of_decide_eq_true hc.2, fun j h1 h2 h3 => by omega⟩
    · rw [if_neg hc, if_neg (by omega)] at happ
      have hno : (n : Int) < s → ¬ H (n + 1) ≤ 0 := fun h1 h3 => hc ⟨by omega, decide_eq_true h3⟩
      rcases last_spec hP s n (by omega) with ⟨a1, a2⟩ | ⟨i, a1, a2, a3, a4, a5⟩
      · refine .inl ⟨by rw [happ, a1], fun i g1 g2 => ?_⟩
        by_cases hi : i = n
        · subst hi; exact hno g1
        · exact a2 i g1 (by omega)
      · refine .inr ⟨i, by rw [happ, a1], a2, by omega, a4, fun j g1 g2 g3 => ?_⟩
        by_cases hj : j = n
        · subst hj; exact hno g2
        · exact a5 j g1 g2 (by omega)
end
def fallB (base : Int) (l u : List TMark) : Bool := decide (u ≠ []) && decide (base + (l.map mwt).sum + lowF (u.map mwt) ≤ 0)
abbrev SmallB (base : Int) : Prop := -1099511627776 ≤ base ∧ base ≤ 1099511627776
theorem fall_ok {base : Int} (hb : SmallB base) : PredOk 1000000 (fun _ => True) IsSwell (fallB base) (fun a b => bridge_low_1.f K1 a b base) where
  run := by
    intro a b l u hl hu _ hN
    have h1 := sum_bound (small_wt l)
    have h2 := low_bound (small_wt u)
    simp only [List.length_append] at hN
    simp only [List.length_map] at h1 h2
    unfold bridge_low_1.f fallB
    rw [hl.weight, hu.weight]
    unfold SmallB at hb
    cases u with
    | nil => simp [tideF]
    | cons x v =>
      have e0 : decide ((tideF ((x :: v).map mwt)).n > 0) = true := by simp [tideF]
      simp only [List.length_cons] at hN h2
      have hw : w64 (w64 (base + (tideF (l.map mwt)).sum) + (tideF ((x :: v).map mwt)).low) = base + (l.map mwt).sum + lowF ((x :: v).map mwt) := by
        have e1 : w64 (base + (tideF (l.map mwt)).sum) = base + (l.map mwt).sum := w64_id (x := base + (l.map mwt).sum) (by omega) (by omega)
        rw [e1]
        exact w64_id (x := base + (l.map mwt).sum + lowF ((x :: v).map mwt)) (by omega) (by omega)
      rw [e0]
      simp only [cond_true, hw]
      simp
  nil l := by simp [fallB]
  app l m n := by
    unfold fallB
    by_cases hm : m = []
    · subst hm; simp
    · by_cases hn : n = []
      · subst hn; simp
      · have h1 : lowF ((m ++ n).map mwt) = min (lowF (m.map mwt)) ((m.map mwt).sum + lowF (n.map mwt)) := by
          rw [List.map_append, lowF_append _ _ (by simpa using hm) (by simpa using hn)]
        have h2 : ((l ++ m).map mwt).sum = (l.map mwt).sum + (m.map mwt).sum := by simp
        rw [h1, h2]
        have h3 : m ++ n ≠ [] := by simp [hm]
        simp only [h3, hm, hn, ne_eq, not_false_eq_true, decide_true, Bool.true_and]
        rw [← Bool.decide_or]
        congr 1
        apply propext
        omega
theorem fall_at (m : List TMark) (base : Int) (i : Nat) (x : TMark) (hx : m[i]? = some x) : fallB base (m.take i) [x] = decide (hgt m base (i + 1) ≤ 0) := by
  unfold fallB hgt
  have ht : (wts m).take (i + 1) = (m.take i).map mwt ++ [mwt x] := by
    rw [List.map_take, List.take_add_one]
    simp only [wts, List.getElem?_map, hx]
    rfl
  rw [ht, List.sum_append]
  simp [lowF, Int.add_assoc]
theorem hgt_bound {m : List TMark} (hm : m.length < 100000) {base : Int} (hb : SmallB base) (n : Nat) : -4611686018427387904 ≤ hgt m base n ∧ hgt m base n ≤ 4611686018427387904 := by
  have h := sum_bound (ns := (wts m).take n) ((small_wt m).take n)
  have h2 : ((wts m).take n).length ≤ m.length := by simp [wts]; omega
  unfold hgt SmallB at *
  generalize (wts m).take n = q at *
  omega
section
variable {p : PN TMark TSwell} {r : TRef} {m : List TMark} {c : Int} {B : Nat}
theorem height_at (h : GrM p r m c B) (hl : m.length < 100000) {base : Int} (hb : SmallB base) (n : Nat) (hn : n ≤ m.length) : bridge_Height.f K1 p r (n : Int) base = some (hgt m base n) := by
  have hc : clampN m (n : Int) = n := by unfold clampN; omega
  have hb2 := hgt_bound hl hb n
  rw [height_ok h hl, hc]
  congr 1
  exact w64_id (x := hgt m base n) (by omega) (by omega)
theorem next_ok (h : GrM p r m c B) (hl : m.length < 100000) {base : Int} (hb : SmallB base) (i : Int) : ∃ v, bridge_Next.f K1 p r i base = some v ∧ IsNext m base (clampN m i) v := by
  have hc := clampN_le m i
  have q1 := h.first okM (by decide) (fall_ok hb) (clampN m i : Int) (by omega)
  unfold bridge_Next.f bridge_clamp.f bridge_low.f
  simp only [len_ok h, Option.bind_some, clampN_eq, height_at h hl hb _ hc, q1]
  by_cases h0 : hgt m base (clampN m i) ≤ 0
  · simp only [h0, decide_true, cond_true]
    exact ⟨_, rfl, .inr ⟨_, rfl, Nat.le_refl _, hc, h0, fun q h1 h2 => by omega⟩⟩
  · simp only [h0, decide_false, cond_false]
    have hs := first_spec (L := m) (H := hgt m base) (fall_at m base) (clampN m i : Int) m.length (by simp)
    rw [List.take_of_length_le (by simp)] at hs
    rcases hs with ⟨a1, a2⟩ | ⟨j, a1, a2, a3, a4, a5⟩
    · rw [a1]
      refine ⟨-1, rfl, .inl ⟨rfl, fun j h1 h2 => ?_⟩⟩
      by_cases hj : j = clampN m i
      · subst hj; exact h0
      · obtain ⟨q, rfl⟩ : ∃ q, j = q + 1 := ⟨j - 1, by omega⟩
        exact a2 q (by omega) (by omega)
    · rw [a1]
      have e0 : decide ((j : Int) ≥ 0) = true := by simp
      simp only [e0, cond_true]
      rw [w64_succ (by omega)]
      refine ⟨_, rfl, .inr ⟨j + 1, rfl, by omega, by omega, a4, fun q h1 h2 => ?_⟩⟩
      by_cases hq : q = clampN m i
      · subst hq; exact h0
      · obtain ⟨z, rfl⟩ : ∃ z, q = z + 1 := ⟨q - 1, by omega⟩
        exact a5 z (by omega) (by omega)
theorem prior_ok (h : GrM p r m c B) (hl : m.length < 100000) {base : Int} (hb : SmallB base) (i : Int) : ∃ v, bridge_Prior.f K1 p r i base = some v ∧ IsPrior m base (clampN m i) v := by
  have hc := clampN_le m i
  have q1 := h.last okM (by decide) (fall_ok hb) (clampN m i : Int) (by omega)
  have h00 : hgt m base 0 = base := by simp [hgt]
  unfold bridge_Prior.f bridge_clamp.f bridge_low.f
  simp only [len_ok h, Option.bind_some, clampN_eq, q1]
  have hs := last_spec (L := m) (H := hgt m base) (fall_at m base) (clampN m i : Int) m.length (by simp)
  rw [List.take_of_length_le (by simp)] at hs
  rcases hs with ⟨a1, a2⟩ | ⟨j, a1, a2, a3, a4, a5⟩
  · rw [a1]
    have hpos : ∀ q, 0 < q → q ≤ clampN m i → ¬ hgt m base q ≤ 0 := fun q h1 h2 => by
      obtain ⟨z, rfl⟩ : ∃ z, q = z + 1 := ⟨q - 1, by omega⟩
      exact a2 z (by omega) (by omega)
    have e0 : decide ((-1 : Int) ≥ 0) = false := rfl
    simp only [e0, cond_false]
    by_cases hb0 : base ≤ 0
    · simp only [hb0, decide_true, cond_true]
      exact ⟨_, rfl, .inr ⟨0, rfl, by omega, by rw [h00]; exact hb0, fun q h1 h2 => hpos q h1 h2⟩⟩
    · simp only [hb0, decide_false, cond_false]
      refine ⟨-1, rfl, .inl ⟨rfl, fun j hj => ?_⟩⟩
      by_cases hj0 : j = 0
      · subst hj0; rw [h00]; exact hb0
      · exact hpos j (by omega) hj
  · rw [a1]
    have e0 : decide ((j : Int) ≥ 0) = true := by simp
    simp only [e0, cond_true]
    rw [w64_succ (by omega)]
    refine ⟨_, rfl, .inr ⟨j + 1, rfl, by omega, a4, fun q h1 h2 => ?_⟩⟩
    obtain ⟨z, rfl⟩ : ∃ z, q = z + 1 := ⟨q - 1, by omega⟩
    exact a5 z (by omega) (by omega) (by omega)
end
end Go.Proofs.YtpeoalmhccmdiaaGreat
namespace Go.Proofs.YtpeoalmhccmdiaaGreat
open Go Go.Proofs.YtpeoalmhccmdiaaGreat.Sx
def keyM (t : Int) : TMark := ⟨⟨t, false, zTItem⟩, false, zTTook⟩
theorem key_ok (t : Int) : wave_Key.f K1 t = some (keyM t) := rfl
def slot (x : TItem) : TSlot := ⟨x, false, 0⟩
abbrev sls (l : List TItem) : List TSlot := l.map slot
theorem of_ok (x : TItem) : shelf_Of.f K1 x = some (slot x) := rfl
structure CutM (t : Int) (m A M D : List TMark) : Prop where
  eq : m = A ++ (M ++ D)
  la : ∀ x ∈ A, x.op.time < t
  lb : ∀ x ∈ D, t < x.op.time
  lm : M = [] ∨ ∃ y, M = [y] ∧ y.op.time = t
theorem CutM.of {e : TMark} {m a mm b : List TMark} (h : Cut ltM e m a mm b) : CutM e.op.time m a mm b :=
  ⟨h.eq, h.la, h.lb, h.lm.imp id (fun ⟨y, h1, h2, h3⟩ => ⟨y, h1, by unfold ltM at h2 h3; omega⟩)⟩
theorem CutM.fA {t : Int} {m A M D : List TMark} (h : CutM t m A M D) : m.filter (fun x => decide (x.op.time < t)) = A := by
  rw [h.eq, List.filter_append, List.filter_append]
  have h1 : A.filter (fun x => decide (x.op.time < t)) = A := List.filter_eq_self.2 (fun x hx => by simpa using h.la x hx)
  have h2 : D.filter (fun x => decide (x.op.time < t)) = [] := List.filter_eq_nil_iff.2 (fun x hx => by have := h.lb x hx; simp; omega)
  have h3 : M.filter (fun x => decide (x.op.time < t)) = [] := List.filter_eq_nil_iff.2 (fun x hx => by
    rcases h.lm with h4 | ⟨y, h4, h5⟩
    · subst h4; cases hx
    · subst h4; rw [List.mem_singleton.1 hx]; simp; omega)
  rw [h1, h2, h3]; simp
theorem CutM.fD {t : Int} {m A M D : List TMark} (h : CutM t m A M D) : m.filter (fun x => decide (t < x.op.time)) = D := by
  rw [h.eq, List.filter_append, List.filter_append]
  have h1 : A.filter (fun x => decide (t < x.op.time)) = [] := List.filter_eq_nil_iff.2 (fun x hx => by have := h.la x hx; simp; omega)
  have h2 : D.filter (fun x => decide (t < x.op.time)) = D := List.filter_eq_self.2 (fun x hx => by simpa using h.lb x hx)
  have h3 : M.filter (fun x => decide (t < x.op.time)) = [] := List.filter_eq_nil_iff.2 (fun x hx => by
    rcases h.lm with h4 | ⟨y, h4, h5⟩
    · subst h4; cases hx
    · subst h4; rw [List.mem_singleton.1 hx]; simp; omega)
  rw [h1, h2, h3]; simp
theorem CutM.unique {t : Int} {m A M D A' M' D' : List TMark} (h : CutM t m A M D) (g : CutM t m A' M' D') : A = A' ∧ M = M' ∧ D = D' := by
  have e1 : A = A' := h.fA.symm.trans g.fA
  have e2 : D = D' := h.fD.symm.trans g.fD
  subst e1 e2
  have := h.eq.symm.trans g.eq
  exact ⟨rfl, List.append_cancel_right (List.append_cancel_left this), rfl⟩
theorem CutM.mem {t : Int} {m A M D : List TMark} (h : CutM t m A M D) {x : TMark} (hx : x ∈ m) (ht : x.op.time = t) : M = [x] := by
  rw [h.eq] at hx
  rcases List.mem_append.1 hx with hx | hx
  · have := h.la x hx; omega
  · rcases List.mem_append.1 hx with hx | hx
    · rcases h.lm with h1 | ⟨y, h1, h2⟩
      · subst h1; cases hx
      · subst h1; rw [List.mem_singleton.1 hx]
    · have := h.lb x hx; omega
def fnd : List TMark → TMark × Bool
  | y :: _ => (y, true)
  | [] => (zTMark, false)
section
variable {p : PN TMark TSwell} {r : TRef} {m A M D : List TMark} {c : Int} {B : Nat} {t : Int}
theorem mcut (h : GrM p r m c B) (hl : m.length < 100000) (t : Int) : ∃ A M D, CutM t m A M D := by
  obtain ⟨a, mm, b, h1, _⟩ := h.find okM (by decide) (keyM t) (by omega)
  exact ⟨a, mm, b, .of h1⟩
theorem mfind (h : GrM p r m c B) (hl : m.length < 100000) (hc : CutM t m A M D) : Tree_Find.f opsM K1 p r (keyM t) = some (fnd M) := by
  obtain ⟨a, mm, b, h1, h2⟩ := h.find okM (by decide) (keyM t) (by omega)
  obtain ⟨rfl, rfl, rfl⟩ := hc.unique (.of h1)
  rw [h2]; cases M <;> rfl
theorem mrank (h : GrM p r m c B) (hl : m.length < 100000) (hc : CutM t m A M D) : Tree_Rank.f opsM K1 p r (keyM t) = some (A.length : Int) := by
  obtain ⟨a, mm, b, h1, h2⟩ := h.rank okM (by decide) (keyM t) (by omega)
  obtain ⟨rfl, rfl, rfl⟩ := hc.unique (.of h1)
  exact h2
theorem mput (h : GrM p r m c B) (hl : m.length < 100000) (hB : B < 1000000) (x : TMark) (hc : CutM x.op.time m A M D) (hcap : M = [] → (m.length : Int) ≠ c) : ∃ r' p', Tree_Put.f opsM K1 p r x = some (true, r', p') ∧ GrM p' r' (A ++ x :: D) c (B + 1) := by
  obtain ⟨a, mm, b, h1, h2⟩ := h.put okM (by decide) x trivial (by omega) (by omega)
  obtain ⟨rfl, rfl, rfl⟩ := hc.unique (.of h1)
  rcases h2 with ⟨g1, g2, _⟩ | ⟨r', p', _, g2, g3⟩
  · exact absurd g2 (hcap g1)
  · exact ⟨r', p', g2, g3⟩
theorem mdrop (h : GrM p r m c B) (hl : m.length < 100000) {y : TMark} (hc : CutM t m A [y] D) : ∃ r' p', Tree_Drop.f opsM K1 p r (keyM t) = some (y, true, r', p') ∧ GrM p' r' (A ++ D) c B := by
  obtain ⟨a, mm, b, h1, h2⟩ := h.drop okM (by decide) (keyM t) (by omega)
  obtain ⟨rfl, e, rfl⟩ := hc.unique (.of h1)
  rcases h2 with ⟨g1, _⟩ | ⟨y', r', p', g1, g2, g3⟩
  · rw [g1] at e; cases e
  · rw [g1] at e; cases e
    exact ⟨r', p', g2, g3⟩
end
section
variable {p : PN TSlot TSize} {r : TRef} {T : List TSlot} {c : Int} {B : Nat}
theorem scut_item {s : TSlot} {a mm b : List TSlot} (h : Cut ltS s T a mm b) : (mm = [] ∧ ∀ s' ∈ T, s'.item ≠ s.item) ∨ ∃ y, mm = [y] ∧ y.item = s.item := by
  have hne : ∀ x, ltS x s ∨ ltS s x → x.item ≠ s.item := fun x hx e => by
    unfold ltS at hx; rw [e] at hx; exact hx.elim (ilt_irrefl _) (ilt_irrefl _)
  rcases h.lm with h1 | ⟨y, h1, h2, h3⟩
  · refine .inl ⟨h1, fun s' hs => ?_⟩
    rw [h.eq, h1] at hs
    rcases List.mem_append.1 hs with hs | hs
    · exact hne s' (.inl (h.la s' hs))
    · exact hne s' (.inr (h.lb s' hs))
  · exact .inr ⟨y, h1, item_eq h3 h2⟩
theorem sfind (h : GrS p r T c B) (hl : T.length < 100000) (x : TItem) : ∃ s b, Tree_Find.f opsS K1 p r (slot x) = some (s, b) ∧ ((b = true ∧ s ∈ T ∧ s.item = x) ∨ (b = false ∧ ∀ s' ∈ T, s'.item ≠ x)) := by
  obtain ⟨a, mm, b, h1, h2⟩ := h.find okS (by decide) (slot x) (by omega)
  rcases scut_item h1 with ⟨rfl, h3⟩ | ⟨y, rfl, h3⟩
  · exact ⟨_, _, h2, .inr ⟨rfl, h3⟩⟩
  · exact ⟨_, _, h2, .inl ⟨rfl, by rw [h1.eq]; simp, h3⟩⟩
theorem sput (h : GrS p r T c B) (hl : T.length < 100000) (hB : B < 1000000) (s : TSlot) (hn : ∀ s' ∈ T, s'.item ≠ s.item) (hcap : (T.length : Int) ≠ c) : ∃ r' p' T', Tree_Put.f opsS K1 p r s = some (true, r', p') ∧ GrS p' r' T' c (B + 1) ∧ T'.Perm (s :: T) := by
  obtain ⟨a, mm, b, h1, h2⟩ := h.put okS (by decide) s trivial (by omega) (by omega)
  have hm : mm = [] := by
    rcases scut_item h1 with ⟨h3, _⟩ | ⟨y, h3, h4⟩
    · exact h3
    · exact absurd h4 (hn y (by rw [h1.eq, h3]; simp))
  rcases h2 with ⟨_, g2, _⟩ | ⟨r', p', _, g2, g3⟩
  · exact absurd g2 hcap
  · refine ⟨r', p', _, g2, g3, ?_⟩
    have e := h1.eq; rw [hm, List.nil_append] at e; rw [e]
    exact List.perm_middle
theorem sdrop (h : GrS p r T c B) (hl : T.length < 100000) (x : TItem) : ∃ e b r' p' T', Tree_Drop.f opsS K1 p r (slot x) = some (e, b, r', p') ∧ GrS p' r' T' c B ∧ ((∃ s, s.item = x ∧ T.Perm (s :: T')) ∨ ((∀ s ∈ T, s.item ≠ x) ∧ T' = T)) := by
  obtain ⟨a, mm, b, h1, h2⟩ := h.drop okS (by decide) (slot x) (by omega)
  rcases h2 with ⟨g1, g2⟩ | ⟨y, r', p', g1, g2, g3⟩
  · refine ⟨_, _, r, p, T, g2, h, .inr ⟨?_, rfl⟩⟩
    rcases scut_item h1 with ⟨_, h3⟩ | ⟨y, h3, _⟩
    · exact h3
    · rw [g1] at h3; cases h3
  · refine ⟨_, _, r', p', a ++ b, g2, g3, .inl ⟨y, ?_, ?_⟩⟩
    · rcases scut_item h1 with ⟨h3, _⟩ | ⟨y', h3, h4⟩
      · rw [g1] at h3; cases h3
      · rw [g1] at h3; cases h3; exact h4
    · rw [h1.eq, g1]; exact List.perm_middle
end
def slotsOf (m : List TMark) : List TSlot := (m.filter (·.op.insert)).map (fun x => ⟨x.op.item, true, x.op.time⟩)
theorem slotsOf_app (a b : List TMark) : slotsOf (a ++ b) = slotsOf a ++ slotsOf b := by simp [slotsOf]
theorem mem_slotsOf {m : List TMark} {s : TSlot} : s ∈ slotsOf m ↔ ∃ x ∈ m, x.op.insert = true ∧ s = ⟨x.op.item, true, x.op.time⟩ := by
  unfold slotsOf
  simp only [List.mem_map, List.mem_filter]
  constructor
  · rintro ⟨x, ⟨h1, h2⟩, rfl⟩; exact ⟨x, h1, h2, rfl⟩
  · rintro ⟨x, h1, h2, rfl⟩; exact ⟨x, ⟨h1, h2⟩, rfl⟩
theorem Dist.eq {m : List TMark} (h : Dist m) {x y : TMark} (hx : x ∈ m) (hy : y ∈ m) (h1 : x.op.insert = true) (h2 : y.op.insert = true) (h3 : x.op.item = y.op.item) : x = y := by
  obtain ⟨i, hi⟩ := List.mem_iff_getElem?.1 hx
  obtain ⟨j, hj⟩ := List.mem_iff_getElem?.1 hy
  have := h i j x y hi hj h1 h2 h3
  subst this; rw [hi] at hj; cases hj; rfl
theorem len_split (m : List TMark) : (hereI m).length + (goneI m).length ≤ m.length := by
  induction m with
  | nil => simp [hereI, goneI]
  | cons x m ih =>
    have h1 := hereI_app [x] m; have h2 := goneI_app [x] m
    rw [List.singleton_append] at h1 h2
    rw [h1, h2]
    simp only [List.length_append, List.length_cons]
    have : (hereI [x]).length + (goneI [x]).length ≤ 1 := by
      unfold hereI goneI
      cases hi : x.op.insert <;> cases hh : x.here <;> simp [hi, hh]
    omega
theorem len_slots (m : List TMark) : (slotsOf m).length ≤ m.length := by
  unfold slotsOf; rw [List.length_map]; exact List.length_filter_le ..
structure QRep (q : TQueue) (m : List TMark) (c : Int) (B : Nat) : Prop where
  cap : q.capacity = c
  marks : GrM q.marks.p q.marks.r m c B
  pres : ∃ T, GrS q.present.p q.present.r T c B ∧ T.Perm (sls (hereI m))
  gone : ∃ T, GrS q.gone.p q.gone.r T c B ∧ T.Perm (sls (goneI m))
  times : ∃ T, GrS q.times.p q.times.r T c B ∧ T.Perm (slotsOf m)
  dist : Dist m
  len : (m.length : Int) ≤ c
  lim : m.length ≤ 100
  bnd : B < 900000
  plain : ∀ x ∈ m, x.took = zTTook ∧ (x.op.insert = false → x.here = false ∧ x.op.item = zTItem)
theorem turnM_mid {A D : List TMark} {x : TMark} (hd : Dist (A ++ x :: D)) (hi : x.op.insert = true) (h : Bool) : turnM x.op.item h (A ++ x :: D) = A ++ ⟨x.op, h, x.took⟩ :: D := by
  apply List.ext_getElem?
  intro i
  rw [turnM_get]
  by_cases e : i = A.length
  · subst e
    rw [get_mid, get_mid, Option.map_some]
    unfold turnF; rw [if_pos ⟨hi, rfl⟩]
  · obtain ⟨q, rfl⟩ := PQ.sh_ex e
    rw [get_sh, get_sh]
    cases hq : (A ++ D)[q]? with
    | none => rfl
    | some y =>
      rw [Option.map_some]
      unfold turnF; rw [if_neg]
      rintro ⟨h3, h4⟩
      exact e (hd _ A.length y x (by rw [get_sh]; exact hq) (get_mid A D x) h3 hi h4)
theorem hereI_mid (A D : List TMark) (x : TMark) : hereI (A ++ x :: D) = hereI A ++ (hereI [x] ++ hereI D) := by
  rw [hereI_app, ← List.singleton_append (l := D), hereI_app]
theorem goneI_mid (A D : List TMark) (x : TMark) : goneI (A ++ x :: D) = goneI A ++ (goneI [x] ++ goneI D) := by
  rw [goneI_app, ← List.singleton_append (l := D), goneI_app]
theorem slotsOf_mid (A D : List TMark) (x : TMark) : slotsOf (A ++ x :: D) = slotsOf A ++ (slotsOf [x] ++ slotsOf D) := by
  rw [slotsOf_app, ← List.singleton_append (l := D), slotsOf_app]
theorem one_S {x : TMark} (h : isS x) : hereI [x] = [x.op.item] ∧ goneI [x] = [] := by simp [hereI, goneI, h.1, h.2]
theorem one_G {x : TMark} (h : isG x) : hereI [x] = [] ∧ goneI [x] = [x.op.item] := by simp [hereI, goneI, h.1, h.2]
theorem one_D {x : TMark} (h : x.op.insert = false) : hereI [x] = [] ∧ goneI [x] = [] ∧ slotsOf [x] = [] := by simp [hereI, goneI, slotsOf, h]
theorem one_I {x : TMark} (h : x.op.insert = true) : slotsOf [x] = [⟨x.op.item, true, x.op.time⟩] := by simp [slotsOf, h]
theorem sls_item {l : List TItem} {s : TSlot} (h : s ∈ sls l) : s = slot s.item ∧ s.item ∈ l := by
  obtain ⟨y, h1, rfl⟩ := List.mem_map.1 h
  exact ⟨rfl, h1⟩
theorem perm_less {T T' : List TSlot} {l l' : List TItem} {x : TItem} {s : TSlot} (h1 : T.Perm (sls l)) (h2 : l.Perm (x :: l')) (h3 : T.Perm (s :: T')) (h4 : s.item = x) : T'.Perm (sls l') := by
  have hs : s ∈ sls l := h1.mem_iff.1 (h3.mem_iff.2 List.mem_cons_self)
  have e : s = slot x := by rw [← h4]; exact (sls_item hs).1
  subst e
  have : (slot x :: T').Perm (slot x :: sls l') := h3.symm.trans (h1.trans (h2.map slot))
  exact this.cons_inv
theorem not_here {m : List TMark} (hd : Dist m) {x : TMark} (hx : x ∈ m) (hi : x.op.insert = true) (hh : x.here = false) : x.op.item ∉ hereI m := fun h => by
  obtain ⟨i, y, h1, h2, h3⟩ := mem_hereI.1 h
  have := hd.eq (List.mem_of_getElem? h1) hx h2.1 hi h3
  subst this; exact absurd (hh.symm.trans h2.2) (by decide)
theorem not_gone {m : List TMark} (hd : Dist m) {x : TMark} (hx : x ∈ m) (hi : x.op.insert = true) (hh : x.here = true) : x.op.item ∉ goneI m := fun h => by
  obtain ⟨i, y, h1, h2, h3⟩ := mem_goneI.1 h
  have := hd.eq (List.mem_of_getElem? h1) hx h2.1 hi h3
  subst this; exact absurd (hh.symm.trans h2.2) (by decide)
theorem turn_ok {q : TQueue} {m : List TMark} {c : Int} {B : Nat} (h : QRep q m c B) {x : TMark} (hx : x ∈ m) (hi : x.op.insert = true) {hh : Bool} (hf : x.here = !hh) (hb9 : B + 1 < 900000) :
    ∃ q', partial_Queue_turn.f K1 q x.op.item hh = some q' ∧ QRep q' (turnM x.op.item hh m) c (B + 1) ∧ q'.excess = q.excess := by
  obtain ⟨Tt, t1, t2⟩ := h.times
  obtain ⟨Tp, p1, p2⟩ := h.pres
  obtain ⟨Tg, g1, g2⟩ := h.gone
  have hlim := h.lim; have hbnd := h.bnd; have hlen := h.len
  have ls := len_split m
  have lt : Tt.length ≤ m.length := by rw [t2.length_eq]; exact len_slots m
  have lp : Tp.length = (hereI m).length := by rw [p2.length_eq]; simp
  have lg : Tg.length = (goneI m).length := by rw [g2.length_eq]; simp
  -- the time
  obtain ⟨s, b, f1, f2⟩ := sfind t1 (by omega) x.op.item
  have hs0 : (⟨x.op.item, true, x.op.time⟩ : TSlot) ∈ Tt := t2.mem_iff.2 (mem_slotsOf.2 ⟨x, hx, hi, rfl⟩)
  have hs : s.time = x.op.time := by
    rcases f2 with ⟨_, h1, h2⟩ | ⟨_, h1⟩
    · obtain ⟨y, y1, y2, rfl⟩ := mem_slotsOf.1 (t2.mem_iff.1 h1)
      rw [h.dist.eq y1 hx y2 hi h2]
    · exact absurd rfl (h1 _ hs0)
  -- the mark
  obtain ⟨A, M, D, hc⟩ := mcut h.marks (by omega) x.op.time
  have hM := hc.mem hx rfl
  subst hM
  have hm : m = A ++ x :: D := hc.eq
  obtain ⟨r1, q1, m1, m2⟩ := mput h.marks (by omega) (by omega) ⟨x.op, hh, x.took⟩ (A := A) (M := [x]) (D := D) hc (fun e => by cases e)
  have hd := h.dist
  rw [hm] at hd
  have ht := turnM_mid hd hi hh
  rw [← hm] at ht
  have hd' : Dist (turnM x.op.item hh m) := by
    intro i j a b ha hb h1 h2 h3
    rw [turnM_get] at ha hb
    obtain ⟨a', ha', rfl⟩ := Option.map_eq_some_iff.1 ha
    obtain ⟨b', hb', rfl⟩ := Option.map_eq_some_iff.1 hb
    rw [turnF_op] at h1 h2 h3
    rw [turnF_op] at h3
    exact h.dist i j a' b' ha' hb' h1 h2 h3
  have hsl : slotsOf (turnM x.op.item hh m) = slotsOf m := by
    rw [ht, hm, slotsOf_mid, slotsOf_mid]; rw [one_I hi, one_I (x := ⟨x.op, hh, x.took⟩) hi]
  have hpl : ∀ y ∈ turnM x.op.item hh m, y.took = zTTook ∧ (y.op.insert = false → y.here = false ∧ y.op.item = zTItem) := by
    intro y hy
    obtain ⟨y', h1, rfl⟩ := List.mem_map.1 hy
    have := h.plain y' h1
    rw [turnF_took, turnF_op]
    refine ⟨this.1, fun h2 => ?_⟩
    rw [turnF_del h2]; exact this.2 h2
  have hM1 : GrM q1 r1 (turnM x.op.item hh m) c (B + 1) := by rw [ht]; exact m2
  have hlen' := turnM_len x.op.item hh m
  unfold partial_Queue_turn.f
  simp only [of_ok, Option.bind_some, f1, hs, key_ok, mfind h.marks (by omega) hc, fnd, m1]
  cases hh with
  | true =>
    have hG : isG x := ⟨hi, hf⟩
    have hS : isS ⟨x.op, true, x.took⟩ := ⟨hi, rfl⟩
    have e1 : (goneI m).Perm (x.op.item :: goneI (turnM x.op.item true m)) := by
      rw [ht, hm, goneI_mid, goneI_mid, (one_G hG).2, (one_S hS).2]; exact List.perm_middle
    have e2 : (hereI (turnM x.op.item true m)).Perm (x.op.item :: hereI m) := by
      rw [ht, hm, hereI_mid, hereI_mid, (one_G hG).1, (one_S hS).1]; exact List.perm_middle
    obtain ⟨e, b, r2, q2, T2, d1, d2, d3⟩ := sdrop g1 (by omega) x.op.item
    have l1 := e1.length_eq
    simp only [List.length_cons] at l1
    obtain ⟨r3, q3, T3, u1, u2, u3⟩ := sput p1 (by omega) (by omega) (slot x.op.item) (fun s' hs' e' => by
      have := (sls_item (p2.mem_iff.1 hs')).2
      rw [e'] at this
      exact not_here h.dist hx hi hf this) (by omega)
    simp only [cond_true, d1, Option.bind_some, u1]
    refine ⟨_, rfl, ⟨h.cap, hM1, ⟨T3, u2, u3.trans ((p2.cons _).trans (e2.map slot).symm)⟩, ⟨T2, d2.mono (by omega) (by omega), ?_⟩, ⟨Tt, t1.mono (by omega) (by omega), hsl ▸ t2⟩, hd', by omega, by omega, hb9, hpl⟩, rfl⟩
    rcases d3 with ⟨s, s1, s2⟩ | ⟨s1, _⟩
    · exact perm_less g2 e1 s2 s1
    · exact absurd rfl (s1 (slot x.op.item) (g2.mem_iff.2 (List.mem_map_of_mem (e1.mem_iff.2 List.mem_cons_self))))
  | false =>
    have hS : isS x := ⟨hi, hf⟩
    have hG : isG ⟨x.op, false, x.took⟩ := ⟨hi, rfl⟩
    have e1 : (hereI m).Perm (x.op.item :: hereI (turnM x.op.item false m)) := by
      rw [ht, hm, hereI_mid, hereI_mid, (one_G hG).1, (one_S hS).1]; exact List.perm_middle
    have e2 : (goneI (turnM x.op.item false m)).Perm (x.op.item :: goneI m) := by
      rw [ht, hm, goneI_mid, goneI_mid, (one_G hG).2, (one_S hS).2]; exact List.perm_middle
    obtain ⟨e, b, r2, q2, T2, d1, d2, d3⟩ := sdrop p1 (by omega) x.op.item
    have l1 := e1.length_eq
    simp only [List.length_cons] at l1
    obtain ⟨r3, q3, T3, u1, u2, u3⟩ := sput g1 (by omega) (by omega) (slot x.op.item) (fun s' hs' e' => by
      have := (sls_item (g2.mem_iff.1 hs')).2
      rw [e'] at this
      exact not_gone h.dist hx hi hf this) (by omega)
    simp only [cond_false, d1, Option.bind_some, u1]
    refine ⟨_, rfl, ⟨h.cap, hM1, ⟨T2, d2.mono (by omega) (by omega), ?_⟩, ⟨T3, u2, u3.trans ((g2.cons _).trans (e2.map slot).symm)⟩, ⟨Tt, t1.mono (by omega) (by omega), hsl ▸ t2⟩, hd', by omega, by omega, hb9, hpl⟩, rfl⟩
    rcases d3 with ⟨s, s1, s2⟩ | ⟨s1, _⟩
    · exact perm_less p2 e1 s2 s1
    · exact absurd rfl (s1 (slot x.op.item) (p2.mem_iff.2 (List.mem_map_of_mem (e1.mem_iff.2 List.mem_cons_self))))
theorem QRep.exc {q : TQueue} {m : List TMark} {c : Int} {B : Nat} (h : QRep q m c B) (e : Int) : QRep ⟨q.capacity, q.marks, q.present, q.gone, q.times, e⟩ m c B := ⟨h.cap, h.marks, h.pres, h.gone, h.times, h.dist, h.len, h.lim, h.bnd, h.plain⟩
theorem wts_len (m : List TMark) : -(m.length : Int) ≤ (wts m).sum := by
  induction m with
  | nil => simp [wts]
  | cons x m ih =>
    have : -1 ≤ mwt x := by unfold mwt; split; split <;> omega; omega
    simp only [wts, List.map_cons, List.sum_cons, List.length_cons] at ih ⊢; omega
theorem cert_small {m : List TMark} {E : Int} (hc : CertM m E) : 0 ≤ E ∧ E ≤ m.length := by
  have h1 := hc.low 0 (Nat.zero_le _)
  rw [hgt_zero] at h1
  have h2 := hc.fin
  unfold hgt at h2
  rw [List.take_of_length_le (by simp [wts])] at h2
  have := wts_len m
  omega
theorem best_ok {p : PN TMark TSwell} {r : TRef} {m : List TMark} {c : Int} {B : Nat} (h : GrM p r m c B) (hl : m.length < 100000) {b : Nat} (hb : b ≤ m.length) : ∃ t, bridge_Best.f K1 p r (b : Int) = some t ∧ IsMax (goneI (m.drop b)) t := by
  obtain ⟨s, s1, s2⟩ := between_ok' h hl b m.length
  unfold bridge_Best.f bridge_clamp.f
  simp only [len_ok h, Option.bind_some, clampN_eq, clampN_nat hb, s1]
  refine ⟨_, rfl, ?_⟩
  have := s2.gone
  rwa [List.take_of_length_le (Nat.le_refl _)] at this
theorem least_ok {p : PN TMark TSwell} {r : TRef} {m : List TMark} {c : Int} {B : Nat} (h : GrM p r m c B) (hl : m.length < 100000) {b : Nat} (hb : b ≤ m.length) : ∃ t, bridge_Least.f K1 p r (b : Int) = some t ∧ IsMin (hereI (m.take b)) t := by
  obtain ⟨s, s1, s2⟩ := between_ok' h hl 0 b
  have s1' : Tree_Between.f opsM K1 p r 0 (b : Int) = some s := s1
  unfold bridge_Least.f bridge_clamp.f
  simp only [len_ok h, Option.bind_some, clampN_eq, clampN_nat hb, s1']
  exact ⟨_, rfl, s2.least⟩
section
variable {q : TQueue} {m : List TMark} {c : Int} {B : Nat} {E : Int}
theorem leave_ok (h : QRep q m c B) (hE : q.excess = E) (h0 : 0 ≤ E ∧ E ≤ 100) {n : Nat} (hn : n ≤ m.length) (hb9 : B + 1 < 900000) : ∃ v, IsNext m E n v ∧ ∀ b : Nat, v = b → b ≤ m.length → ∃ least, IsMin (hereI (m.take b)) least ∧
    ((least.found = false ∧ partial_Queue_leave.f K1 q (n : Int) = some (⟨[], []⟩, ⟨q.capacity, q.marks, q.present, q.gone, q.times, E + 1⟩)) ∨
     (least.found = true ∧ ((∃ x ∈ m, isS x ∧ x.op.item = least.item) → ∃ q', partial_Queue_leave.f K1 q (n : Int) = some (⟨[], [least.item]⟩, q') ∧ QRep q' (turnM least.item false m) c (B + 1) ∧ q'.excess = E))) := by
  have hlim := h.lim
  obtain ⟨v, v1, v2⟩ := next_ok h.marks (by omega) (base := E) ⟨by omega, by omega⟩ (n : Int)
  rw [clampN_nat hn] at v2
  refine ⟨v, v2, fun b hv hb => ?_⟩
  subst hv
  obtain ⟨t, t1, t2⟩ := least_ok h.marks (by omega) hb
  refine ⟨t, t2, ?_⟩
  unfold partial_Queue_leave.f
  simp only [hE, v1, Option.bind_some, t1]
  cases hf : t.found with
  | false =>
    refine .inl ⟨rfl, ?_⟩
    have hw : w64 (E + 1) = E + 1 := w64_id (by omega) (by omega)
    simp only [Bool.not_false, cond_true, hw]
  | true =>
    refine .inr ⟨rfl, ?_⟩
    rintro ⟨x, x1, x2, x3⟩
    obtain ⟨q', g1, g2, g3⟩ := turn_ok h x1 x2.1 (hh := false) x2.2 hb9
    rw [x3] at g1 g2
    simp only [Bool.not_true, cond_false, g1, Option.bind_some]
    exact ⟨q', rfl, g2, by rw [g3, hE]⟩
theorem enter_ok (h : QRep q m c B) (hE : q.excess = E) (h0 : 0 ≤ E ∧ E ≤ 100) {n : Nat} (hn : n ≤ m.length) (hb9 : B + 1 < 900000) : ∃ v, IsPrior m E n v ∧
    (v = -1 → partial_Queue_enter.f K1 q (n : Int) = some (⟨[], []⟩, ⟨q.capacity, q.marks, q.present, q.gone, q.times, E - 1⟩)) ∧
    ∀ b : Nat, v = b → b ≤ m.length → ∃ best, IsMax (goneI (m.drop b)) best ∧ (best.found = true → (∃ x ∈ m, isG x ∧ x.op.item = best.item) → ∃ q', partial_Queue_enter.f K1 q (n : Int) = some (⟨[best.item], []⟩, q') ∧ QRep q' (turnM best.item true m) c (B + 1) ∧ q'.excess = E) := by
  have hlim := h.lim
  obtain ⟨v, v1, v2⟩ := prior_ok h.marks (by omega) (base := E) ⟨by omega, by omega⟩ (n : Int)
  rw [clampN_nat hn] at v2
  refine ⟨v, v2, fun hv => ?_, fun b hv hb => ?_⟩
  · subst hv
    unfold partial_Queue_enter.f
    have hw : w64 (E - 1) = E - 1 := w64_id (by omega) (by omega)
    simp only [hE, v1, Option.bind_some, hw]
    rfl
  · subst hv
    obtain ⟨t, t1, t2⟩ := best_ok h.marks (by omega) hb
    refine ⟨t, t2, fun hf => ?_⟩
    rintro ⟨x, x1, x2, x3⟩
    obtain ⟨q', g1, g2, g3⟩ := turn_ok h x1 x2.1 (hh := true) x2.2 hb9
    rw [x3] at g1 g2
    have e0 : decide ((b : Int) < 0) = false := by simp
    unfold partial_Queue_enter.f
    simp only [hE, v1, Option.bind_some, e0, cond_false, t1, hf, Bool.not_true, g1]
    exact ⟨q', rfl, g2, by rw [g3, hE]⟩
end
end Go.Proofs.YtpeoalmhccmdiaaGreat
namespace Go.Proofs.YtpeoalmhccmdiaaGreat
open Go Go.Proofs.YtpeoalmhccmdiaaGreat.Sx
def Chg (ch : TChange) (m m' : List TMark) : Prop :=
  (ch = ⟨[], []⟩ ∧ (hereI m').Perm (hereI m)) ∨ (∃ y, ch = ⟨[y], []⟩ ∧ (hereI m').Perm (y :: hereI m)) ∨ (∃ y, ch = ⟨[], [y]⟩ ∧ (hereI m).Perm (y :: hereI m'))
structure QOk (q : TQueue) (m : List TMark) (E c : Int) (B : Nat) : Prop where
  rep : QRep q m c B
  cert : CertM m E
  exc : q.excess = E
theorem turn_permG {m : List TMark} (hd : Dist m) {x : TMark} (hx : x ∈ m) (h : isG x) : (hereI (turnM x.op.item true m)).Perm (x.op.item :: hereI m) := by
  obtain ⟨A, D, rfl⟩ := List.append_of_mem hx
  rw [turnM_mid hd h.1 true, hereI_mid, hereI_mid, (one_G h).1, (one_S (x := ⟨x.op, true, x.took⟩) ⟨h.1, rfl⟩).1]; exact List.perm_middle
theorem turn_permS {m : List TMark} (hd : Dist m) {x : TMark} (hx : x ∈ m) (h : isS x) : (hereI m).Perm (x.op.item :: hereI (turnM x.op.item false m)) := by
  obtain ⟨A, D, rfl⟩ := List.append_of_mem hx
  rw [turnM_mid hd h.1 false, hereI_mid, hereI_mid, (one_S h).1, (one_G (x := ⟨x.op, false, x.took⟩) ⟨h.1, rfl⟩).1]; exact List.perm_middle
theorem dist_ins {A D : List TMark} {x : TMark} (hd : Dist (A ++ D)) (hn : x.op.insert = true → ∀ y ∈ A ++ D, y.op.insert = true → y.op.item ≠ x.op.item) : Dist (A ++ x :: D) := by
  intro i j a b ha hb h1 h2 h3
  by_cases ei : i = A.length
  · subst ei
    rw [get_mid] at ha; cases ha
    by_cases ej : j = A.length
    · exact ej.symm
    · obtain ⟨k, rfl⟩ := PQ.sh_ex ej
      rw [get_sh] at hb
      exact absurd h3.symm (hn h1 b (List.mem_of_getElem? hb) h2)
  · obtain ⟨k, rfl⟩ := PQ.sh_ex ei
    rw [get_sh] at ha
    by_cases ej : j = A.length
    · subst ej
      rw [get_mid] at hb; cases hb
      exact absurd h3 (hn h2 a (List.mem_of_getElem? ha) h1)
    · obtain ⟨l, rfl⟩ := PQ.sh_ex ej
      rw [get_sh] at hb
      rw [hd k l a b ha hb h1 h2 h3]
theorem dist_del {A D : List TMark} {x : TMark} (hd : Dist (A ++ x :: D)) : Dist (A ++ D) := by
  intro i j a b ha hb h1 h2 h3
  have := hd (PQ.sh A.length i) (PQ.sh A.length j) a b (by rw [get_sh]; exact ha) (by rw [get_sh]; exact hb) h1 h2 h3
  have c1 := PQ.sh_cases A.length i; have c2 := PQ.sh_cases A.length j
  omega
theorem CutM.turn {t : Int} {m A M D : List TMark} (h : CutM t m A M D) (it : TItem) (b : Bool) : CutM t (turnM it b m) (turnM it b A) (turnM it b M) (turnM it b D) := by
  have key : ∀ (l : List TMark) (x : TMark), x ∈ turnM it b l → ∃ y ∈ l, x.op = y.op := fun l x hx => by
    obtain ⟨y, h1, rfl⟩ := List.mem_map.1 hx
    exact ⟨y, h1, turnF_op ..⟩
  refine ⟨by rw [h.eq, turnM_app, turnM_app], fun x hx => ?_, fun x hx => ?_, ?_⟩
  · obtain ⟨y, h1, h2⟩ := key A x hx; rw [h2]; exact h.la y h1
  · obtain ⟨y, h1, h2⟩ := key D x hx; rw [h2]; exact h.lb y h1
  · rcases h.lm with h1 | ⟨y, h1, h2⟩
    · exact .inl (by rw [h1]; rfl)
    · exact .inr ⟨turnF it b y, by rw [h1]; rfl, by rw [turnF_op]; exact h2⟩
section
variable {q : TQueue} {m A D : List TMark} {c : Int} {B : Nat} {E t : Int}
theorem addD (h : QRep q m c B) (hc : CutM t m A [] D) (hl : (m.length : Int) ≠ c) (hl2 : m.length < 100) (hb9 : B + 1 < 900000) : ∃ r p, Tree_Put.f opsM K1 q.marks.p q.marks.r (keyM t) = some (true, r, p) ∧ QRep ⟨q.capacity, ⟨p, r⟩, q.present, q.gone, q.times, q.excess⟩ (A ++ keyM t :: D) c (B + 1) := by
  have hlim := h.lim; have hbnd := h.bnd; have hlen := h.len
  have e : m = A ++ D := by have := hc.eq; rwa [List.nil_append] at this
  have hl3 : (A ++ keyM t :: D).length = m.length + 1 := by rw [e]; simp; omega
  obtain ⟨r, p, m1, m2⟩ := mput h.marks (by omega) (by omega) (keyM t) (A := A) (M := []) (D := D) hc (fun _ => hl)
  have e1 : hereI (A ++ keyM t :: D) = hereI m := by rw [hereI_mid, (one_D (x := keyM t) rfl).1, e, hereI_app]; rfl
  have e2 : goneI (A ++ keyM t :: D) = goneI m := by rw [goneI_mid, (one_D (x := keyM t) rfl).2.1, e, goneI_app]; rfl
  have e3 : slotsOf (A ++ keyM t :: D) = slotsOf m := by rw [slotsOf_mid, (one_D (x := keyM t) rfl).2.2, e, slotsOf_app]; rfl
  obtain ⟨Tp, p1, p2⟩ := h.pres; obtain ⟨Tg, g1, g2⟩ := h.gone; obtain ⟨Tt, t1, t2⟩ := h.times
  refine ⟨r, p, m1, ⟨h.cap, m2, ⟨Tp, p1.mono (by omega) (by omega), e1 ▸ p2⟩, ⟨Tg, g1.mono (by omega) (by omega), e2 ▸ g2⟩, ⟨Tt, t1.mono (by omega) (by omega), e3 ▸ t2⟩, dist_ins (e ▸ h.dist) (fun h => by cases h), by omega, by omega, hb9, fun y hy => ?_⟩⟩
  rcases List.mem_append.1 hy with hy | hy
  · exact h.plain y (by rw [e]; exact List.mem_append_left _ hy)
  · rcases List.mem_cons.1 hy with rfl | hy
    · exact ⟨rfl, fun _ => ⟨rfl, rfl⟩⟩
    · exact h.plain y (by rw [e]; exact List.mem_append_right _ hy)
theorem dropD (h : QRep q m c B) {y : TMark} (hc : CutM t m A [y] D) (hy : y.op.insert = false) : ∃ r p, Tree_Drop.f opsM K1 q.marks.p q.marks.r (keyM t) = some (y, true, r, p) ∧ QRep ⟨q.capacity, ⟨p, r⟩, q.present, q.gone, q.times, q.excess⟩ (A ++ D) c B := by
  have hlim := h.lim; have hbnd := h.bnd; have hlen := h.len
  have e : m = A ++ y :: D := hc.eq
  have hl3 : m.length = (A ++ D).length + 1 := by rw [e]; simp; omega
  obtain ⟨r, p, m1, m2⟩ := mdrop h.marks (by omega) hc
  have e1 : hereI m = hereI (A ++ D) := by rw [e, hereI_mid, (one_D hy).1, hereI_app]; rfl
  have e2 : goneI m = goneI (A ++ D) := by rw [e, goneI_mid, (one_D hy).2.1, goneI_app]; rfl
  have e3 : slotsOf m = slotsOf (A ++ D) := by rw [e, slotsOf_mid, (one_D hy).2.2, slotsOf_app]; rfl
  have hd := h.dist
  rw [e] at hd
  refine ⟨r, p, m1, ⟨h.cap, m2, e1 ▸ h.pres, e2 ▸ h.gone, e3 ▸ h.times, dist_del hd, by omega, by omega, h.bnd, fun x hx => h.plain x ?_⟩⟩
  rw [e]
  rcases List.mem_append.1 hx with hx | hx
  · exact List.mem_append_left _ hx
  · exact List.mem_append_right _ (List.mem_cons_of_mem _ hx)
theorem sdrop_none {p : PN TSlot TSize} {r : TRef} {l : List TItem} {x : TItem} (h : ∃ T, GrS p r T c B ∧ T.Perm (sls l)) (hl : l.length < 1000) (hx : x ∉ l) : ∃ e b r' p', Tree_Drop.f opsS K1 p r (slot x) = some (e, b, r', p') ∧ ∃ T, GrS p' r' T c B ∧ T.Perm (sls l) := by
  obtain ⟨T, h1, h2⟩ := h
  have hlen : T.length = l.length := by rw [h2.length_eq, List.length_map]
  obtain ⟨e, b, r', p', T', d1, d2, d3⟩ := sdrop h1 (by omega) x
  refine ⟨e, b, r', p', d1, T', d2, ?_⟩
  rcases d3 with ⟨s, s1, s2⟩ | ⟨_, s2⟩
  · have := (sls_item (h2.mem_iff.1 (s2.mem_iff.2 List.mem_cons_self))).2
    rw [s1] at this; exact absurd this hx
  · rw [s2]; exact h2
theorem sdrop_some {p : PN TSlot TSize} {r : TRef} {l l' : List TItem} {x : TItem} (h : ∃ T, GrS p r T c B ∧ T.Perm (sls l)) (hl : l.length < 1000) (hx : l.Perm (x :: l')) : ∃ e b r' p', Tree_Drop.f opsS K1 p r (slot x) = some (e, b, r', p') ∧ ∃ T, GrS p' r' T c B ∧ T.Perm (sls l') := by
  obtain ⟨T, h1, h2⟩ := h
  have hlen : T.length = l.length := by rw [h2.length_eq, List.length_map]
  obtain ⟨e, b, r', p', T', d1, d2, d3⟩ := sdrop h1 (by omega) x
  refine ⟨e, b, r', p', d1, T', d2, ?_⟩
  rcases d3 with ⟨s, s1, s2⟩ | ⟨s1, _⟩
  · exact perm_less h2 hx s2 s1
  · exact absurd rfl (s1 (slot x) (h2.mem_iff.2 (List.mem_map_of_mem (hx.mem_iff.2 List.mem_cons_self))))
theorem dropI (h : QRep q m c B) {y : TMark} (hc : CutM t m A [y] D) (hy : y.op.insert = true) : ∃ r p, Tree_Drop.f opsM K1 q.marks.p q.marks.r (keyM t) = some (y, true, r, p) ∧ ∃ e1 b1 r1 p1, Tree_Drop.f opsS K1 q.present.p q.present.r (slot y.op.item) = some (e1, b1, r1, p1) ∧
    ∃ e2 b2 r2 p2, Tree_Drop.f opsS K1 q.gone.p q.gone.r (slot y.op.item) = some (e2, b2, r2, p2) ∧ ∃ e3 b3 r3 p3, Tree_Drop.f opsS K1 q.times.p q.times.r (slot y.op.item) = some (e3, b3, r3, p3) ∧
    QRep ⟨q.capacity, ⟨p, r⟩, ⟨p1, r1⟩, ⟨p2, r2⟩, ⟨p3, r3⟩, q.excess⟩ (A ++ D) c B := by
  have hlim := h.lim; have hbnd := h.bnd; have hlen := h.len
  have e : m = A ++ y :: D := hc.eq
  have hl3 : m.length = (A ++ D).length + 1 := by rw [e]; simp; omega
  obtain ⟨r, p, m1, m2⟩ := mdrop h.marks (by omega) hc
  have ls := len_split m
  have hmem : y ∈ m := by rw [e]; simp
  have hd := h.dist
  rw [e] at hd
  have hP : ∃ e1 b1 r1 p1, Tree_Drop.f opsS K1 q.present.p q.present.r (slot y.op.item) = some (e1, b1, r1, p1) ∧ ∃ T, GrS p1 r1 T c B ∧ T.Perm (sls (hereI (A ++ D))) := by
    cases hh : y.here with
    | true => exact sdrop_some h.pres (by omega) (by rw [e, hereI_mid, (one_S ⟨hy, hh⟩).1, hereI_app]; exact List.perm_middle)
    | false =>
      have e1 : hereI m = hereI (A ++ D) := by rw [e, hereI_mid, (one_G ⟨hy, hh⟩).1, hereI_app]; rfl
      rw [← e1]
      exact sdrop_none h.pres (by omega) (not_here h.dist hmem hy hh)
  have hG : ∃ e1 b1 r1 p1, Tree_Drop.f opsS K1 q.gone.p q.gone.r (slot y.op.item) = some (e1, b1, r1, p1) ∧ ∃ T, GrS p1 r1 T c B ∧ T.Perm (sls (goneI (A ++ D))) := by
    cases hh : y.here with
    | false => exact sdrop_some h.gone (by omega) (by rw [e, goneI_mid, (one_G ⟨hy, hh⟩).2, goneI_app]; exact List.perm_middle)
    | true =>
      have e1 : goneI m = goneI (A ++ D) := by rw [e, goneI_mid, (one_S ⟨hy, hh⟩).2, goneI_app]; rfl
      rw [← e1]
      exact sdrop_none h.gone (by omega) (not_gone h.dist hmem hy hh)
  obtain ⟨e1, b1, r1, p1, a1, a2⟩ := hP
  obtain ⟨e2, b2, r2, p2, a3, a4⟩ := hG
  obtain ⟨Tt, t1, t2⟩ := h.times
  have lt : Tt.length ≤ m.length := by rw [t2.length_eq]; exact len_slots m
  obtain ⟨e3, b3, r3, p3, T3, a5, a6, a7⟩ := sdrop t1 (by omega) y.op.item
  refine ⟨r, p, m1, e1, b1, r1, p1, a1, e2, b2, r2, p2, a3, e3, b3, r3, p3, a5, ⟨h.cap, m2, a2, a4, ⟨T3, a6, ?_⟩, dist_del hd, by omega, by omega, h.bnd, fun x hx => h.plain x ?_⟩⟩
  · have hs0 : (slotsOf m).Perm (⟨y.op.item, true, y.op.time⟩ :: slotsOf (A ++ D)) := by rw [e, slotsOf_mid, one_I hy, slotsOf_app]; exact List.perm_middle
    rcases a7 with ⟨s, s1, s2⟩ | ⟨s1, _⟩
    · have hsm : s ∈ slotsOf m := t2.mem_iff.1 (s2.mem_iff.2 List.mem_cons_self)
      obtain ⟨y', y1, y2, rfl⟩ := mem_slotsOf.1 hsm
      have := h.dist.eq y1 hmem y2 hy s1
      subst this
      exact (s2.symm.trans (t2.trans hs0)).cons_inv
    · exact absurd rfl (s1 _ (t2.mem_iff.2 (hs0.mem_iff.2 List.mem_cons_self)))
  · rw [e]
    rcases List.mem_append.1 hx with hx | hx
    · exact List.mem_append_left _ hx
    · exact List.mem_append_right _ (List.mem_cons_of_mem _ hx)
theorem may_ok {M : List TMark} (h : QRep q m c B) (hc : CutM t m A M D) : partial_Queue_may.f K1 q t = some (if (m.length : Int) = c then 10 else if M = [] then 0 else 11) := by
  have hlim := h.lim
  unfold partial_Queue_may.f
  simp only [len_ok h.marks, Option.bind_some, h.cap, key_ok, mfind h.marks (by omega) hc]
  by_cases e : (m.length : Int) = c
  · rw [if_pos e]; simp [e]
  · rw [if_neg e]
    have : ((m.length : Int) == c) = false := by simpa using e
    rw [this]
    rcases hc.lm with h1 | ⟨y, h1, _⟩
    · subst h1; rfl
    · subst h1; simp [fnd]
theorem insert_no {M : List TMark} (h : QRep q m c B) (hc : CutM t m A M D) (x : TItem) :
    ((m.length : Int) = c → partial_Queue_Insert.f K1 q t x = some (⟨[], []⟩, 10, q)) ∧ ((m.length : Int) ≠ c → M ≠ [] → partial_Queue_Insert.f K1 q t x = some (⟨[], []⟩, 11, q)) ∧
    ((m.length : Int) ≠ c → M = [] → (∃ y ∈ m, y.op.insert = true ∧ y.op.item = x) → partial_Queue_Insert.f K1 q t x = some (⟨[], []⟩, 2, q)) := by
  have hlim := h.lim
  refine ⟨fun e => ?_, fun e e2 => ?_, fun e e2 => ?_⟩
  · unfold partial_Queue_Insert.f
    rw [may_ok h hc, if_pos e]; rfl
  · unfold partial_Queue_Insert.f
    rw [may_ok h hc, if_neg e, if_neg e2]; rfl
  · rintro ⟨y, y1, y2, y3⟩
    obtain ⟨Tt, t1, t2⟩ := h.times
    have lt : Tt.length ≤ m.length := by rw [t2.length_eq]; exact len_slots m
    obtain ⟨s, b, f1, f2⟩ := sfind t1 (by omega) x
    have hb : b = true := by
      rcases f2 with ⟨h1, _⟩ | ⟨_, h1⟩
      · exact h1
      · exact absurd y3 (h1 ⟨y.op.item, true, y.op.time⟩ (t2.mem_iff.2 (mem_slotsOf.2 ⟨y, y1, y2, rfl⟩)))
    subst hb
    unfold partial_Queue_Insert.f
    rw [may_ok h hc, if_neg e, if_pos e2]
    simp only [Option.bind_some, of_ok, f1]
    rfl
theorem insert_ok (h : QOk q m E c B) (hc : CutM t m A [] D) (x : TItem) (hl : (m.length : Int) ≠ c) (hl2 : m.length < 100) (hn : ∀ y ∈ m, y.op.insert = true → y.op.item ≠ x) (hb9 : B + 2 < 900000) :
    ∃ ch q' m' E', partial_Queue_Insert.f K1 q t x = some (ch, 0, q') ∧ QOk q' m' E' c (B + 2) ∧ m'.map (·.op) = A.map (·.op) ++ (⟨t, true, x⟩ :: D.map (·.op)) ∧ Chg ch m m' := by
  have hlim := h.rep.lim; have hbnd := h.rep.bnd; have hlen := h.rep.len
  have e : m = A ++ D := by have := hc.eq; rwa [List.nil_append] at this
  let xm : TMark := ⟨⟨t, true, x⟩, false, zTTook⟩
  have hxG : isG xm := ⟨rfl, rfl⟩
  have hl3 : (A ++ xm :: D).length = m.length + 1 := by rw [e]; simp; omega
  have hsm := cert_small h.cert
  obtain ⟨Tp, p1, p2⟩ := h.rep.pres; obtain ⟨Tg, g1, g2⟩ := h.rep.gone; obtain ⟨Tt, t1, t2⟩ := h.rep.times
  have ls := len_split m
  have lt : Tt.length ≤ m.length := by rw [t2.length_eq]; exact len_slots m
  have lg : Tg.length = (goneI m).length := by rw [g2.length_eq]; simp
  obtain ⟨s, b, f1, f2⟩ := sfind t1 (by omega) x
  have hT : ∀ s' ∈ Tt, s'.item ≠ x := fun s' hs' => by
    obtain ⟨y, y1, y2, rfl⟩ := mem_slotsOf.1 (t2.mem_iff.1 hs')
    exact hn y y1 y2
  have hb : b = false := by
    rcases f2 with ⟨_, h1, h2⟩ | ⟨h1, _⟩
    · exact absurd h2 (hT s h1)
    · exact h1
  subst hb
  obtain ⟨v, v1, v2⟩ := prior_ok h.rep.marks (by omega) (base := E) ⟨by omega, by omega⟩ (A.length : Int)
  rw [clampN_nat (by rw [e]; simp)] at v2
  obtain ⟨r3, p3, T3, u1, u2, u3⟩ := sput t1 (by omega) (by omega) ⟨x, true, t⟩ hT (by omega)
  obtain ⟨r4, p4, w1, w2⟩ := mput h.rep.marks (by omega) (by omega) xm (A := A) (M := []) (D := D) hc (fun _ => hl)
  obtain ⟨r5, p5, T5, y1, y2, y3⟩ := sput g1 (by omega) (by omega) (slot x) (fun s' hs' e' => by
    have := (sls_item (g2.mem_iff.1 hs')).2
    rw [e'] at this
    obtain ⟨i, y, z1, z2, z3⟩ := mem_goneI.1 this
    exact hn y (List.mem_of_getElem? z1) z2.1 z3) (by omega)
  have e1 : hereI (A ++ xm :: D) = hereI m := by rw [hereI_mid, (one_G hxG).1, e, hereI_app]; rfl
  have e2 : (goneI (A ++ xm :: D)).Perm (x :: goneI m) := by rw [goneI_mid, (one_G hxG).2, e, goneI_app]; exact List.perm_middle
  have e3 : (slotsOf (A ++ xm :: D)).Perm (⟨x, true, t⟩ :: slotsOf m) := by rw [slotsOf_mid, one_I (x := xm) rfl, e, slotsOf_app]; exact List.perm_middle
  have hd1 : Dist (A ++ xm :: D) := dist_ins (e ▸ h.rep.dist) (fun _ => e ▸ hn)
  have hR : ∀ ex, QRep ⟨q.capacity, ⟨p4, r4⟩, q.present, ⟨p5, r5⟩, ⟨p3, r3⟩, ex⟩ (A ++ xm :: D) c (B + 1) := fun ex =>
    ⟨h.rep.cap, w2, ⟨Tp, p1.mono (by omega) (by omega), e1 ▸ p2⟩, ⟨T5, y2, y3.trans ((g2.cons _).trans (e2.map slot).symm)⟩, ⟨T3, u2, u3.trans ((t2.cons _).trans e3.symm)⟩, hd1, by omega, by omega, by omega, fun y hy => by
      rcases List.mem_append.1 hy with hy | hy
      · exact h.rep.plain y (by rw [e]; exact List.mem_append_left _ hy)
      · rcases List.mem_cons.1 hy with rfl | hy
        · exact ⟨rfl, fun h => by cases h⟩
        · exact h.rep.plain y (by rw [e]; exact List.mem_append_right _ hy)⟩
  have ho : (A ++ xm :: D).map (·.op) = A.map (·.op) ++ (⟨t, true, x⟩ :: D.map (·.op)) := by simp [xm]
  unfold partial_Queue_Insert.f
  rw [may_ok h.rep hc, if_neg hl, if_pos rfl]
  have hz : ((0 : Int) != 0) = false := rfl
  simp only [Option.bind_some, hz, cond_false, of_ok, f1, key_ok, mrank h.rep.marks (by omega) hc, h.exc, v1, u1]
  rw [show (TMark.mk (TOp.mk t true x) false zTTook) = xm from rfl]
  simp only [w1, Option.bind_some, y1]
  rcases edit_insert hxG hd1 (e ▸ h.cert) (e ▸ v2) with ⟨rfl, hcert⟩ | ⟨b, rfl, hb1, hbest⟩
  · have hw : w64 (E - 1) = E - 1 := w64_id (by omega) (by omega)
    have e0 : decide ((-1 : Int) < 0) = true := rfl
    simp only [e0, cond_true, hw]
    exact ⟨_, _, _, E - 1, rfl, ⟨⟨(hR _).cap, (hR (E - 1)).marks.mono (by omega) (by omega), (hR (E - 1)).pres.imp (fun T h => ⟨h.1.mono (by omega) (by omega), h.2⟩), (hR (E - 1)).gone.imp (fun T h => ⟨h.1.mono (by omega) (by omega), h.2⟩), (hR (E - 1)).times.imp (fun T h => ⟨h.1.mono (by omega) (by omega), h.2⟩), hd1, (hR (E - 1)).len, (hR (E - 1)).lim, hb9, (hR (E - 1)).plain⟩, hcert, rfl⟩, ho, .inl ⟨rfl, by rw [e1]⟩⟩
  · have e0 : decide ((b : Int) < 0) = false := by simp
    have hbl : b ≤ (A ++ xm :: D).length := by simp; omega
    obtain ⟨best, b1, b2⟩ := best_ok w2 (by omega) hbl
    obtain ⟨c1, c2, z, y, z1, z2, z3⟩ := hbest best b2
    obtain ⟨q', k1, k2, k3⟩ := turn_ok (hR E) (List.mem_of_getElem? z1) z2.1 (hh := true) z2.2 hb9
    have hp := turn_permG hd1 (List.mem_of_getElem? z1) z2
    rw [z3] at k1 k2 hp
    rw [e1] at hp
    simp only [e0, cond_false, b1, Option.bind_some, k1]
    exact ⟨_, _, _, E, rfl, ⟨k2, c2, k3⟩, by rw [turnM_ops]; exact ho, .inr (.inl ⟨_, rfl, hp⟩)⟩
theorem delete_no {M : List TMark} (h : QRep q m c B) (hc : CutM t m A M D) :
    ((m.length : Int) = c → partial_Queue_Delete.f K1 q t = some (⟨[], []⟩, 10, q)) ∧ ((m.length : Int) ≠ c → M ≠ [] → partial_Queue_Delete.f K1 q t = some (⟨[], []⟩, 11, q)) := by
  refine ⟨fun e => ?_, fun e e2 => ?_⟩
  · unfold partial_Queue_Delete.f
    rw [may_ok h hc, if_pos e]; rfl
  · unfold partial_Queue_Delete.f
    rw [may_ok h hc, if_neg e, if_neg e2]; rfl
theorem delete_ok (h : QOk q m E c B) (hc : CutM t m A [] D) (hl : (m.length : Int) ≠ c) (hl2 : m.length < 100) (hb9 : B + 2 < 900000) :
    ∃ ch q' m' E', partial_Queue_Delete.f K1 q t = some (ch, 0, q') ∧ QOk q' m' E' c (B + 2) ∧ m'.map (·.op) = A.map (·.op) ++ (⟨t, false, zTItem⟩ :: D.map (·.op)) ∧ Chg ch m m' := by
  have hlim := h.rep.lim; have hbnd := h.rep.bnd; have hlen := h.rep.len
  have e : m = A ++ D := by have := hc.eq; rwa [List.nil_append] at this
  have hsm := cert_small h.cert
  have hd1 : Dist (A ++ keyM t :: D) := dist_ins (e ▸ h.rep.dist) (fun h => by cases h)
  have ho : (A ++ keyM t :: D).map (·.op) = A.map (·.op) ++ (⟨t, false, zTItem⟩ :: D.map (·.op)) := by simp [keyM]
  have e1 : hereI (A ++ keyM t :: D) = hereI m := by rw [hereI_mid, (one_D (x := keyM t) rfl).1, e, hereI_app]; rfl
  obtain ⟨v, v1, v2⟩ := leave_ok h.rep h.exc ⟨hsm.1, by omega⟩ (n := A.length) (by rw [e]; simp) (by omega)
  obtain ⟨b, rfl, hb1, hleast⟩ := edit_delete (x := keyM t) rfl hd1 (e ▸ h.cert) (e ▸ v1)
  obtain ⟨least, l1, l2⟩ := v2 b rfl (by rw [e]; exact hb1)
  unfold partial_Queue_Delete.f
  rw [may_ok h.rep hc, if_neg hl, if_pos rfl]
  have hz : ((0 : Int) != 0) = false := rfl
  simp only [Option.bind_some, hz, cond_false, key_ok, mrank h.rep.marks (by omega) hc]
  rw [e] at l1
  rcases hleast least l1 with ⟨g1, g2⟩ | ⟨g1, g2, z, y, z1, z2, z3⟩
  · rcases l2 with ⟨_, l3⟩ | ⟨l3, _⟩
    · obtain ⟨r, p, k1, k2⟩ := addD (h.rep.exc (E + 1)) hc hl hl2 (by omega)
      rw [l3]
      simp only [Option.bind_some] at k1 ⊢
      rw [k1]
      refine ⟨_, _, _, E + 1, rfl, ⟨⟨k2.cap, k2.marks.mono (by omega) (by omega), k2.pres.imp (fun T h => ⟨h.1.mono (by omega) (by omega), h.2⟩), k2.gone.imp (fun T h => ⟨h.1.mono (by omega) (by omega), h.2⟩), k2.times.imp (fun T h => ⟨h.1.mono (by omega) (by omega), h.2⟩), hd1, k2.len, k2.lim, hb9, k2.plain⟩, g2, rfl⟩, ho, .inl ⟨rfl, by rw [e1]⟩⟩
    · rw [g1] at l3; cases l3
  · rcases l2 with ⟨l3, _⟩ | ⟨_, l3⟩
    · rw [g1] at l3; cases l3
    · have hy : y ∈ m := by rw [e]; exact List.mem_of_getElem? z1
      obtain ⟨q', k1, k2, k3⟩ := l3 ⟨y, hy, z2, z3⟩
      have hcut := hc.turn least.item false
      have hml := turnM_len least.item false m
      obtain ⟨r, p, k4, k5⟩ := addD k2 hcut (by omega) (by omega) (by omega)
      rw [k1]
      simp only [Option.bind_some, k4]
      have e5 : turnM least.item false A ++ keyM t :: turnM least.item false D = turnM least.item false (A ++ keyM t :: D) := by
        rw [turnM_app, turnM_cons, turnF_del (x := keyM t) rfl]
      have hp := turn_permS h.rep.dist hy z2
      rw [z3] at hp
      rw [e5] at k5
      refine ⟨_, _, _, E, rfl, ⟨k5, g2, k3⟩, by rw [turnM_ops]; exact ho, .inr (.inr ⟨_, rfl, ?_⟩)⟩
      have e6 : hereI (turnM least.item false (A ++ keyM t :: D)) = hereI (turnM least.item false m) := by
        rw [← e5, hereI_mid, (one_D (x := keyM t) rfl).1, e, turnM_app, hereI_app]; rfl
      rw [e6]; exact hp
theorem revoke_no (h : QRep q m c B) (hc : CutM t m A [] D) : partial_Queue_Revoke.f K1 q t = some (⟨[], []⟩, 14, q) := by
  have hlim := h.lim
  unfold partial_Queue_Revoke.f
  simp only [key_ok, Option.bind_some, mfind h.marks (by omega) hc, fnd]
  rfl
theorem revoke_ok (h : QOk q m E c B) {y : TMark} (hc : CutM t m A [y] D) (hb9 : B + 2 < 900000) :
    ∃ ch q' m' E', partial_Queue_Revoke.f K1 q t = some (ch, 0, q') ∧ QOk q' m' E' c (B + 2) ∧ m'.map (·.op) = A.map (·.op) ++ D.map (·.op) ∧ Chg ch m m' := by
  have hlim := h.rep.lim; have hbnd := h.rep.bnd; have hlen := h.rep.len
  have e : m = A ++ y :: D := hc.eq
  have hsm := cert_small h.cert
  have hal : A.length + 1 ≤ m.length := by rw [e]; simp
  have hymem : y ∈ m := by rw [e]; simp
  have hd0 := h.rep.dist
  rw [e] at hd0
  have hd1 : Dist (A ++ D) := dist_del hd0
  have ho : (A ++ D).map (·.op) = A.map (·.op) ++ D.map (·.op) := by simp
  have up : ∀ {q' : TQueue} {m' : List TMark} {b : Nat}, QRep q' m' c b → b ≤ B + 2 → QRep q' m' c (B + 2) := fun k hk =>
    ⟨k.cap, k.marks.mono hk (by omega), k.pres.imp (fun T h => ⟨h.1.mono hk (by omega), h.2⟩), k.gone.imp (fun T h => ⟨h.1.mono hk (by omega), h.2⟩), k.times.imp (fun T h => ⟨h.1.mono hk (by omega), h.2⟩), k.dist, k.len, k.lim, hb9, k.plain⟩
  unfold partial_Queue_Revoke.f
  simp only [key_ok, Option.bind_some, mfind h.rep.marks (by omega) hc, fnd, Bool.not_true, cond_false, mrank h.rep.marks (by omega) hc, of_ok]
  cases hi : y.op.insert with
  | false =>
    simp only [Bool.not_false, cond_true]
    have e1 : hereI m = hereI (A ++ D) := by rw [e, hereI_mid, (one_D hi).1, hereI_app]; rfl
    obtain ⟨v, v1, v2, v3⟩ := enter_ok h.rep h.exc ⟨hsm.1, by omega⟩ (n := A.length) (by omega) (by omega)
    rcases edit_revD hi hd1 (e ▸ h.cert) (e ▸ v1) with ⟨rfl, hcert⟩ | ⟨b, rfl, hb1, hbest⟩
    · obtain ⟨r, p, k1, k2⟩ := dropD (h.rep.exc (E - 1)) hc hi
      rw [v2 rfl]
      simp only [Option.bind_some] at k1 ⊢
      rw [k1]
      exact ⟨_, _, _, E - 1, rfl, ⟨up k2 (by omega), hcert, rfl⟩, ho, .inl ⟨rfl, by rw [e1]⟩⟩
    · obtain ⟨best, b1, b2⟩ := v3 b rfl (by omega)
      rw [e] at b1
      obtain ⟨c1, c2, z, w, z1, z2, z3⟩ := hbest best b1
      have hw : w ∈ m := by
        rw [e]
        rcases List.mem_append.1 (List.mem_of_getElem? z1) with hw | hw
        · exact List.mem_append_left _ hw
        · exact List.mem_append_right _ (List.mem_cons_of_mem _ hw)
      obtain ⟨q', k1, k2, k3⟩ := b2 c1 ⟨w, hw, z2, z3⟩
      have hcut := hc.turn best.item true
      have e4 : turnM best.item true [y] = [y] := by rw [turnM_cons, turnF_del hi]; rfl
      rw [e4] at hcut
      obtain ⟨r, p, k4, k5⟩ := dropD k2 hcut hi
      rw [k1]
      simp only [Option.bind_some, k4]
      rw [← turnM_app] at k5
      have hp := turn_permG hd1 (List.mem_of_getElem? z1) z2
      rw [z3] at hp
      exact ⟨_, _, _, E, rfl, ⟨up k5 (by omega), c2, k3⟩, by rw [turnM_ops]; exact ho, .inr (.inl ⟨_, rfl, by rw [e1]; exact hp⟩)⟩
  | true =>
    simp only [Bool.not_true, cond_false]
    cases hh : y.here with
    | true =>
      simp only [Bool.not_true, cond_false, Option.bind_some]
      obtain ⟨r, p, k1, a1, a2, a3, a4, k2, b1, b2, b3, b4, k3, c1, c2, c3, c4, k4, k5⟩ := dropI h.rep hc hi
      simp only [k1, Option.bind_some, k2, k3, k4]
      refine ⟨_, _, _, E, rfl, ⟨up k5 (by omega), edit_revS ⟨hi, hh⟩ (e ▸ h.cert), h.exc⟩, ho, .inr (.inr ⟨_, rfl, ?_⟩)⟩
      rw [e, hereI_mid, (one_S ⟨hi, hh⟩).1, hereI_app]; exact List.perm_middle
    | false =>
      have hG : isG y := ⟨hi, hh⟩
      have e1 : hereI m = hereI (A ++ D) := by rw [e, hereI_mid, (one_G hG).1, hereI_app]; rfl
      have hw : w64 ((A.length : Int) + 1) = ((A.length + 1 : Nat) : Int) := w64_succ (by omega)
      obtain ⟨v, v1, v2⟩ := leave_ok h.rep h.exc ⟨hsm.1, by omega⟩ (n := A.length + 1) hal (by omega)
      obtain ⟨b, rfl, hb1, hleast⟩ := edit_revG hG hd1 (e ▸ h.cert) (e ▸ v1)
      obtain ⟨least, l1, l2⟩ := v2 b rfl (by rw [e]; exact hb1)
      rw [e] at l1
      simp only [Bool.not_false, cond_true, hw]
      rcases hleast least l1 with ⟨g1, g2⟩ | ⟨g1, g2, z, w, z1, z2, z3⟩
      · rcases l2 with ⟨_, l3⟩ | ⟨l3, _⟩
        · obtain ⟨r, p, k1, a1, a2, a3, a4, k2, b1, b2, b3, b4, k3, c1, c2, c3, c4, k4, k5⟩ := dropI (h.rep.exc (E + 1)) hc hi
          rw [l3]
          simp only [Option.bind_some] at k1 k2 k3 k4 ⊢
          simp only [k1, Option.bind_some, k2, k3, k4]
          exact ⟨_, _, _, E + 1, rfl, ⟨up k5 (by omega), g2, rfl⟩, ho, .inl ⟨rfl, by rw [e1]⟩⟩
        · rw [g1] at l3; cases l3
      · rcases l2 with ⟨l3, _⟩ | ⟨_, l3⟩
        · rw [g1] at l3; cases l3
        · have hwm : w ∈ m := by
            rw [e]
            rcases List.mem_append.1 (List.mem_of_getElem? z1) with hw | hw
            · exact List.mem_append_left _ hw
            · exact List.mem_append_right _ (List.mem_cons_of_mem _ hw)
          obtain ⟨q', k1, k2, k3⟩ := l3 ⟨w, hwm, z2, z3⟩
          have hcut := hc.turn least.item false
          have e4 : turnM least.item false [y] = [y] := by
            rw [turnM_cons]
            have : turnF least.item false y = y := by
              unfold turnF; split
              · cases y; simp at hh; simp [hh]
              · rfl
            rw [this]; rfl
          rw [e4] at hcut
          obtain ⟨r, p, k6, a1, a2, a3, a4, k7, b1, b2, b3, b4, k8, c1, c2, c3, c4, k9, k5⟩ := dropI k2 hcut hi
          rw [k1]
          simp only [Option.bind_some, k6, k7, k8, k9]
          rw [← turnM_app] at k5
          have hp := turn_permS hd1 (List.mem_of_getElem? z1) z2
          rw [z3] at hp
          exact ⟨_, _, _, E, rfl, ⟨up k5 (by omega), g2, k3⟩, by rw [turnM_ops]; exact ho, .inr (.inr ⟨_, rfl, by rw [e1]; exact hp⟩)⟩
end
end Go.Proofs.YtpeoalmhccmdiaaGreat
namespace Go.Proofs.YtpeoalmhccmdiaaGreat
open Go Go.Proofs.YtpeoalmhccmdiaaGreat.Sx
theorem take_snoc {α : Type} {l : List α} {i : Nat} {x : α} (h : l[i]? = some x) : l.take (i + 1) = l.take i ++ [x] := by rw [List.take_add_one, h]; rfl
theorem qops_loop (m : List TMark) (hl : m.length < 1000000) : ∀ (d i n : Nat), i + d = m.length → d < n → partial_Queue_Ops.l0 K1 m n ((m.take i).map (·.op), (i : Int)) = some (m.map (·.op))
  | d, i, 0, _, h => by omega
  | 0, i, n + 1, hi, _ => by
    simp only [partial_Queue_Ops.l0]
    rw [dec_nlt (by omega), List.take_of_length_le (by omega)]; rfl
  | d + 1, i, n + 1, hi, hn => by
    obtain ⟨x, hx, _⟩ := drop_cons (l := m) (i := i) (by omega)
    have e : (m.take i).map (·.op) ++ [x.op] = (m.take (i + 1)).map (·.op) := by rw [take_snoc hx]; simp
    simp only [partial_Queue_Ops.l0]
    rw [dec_lt (by omega)]
    simp only [cond_true, atL_nat hx, Option.bind_some]
    rw [decide_eq_true (by simp; omega)]
    simp only [cond_true, e, w64_succ (i := i) (by omega)]
    exact qops_loop m hl d (i + 1) n (by omega) (by omega)
theorem qops {q : TQueue} {m : List TMark} {c : Int} {B : Nat} (h : GrM q.marks.p q.marks.r m c B) (hl : m.length < 100000) : partial_Queue_Ops.f K1 q = some (m.map (·.op)) := by
  have e := qops_loop m (by omega) m.length 0 K1 (Nat.zero_add _) (by unfold K1; omega)
  replace e : partial_Queue_Ops.l0 K1 m K1 ([], 0) = some (m.map (·.op)) := e
  unfold partial_Queue_Ops.f
  rw [h.all okM (by decide) (by omega)]
  simp only [Option.bind_some, e]
end Go.Proofs.YtpeoalmhccmdiaaGreat
namespace Go.Proofs.YtpeoalmhccmdiaaGreat
open Go Go.Proofs.YtpeoalmhccmdiaaGreat.Sx
theorem cap_bd (n : Int) : 0 ≤ gmin (gmax n 0) 65536 ∧ gmin (gmax n 0) 65536 ≤ 65536 := by
  unfold gmin gmax; split <;> split <;> omega
theorem refRest (a : Int) {n : Nat} (hn : 1 ≤ n) (hn2 : n < 1000000) : ∃ r : Nat, R01_Rest.f K1 a (n : Int) = some (r : Int) ∧ r < n := by
  have h0 : decide ((n : Int) ≠ 0) = true := decide_eq_true (by omega)
  have h6 : (a.tmod (n : Int)).natAbs < n := by rw [Int.natAbs_tmod]; exact Nat.mod_lt _ (by omega)
  have h3 : w64 (a.tmod (n : Int) + (n : Int)) = a.tmod (n : Int) + (n : Int) := w64_id (by omega) (by omega)
  unfold R01_Rest.f
  simp only [h0, cond_true, h3]
  have h4 := Int.tmod_nonneg (a := a.tmod (n : Int) + (n : Int)) (n : Int) (by omega)
  have h5 := Int.tmod_lt_of_pos (a.tmod (n : Int) + (n : Int)) (b := (n : Int)) (by omega)
  exact ⟨((a.tmod (n : Int) + (n : Int)).tmod (n : Int)).toNat, by congr 1; omega, by omega⟩
theorem actTime (a : TL12Act) (l : List TOp) (hl : l.length < 100000) : ∃ t, Lw12_Act_time.f K1 a l = some t := by
  unfold Lw12_Act_time.f
  cases a.told with
  | false => exact ⟨_, rfl⟩
  | true =>
    simp only [Bool.not_true, cond_false]
    by_cases h : l.length = 0
    · have : ((l.length : Int) == 0) = true := by simp [h]
      rw [this]; exact ⟨_, rfl⟩
    · have : ((l.length : Int) == 0) = false := by simpa using h
      rw [this]
      obtain ⟨r, r1, r2⟩ := refRest a.time (n := l.length) (by omega) (by omega)
      obtain ⟨x, hx, _⟩ := drop_cons (l := l) (i := r) r2
      simp only [cond_false, r1, Option.bind_some, atL_nat hx]
      exact ⟨_, rfl⟩
theorem Chg.refl (m : List TMark) : Chg ⟨[], []⟩ m m := .inl ⟨rfl, List.Perm.refl _⟩
theorem QOk.up {q : TQueue} {m : List TMark} {E c : Int} {B B' : Nat} (h : QOk q m E c B) (hB : B ≤ B') (hb9 : B' < 900000) : QOk q m E c B' :=
  ⟨⟨h.rep.cap, h.rep.marks.mono hB (by omega), h.rep.pres.imp (fun T h => ⟨h.1.mono hB (by omega), h.2⟩), h.rep.gone.imp (fun T h => ⟨h.1.mono hB (by omega), h.2⟩), h.rep.times.imp (fun T h => ⟨h.1.mono hB (by omega), h.2⟩), h.rep.dist, h.rep.len, h.rep.lim, hb9, h.rep.plain⟩, h.cert, h.exc⟩
theorem new_ok (n : Int) : ∃ q, partial_New.f K1 n = some q ∧ QOk q [] 0 (gmin (gmax n 0) 65536) 0 := by
  have hb := cap_bd n
  have hc : capOf (gmin (gmax n 0) 65536) = gmin (gmax n 0) 65536 := by
    generalize gmin (gmax n 0) 65536 = c at *
    unfold capOf; split <;> split <;> omega
  unfold partial_New.f wave_New.f shelf_New.f Tree_New.f
  simp only [Option.bind_some, hc]
  refine ⟨_, rfl, ⟨⟨rfl, Gr.new _ 0 (by decide), ⟨[], Gr.new _ 0 (by decide), List.Perm.refl _⟩, ⟨[], Gr.new _ 0 (by decide), List.Perm.refl _⟩, ⟨[], Gr.new _ 0 (by decide), List.Perm.refl _⟩, ?_, by simpa using hb.1, by decide, by decide, fun x hx => by cases hx⟩, ?_, rfl⟩⟩
  · intro i j x y h1; simp at h1
  · refine ⟨fun p hp => ?_, ?_, fun i j hi => ?_, fun h => ?_⟩
    · have : p = 0 := by simpa using hp
      subst this; simp [hgt]
    · simp [hgt]
    · simp at hi
    · simp [hgt] at h
end Go.Proofs.YtpeoalmhccmdiaaGreat
namespace Go.Proofs.YtpeoalmhccmdiaaGreat
open Go Go.Proofs.YtpeoalmhccmdiaaGreat.Sx
theorem any_ok {q : TQueue} {m : List TMark} {E c : Int} {B : Nat} (h : QOk q m E c B) (hl2 : m.length < 100) (hb9 : B + 2 < 900000) (t : Int) :
    (∀ x, ∃ ch e q' m' E', partial_Queue_Insert.f K1 q t x = some (ch, e, q') ∧ QOk q' m' E' c (B + 2) ∧ m'.length ≤ m.length + 1 ∧ Chg ch m m') ∧
    (∃ ch e q' m' E', partial_Queue_Delete.f K1 q t = some (ch, e, q') ∧ QOk q' m' E' c (B + 2) ∧ m'.length ≤ m.length + 1 ∧ Chg ch m m') ∧
    (∃ ch e q' m' E', partial_Queue_Revoke.f K1 q t = some (ch, e, q') ∧ QOk q' m' E' c (B + 2) ∧ m'.length ≤ m.length + 1 ∧ Chg ch m m') := by
  obtain ⟨A, M, D, hc⟩ := mcut h.rep.marks (by omega) t
  have hsame := h.up (B' := B + 2) (by omega) hb9
  refine ⟨fun x => ?_, ?_, ?_⟩
  · obtain ⟨n1, n2, n3⟩ := insert_no h.rep hc x
    by_cases hfull : (m.length : Int) = c
    · exact ⟨_, _, q, m, E, n1 hfull, hsame, by omega, Chg.refl m⟩
    · rcases hc.lm with hM | ⟨y, hM, hy⟩
      · subst hM
        by_cases hx : ∃ y ∈ m, y.op.insert = true ∧ y.op.item = x
        · exact ⟨_, _, q, m, E, n3 hfull rfl hx, hsame, by omega, Chg.refl m⟩
        · obtain ⟨ch, q', m', E', r1, r2, r3, r4⟩ := insert_ok h hc x hfull hl2 (fun y hy h1 h2 => hx ⟨y, hy, h1, h2⟩) hb9
          have e1 := congrArg List.length r3
          have e2 := congrArg List.length hc.eq
          simp at e1 e2
          exact ⟨ch, 0, q', m', E', r1, r2, by omega, r4⟩
      · subst hM
        exact ⟨_, _, q, m, E, n2 hfull (by simp), hsame, by omega, Chg.refl m⟩
  · obtain ⟨n1, n2⟩ := delete_no h.rep hc
    by_cases hfull : (m.length : Int) = c
    · exact ⟨_, _, q, m, E, n1 hfull, hsame, by omega, Chg.refl m⟩
    · rcases hc.lm with hM | ⟨y, hM, hy⟩
      · subst hM
        obtain ⟨ch, q', m', E', r1, r2, r3, r4⟩ := delete_ok h hc hfull hl2 hb9
        have e1 := congrArg List.length r3
        have e2 := congrArg List.length hc.eq
        simp at e1 e2
        exact ⟨ch, 0, q', m', E', r1, r2, by omega, r4⟩
      · subst hM
        exact ⟨_, _, q, m, E, n2 hfull (by simp), hsame, by omega, Chg.refl m⟩
  · rcases hc.lm with hM | ⟨y, hM, hy⟩
    · subst hM
      exact ⟨_, _, q, m, E, revoke_no h.rep hc, hsame, by omega, Chg.refl m⟩
    · subst hM
      obtain ⟨ch, q', m', E', r1, r2, r3, r4⟩ := revoke_ok h hc hb9
      have e1 := congrArg List.length r3
      have e2 := congrArg List.length hc.eq
      simp at e1 e2
      exact ⟨ch, 0, q', m', E', r1, r2, by omega, r4⟩
end Go.Proofs.YtpeoalmhccmdiaaGreat
namespace Go.Proofs.YtpeoalmhccmdiaaGreat
open Go Go.Proofs.YtpeoalmhccmdiaaGreat.Sx
abbrev GVM (p : PN TMark TSwell) (r : TRef) (n : Nat) := GV IsSwell ltM p r n
abbrev GVS (p : PN TSlot TSize) (r : TRef) (n : Nat) := GV lenS' ltS p r n
section
variable {p : PN TMark TSwell} {r : TRef} {n : Nat}
theorem clampS (h : GVM p r n) {i x : Int} (hp : bridge_clamp.f K1 p r i = some x) {v : Int} (h0 : 0 ≤ v) (hb : v < 1000000000000) : ∃ v', Vbridge_clamp.f K1 (vz p v) r i = some (x, vz p v') ∧ v ≤ v' ∧ v' ≤ v + 1 := by
  unfold bridge_clamp.f at hp
  obtain ⟨y, hy, hp⟩ := bnd hp
  cases hp
  obtain ⟨v', a1, b1, c1⟩ := h.len okM hy h0 hb
  exact ⟨v', by unfold Vbridge_clamp.f; rw [a1]; rfl, b1, c1⟩
theorem heightS (h : GVM p r n) (hn : n < 1000) {i base x : Int} (hp : bridge_Height.f K1 p r i base = some x) {v : Int} (h0 : 0 ≤ v) (hb : v < 1000000000000) : ∃ v', Vbridge_Height.f K1 (vz p v) r i base = some (x, vz p v') ∧ v ≤ v' ∧ v' ≤ v + 270 := by
  unfold bridge_Height.f at hp
  obtain ⟨y, hy, hp⟩ := bnd hp
  cases hp
  obtain ⟨v', a1, b1, c1⟩ := h.between okM (by decide) hn hy h0 hb
  exact ⟨v', by unfold Vbridge_Height.f; rw [a1]; rfl, b1, c1⟩
theorem bnextS (h : GVM p r n) (hn : n < 1000) {base : Int} (hs : SmallB base) {i x : Int} (hp : bridge_Next.f K1 p r i base = some x) {v : Int} (h0 : 0 ≤ v) (hb : v < 100000000000) : ∃ v', Vbridge_Next.f K1 (vz p v) r i base = some (x, vz p v') ∧ v ≤ v' ∧ v' ≤ v + 460 := by
  unfold bridge_Next.f bridge_low.f at hp
  obtain ⟨x1, f1, hp⟩ := bnd hp
  obtain ⟨x2, f2, hp⟩ := bnd hp
  obtain ⟨v1, a1, b1, c1⟩ := clampS h f1 h0 (by omega)
  obtain ⟨v2, a2, b2, c2⟩ := heightS h hn f2 (v := v1) (by omega) (by omega)
  unfold Vbridge_Next.f bridge_low.f
  simp only [a1, Option.bind_some, a2]
  by_cases h1 : x2 ≤ 0
  · simp only [h1, decide_true, cond_true] at hp ⊢
    cases hp
    exact ⟨v2, rfl, by omega, by omega⟩
  · simp only [h1, decide_false, cond_false, Option.bind_some] at hp ⊢
    obtain ⟨x4, f4, hp⟩ := bnd hp
    obtain ⟨v3, a3, b3, c3⟩ := h.first okM (by decide) (fall_ok hs) hn f4 (v := v2) (by omega) (by omega)
    refine ⟨v3, ?_, by omega, by omega⟩
    simp only [a3, Option.bind_some]
    by_cases h2 : x4 ≥ 0
    · simp only [h2, decide_true, cond_true] at hp ⊢
      cases hp; rfl
    · simp only [h2, decide_false, cond_false] at hp ⊢
      cases hp; rfl
theorem bpriorS (h : GVM p r n) (hn : n < 1000) {base : Int} (hs : SmallB base) {i x : Int} (hp : bridge_Prior.f K1 p r i base = some x) {v : Int} (h0 : 0 ≤ v) (hb : v < 100000000000) : ∃ v', Vbridge_Prior.f K1 (vz p v) r i base = some (x, vz p v') ∧ v ≤ v' ∧ v' ≤ v + 190 := by
  unfold bridge_Prior.f bridge_low.f at hp
  obtain ⟨x1, f1, hp⟩ := bnd hp
  simp only [Option.bind_some] at hp
  obtain ⟨x3, f3, hp⟩ := bnd hp
  obtain ⟨v1, a1, b1, c1⟩ := clampS h f1 h0 (by omega)
  obtain ⟨v3, a3, b3, c3⟩ := h.last okM (by decide) (fall_ok hs) hn f3 (v := v1) (by omega) (by omega)
  unfold Vbridge_Prior.f bridge_low.f
  refine ⟨v3, ?_, by omega, by omega⟩
  simp only [a1, Option.bind_some, a3]
  by_cases h2 : x3 ≥ 0
  · simp only [h2, decide_true, cond_true] at hp ⊢
    cases hp; rfl
  · simp only [h2, decide_false, cond_false] at hp ⊢
    by_cases h3 : base ≤ 0
    · simp only [h3, decide_true, cond_true] at hp ⊢
      cases hp; rfl
    · simp only [h3, decide_false, cond_false] at hp ⊢
      cases hp; rfl
theorem bestS (h : GVM p r n) (hn : n < 1000) {i : Int} {x : TTook} (hp : bridge_Best.f K1 p r i = some x) {v : Int} (h0 : 0 ≤ v) (hb : v < 100000000000) : ∃ v', Vbridge_Best.f K1 (vz p v) r i = some (x, vz p v') ∧ v ≤ v' ∧ v' ≤ v + 280 := by
  unfold bridge_Best.f at hp
  obtain ⟨x1, f1, hp⟩ := bnd hp
  obtain ⟨x2, f2, hp⟩ := bnd hp
  obtain ⟨x3, f3, hp⟩ := bnd hp
  cases hp
  obtain ⟨v1, a1, b1, c1⟩ := clampS h f1 h0 (by omega)
  obtain ⟨v2, a2, b2, c2⟩ := h.len okM f2 (v := v1) (by omega) (by omega)
  obtain ⟨v3, a3, b3, c3⟩ := h.between okM (by decide) hn f3 (v := v2) (by omega) (by omega)
  exact ⟨v3, by unfold Vbridge_Best.f; simp only [a1, Option.bind_some, a2, a3], by omega, by omega⟩
theorem leastS (h : GVM p r n) (hn : n < 1000) {i : Int} {x : TTook} (hp : bridge_Least.f K1 p r i = some x) {v : Int} (h0 : 0 ≤ v) (hb : v < 100000000000) : ∃ v', Vbridge_Least.f K1 (vz p v) r i = some (x, vz p v') ∧ v ≤ v' ∧ v' ≤ v + 280 := by
  unfold bridge_Least.f at hp
  obtain ⟨x1, f1, hp⟩ := bnd hp
  obtain ⟨x3, f3, hp⟩ := bnd hp
  cases hp
  obtain ⟨v1, a1, b1, c1⟩ := clampS h f1 h0 (by omega)
  obtain ⟨v3, a3, b3, c3⟩ := h.between okM (by decide) hn f3 (v := v1) (by omega) (by omega)
  exact ⟨v3, by unfold Vbridge_Least.f; simp only [a1, Option.bind_some, a3], by omega, by omega⟩
end
abbrev qz (q : TQueue) (a b c d : Int) : TQueue := TQueue.mk q.capacity (TS.mk (vz q.marks.p a) q.marks.r) (TS.mk (vz q.present.p b) q.present.r) (TS.mk (vz q.gone.p c) q.gone.r) (TS.mk (vz q.times.p d) q.times.r) q.excess
structure QV (q : TQueue) (n : Nat) : Prop where
  m : GVM q.marks.p q.marks.r n
  pr : GVS q.present.p q.present.r n
  g : GVS q.gone.p q.gone.r n
  t : GVS q.times.p q.times.r n
theorem QV.mono {q : TQueue} {n n' : Nat} (h : QV q n) (hn : n ≤ n') : QV q n' := ⟨h.m.mono hn, h.pr.mono hn, h.g.mono hn, h.t.mono hn⟩
section
variable {q q' : TQueue} {n : Nat} {a b c d : Int}
theorem mayS (h : QV q n) (hn : n < 1000) {t e : Int} (hp : partial_Queue_may.f K1 q t = some e) (ha : 0 ≤ a) (hb : a < 100000000000) : ∃ a', Vpartial_Queue_may.f K1 (qz q a b c d) t = some (e, qz q a' b c d) ∧ a ≤ a' ∧ a' ≤ a + 40 := by
  unfold partial_Queue_may.f at hp
  obtain ⟨x1, f1, hp⟩ := bnd hp
  obtain ⟨v1, a1, b1, c1⟩ := h.m.len okM f1 ha (by omega)
  unfold Vpartial_Queue_may.f
  simp only [qz, a1, Option.bind_some, key_ok] at hp ⊢
  cases hc : (x1 == q.capacity) with
  | true =>
    rw [hc, cond_true] at hp
    simp only [cond_true]
    cases hp
    exact ⟨v1, rfl, by omega, by omega⟩
  | false =>
    rw [hc, cond_false] at hp
    obtain ⟨x3, f3, hp⟩ := bnd hp
    obtain ⟨v2, a2, b2, c2⟩ := h.m.find okM hn f3 (v := v1) (by omega) (by omega)
    refine ⟨v2, ?_, by omega, by omega⟩
    simp only [cond_false, a2, Option.bind_some]
    cases hx : x3.2 with
    | true => rw [hx, cond_true] at hp; cases hp; rfl
    | false => rw [hx, cond_false] at hp; cases hp; rfl
theorem turnS (h : QV q n) (hn : n < 900) {x : TItem} {hh : Bool} (hp : partial_Queue_turn.f K1 q x hh = some q') (ha : 0 ≤ a) (hb : 0 ≤ b) (hc : 0 ≤ c) (hd : 0 ≤ d) (hs : a + b + c + d < 10000000000) :
    ∃ a' b' c' d', Vpartial_Queue_turn.f K1 (qz q a b c d) x hh = some (qz q' a' b' c' d') ∧ a ≤ a' ∧ b ≤ b' ∧ c ≤ c' ∧ d ≤ d' ∧ a' + b' + c' + d' ≤ a + b + c + d + 7600 ∧ QV q' (n + 1) := by
  unfold partial_Queue_turn.f at hp
  simp only [of_ok, key_ok, Option.bind_some] at hp
  obtain ⟨x2, f2, hp⟩ := bnd hp
  obtain ⟨x4, f4, hp⟩ := bnd hp
  obtain ⟨x5, f5, hp⟩ := bnd hp
  obtain ⟨d1, a1, b1, c1⟩ := h.t.find okS (by omega) f2 hd (by omega)
  obtain ⟨m1, a2, b2, c2⟩ := h.m.find okM (by omega) f4 ha (by omega)
  obtain ⟨m2, a3, b3, c3, w3⟩ := h.m.put okM (by decide) (by omega) f5 (v := m1) (by omega) (by omega)
  unfold Vpartial_Queue_turn.f
  simp only [qz, of_ok, key_ok, Option.bind_some, a1, a2, a3]
  cases hh with
  | true =>
    rw [cond_true] at hp
    rw [cond_true]
    obtain ⟨x7, f7, hp⟩ := bnd hp
    obtain ⟨x9, f9, hp⟩ := bnd hp
    cases hp
    obtain ⟨g1, a4, b4, c4, w4⟩ := h.g.drop okS (by decide) (by omega) f7 hc (by omega)
    obtain ⟨p1, a5, b5, c5, w5⟩ := h.pr.put okS (by decide) (by omega) f9 hb (by omega)
    refine ⟨m2, p1, g1, d1, ?_, by omega, by omega, by omega, by omega, by omega, ⟨w3, w5, w4.mono (by omega), h.t.mono (by omega)⟩⟩
    simp only [a4, a5, Option.bind_some]
  | false =>
    rw [cond_false] at hp
    rw [cond_false]
    obtain ⟨x7, f7, hp⟩ := bnd hp
    obtain ⟨x9, f9, hp⟩ := bnd hp
    cases hp
    obtain ⟨g1, a4, b4, c4, w4⟩ := h.pr.drop okS (by decide) (by omega) f7 hb (by omega)
    obtain ⟨p1, a5, b5, c5, w5⟩ := h.g.put okS (by decide) (by omega) f9 hc (by omega)
    refine ⟨m2, g1, p1, d1, ?_, by omega, by omega, by omega, by omega, by omega, ⟨w3, w4.mono (by omega), w5, h.t.mono (by omega)⟩⟩
    simp only [a4, a5, Option.bind_some]
theorem leaveS (h : QV q n) (hn : n < 900) (hE : SmallB q.excess) {i : Int} {x : TChange × TQueue} (hp : partial_Queue_leave.f K1 q i = some x) (ha : 0 ≤ a) (hb : 0 ≤ b) (hc : 0 ≤ c) (hd : 0 ≤ d) (hs : a + b + c + d < 1000000000) :
    ∃ a' b' c' d', Vpartial_Queue_leave.f K1 (qz q a b c d) i = some (x.1, qz x.2 a' b' c' d') ∧ a ≤ a' ∧ b ≤ b' ∧ c ≤ c' ∧ d ≤ d' ∧ a' + b' + c' + d' ≤ a + b + c + d + 8400 ∧ QV x.2 (n + 1) := by
  unfold partial_Queue_leave.f at hp
  obtain ⟨x1, f1, hp⟩ := bnd hp
  obtain ⟨x2, f2, hp⟩ := bnd hp
  obtain ⟨m1, a1, b1, c1⟩ := bnextS h.m (by omega) hE f1 ha (by omega)
  obtain ⟨m2, a2, b2, c2⟩ := leastS h.m (by omega) f2 (v := m1) (by omega) (by omega)
  unfold Vpartial_Queue_leave.f
  simp only [qz, a1, a2, Option.bind_some]
  cases hf : (!x2.found) with
  | true =>
    rw [hf, cond_true] at hp
    simp only [cond_true]
    cases hp
    exact ⟨m2, b, c, d, rfl, by omega, by omega, by omega, by omega, by omega, ⟨h.m.mono (by omega), h.pr.mono (by omega), h.g.mono (by omega), h.t.mono (by omega)⟩⟩
  | false =>
    rw [hf, cond_false] at hp
    simp only [cond_false]
    obtain ⟨x3, f3, hp⟩ := bnd hp
    cases hp
    obtain ⟨a', b', c', d', g1, g2, g3, g4, g5, g6, w⟩ := turnS h hn f3 (a := m2) (by omega) hb hc hd (by omega)
    exact ⟨a', b', c', d', by simp only [g1, Option.bind_some], by omega, by omega, by omega, by omega, by omega, w⟩
theorem enterS (h : QV q n) (hn : n < 900) (hE : SmallB q.excess) {i : Int} {x : TChange × TQueue} (hp : partial_Queue_enter.f K1 q i = some x) (ha : 0 ≤ a) (hb : 0 ≤ b) (hc : 0 ≤ c) (hd : 0 ≤ d) (hs : a + b + c + d < 1000000000) :
    ∃ a' b' c' d', Vpartial_Queue_enter.f K1 (qz q a b c d) i = some (x.1, qz x.2 a' b' c' d') ∧ a ≤ a' ∧ b ≤ b' ∧ c ≤ c' ∧ d ≤ d' ∧ a' + b' + c' + d' ≤ a + b + c + d + 8400 ∧ QV x.2 (n + 1) := by
  unfold partial_Queue_enter.f at hp
  obtain ⟨x1, f1, hp⟩ := bnd hp
  obtain ⟨m1, a1, b1, c1⟩ := bpriorS h.m (by omega) hE f1 ha (by omega)
  unfold Vpartial_Queue_enter.f
  simp only [qz, a1, Option.bind_some]
  by_cases h1 : x1 < 0
  · simp only [h1, decide_true, cond_true] at hp ⊢
    cases hp
    exact ⟨m1, b, c, d, rfl, by omega, by omega, by omega, by omega, by omega, ⟨h.m.mono (by omega), h.pr.mono (by omega), h.g.mono (by omega), h.t.mono (by omega)⟩⟩
  · simp only [h1, decide_false, cond_false] at hp ⊢
    obtain ⟨x2, f2, hp⟩ := bnd hp
    obtain ⟨m2, a2, b2, c2⟩ := bestS h.m (by omega) f2 (v := m1) (by omega) (by omega)
    simp only [a2, Option.bind_some]
    cases hf : (!x2.found) with
    | true =>
      rw [hf, cond_true] at hp
      simp only [cond_true]
      cases hp
      exact ⟨m2, b, c, d, rfl, by omega, by omega, by omega, by omega, by omega, h.mono (by omega)⟩
    | false =>
      rw [hf, cond_false] at hp
      simp only [cond_false]
      obtain ⟨x3, f3, hp⟩ := bnd hp
      cases hp
      obtain ⟨a', b', c', d', g1, g2, g3, g4, g5, g6, w⟩ := turnS h hn f3 (a := m2) (by omega) hb hc hd (by omega)
      exact ⟨a', b', c', d', by simp only [g1, Option.bind_some], by omega, by omega, by omega, by omega, by omega, w⟩
theorem insertS (h : QV q n) (hn : n < 800) (hE : SmallB q.excess) {t : Int} {y : TItem} {x : TChange × Int × TQueue} (hp : partial_Queue_Insert.f K1 q t y = some x) (ha : 0 ≤ a) (hb : 0 ≤ b) (hc : 0 ≤ c) (hd : 0 ≤ d) (hs : a + b + c + d < 100000000) :
    ∃ a' b' c' d', Vpartial_Queue_Insert.f K1 (qz q a b c d) t y = some (x.1, x.2.1, qz x.2.2 a' b' c' d') ∧ a ≤ a' ∧ b ≤ b' ∧ c ≤ c' ∧ d ≤ d' ∧ a' + b' + c' + d' ≤ a + b + c + d + 20000 ∧ QV x.2.2 (n + 2) := by
  unfold partial_Queue_Insert.f at hp
  obtain ⟨x1, f1, hp⟩ := bnd hp
  obtain ⟨m1, a1, b1, c1⟩ := mayS (b := b) (c := c) (d := d) h (by omega) f1 ha (by omega)
  unfold Vpartial_Queue_Insert.f
  simp only [a1, Option.bind_some, of_ok, key_ok] at hp ⊢
  cases h1 : (x1 != 0) with
  | true =>
    rw [h1, cond_true] at hp
    simp only [cond_true]
    cases hp
    exact ⟨m1, b, c, d, rfl, by omega, by omega, by omega, by omega, by omega, h.mono (by omega)⟩
  | false =>
    rw [h1, cond_false] at hp
    obtain ⟨x3, f3, hp⟩ := bnd hp
    obtain ⟨d1, a3, b3, c3⟩ := h.t.find okS (by omega) f3 hd (by omega)
    simp only [cond_false, qz, a3, Option.bind_some]
    cases h3 : x3.2 with
    | true =>
      rw [h3, cond_true] at hp
      simp only [cond_true]
      cases hp
      exact ⟨m1, b, c, d1, rfl, by omega, by omega, by omega, by omega, by omega, h.mono (by omega)⟩
    | false =>
      rw [h3, cond_false] at hp
      obtain ⟨x5, f5, hp⟩ := bnd hp
      obtain ⟨x6, f6, hp⟩ := bnd hp
      obtain ⟨x7, f7, hp⟩ := bnd hp
      obtain ⟨x8, f8, hp⟩ := bnd hp
      obtain ⟨x10, f10, hp⟩ := bnd hp
      obtain ⟨m2, a5, b5, c5⟩ := h.m.rank okM (by omega) f5 (v := m1) (by omega) (by omega)
      obtain ⟨m3, a6, b6, c6⟩ := bpriorS h.m (by omega) hE f6 (v := m2) (by omega) (by omega)
      obtain ⟨d2, a7, b7, c7, w7⟩ := h.t.put okS (by decide) (by omega) f7 (v := d1) (by omega) (by omega)
      obtain ⟨m4, a8, b8, c8, w8⟩ := h.m.put okM (by decide) (by omega) f8 (v := m3) (by omega) (by omega)
      obtain ⟨e1, a10, b10, c10, w10⟩ := h.g.put okS (by decide) (by omega) f10 hc (by omega)
      simp only [cond_false, a5, a6, a7, a8, a10, Option.bind_some]
      by_cases h6 : x6 < 0
      · simp only [h6, decide_true, cond_true] at hp ⊢
        cases hp
        exact ⟨m4, b, e1, d2, rfl, by omega, by omega, by omega, by omega, by omega, ⟨w8.mono (by omega), h.pr.mono (by omega), w10.mono (by omega), w7.mono (by omega)⟩⟩
      · simp only [h6, decide_false, cond_false] at hp ⊢
        obtain ⟨x11, f11, hp⟩ := bnd hp
        obtain ⟨x12, f12, hp⟩ := bnd hp
        cases hp
        obtain ⟨m5, a11, b11, c11⟩ := bestS w8 (by omega) f11 (v := m4) (by omega) (by omega)
        have hw : QV (TQueue.mk q.capacity (TS.mk x8.2.2 x8.2.1) q.present (TS.mk x10.2.2 x10.2.1) (TS.mk x7.2.2 x7.2.1) q.excess) (n + 1) := ⟨w8, h.pr.mono (by omega), w10, w7⟩
        obtain ⟨a', b', c', d', g1, g2, g3, g4, g5, g6, w⟩ := turnS hw (by omega) f12 (a := m5) (b := b) (c := e1) (d := d2) (by omega) hb (by omega) (by omega) (by omega)
        exact ⟨a', b', c', d', by simp only [a11, Option.bind_some]; simp only [qz] at g1; simp only [g1, Option.bind_some], by omega, by omega, by omega, by omega, by omega, w⟩
theorem deleteS (h : QV q n) (hn : n < 800) (hE : SmallB q.excess) {t : Int} {x : TChange × Int × TQueue} (hp : partial_Queue_Delete.f K1 q t = some x) (ha : 0 ≤ a) (hb : 0 ≤ b) (hc : 0 ≤ c) (hd : 0 ≤ d) (hs : a + b + c + d < 100000000) :
    ∃ a' b' c' d', Vpartial_Queue_Delete.f K1 (qz q a b c d) t = some (x.1, x.2.1, qz x.2.2 a' b' c' d') ∧ a ≤ a' ∧ b ≤ b' ∧ c ≤ c' ∧ d ≤ d' ∧ a' + b' + c' + d' ≤ a + b + c + d + 20000 ∧ QV x.2.2 (n + 2) := by
  unfold partial_Queue_Delete.f at hp
  obtain ⟨x1, f1, hp⟩ := bnd hp
  obtain ⟨m1, a1, b1, c1⟩ := mayS (b := b) (c := c) (d := d) h (by omega) f1 ha (by omega)
  unfold Vpartial_Queue_Delete.f
  simp only [a1, Option.bind_some, of_ok, key_ok] at hp ⊢
  cases h1 : (x1 != 0) with
  | true =>
    rw [h1, cond_true] at hp
    simp only [cond_true]
    cases hp
    exact ⟨m1, b, c, d, rfl, by omega, by omega, by omega, by omega, by omega, h.mono (by omega)⟩
  | false =>
    rw [h1, cond_false] at hp
    obtain ⟨x3, f3, hp⟩ := bnd hp
    obtain ⟨x4, f4, hp⟩ := bnd hp
    obtain ⟨x6, f6, hp⟩ := bnd hp
    cases hp
    obtain ⟨m2, a3, b3, c3⟩ := h.m.rank okM (by omega) f3 (v := m1) (by omega) (by omega)
    obtain ⟨a', b', c', d', g1, g2, g3, g4, g5, g6, w⟩ := leaveS h (by omega) hE f4 (a := m2) (by omega) hb hc hd (by omega)
    obtain ⟨m4, a6, b6, c6, w6⟩ := w.m.put okM (by decide) (by omega) f6 (v := a') (by omega) (by omega)
    refine ⟨m4, b', c', d', ?_, by omega, by omega, by omega, by omega, by omega, ⟨w6, w.pr.mono (by omega), w.g.mono (by omega), w.t.mono (by omega)⟩⟩
    simp only [cond_false, qz, a3, Option.bind_some]
    simp only [qz] at g1
    simp only [g1, Option.bind_some, a6]
theorem revokeS (h : QV q n) (hn : n < 800) (hE : SmallB q.excess) {t : Int} {x : TChange × Int × TQueue} (hp : partial_Queue_Revoke.f K1 q t = some x) (ha : 0 ≤ a) (hb : 0 ≤ b) (hc : 0 ≤ c) (hd : 0 ≤ d) (hs : a + b + c + d < 100000000) :
    ∃ a' b' c' d', Vpartial_Queue_Revoke.f K1 (qz q a b c d) t = some (x.1, x.2.1, qz x.2.2 a' b' c' d') ∧ a ≤ a' ∧ b ≤ b' ∧ c ≤ c' ∧ d ≤ d' ∧ a' + b' + c' + d' ≤ a + b + c + d + 20000 ∧ QV x.2.2 (n + 2) := by
  unfold partial_Queue_Revoke.f at hp
  simp only [key_ok, of_ok, Option.bind_some] at hp
  obtain ⟨x2, f2, hp⟩ := bnd hp
  obtain ⟨m1, a2, b2, c2⟩ := h.m.find okM (by omega) f2 ha (by omega)
  unfold Vpartial_Queue_Revoke.f
  simp only [key_ok, of_ok, qz, a2, Option.bind_some]
  cases h1 : (!x2.2) with
  | true =>
    rw [h1, cond_true] at hp
    simp only [cond_true]
    cases hp
    exact ⟨m1, b, c, d, rfl, by omega, by omega, by omega, by omega, by omega, h.mono (by omega)⟩
  | false =>
    rw [h1, cond_false] at hp
    obtain ⟨x4, f4, hp⟩ := bnd hp
    obtain ⟨m2, a4, b4, c4⟩ := h.m.rank okM (by omega) f4 (v := m1) (by omega) (by omega)
    simp only [cond_false, a4, Option.bind_some]
    cases h2 : (!x2.1.op.insert) with
    | true =>
      rw [h2, cond_true] at hp
      simp only [cond_true]
      obtain ⟨x5, f5, hp⟩ := bnd hp
      obtain ⟨x7, f7, hp⟩ := bnd hp
      cases hp
      obtain ⟨a', b', c', d', g1, g2, g3, g4, g5, g6, w⟩ := enterS h (by omega) hE f5 (a := m2) (by omega) hb hc hd (by omega)
      obtain ⟨m4, a6, b6, c6, w6⟩ := w.m.drop okM (by decide) (by omega) f7 (v := a') (by omega) (by omega)
      refine ⟨m4, b', c', d', ?_, by omega, by omega, by omega, by omega, by omega, ⟨w6.mono (by omega), w.pr.mono (by omega), w.g.mono (by omega), w.t.mono (by omega)⟩⟩
      simp only [qz] at g1
      simp only [g1, Option.bind_some, a6]
    | false =>
      rw [h2, cond_false] at hp
      simp only [cond_false]
      obtain ⟨x8, f8, hp⟩ := bnd hp
      obtain ⟨x11, f11, hp⟩ := bnd hp
      obtain ⟨x13, f13, hp⟩ := bnd hp
      obtain ⟨x15, f15, hp⟩ := bnd hp
      obtain ⟨x17, f17, hp⟩ := bnd hp
      cases hp
      obtain ⟨a', b', c', d', g1, g2, g3, g4, g5, g6, w⟩ : ∃ a' b' c' d', (bif (!x2.1.here) then ((Vpartial_Queue_leave.f K1 (qz q m2 b c d) (w64 (x4 + 1))).bind fun x9 => some (x9.2, x9.1.in_, x9.1.out)) else (some ((qz q m2 b c d), ([] : List TItem), ([x2.1.op.item] : List TItem)))) = some (qz x8.1 a' b' c' d', x8.2.1, x8.2.2) ∧ m2 ≤ a' ∧ b ≤ b' ∧ c ≤ c' ∧ d ≤ d' ∧ a' + b' + c' + d' ≤ m2 + b + c + d + 8400 ∧ QV x8.1 (n + 1) := by
        cases h3 : (!x2.1.here) with
        | true =>
          rw [h3, cond_true] at f8
          rw [cond_true]
          obtain ⟨x9, f9, f8⟩ := bnd f8
          cases f8
          obtain ⟨a', b', c', d', g1, g2, g3, g4, g5, g6, w⟩ := leaveS h (by omega) hE f9 (a := m2) (by omega) hb hc hd (by omega)
          exact ⟨a', b', c', d', by rw [g1]; rfl, g2, g3, g4, g5, g6, w⟩
        | false =>
          rw [h3, cond_false] at f8
          rw [cond_false]
          cases f8
          exact ⟨m2, b, c, d, rfl, by omega, by omega, by omega, by omega, by omega, h.mono (by omega)⟩
      obtain ⟨m4, a11, b11, c11, w11⟩ := w.m.drop okM (by decide) (by omega) f11 (v := a') (by omega) (by omega)
      obtain ⟨e1, a13, b13, c13, w13⟩ := w.pr.drop okS (by decide) (by omega) f13 (v := b') (by omega) (by omega)
      obtain ⟨e2, a15, b15, c15, w15⟩ := w.g.drop okS (by decide) (by omega) f15 (v := c') (by omega) (by omega)
      obtain ⟨e3, a17, b17, c17, w17⟩ := w.t.drop okS (by decide) (by omega) f17 (v := d') (by omega) (by omega)
      refine ⟨m4, e1, e2, e3, ?_, by omega, by omega, by omega, by omega, by omega, ⟨w11.mono (by omega), w13.mono (by omega), w15.mono (by omega), w17.mono (by omega)⟩⟩
      simp only [qz] at g1
      simp only [g1, Option.bind_some, a11, a13, a15, a17]
theorem vops_loop (x2 : List TMark) (pz : PN TMark TSwell) (z : TQueue) : ∀ (n : Nat) (v1 : List TOp) (v2 : Int) {y : List TOp}, partial_Queue_Ops.l0 K1 x2 n (v1, v2) = some y → Vpartial_Queue_Ops.l0 K1 (x2, pz) n (v1, v2, z) = some (y, z)
  | 0, _, _, _, h => by cases h
  | n + 1, v1, v2, y, h => by
    simp only [partial_Queue_Ops.l0] at h
    simp only [Vpartial_Queue_Ops.l0]
    cases hc : decide (v2 < (x2.length : Int)) with
    | false => rw [hc, cond_false] at h; cases h; rfl
    | true =>
      rw [hc, cond_true] at h
      rw [cond_true]
      obtain ⟨x3, f3, h⟩ := bnd h
      simp only [f3, Option.bind_some]
      cases hd : decide (v1.length + ([x3.op] : List TOp).length < 4294967296) with
      | false => rw [hd, cond_false] at h; cases h
      | true =>
        rw [hd, cond_true] at h
        rw [cond_true]
        exact vops_loop x2 pz z n _ _ h
theorem qopsS (h : QV q n) (hn : n < 1000) {x : List TOp} (hp : partial_Queue_Ops.f K1 q = some x) (ha : 0 ≤ a) (hb : a < 100000000000) : ∃ a', Vpartial_Queue_Ops.f K1 (qz q a b c d) = some (x, qz q a' b c d) ∧ a ≤ a' ∧ a' ≤ a + 1000 := by
  unfold partial_Queue_Ops.f at hp
  obtain ⟨y, hy, hp⟩ := bnd hp
  obtain ⟨x2, f2, hy⟩ := bnd hy
  cases hp
  obtain ⟨m1, a1, b1, c1⟩ := h.m.all okM hn f2 ha (by omega)
  refine ⟨m1, ?_, by omega, by omega⟩
  have e := vops_loop x2 (vz q.marks.p m1) (qz q m1 b c d) K1 [] 0 hy
  unfold Vpartial_Queue_Ops.f
  generalize Vpartial_Queue_Ops.l0 K1 = F at e ⊢
  simp only [qz] at e
  simp only [qz]
  rw [a1, Option.bind_some]
  exact (congrArg (fun o => o.bind fun x1 => some (x1.1, x1.2)) e).trans rfl
end
end Go.Proofs.YtpeoalmhccmdiaaGreat
namespace Go.Proofs.YtpeoalmhccmdiaaGreat
open Go Go.Proofs.YtpeoalmhccmdiaaGreat.Sx
theorem Height_loop : ∀ (n k : Nat) (h : Int), k < n → 0 ≤ h → h + 3 * k < 1000000000 → R07_Height.l0 K1 n (h, (k : Int)) = some (h + 3 * (Nat.log2 k : Nat))
  | 0, k, h, hk, _, _ => by omega
  | n + 1, k, h, hk, h0, h1 => by
    simp only [R07_Height.l0]
    by_cases hh : k < 2
    · rw [decide_eq_false (by omega), cond_false, log_small hh]; simp
    · have e2 : w64 ((k : Int).tdiv 2) = ((k / 2 : Nat) : Int) := by
        have : (k : Int).tdiv 2 = ((k / 2 : Nat) : Int) := by
          rw [Int.tdiv_eq_ediv_of_nonneg (by omega)]; omega
        rw [this]
        exact w64_id (by omega) (by omega)
      rw [decide_eq_true (by omega), cond_true, e2, w64_id (by omega) (by omega), Height_loop n (k / 2) (h + 3) (by omega) (by omega) (by omega), log_two (n := k) (by omega)]
      congr 1; omega
theorem Height_eq (n : Nat) (hn : n < 100000) : R07_Height.f K1 (n : Int) = (some (((hmax n : Nat) : Int)) : Option Int) := by
  have := Height_loop K1 (n + 1) 2 (by unfold K1; omega) (by decide) (by omega)
  unfold R07_Height.f hmax
  rw [w64_succ (by omega), this]
  simp only [Option.bind_some]
  congr 1
theorem qvis_eq {q : TQueue} {a b c d : Int} (ha : 0 ≤ a) (hb : 0 ≤ b) (hc : 0 ≤ c) (hd : 0 ≤ d) (hs : a + b + c + d < 1000000000) : Vpartial_Queue_Visits.f K1 (qz q a b c d) = some (a + b + c + d) := by
  unfold Vpartial_Queue_Visits.f VTree_Visits.f
  simp only [qz, Option.bind_some]
  rw [w64_id (x := a + b) (by omega) (by omega), w64_id (x := a + b + c) (by omega) (by omega), w64_id (by omega) (by omega)]
theorem visits_loop (acts : List TL12Act) (hl : acts.length ≤ 60) (cp : Int) : ∀ (dd i n : Nat) {q : TQueue} {m : List TMark} {E a b c d : Int}, i + dd = acts.length → dd < n → QOk q m E cp (2 * i) → m.length ≤ i → QV q (2 * i) → 0 ≤ a → 0 ≤ b → 0 ≤ c → 0 ≤ d → a + b + c + d ≤ 30000 * (i : Int) → VLw12_PartialVisits.l0 K1 acts n (qz q a b c d, m.map (·.op), (i : Int)) = some (Sum.inr ())
  | dd, i, 0, _, _, _, _, _, _, _, _, h, _, _, _, _, _, _, _, _ => by omega
  | 0, i, n + 1, q, m, E, a, b, c, d, hi, _, _, _, _, _, _, _, _, _ => by
    simp only [VLw12_PartialVisits.l0]
    rw [dec_nlt (by omega)]; rfl
  | dd + 1, i, n + 1, q, m, E, a, b, c, d, hi, hn, h, hm, hv, ha, hb, hc, hd, hs => by
    obtain ⟨x, hx, _⟩ := drop_cons (l := acts) (i := i) (by omega)
    obtain ⟨t, ht⟩ := actTime x (m.map (·.op)) (by simp; omega)
    obtain ⟨k, hk, hk3⟩ := refRest x.kind (n := 3) (by decide) (by decide)
    replace hk : R01_Rest.f K1 x.kind 3 = some (k : Int) := hk
    obtain ⟨f1, f2, f3⟩ := any_ok h (by omega) (by omega) t
    have c3 := cert_small h.cert
    have hE : SmallB q.excess := by rw [h.exc]; constructor <;> omega
    have hH : R07_Height.f K1 ((m.map (·.op)).length : Int) = (some (((hmax m.length : Nat) : Int)) : Option Int) := by
      rw [List.length_map]; exact Height_eq m.length (by omega)
    have hh : 2 ≤ hmax m.length := by unfold hmax; omega
    have hh2 := hmax_lt m.length (by omega)
    have z0 : w64 ((hmax m.length : Int) + 4) = (hmax m.length : Int) + 4 := w64_id (by omega) (by omega)
    have z1 : w64 (10000 * ((hmax m.length : Int) + 4)) = 10000 * ((hmax m.length : Int) + 4) := w64_id (by omega) (by omega)
    have hv0 := qvis_eq (q := q) ha hb hc hd (by omega)
    have fin : ∀ {ch : TChange} {e : Int} {q' : TQueue} {m' : List TMark} {E' a' b' c' d' : Int}, QOk q' m' E' cp (2 * i + 2) → m'.length ≤ m.length + 1 → a ≤ a' → b ≤ b' → c ≤ c' → d ≤ d' → a' + b' + c' + d' ≤ a + b + c + d + 20000 → QV q' (2 * i + 2) →
        Vpartial_Queue_Visits.f K1 (qz q' a' b' c' d') = some (a' + b' + c' + d') ∧ decide (w64 (a' + b' + c' + d' - (a + b + c + d)) > 10000 * ((hmax m.length : Int) + 4)) = false ∧ ∃ a2, Vpartial_Queue_Ops.f K1 (qz q' a' b' c' d') = some (m'.map (·.op), qz q' a2 b' c' d') ∧ VLw12_PartialVisits.l0 K1 acts n (qz q' a2 b' c' d', m'.map (·.op), (((i + 1 : Nat)) : Int)) = some (Sum.inr ()) := by
      intro ch e q' m' E' a' b' c' d' r1 r2 g1 g2 g3 g4 g5 w
      refine ⟨qvis_eq (by omega) (by omega) (by omega) (by omega) (by omega), decide_eq_false (by rw [w64_id (by omega) (by omega)]; omega), ?_⟩
      obtain ⟨a2, o1, o2, o3⟩ := qopsS (b := b') (c := c') (d := d') w (by omega) (qops r1.rep.marks (by omega)) (a := a') (by omega) (by omega)
      exact ⟨a2, o1, visits_loop acts hl cp dd (i + 1) n (by omega) (by omega) (by rw [show 2 * (i + 1) = 2 * i + 2 by omega]; exact r1) (by omega) (by rw [show 2 * (i + 1) = 2 * i + 2 by omega]; exact w) (by omega) (by omega) (by omega) (by omega) (by omega)⟩
    simp only [VLw12_PartialVisits.l0]
    rw [dec_lt (by omega)]
    simp only [cond_true, hv0, atL_nat hx, Option.bind_some, ht, hk, hH, z0, z1, w64_succ (i := i) (by omega)]
    rcases (by omega : k = 0 ∨ k = 1 ∨ k = 2) with rfl | rfl | rfl
    · obtain ⟨ch, e, q', m', E', r1, r2, r3, _⟩ := f1 x.x
      obtain ⟨a', b', c', d', g1, g2, g3, g4, g5, g6, w⟩ := insertS hv (by omega) hE r1 ha hb hc hd (by omega)
      obtain ⟨y1, y2, a2, y3, y4⟩ := fin (ch := ch) (e := e) r2 r3 g2 g3 g4 g5 g6 w
      have e0 : (((0 : Nat) : Int) == 0) = true := rfl
      simp only [e0, cond_true, g1, Option.bind_some, y1, y2, cond_false, y3]
      exact y4
    · obtain ⟨ch, e, q', m', E', r1, r2, r3, _⟩ := f2
      obtain ⟨a', b', c', d', g1, g2, g3, g4, g5, g6, w⟩ := deleteS hv (by omega) hE r1 ha hb hc hd (by omega)
      obtain ⟨y1, y2, a2, y3, y4⟩ := fin (ch := ch) (e := e) r2 r3 g2 g3 g4 g5 g6 w
      have e0 : (((1 : Nat) : Int) == 0) = false := rfl
      have e1 : (((1 : Nat) : Int) == 1) = true := rfl
      simp only [e0, e1, cond_true, cond_false, g1, Option.bind_some, y1, y2, y3]
      exact y4
    · obtain ⟨ch, e, q', m', E', r1, r2, r3, _⟩ := f3
      obtain ⟨a', b', c', d', g1, g2, g3, g4, g5, g6, w⟩ := revokeS hv (by omega) hE r1 ha hb hc hd (by omega)
      obtain ⟨y1, y2, a2, y3, y4⟩ := fin (ch := ch) (e := e) r2 r3 g2 g3 g4 g5 g6 w
      have e0 : (((2 : Nat) : Int) == 0) = false := rfl
      have e1 : (((2 : Nat) : Int) == 1) = false := rfl
      have e2 : (((2 : Nat) : Int) == 2) = true := rfl
      simp only [e0, e1, e2, cond_true, cond_false, g1, Option.bind_some, y1, y2, y3]
      exact y4
theorem Vawake12 : VLw12_awake.f K1 = some true := by kernel_rfl
theorem vnew_eq : Vpartial_New.f K1 60 = partial_New.f K1 60 := rfl
theorem vnew_ok : ∃ q, Vpartial_New.f K1 60 = some (qz q 0 0 0 0) ∧ QOk q [] 0 (gmin (gmax 60 0) 65536) 0 ∧ QV q 0 := by
  obtain ⟨q, q1, q2⟩ := new_ok 60
  refine ⟨q, ?_, q2, ?_⟩
  · rw [vnew_eq, q1]
    unfold partial_New.f wave_New.f shelf_New.f Tree_New.f at q1
    simp only [Option.bind_some, Option.some.injEq] at q1
    subst q1; rfl
  · unfold partial_New.f wave_New.f shelf_New.f Tree_New.f at q1
    simp only [Option.bind_some, Option.some.injEq] at q1
    subst q1
    exact ⟨GV.new _, GV.new _, GV.new _, GV.new _⟩
theorem PartialVisits_pure (acts : List TL12Act) : VLw12_PartialVisits.f K1 acts = some true := by
  unfold VLw12_PartialVisits.f
  simp only [Vawake12, Option.bind_some, Bool.not_true, cond_false]
  by_cases h : (acts.length : Int) > 60
  · rw [decide_eq_true h]; rfl
  · obtain ⟨q, q1, q2, q3⟩ := vnew_ok
    have e := visits_loop acts (by omega) _ acts.length 0 K1 (Nat.zero_add _) (by unfold K1; omega) q2 (Nat.le_refl _) q3 (a := 0) (b := 0) (c := 0) (d := 0) (by omega) (by omega) (by omega) (by omega) (by omega)
    replace e : VLw12_PartialVisits.l0 K1 acts K1 (qz q 0 0 0 0, [], 0) = some (Sum.inr ()) := e
    rw [decide_eq_false h]
    simp only [cond_false, Option.bind_some, Sum.elim_inr, q1, e]
end Go.Proofs.YtpeoalmhccmdiaaGreat

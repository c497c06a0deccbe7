/- My texts that the proof of GroveHeights rests on, part 4: a calculus of walks, the walks, and the plain law. -/
import Derived.KernelRfl
import Derived.Test.YtjokolmijhhinaaGhc
set_option linter.unusedVariables false
set_option linter.unusedSimpArgs false
namespace Go.Proofs.Ytjokolmijhhinaa
open Go Go.Proofs.Ytjokolmijhhinaa.Sx
section
variable {E A : Type} {O : Ops E A} {k N : Nat} {G : E → Prop} {S : A → List E → Prop} {lt : E → E → Prop}
structure DropL (S : A → List E → Prop) (p p' : PN E A) (L : List TRef) (B : Nat) (t t' : Tr E) (r' x0 : TRef) : Prop where
  pw : PW p' (L.erase x0) B
  rep : Rep S p' r' t'
  refs : (x0 :: t'.refs).Perm t.refs
  frame : ∀ x, x ∉ t.refs → look p' x = look p x
  cap : p'.cap = p.cap
theorem drop_ok (ok : OpsOk O k N G S lt) (hk : N ≤ k) {p : PN E A} {L : List TRef} {B : Nat} (hP : PW p L B) (e : E) : ∀ (n : Nat) {r : TRef} {t : Tr E}, t.size < n → Rep S p r t → t.refs.Nodup → InOrd lt t.toList → (∀ x ∈ t.toList, G x) → t.size < N →
    ∃ a m b, Cut lt e t.toList a m b ∧
      ((m = [] ∧ Tree_drop.r O k n p r e = some (r, O.zE, false, p)) ∨
       (∃ y r' p' t' x0, m = [y] ∧ Tree_drop.r O k n p r e = some (r', y, true, p') ∧ t'.toList = a ++ b ∧ DropL S p p' L B t t' r' x0))
  | 0, _, _, h, _, _, _, _, _ => by omega
  | n + 1, r, .nil, hn, hr, hnd, hs, hG, hN => by
    refine ⟨[], [], [], Cut.nil e, .inl ⟨rfl, ?_⟩⟩
    have e0 : (r.gen == 0) = true := by simpa using hr.nil_iff.2 rfl
    simp only [Tree_drop.r, e0, cond_true]
  | n + 1, r, .node r0 e0 l u, hn, hr, hnd, hs, hG, hN => by
    obtain ⟨n1, g1, g2⟩ := get_ok ok hP hr
    obtain ⟨rfl, he, hl, hu, hlk⟩ := g2.node rfl
    have hg : (r.gen == 0) = false := by
      have := hP.gen_ne (hP.mem hlk); simpa using this
    obtain ⟨c, c1, c2, c3⟩ := ok.cmp e n1.e
    have hsz : (Tr.node r e0 l u).size = l.size + 1 + u.size := rfl
    have hln : (Tr.node r e0 l u).toList = l.toList ++ e0 :: u.toList := rfl
    have hrL : r ∈ L := hP.mem hlk
    simp only [Tree_drop.r, hg, cond_false, g1, Option.bind_some, c1]
    rw [he] at c2 c3
    rw [hln] at hs hG ⊢
    by_cases h1 : c < 0
    · have hlt := c2.1 h1
      simp only [h1, decide_true, cond_true]
      obtain ⟨a, m, b, hcut, hres⟩ := drop_ok ok hk hP e n (by omega) hl (nodup_left hnd) (sorted_l hs) (fun x hx => hG x (List.mem_append_left _ hx)) (by omega)
      refine ⟨a, m, b ++ e0 :: u.toList, hcut.left ok hs hlt, ?_⟩
      rcases hres with ⟨h2, h4⟩ | ⟨y, r', p', t', x0, h2, h4, h5, h6⟩
      · exact .inl ⟨h2, by simp only [h4, Option.bind_some]; rfl⟩
      · right
        have hx0 : x0 ∈ l.refs := h6.refs.mem_iff.1 List.mem_cons_self
        have hlk1 : look p' r = some n1 := by rw [h6.frame r (nodup_l hnd)]; exact hlk
        have hu1 : Rep S p' n1.right u := hu.frame (fun x hx => h6.frame x (fun h => nodup_lu hnd h hx))
        have hperm : (x0 :: (t'.refs ++ r :: u.refs)).Perm (Tr.node r e0 l u).refs := by
          have := h6.refs.append_right (r :: u.refs)
          simpa [Tr.refs] using this
        have hnd2 : (x0 :: (t'.refs ++ r :: u.refs)).Nodup := hperm.nodup_iff.2 hnd
        have hts : t'.size ≤ l.size := by
          have := congrArg List.length h5
          have h7 := congrArg List.length hcut.eq
          simp only [Tr.len_toList, List.length_append, List.length_cons] at this h7; omega
        obtain ⟨r2, p2, v1, v2⟩ := linkf_ok ok hk h6.pw h6.rep hlk1 hu1 (List.nodup_cons.1 hnd2).2 (fun x hx => by
          rw [h5, he] at hx
          simp only [List.mem_append, List.mem_cons] at hx
          have h8 : ∀ y, y ∈ a ∨ y ∈ b → y ∈ l.toList := fun y hy => by rw [hcut.eq]; rcases hy with hy | hy <;> simp [hy]
          rcases hx with hx | rfl | hx
          · exact hG x (List.mem_append_left _ (h8 x hx))
          · exact hG x (by simp)
          · exact hG x (by simp [hx])) (by omega)
        refine ⟨y, r2, p2, Tr.link k t' r n1.e u, x0, h2, ?_, ?_, v2.pw, v2.rep, ?_, fun x hx2 => ?_, v2.cap.trans h6.cap⟩
        · simp only [h4, Option.bind_some, v1]; rfl
        · rw [Tr.link_list, h5, he]; simp
        · rw [Tr.link_refs]; exact hperm
        · have hx3 : x ∉ l.refs := fun h => hx2 (by simp [Tr.refs, h])
          rw [v2.frame x (fun h => hx2 (hperm.mem_iff.1 (List.mem_cons_of_mem _ h))), h6.frame x hx3]
    · simp only [h1, decide_false, cond_false]
      by_cases h1' : c > 0
      · have hlt := c3.1 h1'
        simp only [h1', decide_true, cond_true]
        obtain ⟨a, m, b, hcut, hres⟩ := drop_ok ok hk hP e n (by omega) hu (nodup_right hnd) (sorted_u hs) (fun x hx => hG x (by simp [hx])) (by omega)
        refine ⟨l.toList ++ e0 :: a, m, b, hcut.right ok hs hlt, ?_⟩
        rcases hres with ⟨h2, h4⟩ | ⟨y, r', p', t', x0, h2, h4, h5, h6⟩
        · exact .inl ⟨h2, by simp only [h4, Option.bind_some]; rfl⟩
        · right
          have hx0 : x0 ∈ u.refs := h6.refs.mem_iff.1 List.mem_cons_self
          have hlk1 : look p' r = some n1 := by rw [h6.frame r (nodup_u hnd)]; exact hlk
          have hl1 : Rep S p' n1.left l := hl.frame (fun x hx => h6.frame x (fun h => nodup_lu hnd hx h))
          have hperm : (x0 :: (l.refs ++ r :: t'.refs)).Perm (Tr.node r e0 l u).refs := by
            have h7 : (l.refs ++ r :: (x0 :: t'.refs)).Perm (l.refs ++ r :: u.refs) := List.Perm.append_left _ (List.Perm.cons _ h6.refs)
            refine List.Perm.trans ?_ h7
            rw [show l.refs ++ r :: x0 :: t'.refs = (l.refs ++ [r]) ++ x0 :: t'.refs by simp]
            refine List.Perm.trans ?_ List.perm_middle.symm
            simp
          have hnd2 : (x0 :: (l.refs ++ r :: t'.refs)).Nodup := hperm.nodup_iff.2 hnd
          have hts : t'.size ≤ u.size := by
            have := congrArg List.length h5
            have h7 := congrArg List.length hcut.eq
            simp only [Tr.len_toList, List.length_append, List.length_cons] at this h7; omega
          obtain ⟨r2, p2, v1, v2⟩ := linkf_ok ok hk h6.pw hl1 hlk1 h6.rep (List.nodup_cons.1 hnd2).2 (fun x hx => by
            rw [h5, he] at hx
            simp only [List.mem_append, List.mem_cons] at hx
            have h8 : ∀ y, y ∈ a ∨ y ∈ b → y ∈ u.toList := fun y hy => by rw [hcut.eq]; rcases hy with hy | hy <;> simp [hy]
            rcases hx with hx | rfl | hx
            · exact hG x (by simp [hx])
            · exact hG x (by simp)
            · exact hG x (by simp [h8 x hx])) (by omega)
          refine ⟨y, r2, p2, Tr.link k l r n1.e t', x0, h2, ?_, ?_, v2.pw, v2.rep, ?_, fun x hx2 => ?_, v2.cap.trans h6.cap⟩
          · simp only [h4, Option.bind_some, v1]; rfl
          · rw [Tr.link_list, h5, he]; simp
          · rw [Tr.link_refs]; exact hperm
          · have hx3 : x ∉ u.refs := fun h => hx2 (by simp [Tr.refs, h])
            rw [v2.frame x (fun h => hx2 (hperm.mem_iff.1 (List.mem_cons_of_mem _ h))), h6.frame x hx3]
      · simp only [h1', decide_false, cond_false]
        have n1' : ¬ lt e e0 := fun h => h1 (c2.2 h)
        have n2' : ¬ lt e0 e := fun h => h1' (c3.2 h)
        refine ⟨l.toList, [e0], u.toList, Cut.mid ok hs n1' n2', .inr ?_⟩
        obtain ⟨p1, q1, q2, q3, q4⟩ := hP.drop (z := zNode O) hlk
        have hl1 : Rep S p1 n1.left l := hl.frame (fun x hx => q3 x (fun h => nodup_l hnd (h ▸ hx)))
        have hu1 : Rep S p1 n1.right u := hu.frame (fun x hx => q3 x (fun h => nodup_u hnd (h ▸ hx)))
        have hperm : (r :: (l.refs ++ u.refs)).Perm (Tr.node r e0 l u).refs := List.perm_middle.symm
        have hnd2 : (r :: (l.refs ++ u.refs)).Nodup := hperm.nodup_iff.2 hnd
        obtain ⟨r2, p2, v1, v2⟩ := merge_ok ok hk q2 hl1 hu1 (List.nodup_cons.1 hnd2).2 (fun x hx => hG x (by
          rcases List.mem_append.1 hx with hx | hx <;> simp [hx])) (by omega)
        obtain ⟨w1, w2⟩ := Tr.merge_spec k l u
        refine ⟨e0, r2, p2, Tr.merge k l u, r, rfl, ?_, w1, v2.pw, v2.rep, by rw [w2]; exact hperm, fun x hx => ?_, v2.cap.trans q4⟩
        · simp only [q1, Option.bind_some, v1, he]
        · have hxr : x ≠ r := fun h => hx (by simp [Tr.refs, h])
          rw [v2.frame x (fun h => hx (hperm.mem_iff.1 (List.mem_cons_of_mem _ h))), q3 x hxr]
end
end Go.Proofs.Ytjokolmijhhinaa
namespace Go.Proofs.Ytjokolmijhhinaa
open Go Go.Proofs.Ytjokolmijhhinaa.Sx
namespace Tr
variable {E : Type}
theorem last_wb {k : Nat} (hk : 3 ≤ k) : ∀ (t : Tr E), t ≠ nil → WB t → WB (last k t).1 ∧ (last k t).1.size + 1 = t.size
  | nil, h, _ => absurd rfl h
  | node r e l nil, _, h => ⟨h.2.2.1, by show l.size + 1 = _; simp only [size]⟩
  | node r e l (node r2 e2 c d), _, h => by
    obtain ⟨h1, h2, h3, h4⟩ := h
    obtain ⟨i1, i2⟩ := last_wb hk (node r2 e2 c d) (by simp) h4
    have e1 : (last k (node r e l (node r2 e2 c d))).1 = link k l r e (last k (node r2 e2 c d)).1 := by rw [last]
    rw [e1]
    refine ⟨link_wbk hk h3 i1 ?_, ?_⟩
    · constructor <;> simp only [w] at * <;> omega
    · rw [link_size]
      have : (node r e l (node r2 e2 c d)).size = l.size + 1 + (node r2 e2 c d).size := rfl
      omega
theorem merge_wb {k : Nat} (hk : 3 ≤ k) {l u : Tr E} (hl : WB l) (hu : WB u) (h1 : l.w ≤ 3 * u.w) (h2 : u.w ≤ 3 * l.w) : WB (merge k l u) := by
  cases l with
  | nil => simpa [merge] using hu
  | node r e a b =>
    cases u with
    | nil => simpa [merge] using hl
    | node r2 e2 c d =>
      obtain ⟨m, x, s1, s2, s3⟩ := last_spec k (node r e a b) (by simp)
      obtain ⟨i1, i2⟩ := last_wb hk (node r e a b) (by simp) hl
      have : merge k (node r e a b) (node r2 e2 c d) = link k (last k (node r e a b)).1 m x (node r2 e2 c d) := by
        unfold merge
        have : last k (node r e a b) = ((last k (node r e a b)).1, some (m, x)) := by rw [← s1]
        simp only
        rw [this]
      rw [this]
      exact link_wbk hk i1 hu (by constructor <;> simp only [w] at * <;> omega)
theorem merge_size (k : Nat) (l u : Tr E) : (merge k l u).size = l.size + u.size := by
  rw [← len_toList, (merge_spec k l u).1, List.length_append, len_toList, len_toList]
end Tr
section
variable {E A : Type} {O : Ops E A} {k N : Nat} {G : E → Prop} {S : A → List E → Prop} {lt : E → E → Prop}
theorem last_v (ok : OpsOk O k N G S lt) (hk : N ≤ k) (h3 : 3 ≤ k) : ∀ (n : Nat) {p : PN E A} {L : List TRef} {B : Nat} (hP : PW p L B) {r : TRef} {t : Tr E}, t.size < n → t ≠ .nil → Rep S p r t → t.refs.Nodup → (∀ x ∈ t.toList, G x) → t.size < N → Tr.WB t →
    ∀ {r' m : TRef} {p' : PN E A}, Tree_last.r O k n p r = some (r', m, p') → ∀ {v : Int}, 0 ≤ v → v + 1000 * (t.ht + 1 : Nat) < 4611686018427387904 →
    ∃ v', VTree_last.r O k n (vz p v) r = some (r', m, vz p' v') ∧ v ≤ v' ∧ v' ≤ v + 82 * (t.ht : Nat)
  | 0, _, _, _, _, _, _, h, _, _, _, _, _, _, _, _, _, _, _, _, _ => by omega
  | n + 1, p, L, B, hP, r, .nil, _, h, _, _, _, _, _, _, _, _, _, _, _, _ => absurd rfl h
  | n + 1, p, L, B, hP, r, .node r0 e l u, hn, _, hr, hnd, hG, hN, hw, rz, mz, pz, h, v, h0, hb => by
    obtain ⟨n1, q1, q2⟩ := get_ok ok hP hr
    obtain ⟨rfl, he, hl, hu, hlk⟩ := q2.node rfl
    have hht : (Tr.node r e l u).ht = 1 + max l.ht u.ht := rfl
    obtain ⟨w1, w2, w3', w4⟩ := hw
    simp only [Tr.size] at hn hN
    obtain ⟨v1, a1, b1, d1⟩ := get_v q1 h0 (by omega)
    simp only [Tree_last.r, q1, Option.bind_some] at h
    simp only [VTree_last.r, a1, Option.bind_some]
    cases u with
    | nil =>
      have e0 : (n1.right.gen == 0) = true := by simpa using hu.nil_iff.2 rfl
      rw [e0] at h ⊢
      cases h
      exact ⟨v1, rfl, by omega, by omega⟩
    | node r2 e2 c d =>
      have e0 : (n1.right.gen == 0) = false := by
        have : n1.right.gen ≠ 0 := fun h => by have := hu.nil_iff.1 h; cases this
        simpa using this
      rw [e0, cond_false] at h
      rw [e0, cond_false]
      obtain ⟨x2, g2, h⟩ := bnd h
      obtain ⟨x3, g3, h⟩ := bnd h
      cases h
      have hGu : ∀ x ∈ (Tr.node r2 e2 c d).toList, G x := fun x hx => hG x (by simp [Tr.toList] at hx ⊢; rcases hx with hx | hx | hx <;> simp [hx])
      obtain ⟨v2, a2, b2, d2⟩ := last_v ok hk h3 n hP (by omega) (by simp) hu (nodup_right hnd) hGu (by omega) w4 (r' := x2.1) (m := x2.2.1) (p' := x2.2.2) g2 (v := v1) (by omega) (by omega)
      obtain ⟨r1, m, x, p1, nm, t1, t2, t3, t4, t5⟩ := last_ok ok hk n hP (by omega) (by simp) hu (nodup_right hnd) hGu (by omega)
      rw [t1] at g2
      cases g2
      have hl1 : Rep S p1 n1.left l := hl.frame (fun y hy => t3.frame y (fun h => nodup_lu hnd hy h))
      obtain ⟨i1, i2⟩ := Tr.last_wb h3 (.node r2 e2 c d) (by simp) w4
      have hnear : Tr.Near l (Tr.last k (.node r2 e2 c d)).1 := by constructor <;> simp only [Tr.w] at * <;> omega
      obtain ⟨v3, a3, b3, d3⟩ := linkf_v ok t3.pw hl1 t3.rep (by omega) w3' i1 hnear (r' := x3.1) (p' := x3.2) g3 (v := v2) (by omega) (by omega)
      exact ⟨v3, by simp only [a2, a3, Option.bind_some], by omega, by omega⟩
theorem merge_v (ok : OpsOk O k N G S lt) (hk : N ≤ k) (h3 : 3 ≤ k) {p : PN E A} {L : List TRef} {B : Nat} (hP : PW p L B) {a b : TRef} {l u : Tr E} (hl : Rep S p a l) (hu : Rep S p b u) (hnd : (l.refs ++ u.refs).Nodup) (hG : ∀ x ∈ l.toList ++ u.toList, G x) (hN : l.size + u.size < N) (wl : Tr.WB l) (wu : Tr.WB u) (h1 : l.w ≤ 3 * u.w) (h2 : u.w ≤ 3 * l.w)
    {r' : TRef} {p' : PN E A} (h : Tree_merge.f O k p a b = some (r', p')) {v : Int} (h0 : 0 ≤ v) (hb : v + 1000 * (l.ht + 1 : Nat) < 4611686018427387904) :
    ∃ v', VTree_merge.f O k (vz p v) a b = some (r', vz p' v') ∧ v ≤ v' ∧ v' ≤ v + 82 * (l.ht : Nat) + 80 := by
  unfold Tree_merge.f at h
  unfold VTree_merge.f
  cases l with
  | nil =>
    have e0 : (a.gen == 0) = true := by simpa using hl.nil_iff.2 rfl
    rw [e0] at h ⊢
    cases h
    exact ⟨v, rfl, by omega, by omega⟩
  | node r e c d =>
    have e0 : (a.gen == 0) = false := by
      have : a.gen ≠ 0 := fun h => by have := hl.nil_iff.1 h; cases this
      simpa using this
    rw [e0, cond_false] at h
    rw [e0, cond_false]
    cases u with
    | nil =>
      have e1 : (b.gen == 0) = true := by simpa using hu.nil_iff.2 rfl
      rw [e1] at h ⊢
      cases h
      exact ⟨v, rfl, by omega, by omega⟩
    | node r2 e2 f g =>
      have e1 : (b.gen == 0) = false := by
        have : b.gen ≠ 0 := fun h => by have := hu.nil_iff.1 h; cases this
        simpa using this
      rw [e1, cond_false] at h
      rw [e1, cond_false]
      obtain ⟨x2, g2, h⟩ := bnd h
      obtain ⟨x3, g3, h⟩ := bnd h
      cases h
      obtain ⟨d1, d2, d3⟩ := List.nodup_append.1 hnd
      obtain ⟨v2, a2, b2, c2⟩ := last_v ok hk h3 k hP (by omega) (by simp) hl d1 (fun x hx => hG x (List.mem_append_left _ hx)) (by omega) wl (r' := x2.1) (m := x2.2.1) (p' := x2.2.2) g2 (v := v) h0 (by omega)
      obtain ⟨r1, m, x, p1, nm, t1, t2, t3, t4, t5⟩ := last_ok ok hk k hP (by omega) (by simp) hl d1 (fun x hx => hG x (List.mem_append_left _ hx)) (by omega)
      have g2' : Tree_last.r O k k p a = some x2 := g2
      rw [t1] at g2'
      cases g2'
      have hu1 : Rep S p1 b (.node r2 e2 f g) := hu.frame (fun y hy => t3.frame y (fun h => d3 y h y hy rfl))
      obtain ⟨i1, i2⟩ := Tr.last_wb h3 (.node r e c d) (by simp) wl
      have hnear : Tr.Near (Tr.last k (.node r e c d)).1 (.node r2 e2 f g) := by constructor <;> simp only [Tr.w] at * <;> omega
      obtain ⟨v3, a3, b3, c3⟩ := linkf_v ok t3.pw t3.rep hu1 (by omega) i1 wu hnear (r' := x3.1) (p' := x3.2) g3 (v := v2) (by omega) (by omega)
      have a2' : VTree_last.f O k (vz p v) a = _ := a2
      exact ⟨v3, by simp only [a2', a3, Option.bind_some], by omega, by omega⟩
theorem drop_v (ok : OpsOk O k N G S lt) (hk : N ≤ k) (h3 : 3 ≤ k) {p : PN E A} {L : List TRef} {B : Nat} (hP : PW p L B) (e : E) : ∀ (n : Nat) {r : TRef} {t : Tr E}, t.size < n → Rep S p r t → t.refs.Nodup → InOrd lt t.toList → (∀ x ∈ t.toList, G x) → t.size < N → Tr.WB t →
    ∀ {r' : TRef} {y : E} {f : Bool} {p' : PN E A}, Tree_drop.r O k n p r e = some (r', y, f, p') → ∀ {v : Int}, 0 ≤ v → v + 1000 * (t.ht + 1 : Nat) < 4611686018427387904 →
    (f = true → ∃ t', Rep S p' r' t' ∧ Tr.WB t' ∧ t'.w + 1 = t.w) ∧ ∃ v', VTree_drop.r O k n (vz p v) r e = some (r', y, f, vz p' v') ∧ v ≤ v' ∧ v' ≤ v + 82 * (t.ht : Nat) + 82
  | 0, _, _, h, _, _, _, _, _, _, _, _, _, _, _, _, _, _ => by omega
  | n + 1, r, .nil, hn, hr, hnd, hs, hG, hN, hw, r', y, f, p', h, v, h0, hb => by
    have e0 : (r.gen == 0) = true := by simpa using hr.nil_iff.2 rfl
    simp only [Tree_drop.r, e0, cond_true] at h
    simp only [VTree_drop.r, e0, cond_true]
    cases h
    exact ⟨fun h => (by cases h), v, rfl, by omega, by omega⟩
  | n + 1, r, .node r0 e0 l u, hn, hr, hnd, hs, hG, hN, hw, rz, yz, f, pz, h, v, h0, hb => by
    obtain ⟨n1, g1, g2⟩ := get_ok ok hP hr
    obtain ⟨rfl, he, hl, hu, hlk⟩ := g2.node rfl
    have hg : (r.gen == 0) = false := by
      have := hP.gen_ne (hP.mem hlk); simpa using this
    obtain ⟨c, c1, c2, c3⟩ := ok.cmp e n1.e
    have hsz : (Tr.node r e0 l u).size = l.size + 1 + u.size := rfl
    have hln : (Tr.node r e0 l u).toList = l.toList ++ e0 :: u.toList := rfl
    have hht : (Tr.node r e0 l u).ht = 1 + max l.ht u.ht := rfl
    have hww := Tr.w_node r e0 l u
    obtain ⟨w1, w2, w3', w4⟩ := hw
    obtain ⟨v1, a1, b1, d1⟩ := get_v g1 h0 (by omega)
    simp only [Tree_drop.r, hg, cond_false, g1, Option.bind_some, c1] at h
    simp only [VTree_drop.r, hg, cond_false, a1, Option.bind_some, c1]
    rw [hln] at hs hG
    by_cases h1 : c < 0
    · simp only [h1, decide_true, cond_true] at h ⊢
      obtain ⟨x5, g5, h⟩ := bnd h
      obtain ⟨ih1, v2, a2, b2, d2⟩ := drop_v ok hk h3 hP e n (by omega) hl (nodup_left hnd) (sorted_l hs) (fun x hx => hG x (List.mem_append_left _ hx)) (by omega) w3' (r' := x5.1) (y := x5.2.1) (f := x5.2.2.1) (p' := x5.2.2.2) g5 (v := v1) (by omega) (by omega)
      simp only [a2, Option.bind_some]
      obtain ⟨a, m, b, hcut, hres⟩ := drop_ok ok hk hP e n (by omega) hl (nodup_left hnd) (sorted_l hs) (fun x hx => hG x (List.mem_append_left _ hx)) (by omega)
      rcases hres with ⟨_, h4⟩ | ⟨y, r', p', t', x0, h2, h4, h5, h6⟩
      · rw [h4] at g5
        cases g5
        simp only [Bool.not_false, cond_true] at h ⊢
        cases h
        exact ⟨fun h => (by cases h), v2, rfl, by omega, by omega⟩
      · rw [h4] at g5
        cases g5
        simp only [Bool.not_true, cond_false] at h ⊢
        obtain ⟨x6, g6, h⟩ := bnd h
        cases h
        have hlk1 : look p' r = some n1 := by rw [h6.frame r (nodup_l hnd)]; exact hlk
        have hu1 : Rep S p' n1.right u := hu.frame (fun x hx => h6.frame x (fun h => nodup_lu hnd h hx))
        have hperm : (x0 :: (t'.refs ++ r :: u.refs)).Perm (Tr.node r e0 l u).refs := by
          have := h6.refs.append_right (r :: u.refs)
          simpa [Tr.refs] using this
        have hnd2 : (x0 :: (t'.refs ++ r :: u.refs)).Nodup := hperm.nodup_iff.2 hnd
        obtain ⟨t2, k1, k2, k3⟩ := ih1 rfl
        have k1' : Rep S p' r' t2 := k1
        have := h6.rep.uniq k1'
        subst this
        have hts : t'.size + 1 = l.size := by simp only [Tr.w] at k3; omega
        obtain ⟨r2, p2, y1, y2⟩ := linkf_ok ok hk h6.pw h6.rep hlk1 hu1 (List.nodup_cons.1 hnd2).2 (fun x hx => by
          rw [h5, he] at hx
          simp only [List.mem_append, List.mem_cons] at hx
          have h8 : ∀ y, y ∈ a ∨ y ∈ b → y ∈ l.toList := fun y hy => by rw [hcut.eq]; rcases hy with hy | hy <;> simp [hy]
          rcases hx with hx | rfl | hx
          · exact hG x (List.mem_append_left _ (h8 x hx))
          · exact hG x (by simp)
          · exact hG x (by simp [hx])) (by omega)
        have hnear : Tr.Near t' u := ⟨by omega, by omega⟩
        have g6' : Tree_link.f O k p' r' r n1.right = some x6 := g6
        have y1' := y1
        rw [y1] at g6'
        cases g6'
        obtain ⟨v3, a3, b3, d3⟩ := linkf_v ok h6.pw h6.rep hu1 (by omega) k2 w4 hnear y1' (v := v2) (by omega) (by omega)
        have a3' : VTree_link.f O k (vz p' v2) r' r n1.right = _ := a3
        refine ⟨fun _ => ⟨_, y2.rep, Tr.link_wbk h3 k2 w4 hnear, ?_⟩, v3, by simp only [a3', Option.bind_some], by omega, by omega⟩
        have := Tr.link_size k t' r n1.e u
        simp only [Tr.w] at *; omega
    · simp only [h1, decide_false, cond_false] at h ⊢
      by_cases h1' : c > 0
      · simp only [h1', decide_true, cond_true] at h ⊢
        obtain ⟨x5, g5, h⟩ := bnd h
        obtain ⟨ih1, v2, a2, b2, d2⟩ := drop_v ok hk h3 hP e n (by omega) hu (nodup_right hnd) (sorted_u hs) (fun x hx => hG x (by simp [hx])) (by omega) w4 (r' := x5.1) (y := x5.2.1) (f := x5.2.2.1) (p' := x5.2.2.2) g5 (v := v1) (by omega) (by omega)
        simp only [a2, Option.bind_some]
        obtain ⟨a, m, b, hcut, hres⟩ := drop_ok ok hk hP e n (by omega) hu (nodup_right hnd) (sorted_u hs) (fun x hx => hG x (by simp [hx])) (by omega)
        rcases hres with ⟨_, h4⟩ | ⟨y, r', p', t', x0, h2, h4, h5, h6⟩
        · rw [h4] at g5
          cases g5
          simp only [Bool.not_false, cond_true] at h ⊢
          cases h
          exact ⟨fun h => (by cases h), v2, rfl, by omega, by omega⟩
        · rw [h4] at g5
          cases g5
          simp only [Bool.not_true, cond_false] at h ⊢
          obtain ⟨x6, g6, h⟩ := bnd h
          cases h
          have hlk1 : look p' r = some n1 := by rw [h6.frame r (nodup_u hnd)]; exact hlk
          have hl1 : Rep S p' n1.left l := hl.frame (fun x hx => h6.frame x (fun h => nodup_lu hnd hx h))
          have hperm : (x0 :: (l.refs ++ r :: t'.refs)).Perm (Tr.node r e0 l u).refs := by
            have h7 : (l.refs ++ r :: (x0 :: t'.refs)).Perm (l.refs ++ r :: u.refs) := List.Perm.append_left _ (List.Perm.cons _ h6.refs)
            refine List.Perm.trans ?_ h7
            rw [show l.refs ++ r :: x0 :: t'.refs = (l.refs ++ [r]) ++ x0 :: t'.refs by simp]
            refine List.Perm.trans ?_ List.perm_middle.symm
            simp
          have hnd2 : (x0 :: (l.refs ++ r :: t'.refs)).Nodup := hperm.nodup_iff.2 hnd
          obtain ⟨t2, k1, k2, k3⟩ := ih1 rfl
          have k1' : Rep S p' r' t2 := k1
          have := h6.rep.uniq k1'
          subst this
          have hts : t'.size + 1 = u.size := by simp only [Tr.w] at k3; omega
          obtain ⟨r2, p2, y1, y2⟩ := linkf_ok ok hk h6.pw hl1 hlk1 h6.rep (List.nodup_cons.1 hnd2).2 (fun x hx => by
            rw [h5, he] at hx
            simp only [List.mem_append, List.mem_cons] at hx
            have h8 : ∀ y, y ∈ a ∨ y ∈ b → y ∈ u.toList := fun y hy => by rw [hcut.eq]; rcases hy with hy | hy <;> simp [hy]
            rcases hx with hx | rfl | hx
            · exact hG x (by simp [hx])
            · exact hG x (by simp)
            · exact hG x (by simp [h8 x hx])) (by omega)
          have hnear : Tr.Near l t' := ⟨by omega, by omega⟩
          have g6' : Tree_link.f O k p' n1.left r r' = some x6 := g6
          have y1' := y1
          rw [y1] at g6'
          cases g6'
          obtain ⟨v3, a3, b3, d3⟩ := linkf_v ok h6.pw hl1 h6.rep (by omega) w3' k2 hnear y1' (v := v2) (by omega) (by omega)
          have a3' : VTree_link.f O k (vz p' v2) n1.left r r' = _ := a3
          refine ⟨fun _ => ⟨_, y2.rep, Tr.link_wbk h3 w3' k2 hnear, ?_⟩, v3, by simp only [a3', Option.bind_some], by omega, by omega⟩
          have := Tr.link_size k l r n1.e t'
          simp only [Tr.w] at *; omega
      · simp only [h1', decide_false, cond_false] at h ⊢
        obtain ⟨x9, g9, h⟩ := bnd h
        obtain ⟨x10, g10, h⟩ := bnd h
        cases h
        obtain ⟨p1, q1, q2, q3, q4⟩ := hP.drop (z := zNode O) hlk
        have hl1 : Rep S p1 n1.left l := hl.frame (fun x hx => q3 x (fun h => nodup_l hnd (h ▸ hx)))
        have hu1 : Rep S p1 n1.right u := hu.frame (fun x hx => q3 x (fun h => nodup_u hnd (h ▸ hx)))
        have hperm : (r :: (l.refs ++ u.refs)).Perm (Tr.node r e0 l u).refs := List.perm_middle.symm
        have hnd2 : (r :: (l.refs ++ u.refs)).Nodup := hperm.nodup_iff.2 hnd
        have hGm : ∀ x ∈ l.toList ++ u.toList, G x := fun x hx => hG x (by
          rcases List.mem_append.1 hx with hx | hx <;> simp [hx])
        obtain ⟨r2, p2, y1, y2⟩ := merge_ok ok hk q2 hl1 hu1 (List.nodup_cons.1 hnd2).2 hGm (by omega)
        obtain ⟨v2, a2, b2, d2⟩ := pDrop_v g9 (v := v1) (by omega) (by omega)
        rw [q1] at g9
        cases g9
        have g10' : Tree_merge.f O k p1 n1.left n1.right = some x10 := g10
        obtain ⟨v3, a3, b3, d3⟩ := merge_v ok hk h3 q2 hl1 hu1 (List.nodup_cons.1 hnd2).2 hGm (by omega) w3' w4 w1 w2 (r' := x10.1) (p' := x10.2) g10' (v := v2) (by omega) (by omega)
        rw [y1] at g10'
        cases g10'
        refine ⟨fun _ => ⟨_, y2.rep, Tr.merge_wb h3 w3' w4 w1 w2, ?_⟩, v3, ?_, by omega, by omega⟩
        · have := Tr.merge_size k l u
          simp only [Tr.w] at *; omega
        · simp only [a2, Option.bind_some]
          rw [show VTree_merge.f O k (vz p1 v2) n1.left n1.right = _ from a3]; rfl
end
end Go.Proofs.Ytjokolmijhhinaa
namespace Go.Proofs.Ytjokolmijhhinaa
open Go Go.Proofs.Ytjokolmijhhinaa.Sx
section
variable {E A : Type} {O : Ops E A} {k N : Nat} {G : E → Prop} {S : A → List E → Prop} {lt : E → E → Prop}
theorem PW.ne0 {p : PN E A} {L : List TRef} {B : Nat} (hP : PW p L B) {r : TRef} {n : TNode E A} (h : look p r = some n) : (r.gen == 0) = false := by
  have := hP.gen_ne (hP.mem h); simpa using this
theorem find_ok (ok : OpsOk O k N G S lt) {p : PN E A} {L : List TRef} {B : Nat} (hP : PW p L B) (e : E) : ∀ (n : Nat) {r : TRef} {t : Tr E}, t.size < n → Rep S p r t → InOrd lt t.toList →
    ∃ a m b, Cut lt e t.toList a m b ∧ Tree_Find.l0 O k p e n r = some (match m with | y :: _ => Sum.inl (y, true) | [] => Sum.inr ())
  | 0, _, _, h, _, _ => by omega
  | n + 1, r, .nil, hn, hr, hs => by
    refine ⟨[], [], [], Cut.nil e, ?_⟩
    have e0 : (r.gen != 0) = false := by simpa using hr.nil_iff.2 rfl
    simp only [Tree_Find.l0, e0, cond_false]
  | n + 1, r, .node r0 e0 l u, hn, hr, hs => by
    obtain ⟨n1, g1, g2⟩ := get_ok ok hP hr
    obtain ⟨rfl, he, hl, hu, hlk⟩ := g2.node rfl
    have hg : (r.gen != 0) = true := by have := hP.ne0 hlk; rw [bne, this]; rfl
    obtain ⟨c, c1, c2, c3⟩ := ok.cmp e n1.e
    have hsz : (Tr.node r e0 l u).size = l.size + 1 + u.size := rfl
    have hln : (Tr.node r e0 l u).toList = l.toList ++ e0 :: u.toList := rfl
    simp only [Tree_Find.l0, hg, cond_true, g1, Option.bind_some, c1]
    rw [he] at c2 c3
    rw [hln] at hs ⊢
    by_cases h1 : c < 0
    · have h0 : (c == 0) = false := by simp; omega
      simp only [h1, h0, decide_true, cond_true, cond_false]
      obtain ⟨a, m, b, hcut, hres⟩ := find_ok ok hP e n (by omega) hl (sorted_l hs)
      exact ⟨a, m, b ++ e0 :: u.toList, hcut.left ok hs (c2.1 h1), hres⟩
    · by_cases h2 : c > 0
      · have h0 : (c == 0) = false := by simp; omega
        simp only [h1, h0, decide_false, cond_false]
        obtain ⟨a, m, b, hcut, hres⟩ := find_ok ok hP e n (by omega) hu (sorted_u hs)
        exact ⟨l.toList ++ e0 :: a, m, b, hcut.right ok hs (c3.1 h2), hres⟩
      · have h0 : (c == 0) = true := by simp; omega
        simp only [h0, cond_true]
        exact ⟨l.toList, [e0], u.toList, Cut.mid ok hs (fun h => h1 (c2.2 h)) (fun h => h2 (c3.2 h)), by rw [he]⟩
theorem rank_ok (ok : OpsOk O k N G S lt) {p : PN E A} {L : List TRef} {B : Nat} (hP : PW p L B) (e : E) : ∀ (n : Nat) {r : TRef} {t : Tr E} (s : Nat), t.size < n → Rep S p r t → InOrd lt t.toList → s + t.size < 4294967296 →
    ∃ a m b, Cut lt e t.toList a m b ∧ Tree_Rank.l0 O k p e n ((s : Int), r) = some (((s + a.length : Nat)) : Int)
  | 0, _, _, _, h, _, _, _ => by omega
  | n + 1, r, .nil, s, hn, hr, hs, hb => by
    refine ⟨[], [], [], Cut.nil e, ?_⟩
    have e0 : (r.gen != 0) = false := by simpa using hr.nil_iff.2 rfl
    simp only [Tree_Rank.l0, e0, cond_false, List.length_nil, Nat.add_zero]
  | n + 1, r, .node r0 e0 l u, s, hn, hr, hs, hb => by
    obtain ⟨n1, g1, g2⟩ := get_ok ok hP hr
    obtain ⟨rfl, he, hl, hu, hlk⟩ := g2.node rfl
    have hg : (r.gen != 0) = true := by have := hP.ne0 hlk; rw [bne, this]; rfl
    obtain ⟨c, c1, c2, c3⟩ := ok.cmp e n1.e
    have hsz : (Tr.node r e0 l u).size = l.size + 1 + u.size := rfl
    have hln : (Tr.node r e0 l u).toList = l.toList ++ e0 :: u.toList := rfl
    have hw := weight_ok ok hP hl (by omega)
    simp only [Tree_Rank.l0, hg, cond_true, g1, Option.bind_some, c1]
    rw [he] at c2 c3
    rw [hln] at hs ⊢
    by_cases h2 : c > 0
    · have h0 : decide (c ≤ 0) = false := by simp; omega
      simp only [h0, cond_false, hw, Option.bind_some]
      rw [w64_id (by simp only [Tr.w]; omega) (by simp only [Tr.w]; omega), show (s : Int) + ((l.w : Nat) : Int) = ((s + l.w : Nat) : Int) by omega]
      obtain ⟨a, m, b, hcut, hres⟩ := rank_ok ok hP e n (s + l.w) (by omega) hu (sorted_u hs) (by simp only [Tr.w]; omega)
      refine ⟨l.toList ++ e0 :: a, m, b, hcut.right ok hs (c3.1 h2), ?_⟩
      rw [hres]
      simp only [List.length_append, List.length_cons, Tr.len_toList, Tr.w]
      congr 2; omega
    · have h0 : decide (c ≤ 0) = true := by simp; omega
      simp only [h0, cond_true]
      by_cases h1 : c < 0
      · obtain ⟨a, m, b, hcut, hres⟩ := rank_ok ok hP e n s (by omega) hl (sorted_l hs) (by omega)
        exact ⟨a, m, b ++ e0 :: u.toList, hcut.left ok hs (c2.1 h1), hres⟩
      · have m1 : ¬ lt e e0 := fun h => h1 (c2.2 h)
        have m2 : ¬ lt e0 e := fun h => h2 (c3.2 h)
        obtain ⟨a, m, b, hcut, hres⟩ := rank_ok ok hP e n s (by omega) hl (sorted_l hs) (by omega)
        refine ⟨l.toList, [e0], u.toList, Cut.mid ok hs m1 m2, ?_⟩
        have hmid := Cut.mid ok hs m1 m2
        have hmb : m ++ b = [] := by
          cases hmb : m ++ b with
          | nil => rfl
          | cons x q =>
            have hx : x ∈ l.toList := by rw [hcut.eq, hmb]; simp
            have h3 := hmid.la x hx
            cases m with
            | nil =>
              have hbx : b = x :: q := by simpa using hmb
              exact absurd (ok.trans h3 (hcut.lb x (by rw [hbx]; simp))) (ok.irrefl x)
            | cons y ys =>
              rcases hcut.lm with h | ⟨y', h, h4, h5⟩
              · cases h
              · cases h
                have : y = x := by simpa using (List.cons.inj hmb).1
                exact absurd h3 (this ▸ h5)
        rw [hres, hcut.eq, hmb, List.append_nil]
def seg {α : Type} (l : List α) (i j : Int) : List α := (l.take j.toNat).drop i.toNat
theorem seg_nil {α : Type} {l : List α} {i j : Int} (h : i ≥ j ∨ i ≥ l.length ∨ j ≤ 0 ∨ l.length = 0) : seg l i j = [] := by
  unfold seg
  apply List.drop_eq_nil_of_le
  rw [List.length_take]
  omega
theorem seg_all {α : Type} {l : List α} {i j : Int} (h1 : i ≤ 0) (h2 : j ≥ l.length) : seg l i j = l := by
  unfold seg
  rw [List.take_of_length_le (by omega), show i.toNat = 0 by omega, List.drop_zero]
theorem seg_node {α : Type} (l u : List α) (e : α) (i j : Int) : seg (l ++ e :: u) i j = seg l i j ++ ((if i ≤ l.length ∧ j > l.length then [e] else []) ++ seg u (i - l.length - 1) (j - l.length - 1)) := by
  by_cases hj : j > l.length
  · have h1 : (l ++ e :: u).take j.toNat = l ++ e :: u.take (j - l.length - 1).toNat := by
      rw [List.take_append, List.take_of_length_le (by omega), show j.toNat - l.length = (j - l.length - 1).toNat + 1 by omega, List.take_succ_cons]
    have h2 : seg l i j = l.drop i.toNat := by unfold seg; rw [List.take_of_length_le (by omega)]
    unfold seg at h2 ⊢
    rw [h1, h2, List.drop_append]
    congr 1
    by_cases hi : i ≤ l.length
    · rw [if_pos ⟨hi, hj⟩, show i.toNat - l.length = 0 by omega, show (i - (l.length : Int) - 1).toNat = 0 by omega]; rfl
    · rw [if_neg (fun h => hi h.1), show i.toNat - l.length = (i - (l.length : Int) - 1).toNat + 1 by omega]; rfl
  · rw [if_neg (fun h => hj h.2), seg_nil (l := u) (.inr (.inr (.inl (by omega))))]
    unfold seg
    rw [List.take_append_of_le_length (by omega)]; simp
theorem seg_sub {α : Type} (l : List α) (i j : Int) : (seg l i j).Sublist l := (List.drop_sublist _ _).trans (List.take_sublist _ _)
theorem between_ok (ok : OpsOk O k N G S lt) {p : PN E A} {L : List TRef} {B : Nat} (hP : PW p L B) : ∀ (n : Nat) {r : TRef} {t : Tr E} (i j : Int), t.size < n → Rep S p r t → (∀ x ∈ t.toList, G x) → t.size < N →
    -4611686018427387904 ≤ i - t.size → -4611686018427387904 ≤ j - t.size → i ≤ 4611686018427387904 → j ≤ 4611686018427387904 → ∃ c, Tree_between.r O k n p r i j = some c ∧ S c (seg t.toList i j)
  | 0, _, _, _, _, h, _, _, _, _, _, _, _ => by omega
  | n + 1, r, t, i, j, hn, hr, hG, hN, b1, b2, b3, b4 => by
    have hbig := ok.big
    obtain ⟨n1, g1, g2⟩ := get_ok ok hP hr
    have hll := Tr.len_toList t
    simp only [Tree_between.r, g1, Option.bind_some, g2.size]
    by_cases h1 : i ≥ j
    · simp only [h1, decide_true, cond_true, Option.bind_some, Sum.elim_inl]
      exact ⟨_, rfl, by rw [seg_nil (.inl h1)]; exact ok.zero⟩
    · simp only [h1, decide_false, cond_false]
      by_cases h2 : i ≥ (t.size : Int)
      · simp only [h2, decide_true, cond_true, Option.bind_some, Sum.elim_inl]
        exact ⟨_, rfl, by rw [seg_nil (.inr (.inl (by omega)))]; exact ok.zero⟩
      · simp only [h2, decide_false, cond_false]
        by_cases h3 : j ≤ 0
        · simp only [h3, decide_true, cond_true, Option.bind_some, Sum.elim_inl]
          exact ⟨_, rfl, by rw [seg_nil (.inr (.inr (.inl h3)))]; exact ok.zero⟩
        · simp only [h3, decide_false, cond_false]
          cases t with
          | nil => exact ⟨_, rfl, by rw [seg_nil (.inr (.inr (.inr rfl)))]; exact ok.zero⟩
          | node r0 e0 l u =>
            have hsz : (Tr.node r0 e0 l u).size = l.size + 1 + u.size := rfl
            have h4 : ((((Tr.node r0 e0 l u).size : Nat) : Int) == 0) = false := by simp; omega
            simp only [h4, cond_false, Option.bind_some, Sum.elim_inr]
            by_cases h5 : i ≤ 0 ∧ j ≥ ((Tr.node r0 e0 l u).size : Int)
            · simp only [h5.1, h5.2, decide_true, cond_true, Option.bind_some, Sum.elim_inl]
              exact ⟨_, rfl, by rw [seg_all h5.1 (by rw [hll]; exact h5.2)]; exact g2.sum⟩
            · have h6 : (bif decide (i ≤ 0) then (bif decide (j ≥ ((Tr.node r0 e0 l u).size : Int)) then some (Sum.inl n1.sum) else some (Sum.inr ())) else some (Sum.inr () : Sum A Unit)) = some (Sum.inr ()) := by
                by_cases h7 : i ≤ 0
                · have h8 : ¬ j ≥ ((Tr.node r0 e0 l u).size : Int) := fun h => h5 ⟨h7, h⟩
                  simp only [h7, h8, decide_true, decide_false, cond_true, cond_false]
                · simp only [h7, decide_false, cond_false]
              rw [h6]
              obtain ⟨rfl, he, hl, hu, hlk⟩ := g2.node rfl
              obtain ⟨n2, g3, g4⟩ := get_ok ok hP hl
              have hln : (Tr.node r e0 l u).toList = l.toList ++ e0 :: u.toList := rfl
              rw [hln] at hG
              rw [hsz] at hn hN b1 b2 h2
              obtain ⟨cl, d1, d2⟩ := between_ok ok hP n i j (by omega) hl (fun x hx => hG x (List.mem_append_left _ hx)) (by omega) (by omega) (by omega) (by omega) (by omega)
              obtain ⟨cu, f1, f2⟩ := between_ok ok hP n (i - (l.size : Int) - 1) (j - (l.size : Int) - 1) (by omega) hu (fun x hx => hG x (by simp [hx])) (by omega) (by omega) (by omega) (by omega) (by omega)
              have w1 : w64 (w64 (i - (l.size : Int)) - 1) = i - (l.size : Int) - 1 := by
                rw [w64_id (x := i - (l.size : Int)) (by omega) (by omega), w64_id (by omega) (by omega)]
              have w2 : w64 (w64 (j - (l.size : Int)) - 1) = j - (l.size : Int) - 1 := by
                rw [w64_id (x := j - (l.size : Int)) (by omega) (by omega), w64_id (by omega) (by omega)]
              simp only [Option.bind_some, Sum.elim_inr, g3, d1, g4.size, w1, w2, f1]
              have hsl := (seg_sub l.toList i j)
              have hsu := (seg_sub u.toList (i - (l.size : Int) - 1) (j - (l.size : Int) - 1))
              have hl1 := hsl.length_le
              have hl2 := hsu.length_le
              rw [Tr.len_toList] at hl1 hl2
              rw [hln, seg_node, Tr.len_toList]
              have hGl : ∀ x ∈ seg l.toList i j, G x := fun x hx => hG x (List.mem_append_left _ (hsl.subset hx))
              have hGu : ∀ x ∈ seg u.toList (i - (l.size : Int) - 1) (j - (l.size : Int) - 1), G x := fun x hx => hG x (by simp [hsu.subset hx])
              by_cases h7 : i ≤ (l.size : Int) ∧ j > (l.size : Int)
              · rw [if_pos h7]
                obtain ⟨s, s1, s2⟩ := ok.sum n1.e (hG _ (by rw [he]; simp))
                rw [he] at s2
                obtain ⟨x, x1, x2⟩ := ok.plus d2 s2 (fun y hy => by
                  rcases List.mem_append.1 hy with hy | hy
                  · exact hGl y hy
                  · simp at hy; subst hy; exact hG y (by simp)) (by simp; omega)
                obtain ⟨z, z1, z2⟩ := ok.plus x2 f2 (fun y hy => by
                  simp only [List.mem_append, List.mem_singleton] at hy
                  rcases hy with (hy | rfl) | hy
                  · exact hGl y hy
                  · exact hG y (by simp)
                  · exact hGu y hy) (by simp; omega)
                refine ⟨z, ?_, by simpa using z2⟩
                simp only [h7.1, h7.2, decide_true, cond_true, s1, Option.bind_some, x1, z1]
              · rw [if_neg h7, List.nil_append]
                obtain ⟨z, z1, z2⟩ := ok.plus d2 f2 (fun y hy => by
                  rcases List.mem_append.1 hy with hy | hy
                  · exact hGl y hy
                  · exact hGu y hy) (by simp; omega)
                refine ⟨z, ?_, z2⟩
                by_cases h8 : i ≤ (l.size : Int)
                · have h9 : ¬ j > (l.size : Int) := fun h => h7 ⟨h8, h⟩
                  simp only [h8, h9, decide_true, decide_false, cond_true, cond_false, Option.bind_some, z1]
                · simp only [h8, decide_false, cond_false, Option.bind_some, z1]
end
end Go.Proofs.Ytjokolmijhhinaa
namespace Go.Proofs.Ytjokolmijhhinaa
open Go Go.Proofs.Ytjokolmijhhinaa.Sx
theorem Tr.ht_size {E : Type} : ∀ t : Tr E, t.ht ≤ t.size
  | .nil => Nat.le_refl _
  | .node r e l u => by
    have := Tr.ht_size l; have := Tr.ht_size u
    simp only [Tr.ht, Tr.size]; omega
section
variable {E A : Type} {O : Ops E A} {k N : Nat} {G : E → Prop} {S : A → List E → Prop} {lt : E → E → Prop}
theorem between_v (ok : OpsOk O k N G S lt) {p : PN E A} {L : List TRef} {B : Nat} (hP : PW p L B) : ∀ (n : Nat) {r : TRef} {t : Tr E} (i j : Int), Rep S p r t → t.size < N → -4611686018427387904 ≤ i - t.size → -4611686018427387904 ≤ j - t.size → i ≤ 4611686018427387904 → j ≤ 4611686018427387904 →
    ∀ {c : A}, Tree_between.r O k n p r i j = some c → ∀ {v : Int}, 0 ≤ v → v + 1000 * (t.size + 1 : Nat) < 4611686018427387904 →
    ∃ v', VTree_between.r O k n (vz p v) r i j = some (c, vz p v') ∧ v ≤ v' ∧ ((i ≥ j ∨ i ≥ t.size ∨ j ≤ 0 ∨ (i ≤ 0 ∧ j ≥ t.size)) → v' ≤ v + 1) ∧ ((i ≤ 0 ∨ j ≥ t.size) → v' ≤ v + 3 * (t.ht : Nat) + 1) ∧ v' ≤ v + 9 * (t.ht : Nat) + 1
  | 0, _, _, _, _, _, _, _, _, _, _, _, h, _, _, _ => by cases h
  | n + 1, r, t, i, j, hr, hN, b1, b2, b3, b4, c, h, v, h0, hb => by
    have hbig := ok.big
    obtain ⟨n1, g1, g2⟩ := get_ok ok hP hr
    obtain ⟨v1, a1, e1, d1⟩ := get_v g1 h0 (by omega)
    simp only [Tree_between.r, g1, Option.bind_some, g2.size] at h
    simp only [VTree_between.r, a1, Option.bind_some, g2.size]
    by_cases h1 : i ≥ j
    · simp only [h1, decide_true, cond_true, Option.bind_some, Sum.elim_inl] at h ⊢
      cases h
      exact ⟨v1, rfl, e1, fun _ => by omega, fun _ => by omega, by omega⟩
    · simp only [h1, decide_false, cond_false] at h ⊢
      by_cases h2 : i ≥ (t.size : Int)
      · simp only [h2, decide_true, cond_true, Option.bind_some, Sum.elim_inl] at h ⊢
        cases h
        exact ⟨v1, rfl, e1, fun _ => by omega, fun _ => by omega, by omega⟩
      · simp only [h2, decide_false, cond_false] at h ⊢
        by_cases h3 : j ≤ 0
        · simp only [h3, decide_true, cond_true, Option.bind_some, Sum.elim_inl] at h ⊢
          cases h
          exact ⟨v1, rfl, e1, fun _ => by omega, fun _ => by omega, by omega⟩
        · simp only [h3, decide_false, cond_false] at h ⊢
          cases t with
          | nil =>
            have h4 : ((((Tr.nil : Tr E).size : Nat) : Int) == 0) = true := rfl
            simp only [h4, cond_true, Option.bind_some, Sum.elim_inl] at h ⊢
            cases h
            exact ⟨v1, rfl, e1, fun _ => by omega, fun _ => by omega, by omega⟩
          | node r0 e0 l u =>
            have hsz : (Tr.node r0 e0 l u).size = l.size + 1 + u.size := rfl
            have hht : (Tr.node r0 e0 l u).ht = 1 + max l.ht u.ht := rfl
            have h4 : ((((Tr.node r0 e0 l u).size : Nat) : Int) == 0) = false := by simp; omega
            simp only [h4, cond_false, Option.bind_some, Sum.elim_inr] at h ⊢
            by_cases h5 : i ≤ 0 ∧ j ≥ ((Tr.node r0 e0 l u).size : Int)
            · simp only [h5.1, h5.2, decide_true, cond_true, Option.bind_some, Sum.elim_inl] at h ⊢
              cases h
              exact ⟨v1, rfl, e1, fun _ => by omega, fun _ => by omega, by omega⟩
            · have h6 : ∀ {X : Type} (x : X), (bif decide (i ≤ 0) then (bif decide (j ≥ ((Tr.node r0 e0 l u).size : Int)) then some (Sum.inl x) else some (Sum.inr ())) else some (Sum.inr () : Sum X Unit)) = some (Sum.inr ()) := fun x => by
                by_cases h7 : i ≤ 0
                · have h8 : ¬ j ≥ ((Tr.node r0 e0 l u).size : Int) := fun h => h5 ⟨h7, h⟩
                  simp only [h7, h8, decide_true, decide_false, cond_true, cond_false]
                · simp only [h7, decide_false, cond_false]
              rw [h6] at h
              rw [h6]
              obtain ⟨rfl, he, hl, hu, hlk⟩ := g2.node rfl
              obtain ⟨n2, g3, g4⟩ := get_ok ok hP hl
              have w1 : w64 (w64 (i - (l.size : Int)) - 1) = i - (l.size : Int) - 1 := by
                rw [w64_id (x := i - (l.size : Int)) (by omega) (by omega), w64_id (by omega) (by omega)]
              have w2 : w64 (w64 (j - (l.size : Int)) - 1) = j - (l.size : Int) - 1 := by
                rw [w64_id (x := j - (l.size : Int)) (by omega) (by omega), w64_id (by omega) (by omega)]
              simp only [Option.bind_some, Sum.elim_inr, g3, g4.size, w1, w2] at h
              obtain ⟨v2, a2, e2, d2⟩ := get_v g3 (v := v1) (by omega) (by omega)
              simp only [Option.bind_some, Sum.elim_inr, a2, g4.size, w1, w2]
              have hl9 := Tr.ht_size l
              have hu9 := Tr.ht_size u
              obtain ⟨x5, f5, h⟩ := bnd h
              obtain ⟨x6, f6, h⟩ := bnd h
              obtain ⟨x9, f9, h⟩ := bnd h
              obtain ⟨x10, f10, h⟩ := bnd h
              cases h
              obtain ⟨v3, a3, e3, p1, p2, p3⟩ := between_v ok hP n i j hl (by omega) (by omega) (by omega) b3 b4 f5 (v := v2) (by omega) (by omega)
              obtain ⟨v4, a4, e4, q1, q2, q3⟩ := between_v ok hP n (i - (l.size : Int) - 1) (j - (l.size : Int) - 1) hu (by omega) (by omega) (by omega) (by omega) (by omega) f9 (v := v3) (by omega) (by omega)
              refine ⟨v4, by simp only [a3, f6, a4, f10, Option.bind_some], by omega, fun h => ?_, fun h => ?_, ?_⟩
              · exfalso
                rcases h with h | h | h | h
                · exact h.elim
                · exact h.elim
                · exact h.elim
                · exact h5 h
              · rcases h with h | h
                · by_cases hj : j ≤ (l.size : Int)
                  · have := p2 (.inl h); have := q1 (by omega); omega
                  · have := p1 (by omega); have := q2 (by omega); omega
                · by_cases hi : i < (l.size : Int)
                  · have := p2 (by omega); have := q1 (by omega); omega
                  · have := p1 (by omega); have := q2 (by omega); omega
              · by_cases hj : j ≤ (l.size : Int)
                · have := q1 (by omega); omega
                · by_cases hi : i < (l.size : Int)
                  · have := p2 (by omega); have := q2 (by omega); omega
                  · have := p1 (by omega); omega
end
end Go.Proofs.Ytjokolmijhhinaa
namespace Go.Proofs.Ytjokolmijhhinaa
open Go Go.Proofs.Ytjokolmijhhinaa.Sx
section
variable {E A : Type} {O : Ops E A} {k N : Nat} {G : E → Prop} {S : A → List E → Prop} {lt : E → E → Prop}
theorem rank_v (ok : OpsOk O k N G S lt) {p : PN E A} {L : List TRef} {B : Nat} (hP : PW p L B) (e : E) : ∀ (n : Nat) {r : TRef} {t : Tr E} {s x : Int}, Rep S p r t → t.size < N → Tree_Rank.l0 O k p e n (s, r) = some x → ∀ {v : Int}, 0 ≤ v → v + 1000 * (t.size + 1 : Nat) < 4611686018427387904 →
    ∃ v', VTree_Rank.l0 O k e n (vz p v, s, r) = some (x, vz p v') ∧ v ≤ v' ∧ v' ≤ v + 2 * (t.ht : Nat)
  | 0, _, _, _, _, _, _, h, _, _, _ => by cases h
  | n + 1, r, .nil, s, x, hr, hN, h, v, h0, hb => by
    have e0 : (r.gen != 0) = false := by simpa using hr.nil_iff.2 rfl
    simp only [Tree_Rank.l0, e0, cond_false] at h
    simp only [VTree_Rank.l0, e0, cond_false]
    cases h
    exact ⟨v, rfl, by omega, by omega⟩
  | n + 1, r, .node r0 e0 l u, s, x, hr, hN, h, v, h0, hb => by
    obtain ⟨n1, g1, g2⟩ := get_ok ok hP hr
    obtain ⟨rfl, he, hl, hu, hlk⟩ := g2.node rfl
    have hg : (r.gen != 0) = true := by have := hP.ne0 hlk; rw [bne, this]; rfl
    have hsz : (Tr.node r e0 l u).size = l.size + 1 + u.size := rfl
    have hht : (Tr.node r e0 l u).ht = 1 + max l.ht u.ht := rfl
    obtain ⟨c, c1, c2, c3⟩ := ok.cmp e n1.e
    obtain ⟨v1, a1, b1, d1⟩ := get_v g1 h0 (by omega)
    simp only [Tree_Rank.l0, hg, cond_true, g1, Option.bind_some, c1] at h
    simp only [VTree_Rank.l0, hg, cond_true, a1, Option.bind_some, c1]
    by_cases h1 : c ≤ 0
    · simp only [h1, decide_true, cond_true] at h ⊢
      obtain ⟨v2, a2, b2, d2⟩ := rank_v ok hP e n hl (by omega) h (v := v1) (by omega) (by omega)
      exact ⟨v2, a2, by omega, by omega⟩
    · simp only [h1, decide_false, cond_false] at h ⊢
      obtain ⟨x4, g4, h⟩ := bnd h
      obtain ⟨v2, a2, b2, d2⟩ := weight_v g4 (v := v1) (by omega) (by omega)
      obtain ⟨v3, a3, b3, d3⟩ := rank_v ok hP e n hu (by omega) h (v := v2) (by omega) (by omega)
      exact ⟨v3, by simp only [a2, Option.bind_some, a3], by omega, by omega⟩
theorem find_v (ok : OpsOk O k N G S lt) {p : PN E A} {L : List TRef} {B : Nat} (hP : PW p L B) (e : E) : ∀ (n : Nat) {r : TRef} {t : Tr E} {x : Sum (E × Bool) Unit}, Rep S p r t → t.size < N → Tree_Find.l0 O k p e n r = some x → ∀ {v : Int}, 0 ≤ v → v + 1000 * (t.size + 1 : Nat) < 4611686018427387904 →
    ∃ v', VTree_Find.l0 O k e n (vz p v, r) = some (match x with | .inl q => .inl (q.1, q.2, vz p v') | .inr _ => .inr (vz p v')) ∧ v ≤ v' ∧ v' ≤ v + (t.ht : Nat)
  | 0, _, _, _, _, _, h, _, _, _ => by cases h
  | n + 1, r, .nil, x, hr, hN, h, v, h0, hb => by
    have e0 : (r.gen != 0) = false := by simpa using hr.nil_iff.2 rfl
    simp only [Tree_Find.l0, e0, cond_false] at h
    simp only [VTree_Find.l0, e0, cond_false]
    cases h
    exact ⟨v, rfl, by omega, by omega⟩
  | n + 1, r, .node r0 e0 l u, x, hr, hN, h, v, h0, hb => by
    obtain ⟨n1, g1, g2⟩ := get_ok ok hP hr
    obtain ⟨rfl, he, hl, hu, hlk⟩ := g2.node rfl
    have hg : (r.gen != 0) = true := by have := hP.ne0 hlk; rw [bne, this]; rfl
    have hsz : (Tr.node r e0 l u).size = l.size + 1 + u.size := rfl
    have hht : (Tr.node r e0 l u).ht = 1 + max l.ht u.ht := rfl
    obtain ⟨c, c1, c2, c3⟩ := ok.cmp e n1.e
    obtain ⟨v1, a1, b1, d1⟩ := get_v g1 h0 (by omega)
    simp only [Tree_Find.l0, hg, cond_true, g1, Option.bind_some, c1] at h
    simp only [VTree_Find.l0, hg, cond_true, a1, Option.bind_some, c1]
    cases hc : (c == 0) with
    | true =>
      rw [hc, cond_true] at h
      rw [cond_true]
      cases h
      exact ⟨v1, rfl, by omega, by omega⟩
    | false =>
      rw [hc, cond_false] at h
      rw [cond_false]
      by_cases h1 : c < 0
      · simp only [h1, decide_true, cond_true] at h ⊢
        obtain ⟨v2, a2, b2, d2⟩ := find_v ok hP e n hl (by omega) h (v := v1) (by omega) (by omega)
        exact ⟨v2, a2, by omega, by omega⟩
      · simp only [h1, decide_false, cond_false] at h ⊢
        obtain ⟨v2, a2, b2, d2⟩ := find_v ok hP e n hu (by omega) h (v := v1) (by omega) (by omega)
        exact ⟨v2, a2, by omega, by omega⟩
theorem height_v (ok : OpsOk O k N G S lt) {p : PN E A} {L : List TRef} {B : Nat} (hP : PW p L B) : ∀ (n : Nat) {r : TRef} {t : Tr E}, t.size < n → Rep S p r t → t.size < N → ∀ {v : Int}, 0 ≤ v → v + 1000 * (t.size + 1 : Nat) < 4611686018427387904 →
    ∃ v', VTree_height.r O k n (vz p v) r = some ((t.ht : Int), vz p v') ∧ v ≤ v' ∧ v' ≤ v + (t.size : Nat)
  | 0, _, _, h, _, _, _, _, _ => by omega
  | n + 1, r, .nil, hn, hr, hN, v, h0, hb => by
    have e0 : (r.gen == 0) = true := by simpa using hr.nil_iff.2 rfl
    simp only [VTree_height.r, e0, cond_true]
    exact ⟨v, rfl, by omega, by omega⟩
  | n + 1, r, .node r0 e0 l u, hn, hr, hN, v, h0, hb => by
    have hbig := ok.big
    obtain ⟨n1, g1, g2⟩ := get_ok ok hP hr
    obtain ⟨rfl, he, hl, hu, hlk⟩ := g2.node rfl
    have hg : (r.gen == 0) = false := by simpa using hP.gen_ne (hP.mem hlk)
    have hsz : (Tr.node r e0 l u).size = l.size + 1 + u.size := rfl
    have hht : (Tr.node r e0 l u).ht = 1 + max l.ht u.ht := rfl
    have h8 := Tr.ht_size l
    have h9 := Tr.ht_size u
    obtain ⟨v1, a1, b1, d1⟩ := get_v g1 h0 (by omega)
    obtain ⟨v2, a2, b2, d2⟩ := height_v ok hP n (by omega) hl (by omega) (v := v1) (by omega) (by omega)
    obtain ⟨v3, a3, b3, d3⟩ := height_v ok hP n (by omega) hu (by omega) (v := v2) (by omega) (by omega)
    simp only [VTree_height.r, hg, cond_false, a1, Option.bind_some, a2, a3]
    refine ⟨v3, ?_, by omega, by omega⟩
    have : w64 (1 + gmax (l.ht : Int) (u.ht : Int)) = ((Tr.node r e0 l u).ht : Int) := by
      unfold gmax
      split <;> rw [w64_id (by omega) (by omega), hht] <;> omega
    rw [this]
end
end Go.Proofs.Ytjokolmijhhinaa
namespace Go.Proofs.Ytjokolmijhhinaa
open Go Go.Proofs.Ytjokolmijhhinaa.Sx
section
variable {E A : Type} {O : Ops E A} {k N : Nat} {G : E → Prop} {S : A → List E → Prop} {lt : E → E → Prop}
end
end Go.Proofs.Ytjokolmijhhinaa
namespace Go.Proofs.Ytjokolmijhhinaa
open Go Go.Proofs.Ytjokolmijhhinaa.Sx
section
variable {E A : Type} {O : Ops E A} {k N : Nat} {G : E → Prop} {S : A → List E → Prop} {lt : E → E → Prop}
end
end Go.Proofs.Ytjokolmijhhinaa
namespace Go.Proofs.Ytjokolmijhhinaa
open Go Go.Proofs.Ytjokolmijhhinaa.Sx
def lowF : List Int → Int
  | [] => 0
  | [x] => x
  | x :: y :: l => min x (x + lowF (y :: l))
def tideF (ns : List Int) : TTide := ⟨ns.length, ns.sum, lowF ns⟩
theorem lowF_append : ∀ (a b : List Int), a ≠ [] → b ≠ [] → lowF (a ++ b) = min (lowF a) (a.sum + lowF b)
  | [x], b, _, hb => by
    cases b with
    | nil => exact absurd rfl hb
    | cons y l => simp [lowF]
  | x :: y :: l, b, _, hb => by
    have ih := lowF_append (y :: l) b (by simp) hb
    have e : lowF (x :: y :: l ++ b) = min x (x + lowF (y :: l ++ b)) := by simp [lowF]
    rw [e, ih]
    have e2 : lowF (x :: y :: l) = min x (x + lowF (y :: l)) := rfl
    have e3 : (x :: y :: l).sum = x + (y :: l).sum := by simp
    rw [e2, e3]
    omega
  | [], _, h, _ => absurd rfl h
def smallN (ns : List Int) : Prop := ∀ x ∈ ns, -1099511627776 ≤ x ∧ x ≤ 1099511627776
theorem smallN.append {a b : List Int} (ha : smallN a) (hb : smallN b) : smallN (a ++ b) := fun x hx => (List.mem_append.1 hx).elim (ha x) (hb x)
theorem smallN.left {a b : List Int} (h : smallN (a ++ b)) : smallN a := fun x hx => h x (List.mem_append_left _ hx)
theorem smallN.right {a b : List Int} (h : smallN (a ++ b)) : smallN b := fun x hx => h x (List.mem_append_right _ hx)
theorem smallN.take {a : List Int} (h : smallN a) (i : Nat) : smallN (a.take i) := fun x hx => h x (List.mem_of_mem_take hx)
theorem sum_bound : ∀ {ns : List Int}, smallN ns → -1099511627776 * (ns.length : Int) ≤ ns.sum ∧ ns.sum ≤ 1099511627776 * (ns.length : Int)
  | [], _ => by simp
  | x :: l, h => by
    have h1 := h x List.mem_cons_self
    have h2 := sum_bound (ns := l) (fun y hy => h y (List.mem_cons_of_mem _ hy))
    simp only [List.sum_cons, List.length_cons]
    omega
theorem low_bound : ∀ {ns : List Int}, smallN ns → -1099511627776 * (ns.length : Int) ≤ lowF ns ∧ lowF ns ≤ 1099511627776 * (ns.length : Int)
  | [], _ => by simp [lowF]
  | [x], h => by have := h x List.mem_cons_self; simp [lowF]; omega
  | x :: y :: l, h => by
    have h1 := h x List.mem_cons_self
    have h2 := low_bound (ns := y :: l) (fun z hz => h z (List.mem_cons_of_mem _ hz))
    have e : lowF (x :: y :: l) = min x (x + lowF (y :: l)) := rfl
    simp only [List.length_cons] at h2 ⊢
    rw [e]
    omega
theorem tidePlus_eq (k : Nat) {a b : List Int} (h : smallN (a ++ b)) (hl : (a ++ b).length < 1000000) : tide_Tide_Plus.f k (tideF a) (tideF b) = some (tideF (a ++ b)) := by
  have ha := sum_bound h.left
  have hb := sum_bound h.right
  have la := low_bound h.left
  have lb := low_bound h.right
  simp only [List.length_append] at hl
  unfold tide_Tide_Plus.f
  by_cases h1 : a = []
  · subst h1; simp [tideF]
  · have p1 : a.length ≠ 0 := fun e => h1 (List.eq_nil_of_length_eq_zero e)
    by_cases h2 : b = []
    · subst h2
      have : ((tideF a).n == 0) = false := by simp [tideF]; exact h1
      simp only [this, cond_false]; simp [tideF]
    · have p2 : b.length ≠ 0 := fun e => h2 (List.eq_nil_of_length_eq_zero e)
      have e1 : ((a.length : Int) == 0) = false := by simp; exact h1
      have e2 : ((b.length : Int) == 0) = false := by simp; exact h2
      simp only [tideF, e1, e2, cond_false]
      rw [w64_id (by omega) (by omega), w64_id (by omega) (by omega), w64_id (by omega) (by omega), lowF_append a b h1 h2, List.sum_append, List.length_append]
      have e : gmin (lowF a) (a.sum + lowF b) = min (lowF a) (a.sum + lowF b) := by unfold gmin; split <;> omega
      rw [e, Int.natCast_add]
theorem tideOf_loop (k : Nat) (l : List Int) (hs : smallN l) (hl : l.length < 1000000) : ∀ (d i n : Nat), i + d = l.length → d < n → tide_Of.l0 k l n (tideF (l.take i), (i : Int)) = some (tideF l)
  | d, i, 0, _, h => by omega
  | 0, i, n + 1, hi, _ => by
    simp only [tide_Of.l0]
    rw [dec_nlt (by omega), List.take_of_length_le (by omega)]; rfl
  | d + 1, i, n + 1, hi, hn => by
    obtain ⟨x, hx, hdr⟩ := drop_cons (l := l) (i := i) (by omega)
    have ht : l.take (i + 1) = l.take i ++ [x] := by rw [List.take_add_one, hx]; rfl
    have e1 : (⟨1, x, x⟩ : TTide) = tideF [x] := by simp [tideF, lowF]
    simp only [tide_Of.l0]
    rw [dec_lt (by omega)]
    simp only [cond_true, atL_nat hx, Option.bind_some, e1]
    rw [tidePlus_eq k (by rw [← ht]; exact hs.take _) (by rw [← ht]; simp; omega)]
    simp only [Option.bind_some, w64_succ (i := i) (by omega), ← ht]
    exact tideOf_loop k l hs hl d (i + 1) n (by omega) (by omega)
theorem tideOf_eq (k : Nat) {l : List Int} (hs : smallN l) (hl : l.length < 1000000) (hk : l.length < k) : tide_Of.f k l = some (tideF l) := by
  have := tideOf_loop k l hs hl l.length 0 k (by omega) hk
  have e : tide_Of.l0 k l k (zTTide, 0) = some (tideF l) := this
  unfold tide_Of.f; rw [e]; rfl
end Go.Proofs.Ytjokolmijhhinaa
namespace Go.Proofs.Ytjokolmijhhinaa
open Go Go.Proofs.Ytjokolmijhhinaa.Sx
abbrev K1 : Nat := 1000001
abbrev ltE (a b : TL07Elem) : Prop := a.k < b.k
abbrev wsE (l : List TL07Elem) : List Int := l.map (·.w)
abbrev SE (s : TTide) (l : List TL07Elem) : Prop := s = tideF (wsE l)
abbrev GE (x : TL07Elem) : Prop := -1000000 ≤ x.w ∧ x.w ≤ 1000000
theorem smallE {l : List TL07Elem} (h : ∀ x ∈ l, GE x) : smallN (wsE l) := by
  intro y hy
  obtain ⟨x, hx, rfl⟩ := List.mem_map.1 hy
  have := h x hx
  simp only [GE] at this; omega
theorem okE : OpsOk opsE K1 1000000 GE SE ltE where
  cmp a b := by
    unfold opsE Lw07_elem_Compare.f ltE
    by_cases h1 : a.k < b.k
    · exact ⟨-1, by simp [h1], by omega, by omega⟩
    · by_cases h2 : b.k < a.k
      · exact ⟨1, by simp [h1, h2], by omega, by omega⟩
      · exact ⟨0, by simp [h1, h2], by omega, by omega⟩
  sum e he := by
    refine ⟨tideF [e.w], ?_, rfl⟩
    show Lw07_elem_Sum.f K1 e = _
    unfold Lw07_elem_Sum.f
    have hs : smallN [e.w] := smallE (l := [e]) (by simpa using he)
    rw [tideOf_eq K1 hs (by simp) (by unfold K1; simp)]; rfl
  plus := by
    rintro a b l r rfl rfl hG hN
    refine ⟨_, ?_, rfl⟩
    show tide_Tide_Plus.f K1 _ _ = _
    rw [tidePlus_eq K1 (by have := smallE hG; simpa using this) (by simpa using hN)]
    simp
  zero := rfl
  irrefl a := by simp
  trans := by intro a b c h1 h2; unfold ltE at *; omega
  left := by intro a b c h1 h2 h3; unfold ltE at *; omega
  right := by intro a b c h1 h2 h3; unfold ltE at *; omega
  big := by decide
def SmallActs (l : List TL07Act) : Prop := (∀ x ∈ l, -1000000 ≤ x.w ∧ x.w ≤ 1000000) ∧ l.length ≤ 60
theorem small_loop (l : List TL07Act) (hl : l.length < 1000000) : ∀ (d i n : Nat), i + d = l.length → d < n → (∀ x ∈ l.take i, -1000000 ≤ x.w ∧ x.w ≤ 1000000) →
    ∃ v, Lw07_small.l0 K1 l n (i : Int) = some v ∧ (v = Sum.inl false ∨ (v = Sum.inr () ∧ ∀ x ∈ l, -1000000 ≤ x.w ∧ x.w ≤ 1000000))
  | d, i, 0, _, h, _ => by omega
  | 0, i, n + 1, hi, _, ha => by
    simp only [Lw07_small.l0]
    rw [dec_nlt (by omega)]
    rw [List.take_of_length_le (by omega)] at ha
    exact ⟨_, rfl, .inr ⟨rfl, ha⟩⟩
  | d + 1, i, n + 1, hi, hn, ha => by
    obtain ⟨x, hx, _⟩ := drop_cons (l := l) (i := i) (by omega)
    have ht : l.take (i + 1) = l.take i ++ [x] := by rw [List.take_add_one, hx]; rfl
    simp only [Lw07_small.l0]
    rw [dec_lt (by omega)]
    simp only [cond_true, atL_nat hx, Option.bind_some]
    by_cases h1 : x.w < -1000000
    · simp only [h1, decide_true, cond_true]; exact ⟨_, rfl, .inl rfl⟩
    · by_cases h2 : x.w > 1000000
      · simp only [h1, h2, decide_true, decide_false, cond_true, cond_false]; exact ⟨_, rfl, .inl rfl⟩
      · simp only [h1, h2, decide_false, cond_false, w64_succ (i := i) (by omega)]
        refine small_loop l hl d (i + 1) n (by omega) (by omega) (fun y hy => ?_)
        rw [ht] at hy
        rcases List.mem_append.1 hy with hy | hy
        · exact ha y hy
        · simp at hy; subst hy; omega
theorem small07 (l : List TL07Act) : Lw07_small.f K1 l 60 = some false ∨ (Lw07_small.f K1 l 60 = some true ∧ SmallActs l) := by
  unfold Lw07_small.f
  by_cases h : (l.length : Int) > 60
  · simp only [h, decide_true, cond_true]; exact .inl trivial
  · simp only [h, decide_false, cond_false]
    obtain ⟨v, h1, h2⟩ := small_loop l (by omega) l.length 0 K1 (by omega) (by unfold K1; omega) (by simp)
    have h1' : Lw07_small.l0 K1 l K1 0 = some v := h1
    rw [h1']
    rcases h2 with rfl | ⟨rfl, h2⟩
    · exact .inl rfl
    · exact .inr ⟨rfl, h2, by omega⟩
end Go.Proofs.Ytjokolmijhhinaa
namespace Go.Proofs.Ytjokolmijhhinaa
open Go Go.Proofs.Ytjokolmijhhinaa.Sx
end Go.Proofs.Ytjokolmijhhinaa
namespace Go.Proofs.Ytjokolmijhhinaa
open Go Go.Proofs.Ytjokolmijhhinaa.Sx
end Go.Proofs.Ytjokolmijhhinaa
namespace Go.Proofs.Ytjokolmijhhinaa
open Go Go.Proofs.Ytjokolmijhhinaa.Sx
end Go.Proofs.Ytjokolmijhhinaa
namespace Go.Proofs.Ytjokolmijhhinaa
open Go Go.Proofs.Ytjokolmijhhinaa.Sx
theorem log_two {n : Nat} (h : 2 ≤ n) : Nat.log2 n = Nat.log2 (n / 2) + 1 := by
  rw [Nat.log2_def, if_pos h]
theorem log_small {n : Nat} (h : n < 2) : Nat.log2 n = 0 := by
  rw [Nat.log2_def, if_neg (by omega)]
theorem log_mono : ∀ (a b : Nat), a ≤ b → Nat.log2 a ≤ Nat.log2 b
  | a, b, h => by
    by_cases ha : a < 2
    · rw [log_small ha]; exact Nat.zero_le _
    · rw [log_two (n := a) (by omega), log_two (n := b) (by omega)]
      have := log_mono (a / 2) (b / 2) (by omega)
      omega
theorem Height_loop : ∀ (n k : Nat) (h : Int), k < n → 0 ≤ h → h + 3 * k < 1000000000 → R07_Height.l0 K1 n (h, (k : Int)) = some (h + 3 * (Nat.log2 k : Nat))
  | 0, k, h, hk, _, _ => by omega
  | n + 1, k, h, hk, h0, h1 => by
    simp only [R07_Height.l0]
    by_cases hh : k < 2
    · rw [decide_eq_false (by omega), cond_false, log_small hh]; simp
    · have e2 : w64 ((k : Int).tdiv 2) = ((k / 2 : Nat) : Int) := by
        have : (k : Int).tdiv 2 = ((k / 2 : Nat) : Int) := by
          rw [Int.tdiv_eq_ediv_of_nonneg (by omega)]; omega
        rw [this]
        exact w64_id (by omega) (by omega)
      rw [decide_eq_true (by omega), cond_true, e2, w64_id (by omega) (by omega), Height_loop n (k / 2) (h + 3) (by omega) (by omega) (by omega), log_two (n := k) (by omega)]
      congr 1; omega
theorem Height_eq (n : Nat) (hn : n < 100000) : R07_Height.f K1 (n : Int) = some (2 + 3 * (Nat.log2 (n + 1) : Nat)) := by
  have := Height_loop K1 (n + 1) 2 (by unfold K1; omega) (by decide) (by omega)
  unfold R07_Height.f
  rw [w64_succ (by omega), this]; rfl
theorem log_lt (n : Nat) (h : n < 1024) : Nat.log2 n ≤ 9 := by
  have := log_mono n 1023 (by omega)
  have e : Nat.log2 1023 = 9 := by decide
  omega
structure StH (p : PN TL07Elem TTide) (r : TRef) (t : Tr TL07Elem) (B : Nat) : Prop where
  pw : PW p t.refs B
  rep : Rep SE p r t
  srt : InOrd ltE t.toList
  good : ∀ x ∈ t.toList, GE x
  wb : Tr.WB t
theorem StH.new (c : Int) (B : Nat) (hB : B < 4294967295) : StH (⟨[], [], c, 0, 0⟩ : PN TL07Elem TTide) zTRef .nil B := ⟨PW.new c B hB, rfl, List.Pairwise.nil, (by simp [Tr.toList]), trivial⟩
theorem StH.put {p : PN TL07Elem TTide} {r : TRef} {t : Tr TL07Elem} {B : Nat} (h : StH p r t B) (e : TL07Elem) (hG : GE e) (hB : B + 1 < 4294967295) (hN : t.size + 1 < 1000000) {v : Int} (h0 : 0 ≤ v) (hb : v + 1000 * (t.ht + 1 : Nat) < 4611686018427387904) :
    ∃ f r' p' t' v', VTree_Put.f opsE K1 (vz p v) r e = some (f, r', vz p' v') ∧ StH p' r' t' (B + 1) ∧ t'.size ≤ t.size + 1 ∧ v ≤ v' ∧ v' ≤ v + 82 * (t.ht : Nat) := by
  have hll := Tr.len_toList t
  obtain ⟨a, m, b, hcut, hres⟩ := put_ok okE (by decide) h.pw hB e hG K1 (by unfold K1; omega) h.rep h.pw.ld h.srt h.good (by omega)
  have pv := fun {r' : TRef} {f : Bool} {p' : PN TL07Elem TTide} (hh : Tree_put.r opsE K1 K1 p r e = some (r', f, p')) => put_v okE (k := K1) (by decide) (by decide) h.pw hB e hG K1 (by unfold K1; omega) h.rep h.pw.ld h.srt h.good (by omega) h.wb hh h0 hb
  rcases hres with ⟨h1, h2, rr, h3⟩ | ⟨r', p', t', F, h1, h2, h3, h4, h5⟩
  · obtain ⟨_, v', a1, b1, c1⟩ := pv h3
    refine ⟨false, r, p, t, v', ?_, ⟨h.pw.mono (by omega) hB, h.rep, h.srt, h.good, h.wb⟩, by omega, b1, c1⟩
    unfold VTree_Put.f VTree_put.f
    rw [a1]; rfl
  · obtain ⟨q1, v', a1, b1, c1⟩ := pv h3
    obtain ⟨t2, k1, k2, k3, k4⟩ := q1 rfl
    have := h5.rep.uniq k1
    subst this
    refine ⟨true, r', p', t', v', ?_, ⟨h5.pw.perm h5.refs.symm, h5.rep, ?_, fun x hx => ?_, k2⟩, by simp only [Tr.w] at k4; omega, b1, c1⟩
    · unfold VTree_Put.f VTree_put.f
      rw [a1]; rfl
    · rw [h4]; exact hcut.put okE h.srt
    · rw [h4] at hx
      have h8 : ∀ y, y ∈ a ∨ y ∈ b → y ∈ t.toList := fun y hy => by rw [hcut.eq]; rcases hy with hy | hy <;> simp [hy]
      simp only [List.mem_append, List.mem_cons] at hx
      rcases hx with hx | rfl | hx
      · exact h.good x (h8 x (.inl hx))
      · exact hG
      · exact h.good x (h8 x (.inr hx))
theorem StH.drop {p : PN TL07Elem TTide} {r : TRef} {t : Tr TL07Elem} {B : Nat} (h : StH p r t B) (e : TL07Elem) (hN : t.size < 1000000) {v : Int} (h0 : 0 ≤ v) (hb : v + 1000 * (t.ht + 1 : Nat) < 4611686018427387904) :
    ∃ y f r' p' t' v', VTree_Drop.f opsE K1 (vz p v) r e = some (y, f, r', vz p' v') ∧ StH p' r' t' B ∧ t'.size ≤ t.size ∧ v ≤ v' ∧ v' ≤ v + 82 * (t.ht : Nat) + 82 := by
  have hll := Tr.len_toList t
  obtain ⟨a, m, b, hcut, hres⟩ := drop_ok okE (by decide) h.pw e K1 (by unfold K1; omega) h.rep h.pw.ld h.srt h.good (by omega)
  have pv := fun {r' : TRef} {y : TL07Elem} {f : Bool} {p' : PN TL07Elem TTide} (hh : Tree_drop.r opsE K1 K1 p r e = some (r', y, f, p')) => drop_v okE (k := K1) (by decide) (by decide) h.pw e K1 (by unfold K1; omega) h.rep h.pw.ld h.srt h.good (by omega) h.wb hh h0 hb
  rcases hres with ⟨h1, h3⟩ | ⟨y, r', p', t', x0, h1, h3, h4, h5⟩
  · obtain ⟨_, v', a1, b1, c1⟩ := pv h3
    refine ⟨opsE.zE, false, r, p, t, v', ?_, h, by omega, b1, c1⟩
    unfold VTree_Drop.f VTree_drop.f
    rw [a1]; rfl
  · obtain ⟨q1, v', a1, b1, c1⟩ := pv h3
    obtain ⟨t2, k1, k2, k3⟩ := q1 rfl
    have := h5.rep.uniq k1
    subst this
    refine ⟨y, true, r', p', t', v', ?_, ⟨h5.pw.perm ?_, h5.rep, ?_, fun x hx => ?_, k2⟩, by simp only [Tr.w] at k3; omega, b1, c1⟩
    · unfold VTree_Drop.f VTree_drop.f
      rw [a1]; rfl
    · have := h5.refs.erase x0
      rw [List.erase_cons_head] at this
      exact this.symm
    · rw [h4]
      exact hcut.drop h.srt
    · rw [h4] at hx
      refine h.good x ?_
      rw [hcut.eq]
      rcases List.mem_append.1 hx with hx | hx <;> simp [hx]
theorem StH.len {p : PN TL07Elem TTide} {r : TRef} {t : Tr TL07Elem} {B : Nat} (h : StH p r t B) {v : Int} (h0 : 0 ≤ v) (hb : v < 4611686018427387904) : ∃ v', VTree_Len.f opsE K1 (vz p v) r = some ((t.size : Int), vz p v') ∧ v ≤ v' ∧ v' ≤ v + 1 := by
  obtain ⟨n, g1, g2⟩ := get_ok okE h.pw h.rep
  obtain ⟨v', a1, b1, c1⟩ := get_v g1 h0 hb
  exact ⟨v', by unfold VTree_Len.f; rw [a1]; simp only [Option.bind_some, g2.size], b1, c1⟩
theorem StH.height {p : PN TL07Elem TTide} {r : TRef} {t : Tr TL07Elem} {B : Nat} (h : StH p r t B) (hN : t.size < 1000000) {v : Int} (h0 : 0 ≤ v) (hb : v + 1000 * (t.size + 1 : Nat) < 4611686018427387904) : ∃ v', VTree_Height.f opsE K1 (vz p v) r = some ((t.ht : Int), vz p v') ∧ v ≤ v' ∧ v' ≤ v + (t.size : Nat) := by
  obtain ⟨v', a1, b1, c1⟩ := height_v (k := K1) okE h.pw K1 (by unfold K1; omega) h.rep hN h0 hb
  exact ⟨v', by unfold VTree_Height.f VTree_height.f; rw [a1]; rfl, b1, c1⟩
theorem StH.rank {p : PN TL07Elem TTide} {r : TRef} {t : Tr TL07Elem} {B : Nat} (h : StH p r t B) (e : TL07Elem) (hN : t.size < 1000000) {v : Int} (h0 : 0 ≤ v) (hb : v + 1000 * (t.size + 1 : Nat) < 4611686018427387904) : ∃ x v', VTree_Rank.f opsE K1 (vz p v) r e = some (x, vz p v') ∧ v ≤ v' ∧ v' ≤ v + 2 * (t.ht : Nat) := by
  have hll := Tr.len_toList t
  obtain ⟨a, m, b, hcut, hres⟩ := rank_ok okE h.pw e K1 0 (by unfold K1; omega) h.rep h.srt (by omega)
  obtain ⟨v', a1, b1, c1⟩ := rank_v (k := K1) okE h.pw e K1 h.rep hN hres h0 hb
  have a1' : VTree_Rank.l0 opsE K1 e K1 (vz p v, 0, r) = _ := a1
  exact ⟨_, v', by unfold VTree_Rank.f; rw [a1']; rfl, b1, c1⟩
theorem StH.find {p : PN TL07Elem TTide} {r : TRef} {t : Tr TL07Elem} {B : Nat} (h : StH p r t B) (e : TL07Elem) (hN : t.size < 1000000) {v : Int} (h0 : 0 ≤ v) (hb : v + 1000 * (t.size + 1 : Nat) < 4611686018427387904) : ∃ x y v', VTree_Find.f opsE K1 (vz p v) r e = some (x, y, vz p v') ∧ v ≤ v' ∧ v' ≤ v + (t.ht : Nat) := by
  obtain ⟨a, m, b, hcut, hres⟩ := find_ok okE h.pw e K1 (by unfold K1; omega) h.rep h.srt
  obtain ⟨v', a1, b1, c1⟩ := find_v (k := K1) okE h.pw e K1 h.rep hN hres h0 hb
  unfold VTree_Find.f
  rw [a1]
  cases m with
  | nil => exact ⟨_, _, v', rfl, b1, c1⟩
  | cons y m => exact ⟨_, _, v', rfl, b1, c1⟩
theorem StH.between {p : PN TL07Elem TTide} {r : TRef} {t : Tr TL07Elem} {B : Nat} (h : StH p r t B) (i j : Int) (hi : 0 ≤ i) (hi2 : i < 1000000) (hj : 0 ≤ j) (hj2 : j < 1000000) (hN : t.size < 1000000) {v : Int} (h0 : 0 ≤ v) (hb : v + 1000 * (t.size + 1 : Nat) + 1000 < 4611686018427387904) : ∃ x v', VTree_Between.f opsE K1 (vz p v) r i j = some (x, vz p v') ∧ v ≤ v' ∧ v' ≤ v + 9 * (t.ht : Nat) + 2 := by
  have hll := Tr.len_toList t
  obtain ⟨v1, a1, b1, c1⟩ := h.len h0 (by omega)
  have hg : ∀ x : Int, gmin (gmax x 0) (t.size : Int) = min (max x 0) (t.size : Int) := fun x => by unfold gmin gmax; split <;> split <;> omega
  obtain ⟨s, s1, s2⟩ := between_ok okE h.pw K1 (min (max i 0) (t.size : Int)) (min (max j 0) (t.size : Int)) (by unfold K1; omega) h.rep h.good (by omega) (by omega) (by omega) (by omega) (by omega)
  obtain ⟨v', a2, b2, c2, d2, e2⟩ := between_v (k := K1) okE h.pw K1 (min (max i 0) (t.size : Int)) (min (max j 0) (t.size : Int)) h.rep hN (by omega) (by omega) (by omega) (by omega) s1 (v := v1) (by omega) (by omega)
  refine ⟨s, v', ?_, by omega, by omega⟩
  unfold VTree_Between.f VTree_between.f
  rw [a1]
  simp only [Option.bind_some, hg, a2]
end Go.Proofs.Ytjokolmijhhinaa
namespace Go.Proofs.Ytjokolmijhhinaa
open Go Go.Proofs.Ytjokolmijhhinaa.Sx
theorem Rest_eq (k : Nat) {a n : Int} (hn : 0 < n) (hb : n < 4611686018427387904) : R01_Rest.f k a n = some (a % n) := by
  unfold R01_Rest.f
  have h0 : n ≠ 0 := by omega
  simp only [ne_eq, h0, not_false_eq_true, decide_true, cond_true]
  congr 1
  have h1 := Int.tmod_lt_of_pos a hn
  have h2 : -n < a.tmod n := by
    have := Int.lt_tmod_of_pos a hn
    omega
  rw [w64_id (by omega) (by omega)]
  by_cases h3 : 0 ≤ a.tmod n
  · have h4 : a.tmod n = a % n := by
      rw [Int.tmod_eq_emod]
      rw [Int.tmod_eq_emod] at h3 h2
      split
      · simp
      · rename_i hc
        rw [if_neg hc] at h3 h2
        have := Int.emod_lt_of_pos a hn
        have h5 : (n.natAbs : Int) = n := by omega
        omega
    rw [h4]
    have := Int.emod_nonneg a h0
    have := Int.emod_lt_of_pos a hn
    rw [Int.tmod_eq_emod_of_nonneg (by omega), Int.add_emod_right, Int.emod_emod]
  · have h4 : a.tmod n = a % n - n := by
      rw [Int.tmod_eq_emod]
      rw [Int.tmod_eq_emod] at h3
      split
      · rename_i hc
        rw [if_pos hc] at h3
        have := Int.emod_nonneg a h0
        omega
      · have h5 : (n.natAbs : Int) = n := by omega
        omega
    rw [h4]
    have := Int.emod_nonneg a h0
    have := Int.emod_lt_of_pos a hn
    rw [show a % n - n + n = a % n by omega, Int.tmod_eq_emod_of_nonneg (by omega), Int.emod_emod]
end Go.Proofs.Ytjokolmijhhinaa
namespace Go.Proofs.Ytjokolmijhhinaa
open Go Go.Proofs.Ytjokolmijhhinaa.Sx
theorem visits_eq {p : PN TL07Elem TTide} {v : Int} : VTree_Visits.f opsE K1 (vz p v) = some v := rfl
theorem StH.hb {p : PN TL07Elem TTide} {r : TRef} {t : Tr TL07Elem} {B : Nat} (h : StH p r t B) : t.ht ≤ 2 + 3 * Nat.log2 (t.size + 1) := Tr.ht_le h.wb
theorem StH.mono {p : PN TL07Elem TTide} {r : TRef} {t : Tr TL07Elem} {B B' : Nat} (h : StH p r t B) (hB : B ≤ B') (hs : B' < 4294967295) : StH p r t B' := ⟨h.pw.mono hB hs, h.rep, h.srt, h.good, h.wb⟩
theorem heights_loop (acts : List TL07Act) (hs : SmallActs acts) (hne : 0 < acts.length) (step : Int) : ∀ (d i n : Nat) {p : PN TL07Elem TTide} {r : TRef} {t : Tr TL07Elem} {v : Int}, i + d = 6 * acts.length → d < n → StH p r t i → t.size ≤ i → 0 ≤ v → v ≤ 10000 * (i : Int) →
    VLw07_GroveHeights.l0 K1 acts step n (vz p v, r.index, r.gen, (i : Int)) = some (Sum.inr ())
  | d, i, 0, _, _, _, _, _, h, _, _, _, _ => by omega
  | 0, i, n + 1, p, r, t, v, hi, _, h, hsz, h0, hv => by
    have h60 := hs.2
    simp only [VLw07_GroveHeights.l0]
    rw [decide_eq_false (by rw [w64_id (by omega) (by omega)]; omega)]; rfl
  | d + 1, i, n + 1, p, r, t, v, hi, hn, h, hsz, h0, hv => by
    have h60 := hs.2
    have hlt : i % acts.length < acts.length := Nat.mod_lt _ hne
    obtain ⟨x8, hx8, _⟩ := drop_cons (l := acts) (i := i % acts.length) hlt
    have hxw := hs.1 x8 (List.mem_of_getElem? hx8)
    have e8 : atL acts ((i : Int).tmod (acts.length : Int)) = some x8 := by
      rw [Int.tmod_eq_emod_of_nonneg (by omega), show (i : Int) % (acts.length : Int) = ((i % acts.length : Nat) : Int) from by rw [Int.natCast_emod]]
      exact atL_nat hx8
    have hht := h.hb
    have hlog := log_lt (t.size + 1) (by omega)
    obtain ⟨v1, l1, l2, l3⟩ := h.len h0 (by omega)
    have l1' : VTree_Len.f opsE K1 (vz p v) (TRef.mk r.index r.gen) = some ((t.size : Int), vz p v1) := l1
    have dne : decide ((acts.length : Int) ≠ 0) = true := decide_eq_true (by omega)
    have dlt : decide ((i : Int) < w64 (6 * (acts.length : Int))) = true := decide_eq_true (by rw [w64_id (by omega) (by omega)]; omega)
    obtain ⟨x9, r9⟩ : ∃ x9, R01_Rest.f K1 step 100 = some x9 := ⟨_, Rest_eq K1 (a := step) (n := 100) (by decide) (by decide)⟩
    obtain ⟨x13, r13⟩ : ∃ x13, R01_Rest.f K1 x8.kind 5 = some x13 := ⟨_, Rest_eq K1 (a := x8.kind) (n := 5) (by decide) (by decide)⟩
    simp only [VLw07_GroveHeights.l0]
    rw [dlt, cond_true, dne, cond_true, e8, Option.bind_some, cond_true, r9, Option.bind_some, l1', Option.bind_some, visits_eq, Option.bind_some, r13, Option.bind_some]
    generalize hE : (TL07Elem.mk (w64 ((x8.k.tmod 1000) + (w64 ((w64 ((i : Int).tdiv (acts.length : Int))) * x9)))) x8.w) = e
    have hGe : GE e := by rw [← hE]; exact hxw
    obtain ⟨p2, r2, t2, v2, st, sz, b1, b2, hx12⟩ : ∃ (p2 : PN TL07Elem TTide) (r2 : TRef) (t2 : Tr TL07Elem) (v2 : Int), StH p2 r2 t2 (i + 1) ∧ t2.size ≤ t.size + 1 ∧ v1 ≤ v2 ∧ v2 ≤ v1 + 82 * (t.ht : Nat) + 82 ∧
        (bif (x13 == 1) then ((VTree_Drop.f opsE K1 (vz p v1) (TRef.mk r.index r.gen) e).bind fun x14 => some (x14.2.2.2, x14.2.2.1.index, x14.2.2.1.gen, e)) else ((VTree_Put.f opsE K1 (vz p v1) (TRef.mk r.index r.gen) e).bind fun x15 => some (x15.2.2, x15.2.1.index, x15.2.1.gen, e))) = some (vz p2 v2, r2.index, r2.gen, e) := by
      cases hx : (x13 == 1) with
      | true =>
        obtain ⟨y, f, r', p', t', v', a1, a2, a3, a4, a5⟩ := h.drop e (by omega) (v := v1) (by omega) (by omega)
        have a1' : VTree_Drop.f opsE K1 (vz p v1) (TRef.mk r.index r.gen) e = _ := a1
        exact ⟨p', r', t', v', a2.mono (by omega) (by omega), by omega, a4, a5, by rw [cond_true, a1']; rfl⟩
      | false =>
        obtain ⟨f, r', p', t', v', a1, a2, a3, a4, a5⟩ := h.put e hGe (by omega) (by omega) (v := v1) (by omega) (by omega)
        have a1' : VTree_Put.f opsE K1 (vz p v1) (TRef.mk r.index r.gen) e = _ := a1
        exact ⟨p', r', t', v', a2, a3, a4, by omega, by rw [cond_false, a1']; rfl⟩
    have hht2 := st.hb
    have hlog2 := log_lt (t2.size + 1) (by omega)
    have hm := log_mono (t.size + 1) (t.size + 2) (by omega)
    have hm2 := log_mono (t2.size + 1) (t.size + 2) (by omega)
    have hlog3 := log_lt (t.size + 2) (by omega)
    have hH : R07_Height.f K1 (w64 ((t.size : Int) + 1)) = (some ((2 : Int) + 3 * ((Nat.log2 (t.size + 2) : Nat) : Int)) : Option Int) := by
      rw [w64_succ (by omega)]; exact (Height_eq (t.size + 1) (by omega)).trans rfl
    have hH2 : R07_Height.f K1 (t2.size : Int) = (some ((2 : Int) + 3 * ((Nat.log2 (t2.size + 1) : Nat) : Int)) : Option Int) := (Height_eq t2.size (by omega)).trans rfl
    obtain ⟨v3, c1, c2, c3⟩ := st.height (by omega) (v := v2) (by omega) (by omega)
    have c1' : VTree_Height.f opsE K1 (vz p2 v2) (TRef.mk r2.index r2.gen) = _ := c1
    obtain ⟨v4, g1, g2, g3⟩ := st.len (v := v3) (by omega) (by omega)
    have g1' : VTree_Len.f opsE K1 (vz p2 v3) (TRef.mk r2.index r2.gen) = _ := g1
    obtain ⟨y5, v5, k1, k2, k3⟩ := st.rank e (by omega) (v := v4) (by omega) (by omega)
    have k1' : VTree_Rank.f opsE K1 (vz p2 v4) (TRef.mk r2.index r2.gen) e = _ := k1
    obtain ⟨y6, y7, v6, m1, m2, m3⟩ := st.find e (by omega) (v := v5) (by omega) (by omega)
    have m1' : VTree_Find.f opsE K1 (vz p2 v5) (TRef.mk r2.index r2.gen) e = _ := m1
    have w1 : w64 ((t.size : Int).tdiv 3) = ((t.size / 3 : Nat) : Int) := by
      rw [Int.tdiv_eq_ediv_of_nonneg (by omega), w64_id (by omega) (by omega)]; omega
    have w2 : w64 ((t.size : Int).tdiv 2) = ((t.size / 2 : Nat) : Int) := by
      rw [Int.tdiv_eq_ediv_of_nonneg (by omega), w64_id (by omega) (by omega)]; omega
    obtain ⟨y8, v7, o1, o2, o3⟩ := st.between ((t.size / 3 : Nat) : Int) ((t.size / 2 : Nat) : Int) (by omega) (by omega) (by omega) (by omega) (by omega) (v := v6) (by omega) (by omega)
    have o1' : VTree_Between.f opsE K1 (vz p2 v6) (TRef.mk r2.index r2.gen) ((t.size / 3 : Nat) : Int) ((t.size / 2 : Nat) : Int) = _ := o1
    have z1 : decide (w64 (v2 - v1) > w64 (200 * w64 ((2 : Int) + 3 * ((Nat.log2 (t.size + 2) : Nat) : Int) + 4))) = false := by
      rw [w64_id (x := v2 - v1) (by omega) (by omega), w64_id (x := 2 + 3 * ((Nat.log2 (t.size + 2) : Nat) : Int) + 4) (by omega) (by omega), w64_id (by omega) (by omega)]
      exact decide_eq_false (by omega)
    have z2 : decide ((t2.ht : Int) > (2 : Int) + 3 * ((Nat.log2 (t2.size + 1) : Nat) : Int)) = false := decide_eq_false (by omega)
    have z3 : decide (w64 (v7 - v4) > w64 (600 * w64 ((2 : Int) + 3 * ((Nat.log2 (t.size + 2) : Nat) : Int) + 4))) = false := by
      rw [w64_id (x := v7 - v4) (by omega) (by omega), w64_id (x := 2 + 3 * ((Nat.log2 (t.size + 2) : Nat) : Int) + 4) (by omega) (by omega), w64_id (by omega) (by omega)]
      exact decide_eq_false (by omega)
    rw [hx12, Option.bind_some]
    simp only [visits_eq, Option.bind_some, hH, z1, cond_false, c1', g1', hH2, z2, Sum.elim_inr, k1', m1', w1, w2, o1', z3]
    rw [w64_succ (by omega)]
    exact heights_loop acts hs hne step d (i + 1) n (by omega) (by omega) st (by omega) (v := v7) (by omega) (by omega)
theorem Vawake07 : VLw07_awake.f K1 = some true := by kernel_rfl
theorem GroveHeights_pure (acts : List TL07Act) (step : Int) : VLw07_GroveHeights.f K1 acts step = some true := by
  unfold VLw07_GroveHeights.f
  simp only [Vawake07, Option.bind_some, Bool.not_true, cond_false]
  rcases small07 acts with h | ⟨h, hs⟩
  · simp only [h, Option.bind_some, Bool.not_false, cond_true, Sum.elim_inl]
  · have h60 := hs.2
    have key : VLw07_GroveHeights.l0 K1 acts step K1 ((⟨[], [], capOf 400, 0, 0⟩ : PN TL07Elem TTide), zTRef.index, zTRef.gen, 0) = some (Sum.inr ()) := by
      by_cases hne : 0 < acts.length
      · exact heights_loop acts hs hne step (6 * acts.length) 0 K1 (by omega) (by unfold K1; omega) (StH.new (capOf 400) 0 (by decide)) (Nat.le_refl _) (v := 0) (by omega) (by omega)
      · have : acts = [] := List.eq_nil_of_length_eq_zero (by omega)
        subst this
        rfl
    simp only [h, Option.bind_some, Bool.not_true, cond_false, Sum.elim_inr, VTree_New.f, key]
end Go.Proofs.Ytjokolmijhhinaa

/- Trees in a pool: balancing, linking, merging. -/
import Derived.Test.YthcehagablploaaTg
namespace Go.Proofs.Ythcehagablploaa
open Go Go.Proofs.Ythcehagablploaa.Sx
set_option linter.unusedVariables false
set_option linter.unusedSimpArgs false

section
variable {E A : Type} {O : Ops E A} {k N : Nat} {G : E → Prop} {S : A → List E → Prop} {lt : E → E → Prop}
theorem dec_gt3 {a b : Nat} (hb : b < 4294967296) : decide ((a : Int) > w64 (3 * (b : Int))) = decide (a > 3 * b) := by
  rw [w64_id (by omega) (by omega)]
  by_cases h : a > 3 * b
  · simp only [h, decide_true, decide_eq_true_eq]; omega
  · simp only [h, decide_false, decide_eq_false_iff_not]; omega
theorem dec_ge2 {a b : Nat} (hb : b < 4294967296) : decide ((a : Int) ≥ w64 (2 * (b : Int))) = decide (a ≥ 2 * b) := by
  rw [w64_id (by omega) (by omega)]
  by_cases h : a ≥ 2 * b
  · simp only [h, decide_true, decide_eq_true_eq]; omega
  · simp only [h, decide_false, decide_eq_false_iff_not]; omega
theorem nodup_left {l u : List TRef} {r : TRef} (h : (l ++ r :: u).Nodup) : l.Nodup := (List.nodup_append.1 h).1
theorem nodup_right {l u : List TRef} {r : TRef} (h : (l ++ r :: u).Nodup) : u.Nodup := (List.nodup_cons.1 (List.nodup_append.1 h).2.1).2
theorem nodup_l {l u : List TRef} {r : TRef} (h : (l ++ r :: u).Nodup) : r ∉ l := fun hm => (List.nodup_append.1 h).2.2 r hm r List.mem_cons_self rfl
theorem nodup_u {l u : List TRef} {r : TRef} (h : (l ++ r :: u).Nodup) : r ∉ u := (List.nodup_cons.1 (List.nodup_append.1 h).2.1).1
theorem nodup_lu {l u : List TRef} {r : TRef} (h : (l ++ r :: u).Nodup) {x : TRef} (hl : x ∈ l) (hu : x ∈ u) : False := (List.nodup_append.1 h).2.2 x hl x (List.mem_cons_of_mem _ hu) rfl
/-- The whole of what a tree of which nothing is lost leaves. -/
theorem balance_ok (ok : OpsOk O k N G S lt) {p : PN E A} {L : List TRef} {B : Nat} (hP : PW p L B) {r r0 : TRef} {e : E} {l u : Tr E} (h : Rep S p r (.node r0 e l u)) (hnd : (Tr.node r0 e l u).refs.Nodup)
    (hG : ∀ x ∈ (Tr.node r0 e l u).toList, G x) (hN : (Tr.node r0 e l u).size < N) : ∃ r' p', Tree_balance.f O k p r = some (r', p') ∧ Left S p p' L B r' (Tr.bal (.node r0 e l u)) (Tr.node r0 e l u).refs := by
  have hbig := ok.big
  obtain ⟨n, g1, g2⟩ := get_ok ok hP h
  obtain ⟨rfl, he, hl, hu, hlk⟩ := g2.node rfl
  have hN' := hN
  simp only [Tr.size] at hN'
  have wl := weight_ok ok hP hl (by omega)
  have wu := weight_ok ok hP hu (by omega)
  unfold Tree_balance.f
  rw [g1]
  simp only [Option.bind_some, wl, wu]
  rw [dec_gt3 (by simp only [Tr.w]; omega), dec_gt3 (by simp only [Tr.w]; omega), Tr.bal_node]
  by_cases c1 : u.w > 3 * l.w
  · simp only [c1, decide_true, cond_true, if_true]
    cases u with
    | nil => simp only [Tr.w, Tr.size] at c1; omega
    | node r2 e2 a b =>
      obtain ⟨n2, q1, q2⟩ := get_ok ok hP hu
      obtain ⟨hr2, he2, ha, hb, hlk2⟩ := q2.node rfl
      simp only [Tr.size] at hN'
      have wa := weight_ok ok hP ha (by omega)
      have wb := weight_ok ok hP hb (by omega)
      simp only [q1, Option.bind_some, wa, wb]
      rw [dec_ge2 (by simp only [Tr.w]; omega)]
      by_cases c2 : a.w ≥ 2 * b.w
      · simp only [c2, decide_true, cond_true, if_true]
        cases a with
        | nil => simp only [Tr.w, Tr.size] at c2; omega
        | node r3 e3 c d =>
          have hndu : (Tr.node r2 e2 (.node r3 e3 c d) b).refs.Nodup := nodup_right hnd
          obtain ⟨p1, t1, t2⟩ := turnRight_ok ok hP hu hndu (fun x hx => hG x (by simp [Tr.toList] at hx ⊢; rcases hx with hx | hx | hx | hx | hx <;> simp [hx])) (by simp only [Tr.size] at hN ⊢; omega)
          have hlk1 : look p1 r = some n := by rw [t2.frame r (nodup_u hnd)]; exact hlk
          have hl1 : Rep S p1 n.left l := hl.frame (fun x hx => t2.frame x (fun hm => nodup_lu hnd hx hm))
          have hrf : (Tr.node r3 e3 c (.node r2 e2 d b)).refs = (Tr.node r2 e2 (.node r3 e3 c d) b).refs := by simp [Tr.refs]
          have htl : (Tr.node r3 e3 c (.node r2 e2 d b)).toList = (Tr.node r2 e2 (.node r3 e3 c d) b).toList := by simp [Tr.toList]
          obtain ⟨p2, v1, v2⟩ := lay_ok ok t2.pw hlk1 hl1 t2.rep (nodup_l hnd) (by rw [hrf]; exact nodup_u hnd) (fun x hx => hG x (by rw [he, htl] at hx; exact hx)) (by simp only [Tr.size] at hN ⊢; omega)
          have hrep : Rep S p2 r (.node r e l (.node r3 e3 c (.node r2 e2 d b))) := by have := v2.rep; rw [he] at this; exact this
          obtain ⟨p3, y1, y2⟩ := turnLeft_ok ok v2.pw hrep (by simp only [Tr.refs] at hnd ⊢; simpa using hnd) (fun x hx => hG x (by simp [Tr.toList] at hx ⊢; exact hx)) (by simp only [Tr.size] at hN ⊢; omega)
          refine ⟨r3, p3, ?_, y2.pw, ?_, fun x hx => ?_, y2.cap.trans (v2.cap.trans t2.cap)⟩
          · simp only [t1, Option.bind_some, v1, y1]
          · simp only [Tr.turnR, Tr.turnL]; exact y2.rep
          · have hx2 : x ∉ (Tr.node r e l (.node r3 e3 c (.node r2 e2 d b))).refs := by simpa [Tr.refs] using hx
            simp only [Tr.refs, List.mem_append, List.mem_cons, not_or] at hx
            rw [y2.frame x hx2, v2.frame x (by simp; exact hx.2.1), t2.frame x (by simp only [Tr.refs, List.mem_append, List.mem_cons, not_or]; exact hx.2.2)]
      · simp only [c2, decide_false, cond_false, if_false]
        obtain ⟨p1, t1, t2⟩ := turnLeft_ok ok hP h hnd hG hN
        refine ⟨r2, p1, ?_, t2.pw, by simp only [Tr.turnL]; exact t2.rep, t2.frame, t2.cap⟩
        simp only [t1, Option.bind_some]
  · simp only [c1, decide_false, cond_false, if_false]
    by_cases c3 : l.w > 3 * u.w
    · simp only [c3, decide_true, cond_true, if_true]
      cases l with
      | nil => simp only [Tr.w, Tr.size] at c3; omega
      | node r2 e2 a b =>
        obtain ⟨n2, q1, q2⟩ := get_ok ok hP hl
        obtain ⟨hr2, he2, ha, hb, hlk2⟩ := q2.node rfl
        simp only [Tr.size] at hN'
        have wa := weight_ok ok hP ha (by omega)
        have wb := weight_ok ok hP hb (by omega)
        simp only [q1, Option.bind_some, wa, wb]
        rw [dec_ge2 (by simp only [Tr.w]; omega)]
        by_cases c2 : b.w ≥ 2 * a.w
        · simp only [c2, decide_true, cond_true, if_true]
          cases b with
          | nil => simp only [Tr.w, Tr.size] at c2; omega
          | node r3 e3 c d =>
            have hndl : (Tr.node r2 e2 a (.node r3 e3 c d)).refs.Nodup := nodup_left hnd
            obtain ⟨p1, t1, t2⟩ := turnLeft_ok ok hP hl hndl (fun x hx => hG x (by simp [Tr.toList] at hx ⊢; rcases hx with hx | hx | hx | hx | hx <;> simp [hx])) (by simp only [Tr.size] at hN ⊢; omega)
            have hlk1 : look p1 r = some n := by rw [t2.frame r (nodup_l hnd)]; exact hlk
            have hu1 : Rep S p1 n.right u := hu.frame (fun x hx => t2.frame x (fun hm => nodup_lu hnd hm hx))
            have hrf : (Tr.node r3 e3 (.node r2 e2 a c) d).refs = (Tr.node r2 e2 a (.node r3 e3 c d)).refs := by simp [Tr.refs]
            have htl : (Tr.node r3 e3 (.node r2 e2 a c) d).toList = (Tr.node r2 e2 a (.node r3 e3 c d)).toList := by simp [Tr.toList]
            obtain ⟨p2, v1, v2⟩ := lay_ok ok t2.pw hlk1 t2.rep hu1 (by rw [hrf]; exact nodup_l hnd) (nodup_u hnd) (fun x hx => hG x (by rw [he, htl] at hx; exact hx)) (by simp only [Tr.size] at hN ⊢; omega)
            have hrep : Rep S p2 r (.node r e (.node r3 e3 (.node r2 e2 a c) d) u) := by have := v2.rep; rw [he] at this; exact this
            obtain ⟨p3, y1, y2⟩ := turnRight_ok ok v2.pw hrep (by simp only [Tr.refs] at hnd ⊢; simpa using hnd) (fun x hx => hG x (by simp [Tr.toList] at hx ⊢; exact hx)) (by simp only [Tr.size] at hN ⊢; omega)
            refine ⟨r3, p3, ?_, y2.pw, ?_, fun x hx => ?_, y2.cap.trans (v2.cap.trans t2.cap)⟩
            · simp only [t1, Option.bind_some, v1, y1]
            · simp only [Tr.turnR, Tr.turnL]; exact y2.rep
            · have hx2 : x ∉ (Tr.node r e (.node r3 e3 (.node r2 e2 a c) d) u).refs := by simpa [Tr.refs] using hx
              simp only [Tr.refs, List.mem_append, List.mem_cons, not_or] at hx
              rw [y2.frame x hx2, v2.frame x (by simp; exact hx.2.1), t2.frame x (by simp only [Tr.refs, List.mem_append, List.mem_cons, not_or]; exact hx.1)]
        · simp only [c2, decide_false, cond_false, if_false]
          obtain ⟨p1, t1, t2⟩ := turnRight_ok ok hP h hnd hG hN
          refine ⟨r2, p1, ?_, t2.pw, by simp only [Tr.turnR]; exact t2.rep, t2.frame, t2.cap⟩
          simp only [t1, Option.bind_some]
    · simp only [c3, decide_false, cond_false, if_false]
      exact ⟨r, p, rfl, hP, h, fun x _ => rfl, rfl⟩

theorem link_ok (ok : OpsOk O k N G S lt) : ∀ (n : Nat) {p : PN E A} {L : List TRef} {B : Nat} (hP : PW p L B) {a m b : TRef} {n0 : TNode E A} {l u : Tr E}, l.size + u.size < n → Rep S p a l → look p m = some n0 → Rep S p b u → (l.refs ++ m :: u.refs).Nodup →
    (∀ x ∈ l.toList ++ n0.e :: u.toList, G x) → l.size + 1 + u.size < N → ∃ r' p', Tree_link.r O k n p a m b = some (r', p') ∧ Left S p p' L B r' (Tr.link n l m n0.e u) (l.refs ++ m :: u.refs)
  | 0, _, _, _, _, _, _, _, _, _, _, h, _, _, _, _, _, _ => by omega
  | n + 1, p, L, B, hP, a, m, b, n0, l, u, hn, hl, hm, hu, hnd, hG, hN => by
    have hbig := ok.big
    have wl := weight_ok ok hP hl (by omega)
    have wu := weight_ok ok hP hu (by omega)
    simp only [Tree_link.r, wl, wu, Option.bind_some]
    rw [dec_gt3 (by simp only [Tr.w]; omega), dec_gt3 (by simp only [Tr.w]; omega), Tr.link_succ]
    by_cases c1 : u.w > 3 * l.w
    · simp only [c1, decide_true, cond_true, if_true]
      cases u with
      | nil => simp only [Tr.w, Tr.size] at c1; omega
      | node r2 e2 c d =>
        obtain ⟨n2, q1, q2⟩ := get_ok ok hP hu
        obtain ⟨hr2, he2, hc, hd, hlk2⟩ := q2.node rfl
        subst hr2
        simp only [Tr.size] at hn hN
        have hnd1 : (l.refs ++ m :: c.refs).Nodup := by
          simp only [Tr.refs] at hnd
          refine List.Nodup.sublist ?_ hnd
          exact List.Sublist.append_left (List.Sublist.cons_cons _ (List.sublist_append_left _ _)) _
        have hndu : (Tr.node b e2 c d).refs.Nodup := nodup_right hnd
        have hbL : b ∉ l.refs ++ m :: c.refs := by
          simp only [List.mem_append, List.mem_cons, not_or]
          refine ⟨fun h => nodup_lu hnd h (by simp [Tr.refs]), fun e => nodup_u hnd (by rw [← e]; simp [Tr.refs]), nodup_l hndu⟩
        have hdL : ∀ x ∈ d.refs, x ∉ l.refs ++ m :: c.refs := by
          intro x hx
          simp only [List.mem_append, List.mem_cons, not_or]
          exact ⟨fun h => nodup_lu hnd h (by simp [Tr.refs, hx]), fun e => nodup_u hnd (by rw [← e]; simp [Tr.refs, hx]), fun h => nodup_lu hndu h hx⟩
        obtain ⟨r1, p1, t1, t2⟩ := link_ok ok n hP (by omega) hl hm hc hnd1 (fun x hx => hG x (by simp [Tr.toList] at hx ⊢; rcases hx with hx | hx | hx <;> simp [hx])) (by omega)
        have hlk1 : look p1 b = some n2 := by rw [t2.frame b hbL]; exact hlk2
        have hd1 : Rep S p1 n2.right d := hd.frame (fun x hx => t2.frame x (hdL x hx))
        have hnd2 : (Tr.node b e2 (Tr.link n l m n0.e c) d).refs.Nodup := by simp only [Tr.refs, Tr.link_refs] at hnd ⊢; simpa using hnd
        have hG2 : ∀ x ∈ (Tr.node b e2 (Tr.link n l m n0.e c) d).toList, G x := fun x hx => hG x (by simp [Tr.toList, Tr.link_list] at hx ⊢; exact hx)
        have hsz : (Tr.node b e2 (Tr.link n l m n0.e c) d).size < N := by simp only [Tr.size, Tr.link_size]; omega
        obtain ⟨p2, v1, v2⟩ := lay_ok ok t2.pw hlk1 t2.rep hd1 (nodup_l hnd2) (nodup_u hnd2) (fun x hx => hG2 x (by rw [he2] at hx; exact hx)) (by simpa [Tr.size] using hsz)
        have hrep : Rep S p2 b (.node b e2 (Tr.link n l m n0.e c) d) := by have := v2.rep; rw [he2] at this; exact this
        obtain ⟨r', p3, y1, y2⟩ := balance_ok ok v2.pw hrep hnd2 hG2 hsz
        refine ⟨r', p3, ?_, y2.pw, y2.rep, fun x hx => ?_, y2.cap.trans (v2.cap.trans t2.cap)⟩
        · simp only [q1, Option.bind_some, t1, v1, y1]
        · have hx1 : x ∉ (Tr.node b e2 (Tr.link n l m n0.e c) d).refs := by simp only [Tr.refs, Tr.link_refs] at hx ⊢; simpa using hx
          simp only [Tr.refs, List.mem_append, List.mem_cons, not_or] at hx
          rw [y2.frame x hx1, v2.frame x (by simp; exact hx.2.2.2.1), t2.frame x (by simp only [List.mem_append, List.mem_cons, not_or]; exact ⟨hx.1, hx.2.1, hx.2.2.1⟩)]
    · simp only [c1, decide_false, cond_false, if_false]
      by_cases c3 : l.w > 3 * u.w
      · simp only [c3, decide_true, cond_true, if_true]
        cases l with
        | nil => simp only [Tr.w, Tr.size] at c3; omega
        | node r2 e2 c d =>
          obtain ⟨n2, q1, q2⟩ := get_ok ok hP hl
          obtain ⟨hr2, he2, hc, hd, hlk2⟩ := q2.node rfl
          subst hr2
          simp only [Tr.size] at hn hN
          have hnd' : (c.refs ++ a :: (d.refs ++ m :: u.refs)).Nodup := by simp only [Tr.refs] at hnd; simpa using hnd
          have hnd1 : (d.refs ++ m :: u.refs).Nodup := nodup_right hnd'
          have haL : a ∉ d.refs ++ m :: u.refs := nodup_u hnd'
          have hcL : ∀ x ∈ c.refs, x ∉ d.refs ++ m :: u.refs := fun x hx h => nodup_lu hnd' hx h
          obtain ⟨r1, p1, t1, t2⟩ := link_ok ok n hP (by omega) hd hm hu hnd1 (fun x hx => hG x (by simp [Tr.toList] at hx ⊢; rcases hx with hx | hx | hx <;> simp [hx])) (by omega)
          have hlk1 : look p1 a = some n2 := by rw [t2.frame a haL]; exact hlk2
          have hc1 : Rep S p1 n2.left c := hc.frame (fun x hx => t2.frame x (hcL x hx))
          have hnd2 : (Tr.node a e2 c (Tr.link n d m n0.e u)).refs.Nodup := by simp only [Tr.refs, Tr.link_refs]; exact hnd'
          have hG2 : ∀ x ∈ (Tr.node a e2 c (Tr.link n d m n0.e u)).toList, G x := fun x hx => hG x (by simp [Tr.toList, Tr.link_list] at hx ⊢; exact hx)
          have hsz : (Tr.node a e2 c (Tr.link n d m n0.e u)).size < N := by simp only [Tr.size, Tr.link_size]; omega
          obtain ⟨p2, v1, v2⟩ := lay_ok ok t2.pw hlk1 hc1 t2.rep (nodup_l hnd2) (nodup_u hnd2) (fun x hx => hG2 x (by rw [he2] at hx; exact hx)) (by simpa [Tr.size] using hsz)
          have hrep : Rep S p2 a (.node a e2 c (Tr.link n d m n0.e u)) := by have := v2.rep; rw [he2] at this; exact this
          obtain ⟨r', p3, y1, y2⟩ := balance_ok ok v2.pw hrep hnd2 hG2 hsz
          refine ⟨r', p3, ?_, y2.pw, y2.rep, fun x hx => ?_, y2.cap.trans (v2.cap.trans t2.cap)⟩
          · simp only [q1, Option.bind_some, t1, v1, y1]
          · have hx1 : x ∉ (Tr.node a e2 c (Tr.link n d m n0.e u)).refs := by simp only [Tr.refs, Tr.link_refs] at hx ⊢; simpa using hx
            simp only [Tr.refs, List.mem_append, List.mem_cons, not_or] at hx
            rw [y2.frame x hx1, v2.frame x (by simp; exact hx.1.2.1), t2.frame x (by simp only [List.mem_append, List.mem_cons, not_or]; exact ⟨hx.1.2.2, hx.2⟩)]
      · simp only [c3, decide_false, cond_false, if_false]
        obtain ⟨p1, t1, t2⟩ := lay_ok ok hP hm hl hu (nodup_l hnd) (nodup_u hnd) hG hN
        refine ⟨m, p1, by simp only [t1, Option.bind_some], t2.pw, t2.rep, fun x hx => t2.frame x ?_, t2.cap⟩
        simp only [List.mem_append, List.mem_cons, not_or] at hx
        simp; exact hx.2.1
theorem linkf_ok (ok : OpsOk O k N G S lt) (hk : N ≤ k) {p : PN E A} {L : List TRef} {B : Nat} (hP : PW p L B) {a m b : TRef} {n0 : TNode E A} {l u : Tr E} (hl : Rep S p a l) (hm : look p m = some n0) (hu : Rep S p b u) (hnd : (l.refs ++ m :: u.refs).Nodup)
    (hG : ∀ x ∈ l.toList ++ n0.e :: u.toList, G x) (hN : l.size + 1 + u.size < N) : ∃ r' p', Tree_link.f O k p a m b = some (r', p') ∧ Left S p p' L B r' (Tr.link k l m n0.e u) (l.refs ++ m :: u.refs) :=
  link_ok ok k hP (by omega) hl hm hu hnd hG hN
end
end Go.Proofs.Ythcehagablploaa

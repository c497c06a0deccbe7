/- Trees in a pool: what turning, balancing, linking do to them. Plain Lean over the mirrors. -/
import Derived.Test.YthcehagablploaaTp
namespace Go.Proofs.Ythcehagablploaa
open Go Go.Proofs.Ythcehagablploaa.Sx
set_option linter.unusedVariables false
set_option linter.unusedSimpArgs false

/-- A tree with the handles of its nodes. -/
inductive Tr (E : Type) where
  | nil
  | node (r : TRef) (e : E) (l u : Tr E)
namespace Tr
variable {E : Type}
def size : Tr E → Nat
  | nil => 0
  | node _ _ l u => l.size + 1 + u.size
abbrev w (t : Tr E) : Nat := t.size + 1
def toList : Tr E → List E
  | nil => []
  | node _ e l u => l.toList ++ e :: u.toList
def refs : Tr E → List TRef
  | nil => []
  | node r _ l u => l.refs ++ r :: u.refs
theorem len_toList : ∀ t : Tr E, t.toList.length = t.size
  | nil => rfl
  | node _ _ l u => by simp only [toList, List.length_append, List.length_cons, len_toList l, len_toList u, size]; omega
theorem len_refs : ∀ t : Tr E, t.refs.length = t.size
  | nil => rfl
  | node _ _ l u => by simp only [refs, List.length_append, List.length_cons, len_refs l, len_refs u, size]; omega
def turnL : Tr E → Tr E
  | node r e l (node r2 e2 a b) => node r2 e2 (node r e l a) b
  | t => t
def turnR : Tr E → Tr E
  | node r e (node r2 e2 a b) u => node r2 e2 a (node r e b u)
  | t => t
def bal : Tr E → Tr E
  | nil => nil
  | node r e l u =>
    if u.w > 3 * l.w then (match u with
      | node r2 e2 a b => if a.w ≥ 2 * b.w then turnL (node r e l (turnR (node r2 e2 a b))) else turnL (node r e l (node r2 e2 a b))
      | nil => node r e l u)
    else if l.w > 3 * u.w then (match l with
      | node r2 e2 a b => if b.w ≥ 2 * a.w then turnR (node r e (turnL (node r2 e2 a b)) u) else turnR (node r e (node r2 e2 a b) u)
      | nil => node r e l u)
    else node r e l u
def link : Nat → Tr E → TRef → E → Tr E → Tr E
  | 0, l, r, e, u => node r e l u
  | n + 1, l, r, e, u =>
    if u.w > 3 * l.w then (match u with
      | node r2 e2 a b => bal (node r2 e2 (link n l r e a) b)
      | nil => node r e l u)
    else if l.w > 3 * u.w then (match l with
      | node r2 e2 a b => bal (node r2 e2 a (link n b r e u))
      | nil => node r e l u)
    else node r e l u
theorem bal_node (r : TRef) (e : E) (l u : Tr E) : bal (node r e l u) =
    if u.w > 3 * l.w then (match u with
      | node r2 e2 a b => if a.w ≥ 2 * b.w then turnL (node r e l (turnR (node r2 e2 a b))) else turnL (node r e l (node r2 e2 a b))
      | nil => node r e l u)
    else if l.w > 3 * u.w then (match l with
      | node r2 e2 a b => if b.w ≥ 2 * a.w then turnR (node r e (turnL (node r2 e2 a b)) u) else turnR (node r e (node r2 e2 a b) u)
      | nil => node r e l u)
    else node r e l u := by rw [bal.eq_def]
theorem link_succ (n : Nat) (l : Tr E) (r : TRef) (e : E) (u : Tr E) : link (n + 1) l r e u =
    if u.w > 3 * l.w then (match u with
      | node r2 e2 a b => bal (node r2 e2 (link n l r e a) b)
      | nil => node r e l u)
    else if l.w > 3 * u.w then (match l with
      | node r2 e2 a b => bal (node r2 e2 a (link n b r e u))
      | nil => node r e l u)
    else node r e l u := by rw [link.eq_def]
theorem turnL_list (t : Tr E) : t.turnL.toList = t.toList := by
  unfold turnL; split <;> simp [toList]
theorem turnR_list (t : Tr E) : t.turnR.toList = t.toList := by
  unfold turnR; split <;> simp [toList]
theorem turnL_refs (t : Tr E) : t.turnL.refs = t.refs := by
  unfold turnL; split <;> simp [refs]
theorem turnR_refs (t : Tr E) : t.turnR.refs = t.refs := by
  unfold turnR; split <;> simp [refs]
theorem bal_list (t : Tr E) : t.bal.toList = t.toList := by
  cases t with
  | nil => rfl
  | node r e l u =>
    rw [bal_node]
    split
    · cases u with
      | nil => rfl
      | node r2 e2 a b =>
        simp only
        split
        · rw [turnL_list]; simp only [toList]; rw [turnR_list]; simp [toList]
        · rw [turnL_list]
    · split
      · cases l with
        | nil => rfl
        | node r2 e2 a b =>
          simp only
          split
          · rw [turnR_list]; simp only [toList]; rw [turnL_list]; simp [toList]
          · rw [turnR_list]
      · rfl
theorem bal_refs (t : Tr E) : t.bal.refs = t.refs := by
  cases t with
  | nil => rfl
  | node r e l u =>
    rw [bal_node]
    split
    · cases u with
      | nil => rfl
      | node r2 e2 a b =>
        simp only
        split
        · rw [turnL_refs]; simp only [refs]; rw [turnR_refs]; simp [refs]
        · rw [turnL_refs]
    · split
      · cases l with
        | nil => rfl
        | node r2 e2 a b =>
          simp only
          split
          · rw [turnR_refs]; simp only [refs]; rw [turnL_refs]; simp [refs]
          · rw [turnR_refs]
      · rfl
theorem link_list : ∀ (n : Nat) (l : Tr E) (r : TRef) (e : E) (u : Tr E), (link n l r e u).toList = l.toList ++ e :: u.toList
  | 0, l, r, e, u => rfl
  | n + 1, l, r, e, u => by
    rw [link_succ]
    split
    · cases u with
      | nil => rfl
      | node r2 e2 a b => simp only [bal_list, toList, link_list n l r e a]; simp
    · split
      · cases l with
        | nil => rfl
        | node r2 e2 a b => simp only [bal_list, toList, link_list n b r e u]; simp
      · rfl
theorem link_refs : ∀ (n : Nat) (l : Tr E) (r : TRef) (e : E) (u : Tr E), (link n l r e u).refs = l.refs ++ r :: u.refs
  | 0, l, r, e, u => rfl
  | n + 1, l, r, e, u => by
    rw [link_succ]
    split
    · cases u with
      | nil => rfl
      | node r2 e2 a b => simp only [bal_refs, refs, link_refs n l r e a]; simp
    · split
      · cases l with
        | nil => rfl
        | node r2 e2 a b => simp only [bal_refs, refs, link_refs n b r e u]; simp
      · rfl
theorem link_size (n : Nat) (l : Tr E) (r : TRef) (e : E) (u : Tr E) : (link n l r e u).size = l.size + 1 + u.size := by
  rw [← len_toList, link_list]; simp [len_toList]; omega
/-- Parts a tree's last node from the rest. -/
def last (k : Nat) : Tr E → Tr E × Option (TRef × E)
  | nil => (nil, none)
  | node r e l u => match u with
    | nil => (l, some (r, e))
    | node r2 e2 a b => (link k l r e (last k (node r2 e2 a b)).1, (last k (node r2 e2 a b)).2)
def merge (k : Nat) (l u : Tr E) : Tr E := match l, u with
  | nil, u => u
  | l, nil => l
  | l, u => match last k l with
    | (rest, some (m, e)) => link k rest m e u
    | (rest, none) => u
theorem last_spec (k : Nat) : ∀ (t : Tr E), t ≠ nil → ∃ m e, (last k t).2 = some (m, e) ∧ t.toList = (last k t).1.toList ++ [e] ∧ t.refs = (last k t).1.refs ++ [m]
  | nil, h => absurd rfl h
  | node r e l nil, _ => ⟨r, e, rfl, by simp [last, toList], by simp [last, refs]⟩
  | node r e l (node r2 e2 a b), _ => by
    obtain ⟨m, x, h1, h2, h3⟩ := last_spec k (node r2 e2 a b) (by simp)
    refine ⟨m, x, ?_, ?_, ?_⟩
    · unfold last; exact h1
    · have : (last k (node r e l (node r2 e2 a b))).1 = link k l r e (last k (node r2 e2 a b)).1 := by rw [last]
      rw [this, link_list]
      have e1 : (node r e l (node r2 e2 a b)).toList = l.toList ++ e :: (node r2 e2 a b).toList := rfl
      rw [e1, h2]; simp
    · have : (last k (node r e l (node r2 e2 a b))).1 = link k l r e (last k (node r2 e2 a b)).1 := by rw [last]
      rw [this, link_refs]
      have e1 : (node r e l (node r2 e2 a b)).refs = l.refs ++ r :: (node r2 e2 a b).refs := rfl
      rw [e1, h3]; simp
theorem merge_spec (k : Nat) (l u : Tr E) : (merge k l u).toList = l.toList ++ u.toList ∧ (merge k l u).refs = l.refs ++ u.refs := by
  cases l with
  | nil => simp [merge, toList, refs]
  | node r e a b =>
    cases u with
    | nil => simp [merge, toList, refs]
    | node r2 e2 c d =>
      obtain ⟨m, x, h1, h2, h3⟩ := last_spec k (node r e a b) (by simp)
      have : merge k (node r e a b) (node r2 e2 c d) = link k (last k (node r e a b)).1 m x (node r2 e2 c d) := by
        unfold merge
        have : last k (node r e a b) = ((last k (node r e a b)).1, some (m, x)) := by rw [← h1]
        simp only
        rw [this]
      rw [this, link_list, link_refs, h2, h3]
      simp
end Tr

/-- What the operations of a kind of elements come to: lt is their order, S tells what a sum is the sum of. -/
structure OpsOk {E A : Type} (O : Ops E A) (k N : Nat) (G : E → Prop) (S : A → List E → Prop) (lt : E → E → Prop) : Prop where
  cmp : ∀ a b, ∃ c, O.cmp k a b = some c ∧ (c < 0 ↔ lt a b) ∧ (c > 0 ↔ lt b a)
  sum : ∀ e, G e → ∃ s, O.sum k e = some s ∧ S s [e]
  plus : ∀ {a b l r}, S a l → S b r → (∀ e ∈ l ++ r, G e) → (l ++ r).length < N → ∃ c, O.plus k a b = some c ∧ S c (l ++ r)
  zero : S O.zA []
  irrefl : ∀ a, ¬ lt a a
  trans : ∀ {a b c}, lt a b → lt b c → lt a c
  left : ∀ {a b c}, ¬ lt a b → ¬ lt b a → lt a c → lt b c
  right : ∀ {a b c}, ¬ lt a b → ¬ lt b a → lt c a → lt c b
  big : N < 4294967296

section
variable {E A : Type} {O : Ops E A} {k N : Nat} {G : E → Prop} {S : A → List E → Prop} {lt : E → E → Prop}
abbrev PN (E A : Type) := Pool (TNode E A)
/-- The handle leads, in the pool, to this tree. -/
def Rep (S : A → List E → Prop) (p : PN E A) : TRef → Tr E → Prop
  | r, .nil => r = zTRef
  | r, .node r' e l u => r = r' ∧ r.gen ≠ 0 ∧ ∃ n, look p r = some n ∧ n.e = e ∧ n.size = ((l.size + 1 + u.size : Nat) : Int) ∧ S n.sum (l.toList ++ e :: u.toList) ∧ Rep S p n.left l ∧ Rep S p n.right u
theorem Rep.frame {p p' : PN E A} : ∀ {t : Tr E} {r : TRef}, Rep S p r t → (∀ x ∈ t.refs, look p' x = look p x) → Rep S p' r t
  | .nil, _, h, _ => h
  | .node r' e l u, r, ⟨h1, h2, n, h3, h4, h5, h6, h7, h8⟩, hf => by
    subst h1
    refine ⟨rfl, h2, n, (hf r (by simp [Tr.refs])).trans h3, h4, h5, h6, h7.frame (fun x hx => hf x (by simp [Tr.refs, hx])), h8.frame (fun x hx => hf x (by simp [Tr.refs, hx]))⟩
theorem Rep.sub {p : PN E A} {L : List TRef} {B : Nat} (hP : PW p L B) : ∀ {t : Tr E} {r : TRef}, Rep S p r t → ∀ x ∈ t.refs, x ∈ L
  | .nil, _, _, x, hx => by simp [Tr.refs] at hx
  | .node r' e l u, r, ⟨h1, h2, n, h3, h4, h5, h6, h7, h8⟩, x, hx => by
    subst h1
    simp only [Tr.refs, List.mem_append, List.mem_cons] at hx
    rcases hx with hx | rfl | hx
    · exact h7.sub hP x hx
    · exact hP.mem h3
    · exact h8.sub hP x hx
theorem Rep.nil_iff {p : PN E A} {r : TRef} {t : Tr E} (h : Rep S p r t) : r.gen = 0 ↔ t = .nil := by
  cases t with
  | nil => have : r = zTRef := h; rw [this]; simp
  | node r' e l u => obtain ⟨h1, h2, _⟩ := h; simp [h2]
/-- A node as it is read. -/
structure IsN (S : A → List E → Prop) (p : PN E A) (r : TRef) (t : Tr E) (n : TNode E A) : Prop where
  size : n.size = (t.size : Int)
  sum : S n.sum t.toList
  node : ∀ {r' e l u}, t = .node r' e l u → r = r' ∧ n.e = e ∧ Rep S p n.left l ∧ Rep S p n.right u ∧ look p r = some n
theorem get_ok (ok : OpsOk O k N G S lt) {p : PN E A} {L : List TRef} {B : Nat} (hP : PW p L B) {t : Tr E} {r : TRef} (h : Rep S p r t) : ∃ n, Tree_get.f O k p r = some n ∧ IsN S p r t n := by
  unfold Tree_get.f
  cases t with
  | nil =>
    have : r = zTRef := h
    subst this
    exact ⟨zNode O, rfl, rfl, ok.zero, fun e => by cases e⟩
  | node r' e l u =>
    obtain ⟨h1, h2, n, h3, h4, h5, h6, h7, h8⟩ := h
    subst h1
    have e0 : (r.gen == 0) = false := by simpa using h2
    refine ⟨n, ?_, h5, by rw [Tr.toList]; exact h6, fun e => by cases e; exact ⟨rfl, h4, h7, h8, h3⟩⟩
    rw [e0, hP.get h3]; rfl
theorem weight_ok (ok : OpsOk O k N G S lt) {p : PN E A} {L : List TRef} {B : Nat} (hP : PW p L B) {t : Tr E} {r : TRef} (h : Rep S p r t) (hs : t.size < 4294967296) : Tree_weight.f O k p r = some ((t.w : Nat) : Int) := by
  obtain ⟨n, h1, h2⟩ := get_ok ok hP h
  unfold Tree_weight.f
  rw [h1]
  simp only [Option.bind_some, h2.size]
  rw [w64_id (by omega) (by omega)]
  rfl
/-- What an operation leaves: a pool in order, with the same handles, a tree, and all else as it was. -/
structure Left (S : A → List E → Prop) (p p' : PN E A) (L : List TRef) (B : Nat) (r : TRef) (t : Tr E) (F : List TRef) : Prop where
  pw : PW p' L B
  rep : Rep S p' r t
  frame : ∀ x, x ∉ F → look p' x = look p x
  cap : p'.cap = p.cap
theorem lay_ok (ok : OpsOk O k N G S lt) {p : PN E A} {L : List TRef} {B : Nat} (hP : PW p L B) {r a b : TRef} {n0 : TNode E A} (hr : look p r = some n0) {l u : Tr E} (hl : Rep S p a l) (hu : Rep S p b u)
    (h1 : r ∉ l.refs) (h2 : r ∉ u.refs) (hG : ∀ e ∈ l.toList ++ n0.e :: u.toList, G e) (hN : l.size + 1 + u.size < N) : ∃ p', Tree_lay.f O k p r a b = some (r, p') ∧ Left S p p' L B r (.node r n0.e l u) [r] := by
  have hg := hP.gen_ne (hP.mem hr)
  have e0 : (r.gen == 0) = false := by simpa using hg
  have hget : Tree_get.f O k p r = some n0 := by unfold Tree_get.f; rw [e0, hP.get hr]; rfl
  obtain ⟨nl, l1, l2⟩ := get_ok ok hP hl
  obtain ⟨nu, u1, u2⟩ := get_ok ok hP hu
  obtain ⟨s, s1, s2⟩ := ok.sum n0.e (hG _ (by simp))
  obtain ⟨c1, c2, c3⟩ := ok.plus l2.sum s2 (fun e he => hG e (by simp at he ⊢; rcases he with he | he; exact .inl he; exact .inr (.inl he))) (by simp [Tr.len_toList]; omega)
  obtain ⟨d1, d2, d3⟩ := ok.plus c3 u2.sum (fun e he => hG e (by simpa [or_assoc] using he)) (by simp [Tr.len_toList]; omega)
  have hb := ok.big
  have hsz : w64 (w64 (nl.size + 1) + nu.size) = ((l.size + 1 + u.size : Nat) : Int) := by
    have e1 : w64 ((l.size : Int) + 1) = (l.size : Int) + 1 := w64_id (by omega) (by omega)
    rw [l2.size, u2.size, e1, w64_id (by omega) (by omega)]; omega
  obtain ⟨p', q1, q2, q3, q4, q5⟩ := hP.set hr (TNode.mk n0.e a b (w64 (w64 (nl.size + 1) + nu.size)) d1)
  refine ⟨p', ?_, q2, ⟨rfl, hg, _, q3, rfl, hsz, by simpa using d3, hl.frame (fun x hx => q4 x (fun e => h1 (e ▸ hx))), hu.frame (fun x hx => q4 x (fun e => h2 (e ▸ hx)))⟩, fun x hx => q4 x (by simpa using hx), q5⟩
  unfold Tree_lay.f
  rw [hget, l1, u1]
  simp only [Option.bind_some, s1, c2, d2, q1]
theorem turnLeft_ok (ok : OpsOk O k N G S lt) {p : PN E A} {L : List TRef} {B : Nat} (hP : PW p L B) {r r' r2 : TRef} {e e2 : E} {l a b : Tr E} (h : Rep S p r (.node r' e l (.node r2 e2 a b))) (hnd : (Tr.node r' e l (.node r2 e2 a b)).refs.Nodup)
    (hG : ∀ x ∈ (Tr.node r' e l (.node r2 e2 a b)).toList, G x) (hN : (Tr.node r' e l (.node r2 e2 a b)).size < N) : ∃ p', Tree_turnLeft.f O k p r = some (r2, p') ∧ Left S p p' L B r2 (.node r2 e2 (.node r' e l a) b) (Tr.node r' e l (.node r2 e2 a b)).refs := by
  obtain ⟨n, g1, g2⟩ := get_ok ok hP h
  obtain ⟨rfl, he, hl, hu, hlk⟩ := g2.node rfl
  obtain ⟨n2, g3, g4⟩ := get_ok ok hP hu
  obtain ⟨hr2, he2, ha, hb, hlk2⟩ := g4.node rfl
  simp only [Tr.refs, List.nodup_append, List.nodup_cons, List.mem_append, List.mem_cons, not_or] at hnd
  obtain ⟨nl, ⟨⟨nr1, nr2, nr3⟩, na, ⟨nb1, nb⟩, nab⟩, nlu⟩ := hnd
  simp only [Tr.toList, List.mem_append, List.mem_cons] at hG
  simp only [Tr.size] at hN
  have hra : r ∉ a.refs := nr1
  obtain ⟨p1, q1, q2⟩ := lay_ok ok hP hlk hl ha (fun hm => nlu _ hm _ (.inl rfl) rfl) nr1 (fun x hx => hG x (by rw [he] at hx; simp at hx ⊢; rcases hx with hx | hx | hx <;> simp [hx])) (by omega)
  have hb1 : Rep S p1 n2.right b := hb.frame (fun x hx => q2.frame x (by simp; rintro rfl; exact nr3 hx))
  have hlk2' : look p1 r2 = some n2 := by rw [q2.frame r2 (by simp; exact fun e => nr2 e.symm), ← hr2]; exact hlk2
  have hrep1 : Rep S p1 r (.node r e l a) := by have := q2.rep; rw [he] at this; exact this
  obtain ⟨p2, q3, q4⟩ := lay_ok ok q2.pw hlk2' hrep1 hb1 (by simp only [Tr.refs, List.mem_append, List.mem_cons, not_or]; exact ⟨fun hm => nlu _ hm _ (.inr (.inr (.inl rfl))) rfl, fun e => nr2 e.symm, fun hm => nab _ hm _ (.inl rfl) rfl⟩) nb1
    (fun x hx => hG x (by rw [he2] at hx; simp [Tr.toList] at hx ⊢; rcases hx with hx | hx | hx | hx | hx <;> simp [hx])) (by simp only [Tr.size]; omega)
  refine ⟨p2, ?_, q4.pw, by have := q4.rep; rw [he2] at this; exact this, fun x hx => ?_, q4.cap.trans q2.cap⟩
  · unfold Tree_turnLeft.f
    rw [g1]
    simp only [Option.bind_some, g3, q1]
    rw [hr2, q3]; rfl
  · simp only [Tr.refs, List.mem_append, List.mem_cons, not_or] at hx
    rw [q4.frame x (by simp; exact hx.2.2.2.1), q2.frame x (by simp; exact hx.2.1)]
theorem turnRight_ok (ok : OpsOk O k N G S lt) {p : PN E A} {L : List TRef} {B : Nat} (hP : PW p L B) {r r' r2 : TRef} {e e2 : E} {u a b : Tr E} (h : Rep S p r (.node r' e (.node r2 e2 a b) u)) (hnd : (Tr.node r' e (.node r2 e2 a b) u).refs.Nodup)
    (hG : ∀ x ∈ (Tr.node r' e (.node r2 e2 a b) u).toList, G x) (hN : (Tr.node r' e (.node r2 e2 a b) u).size < N) : ∃ p', Tree_turnRight.f O k p r = some (r2, p') ∧ Left S p p' L B r2 (.node r2 e2 a (.node r' e b u)) (Tr.node r' e (.node r2 e2 a b) u).refs := by
  obtain ⟨n, g1, g2⟩ := get_ok ok hP h
  obtain ⟨rfl, he, hl, hu, hlk⟩ := g2.node rfl
  obtain ⟨n2, g3, g4⟩ := get_ok ok hP hl
  obtain ⟨hr2, he2, ha, hb, hlk2⟩ := g4.node rfl
  simp only [Tr.refs, List.nodup_append, List.nodup_cons, List.mem_append, List.mem_cons, not_or] at hnd
  obtain ⟨⟨na, ⟨nb1, nb⟩, nab⟩, ⟨nu1, nu⟩, nlu⟩ := hnd
  simp only [Tr.toList, List.mem_append, List.mem_cons] at hG
  simp only [Tr.size] at hN
  have hne : r2 ≠ r := fun e => nlu r2 (.inr (.inl rfl)) r (.inl rfl) e
  obtain ⟨p1, q1, q2⟩ := lay_ok ok hP hlk hb hu (fun hm => nlu r (.inr (.inr hm)) r (.inl rfl) rfl) nu1 (fun x hx => hG x (by rw [he] at hx; simp at hx ⊢; rcases hx with hx | hx | hx <;> simp [hx])) (by omega)
  have ha1 : Rep S p1 n2.left a := ha.frame (fun x hx => q2.frame x (by simp; rintro rfl; exact nlu _ (.inl hx) _ (.inl rfl) rfl))
  have hlk2' : look p1 r2 = some n2 := by rw [q2.frame r2 (by simp; exact hne), ← hr2]; exact hlk2
  have hrep1 : Rep S p1 r (.node r e b u) := by have := q2.rep; rw [he] at this; exact this
  obtain ⟨p2, q3, q4⟩ := lay_ok ok q2.pw hlk2' ha1 hrep1 (fun hm => nab _ hm _ (.inl rfl) rfl) (by simp only [Tr.refs, List.mem_append, List.mem_cons, not_or]; exact ⟨nb1, hne, fun hm => nlu _ (.inr (.inl rfl)) _ (.inr hm) rfl⟩)
    (fun x hx => hG x (by rw [he2] at hx; simp [Tr.toList] at hx ⊢; rcases hx with hx | hx | hx | hx | hx <;> simp [hx])) (by simp only [Tr.size]; omega)
  refine ⟨p2, ?_, q4.pw, by have := q4.rep; rw [he2] at this; exact this, fun x hx => ?_, q4.cap.trans q2.cap⟩
  · unfold Tree_turnRight.f
    rw [g1]
    simp only [Option.bind_some, g3, q1]
    rw [hr2, q3]; rfl
  · simp only [Tr.refs, List.mem_append, List.mem_cons, not_or] at hx
    rw [q4.frame x (by simp; exact hx.1.2.1), q2.frame x (by simp; exact hx.2.1)]
end
end Go.Proofs.Ythcehagablploaa

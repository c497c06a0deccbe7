/- Regions that draw their order: where operations that no edge orders do not touch the same things, every order leaves what the order of the text leaves. -/
import Derived.Test.YtheopcgjdfckmaaSxb
namespace Go.Proofs.Ytheopcgjdfckmaa.Sx
open Go
set_option linter.unusedVariables false

/-- For each operation, as bits, what it waits for, by chains of edges. -/
def bmStep (acc : List Nat) (o : Oper) : Nat := o.after.toList.foldl (fun s e => if Region.binds .any e then s ||| 2 ^ e.on ||| acc.getD e.on 0 else s) 0
def bm (l : List Oper) : List Nat := l.foldl (fun acc o => acc ++ [bmStep acc o]) []
/-- Edges lead back. -/
def backB (l : List Oper) : Bool := (List.range l.length).all fun j => match l[j]? with
  | some o => o.after.toList.all fun e => !Region.binds .any e || decide (e.on < j)
  | none => true

def Step.wi (s : Step) : List Nat := s.ti.map (·.1) ++ s.to.map (·.1)
def Step.ids (s : Step) : List Nat := s.tr.map (·.1) ++ s.wi
def Step.names (s : Step) : List Nat := s.xv.ks ++ s.to.flatMap (·.2.ks)
/-- What si writes, sj does not touch. -/
def nc (si sj : Step) : Bool :=
  (match si.ws with | some d => (lk sj.rs d).isNone && (sj.ws != some d) | none => true) && si.wi.all (fun k => !sj.ids.contains k)
/-- No name that si makes stands in what sj leaves. -/
def nf (si sj : Step) : Bool := si.fr.all fun k => !sj.names.contains k
def fresh0 (s : Step) (fs : FL) (L : TL) : Bool :=
  s.fr.all fun k => decide (20 ≤ k) && (fs.all fun p => !p.2.ks.contains k) && (L.all fun p => match p.2 with | some t => !t.ks.contains k | none => true)
def pairB (B : List Nat) (ss : List Step) (i j : Nat) : Bool :=
  i == j || (B.getD j 0).testBit i || (match ss[i]?, ss[j]? with
    | some si, some sj => nf si sj && ((B.getD i 0).testBit j || nc si sj)
    | _, _ => true)
def parB (l : List Oper) (ss : List Step) (fs : FL) (L : TL) : Bool :=
  backB l && (List.range ss.length).all (fun i => (List.range ss.length).all fun j => pairB (bm l) ss i j) && ss.all (fun s => fresh0 s fs L)

/-! ### the order by bits -/
theorem foldl_bits {acc : List Nat} {i : Nat} : ∀ (es : List Edge) (s : Nat), (es.foldl (fun s e => if Region.binds .any e then s ||| 2 ^ e.on ||| acc.getD e.on 0 else s) s).testBit i = true →
    s.testBit i = true ∨ ∃ e ∈ es, Region.binds .any e = true ∧ (i = e.on ∨ (acc.getD e.on 0).testBit i = true)
  | [], s, h => .inl h
  | e :: es, s, h => by
    simp only [List.foldl_cons] at h
    rcases foldl_bits es _ h with h1 | ⟨e', he', h1⟩
    · by_cases hb : Region.binds .any e = true
      · rw [if_pos hb] at h1
        simp only [Nat.testBit_or, Bool.or_eq_true] at h1
        rcases h1 with (h1 | h1) | h1
        · exact .inl h1
        · rw [Nat.testBit_two_pow] at h1
          exact .inr ⟨e, List.mem_cons_self, hb, .inl (by simp at h1; exact h1.symm)⟩
        · exact .inr ⟨e, List.mem_cons_self, hb, .inr h1⟩
      · rw [if_neg hb] at h1; exact .inl h1
    · exact .inr ⟨e', List.mem_cons_of_mem _ he', h1⟩

def bmGo (acc : List Nat) (l : List Oper) : List Nat := l.foldl (fun acc o => acc ++ [bmStep acc o]) acc
theorem bmGo_length : ∀ (l : List Oper) (acc : List Nat), (bmGo acc l).length = acc.length + l.length
  | [], acc => rfl
  | o :: l, acc => by
    have := bmGo_length l (acc ++ [bmStep acc o])
    simp only [bmGo, List.foldl_cons, List.length_append, List.length_cons, List.length_nil] at this ⊢
    omega
theorem bmGo_pre : ∀ (l : List Oper) (acc : List Nat) (k : Nat), k < acc.length → (bmGo acc l).getD k 0 = acc.getD k 0
  | [], acc, k, _ => rfl
  | o :: l, acc, k, h => by
    have := bmGo_pre l (acc ++ [bmStep acc o]) k (by simp; omega)
    simp only [bmGo, List.foldl_cons] at this ⊢
    rw [this]
    simp [List.getD, List.getElem?_append_left h]
theorem bmGo_cons (o : Oper) (l : List Oper) (acc : List Nat) : bmGo acc (o :: l) = bmGo (acc ++ [bmStep acc o]) l := rfl
theorem bmGo_get : ∀ (l : List Oper) (acc : List Nat) (j : Nat) (o : Oper), l[j]? = some o → ∃ acc', (bmGo acc l).getD (acc.length + j) 0 = bmStep acc' o ∧ ∀ k, k < acc.length + j → acc'.getD k 0 = (bmGo acc l).getD k 0 := by
  intro l
  induction l with
  | nil => intro acc j o h; simp at h
  | cons o' l ih =>
    intro acc j o h
    cases j with
    | zero =>
      simp only [List.getElem?_cons_zero, Option.some.injEq] at h
      subst h
      refine ⟨acc, ?_, fun k hk => (bmGo_pre _ _ k (by omega)).symm⟩
      rw [bmGo_cons, Nat.add_zero, bmGo_pre l (acc ++ [bmStep acc o']) acc.length (by simp)]
      simp [List.getD]
    | succ j =>
      rw [List.getElem?_cons_succ] at h
      obtain ⟨acc', h1, h2⟩ := ih (acc ++ [bmStep acc o']) j o h
      rw [List.length_append, List.length_singleton, Nat.add_right_comm, Nat.add_assoc] at h1 h2
      rw [bmGo_cons]
      exact ⟨acc', h1, h2⟩
theorem bm_length (l : List Oper) : (bm l).length = l.length := by have := bmGo_length l []; simpa [bmGo, bm] using this
theorem bm_get (l : List Oper) : ∀ j o, l[j]? = some o → ∃ acc, (bm l).getD j 0 = bmStep acc o ∧ ∀ k, k < j → acc.getD k 0 = (bm l).getD k 0 := by
  intro j o h
  have := bmGo_get l [] j o h
  simpa [bmGo, bm] using this

/-- What is done is closed under the edges. -/
def Closed (l : List Oper) (D : Nat → Bool) : Prop := ∀ j o, l[j]? = some o → D j = true → ∀ e ∈ o.after.toList, Region.binds .any e = true → D e.on = true

theorem Closed.bit {l : List Oper} {D : Nat → Bool} (hb : backB l = true) (hc : Closed l D) : ∀ (n j i : Nat), j < n → j < l.length → D j = true → ((bm l).getD j 0).testBit i = true → D i = true
  | 0, _, _, h, _, _, _ => by omega
  | n + 1, j, i, h, hj, hD, hbit => by
    obtain ⟨acc, h1, h2⟩ := bm_get l j l[j] (by simp [hj])
    rw [h1] at hbit
    rcases foldl_bits _ _ hbit with h0 | ⟨e, he, hbi, h3⟩
    · simp at h0
    · have hlt : e.on < j := by
        have hbb := List.all_eq_true.1 hb j (List.mem_range.2 hj)
        simp only [List.getElem?_eq_getElem hj] at hbb
        have := List.all_eq_true.1 hbb e he
        simpa [hbi] using this
      have hDe := hc j l[j] (by simp [hj]) hD e he hbi
      rcases h3 with rfl | h3
      · exact hDe
      · rw [h2 _ hlt] at h3
        exact Closed.bit hb hc n e.on i (by omega) (by omega) hDe h3

/-! ### states -/
def foldF (D : Nat → Bool) : Nat → List Step → (Nat → Option SV) → Nat → Option SV
  | _, [], f => f
  | i, s :: r, f => foldF D (i + 1) r (if D i then s.outF f else f)
def foldM (D : Nat → Bool) : Nat → List Step → (Nat → Option Tok) → Nat → Option Tok
  | _, [], m => m
  | i, s :: r, m => foldM D (i + 1) r (if D i then s.outM m else m)

theorem outF_ne {s : Step} {f : Nat → Option SV} {t : Nat} (h : s.ws ≠ some t) : s.outF f t = f t := by
  unfold Step.outF
  cases hw : s.ws with
  | none => rfl
  | some d => exact upd_ne _ _ (fun e => h (by rw [hw, e]))
theorem outF_eq {s : Step} {f : Nat → Option SV} {t : Nat} (h : s.ws = some t) : s.outF f t = some s.xv := by
  unfold Step.outF; rw [h]; simp
theorem outM_ne {s : Step} {m : Nat → Option Tok} {k : Nat} (h : k ∉ s.wi) : s.outM m k = m k := by
  simp only [Step.wi, List.mem_append, not_or] at h
  rw [Step.outM_eq, lkP_none h.2, if_neg h.1]; rfl
theorem outM_eq' {s : Step} {m m' : Nat → Option Tok} {k : Nat} (h : k ∈ s.wi) : s.outM m k = s.outM m' k := by
  rw [Step.outM_eq, Step.outM_eq]
  simp only [Step.wi, List.mem_append] at h
  by_cases h1 : k ∈ s.ti.map (·.1)
  · simp [h1]
  · have h2 := h.resolve_left h1
    obtain ⟨⟨k', t⟩, hp, rfl⟩ := List.mem_map.1 h2
    cases hk : lkP s.to k' with
    | some x => rfl
    | none =>
      exfalso
      have : ∀ l : List (Nat × Tok), (k', t) ∈ l → lkP l k' ≠ none := by
        intro l
        induction l with
        | nil => intro h; cases h
        | cons p l ih =>
          intro h
          simp only [lkP]
          split
          · simp
          · rename_i hne
            rcases List.mem_cons.1 h with rfl | h
            · exact absurd rfl hne
            · exact ih h
      exact this _ hp hk

/-- At one slot two ways agree where they carry out the same writers of it. -/
theorem foldF_cell {D D' : Nat → Bool} {t : Nat} : ∀ (ss : List Step) (i : Nat) (f f' : Nat → Option SV), f t = f' t → (∀ j s, ss[j]? = some s → s.ws = some t → D (i + j) = D' (i + j)) → foldF D i ss f t = foldF D' i ss f' t
  | [], _, _, _, h, _ => h
  | s :: r, i, f, f', h, hD => by
    unfold foldF
    refine foldF_cell r (i + 1) _ _ ?_ (fun j s' hs hw => by have := hD (j + 1) s' (by simpa using hs) hw; rwa [show i + (j + 1) = i + 1 + j by omega] at this)
    by_cases hw : s.ws = some t
    · have e := hD 0 s (by simp) hw
      simp only [Nat.add_zero] at e
      rw [e]
      split
      · rw [outF_eq hw, outF_eq hw]
      · exact h
    · split <;> split <;> simp [outF_ne hw, h]
theorem foldM_cell {D D' : Nat → Bool} {k : Nat} : ∀ (ss : List Step) (i : Nat) (m m' : Nat → Option Tok), m k = m' k → (∀ j s, ss[j]? = some s → k ∈ s.wi → D (i + j) = D' (i + j)) → foldM D i ss m k = foldM D' i ss m' k
  | [], _, _, _, h, _ => h
  | s :: r, i, m, m', h, hD => by
    unfold foldM
    refine foldM_cell r (i + 1) _ _ ?_ (fun j s' hs hw => by have := hD (j + 1) s' (by simpa using hs) hw; rwa [show i + (j + 1) = i + 1 + j by omega] at this)
    by_cases hw : k ∈ s.wi
    · have e := hD 0 s (by simp) hw
      simp only [Nat.add_zero] at e
      rw [e]
      split
      · exact outM_eq' hw
      · exact h
    · split <;> split <;> simp [outM_ne hw, h]

/-- What stands in a slot stood there at the start, or a step that was carried out wrote it. -/
theorem foldF_from {D : Nat → Bool} {t : Nat} {x : SV} : ∀ (ss : List Step) (i : Nat) (f : Nat → Option SV), foldF D i ss f t = some x → f t = some x ∨ ∃ j s, ss[j]? = some s ∧ D (i + j) = true ∧ s.xv = x
  | [], _, _, h => .inl h
  | s :: r, i, f, h => by
    unfold foldF at h
    rcases foldF_from r (i + 1) _ h with h | ⟨j, s', h1, h2, h3⟩
    · by_cases hD : D i = true
      · rw [if_pos hD] at h
        by_cases hw : s.ws = some t
        · rw [outF_eq hw] at h
          exact .inr ⟨0, s, by simp, by simpa using hD, by simpa using h⟩
        · rw [outF_ne hw] at h; exact .inl h
      · rw [if_neg hD] at h; exact .inl h
    · exact .inr ⟨j + 1, s', by simpa using h1, by rwa [show i + (j + 1) = i + 1 + j by omega], h3⟩
theorem foldM_from {D : Nat → Bool} {k : Nat} {x : Tok} : ∀ (ss : List Step) (i : Nat) (m : Nat → Option Tok), foldM D i ss m k = some x → m k = some x ∨ ∃ j s, ss[j]? = some s ∧ D (i + j) = true ∧ (k, x) ∈ s.to
  | [], _, _, h => .inl h
  | s :: r, i, m, h => by
    unfold foldM at h
    rcases foldM_from r (i + 1) _ h with h | ⟨j, s', h1, h2, h3⟩
    · by_cases hD : D i = true
      · rw [if_pos hD, Step.outM_eq] at h
        cases hk : lkP s.to k with
        | some y =>
          rw [hk] at h; simp at h; subst h
          refine .inr ⟨0, s, by simp, by simpa using hD, ?_⟩
          have : ∀ l : List (Nat × Tok), lkP l k = some y → (k, y) ∈ l := by
            intro l
            induction l with
            | nil => intro h; cases h
            | cons p l ih =>
              intro h
              simp only [lkP] at h
              split at h
              · rename_i e; cases h; subst e; exact List.mem_cons_self
              · exact List.mem_cons_of_mem _ (ih h)
          exact this _ hk
        | none =>
          rw [hk] at h
          simp only [Option.none_or] at h
          split at h
          · cases h
          · exact .inl h
      · rw [if_neg hD] at h; exact .inl h
    · exact .inr ⟨j + 1, s', by simpa using h1, by rwa [show i + (j + 1) = i + 1 + j by omega], h3⟩

/-! ### the run of the text, by its prefixes -/
theorem Run.at {P : Program} {n : Nat} {ops : Array Oper} {l : List Oper} {fs fs' : FL} {L L' : TL} {ss : List Step} (h : Run P n ops l fs L ss fs' L') :
    ss.length = l.length ∧ ∀ (i0 : Nat) (D : Nat → Bool), (∀ j, i0 ≤ j → D j = true) →
      (∀ t, foldF D i0 ss (lk fs) t = lk fs' t) ∧ (∀ k, foldM D i0 ss (lkT L) k = lkT L' k) := by
  induction h with
  | nil => exact ⟨rfl, fun _ _ _ => ⟨fun _ => rfl, fun _ => rfl⟩⟩
  | cons hv hf h1 h2 h ih =>
    refine ⟨by simp [ih.1], fun i0 D hD => ?_⟩
    obtain ⟨a, b⟩ := ih.2 (i0 + 1) D (fun j hj => hD j (by omega))
    unfold foldF foldM
    rw [if_pos (hD i0 (Nat.le_refl _)), if_pos (hD i0 (Nat.le_refl _)), ← h1, ← funext h2]
    exact ⟨a, b⟩

theorem Run.fits {P : Program} {n : Nat} {ops : Array Oper} {l : List Oper} {fs fs' : FL} {L L' : TL} {ss : List Step} (h : Run P n ops l fs L ss fs' L') :
    ∀ (i0 i : Nat) (s : Step), ss[i]? = some s → (∃ o, l[i]? = some o ∧ Valid P ops o s) ∧
      Fits n (foldF (fun j => decide (j < i0 + i)) i0 ss (lk fs)) (foldM (fun j => decide (j < i0 + i)) i0 ss (lkT L)) s := by
  induction h with
  | nil => intro i0 i s hs; simp at hs
  | @cons o rest s0 ss fs fs1 fs' L L1 L' hv hf h1 h2 h ih =>
    intro i0 i s hs
    match i with
    | 0 =>
      simp at hs; subst hs
      refine ⟨⟨o, by simp, hv⟩, ?_⟩
      have z : ∀ (r : List Step) (j : Nat) (f : Nat → Option SV), i0 ≤ j → foldF (fun j => decide (j < i0 + 0)) j r f = f := by
        intro r
        induction r with
        | nil => intro j f _; rfl
        | cons s r ihr => intro j f hj; unfold foldF; rw [if_neg (by simp; omega)]; exact ihr (j + 1) f (by omega)
      have z' : ∀ (r : List Step) (j : Nat) (f : Nat → Option Tok), i0 ≤ j → foldM (fun j => decide (j < i0 + 0)) j r f = f := by
        intro r
        induction r with
        | nil => intro j f _; rfl
        | cons s r ihr => intro j f hj; unfold foldM; rw [if_neg (by simp; omega)]; exact ihr (j + 1) f (by omega)
      rw [z _ i0 _ (Nat.le_refl _), z' _ i0 _ (Nat.le_refl _)]
      exact hf
    | i + 1 =>
      obtain ⟨ho, hfit⟩ := ih (i0 + 1) i s (by simpa using hs)
      refine ⟨by simpa using ho, ?_⟩
      unfold foldF foldM
      rw [if_pos (by simp), if_pos (by simp), ← h1, ← funext h2, show i0 + (i + 1) = i0 + 1 + i by omega]
      exact hfit

section
variable {P : Program} {n : Nat} {l : List Oper} {fs fs' : FL} {L L' : TL} {ss : List Step}

theorem parB_pair (hp : parB l ss fs L = true) {i j : Nat} {si sj : Step} (hi : ss[i]? = some si) (hj : ss[j]? = some sj) (hne : i ≠ j) (hb : ((bm l).getD j 0).testBit i = false) :
    nf si sj = true ∧ (((bm l).getD i 0).testBit j = true ∨ nc si sj = true) := by
  simp only [parB, Bool.and_eq_true] at hp
  have h1 := List.all_eq_true.1 hp.1.2 i (List.mem_range.2 (List.getElem?_eq_some_iff.1 hi).1)
  have h2 := List.all_eq_true.1 h1 j (List.mem_range.2 (List.getElem?_eq_some_iff.1 hj).1)
  simp only [pairB, hb, hi, hj, Bool.or_eq_true, beq_iff_eq, hne, false_or, Bool.false_eq_true, Bool.and_eq_true] at h2
  exact h2

theorem nc_slot {si sj : Step} (h : nc si sj = true) {t : Nat} (hw : si.ws = some t) : lk sj.rs t = none ∧ sj.ws ≠ some t := by
  simp only [nc, hw, Bool.and_eq_true] at h
  exact ⟨by simpa using h.1.1, by simpa using h.1.2⟩
theorem nc_id {si sj : Step} (h : nc si sj = true) {k : Nat} (hw : k ∈ si.wi) : k ∉ sj.ids := by
  simp only [nc, Bool.and_eq_true] at h
  have := List.all_eq_true.1 h.2 k hw
  simpa using this

/-- The step of an operation that may come up fits where what is done is done. -/
theorem fits_at (h : Run P n l.toArray l fs L ss fs' L') (hp : parB l ss fs L = true) {D : Nat → Bool} (hc : Closed l D) {i : Nat} {s : Step} (hs : ss[i]? = some s) (hDi : D i = false)
    (hpre : ∀ o, l[i]? = some o → ∀ e ∈ o.after.toList, Region.binds .any e = true → D e.on = true) :
    Fits n (foldF D 0 ss (lk fs)) (foldM D 0 ss (lkT L)) s ∧
    (∀ t, foldF (fun j => D j || decide (j = i)) 0 ss (lk fs) t = s.outF (foldF D 0 ss (lk fs)) t) ∧
    (∀ k, foldM (fun j => D j || decide (j = i)) 0 ss (lkT L) k = s.outM (foldM D 0 ss (lkT L)) k) := by
  obtain ⟨hlen, _⟩ := h.at
  obtain ⟨⟨o, ho, hv⟩, hfit⟩ := h.fits 0 i s hs
  simp only [Nat.zero_add] at hfit
  have hback : backB l = true := by simp only [parB, Bool.and_eq_true] at hp; exact hp.1.1
  have hil : i < l.length := (List.getElem?_eq_some_iff.1 ho).1
  -- what i waits for is done
  have hdep : ∀ j, ((bm l).getD i 0).testBit j = true → D j = true := by
    intro j hj
    obtain ⟨acc, h1, h2⟩ := bm_get l i o ho
    rw [h1] at hj
    rcases foldl_bits _ _ hj with h0 | ⟨e, he, hbi, h3⟩
    · simp at h0
    · have hDe := hpre o ho e he hbi
      have hlt : e.on < i := by
        have hbb := List.all_eq_true.1 hback i (List.mem_range.2 hil)
        simp only [ho] at hbb
        have := List.all_eq_true.1 hbb e he
        simpa [hbi] using this
      rcases h3 with rfl | h3
      · exact hDe
      · rw [h2 _ hlt] at h3
        exact hc.bit hback (e.on + 1) e.on j (by omega) (by omega) hDe h3
  -- what waits for i is not done
  have hnot : ∀ j, j < l.length → ((bm l).getD j 0).testBit i = true → D j = false := by
    intro j hj hb
    cases hD : D j with
    | false => rfl
    | true => rw [hc.bit hback (j + 1) j i (by omega) hj hD hb] at hDi; cases hDi
  have hjl : ∀ j sj, ss[j]? = some sj → j < l.length := fun j sj hj => by rw [← hlen]; exact (List.getElem?_eq_some_iff.1 hj).1
  have lt_of_bit : ∀ a b, a < l.length → ((bm l).getD a 0).testBit b = true → b < a := by
    intro a b ha hb
    have key := Closed.bit (l := l) (D := fun j => decide (j ≤ a) && (decide (j < a) || decide (j = a))) hback
    -- by the edges: every one leads back
    have : ∀ (m a b : Nat), a < m → a < l.length → ((bm l).getD a 0).testBit b = true → b < a := by
      intro m
      induction m with
      | zero => intro a b h; omega
      | succ m ih =>
        intro a b hm ha hb
        obtain ⟨acc, h1, h2⟩ := bm_get l a l[a] (by simp [ha])
        rw [h1] at hb
        rcases foldl_bits _ _ hb with h0 | ⟨e, he, hbi, h3⟩
        · simp at h0
        · have hlt : e.on < a := by
            have hbb := List.all_eq_true.1 hback a (List.mem_range.2 ha)
            simp only [List.getElem?_eq_getElem ha] at hbb
            have := List.all_eq_true.1 hbb e he
            simpa [hbi] using this
          rcases h3 with rfl | h3
          · exact hlt
          · rw [h2 _ hlt] at h3
            have := ih e.on b (by omega) (by omega) h3
            omega
    exact this (a + 1) a b (by omega) ha hb
  -- whoever writes what i touches is done just if it stands ahead of i
  have hsame : ∀ j sj, ss[j]? = some sj → j ≠ i → nc sj s = false → D j = decide (j < i) := by
    intro j sj hj hne hn
    by_cases hb : ((bm l).getD i 0).testBit j = true
    · rw [hdep j hb]; simp [lt_of_bit i j hil hb]
    · have hb' : ((bm l).getD i 0).testBit j = false := by simpa using hb
      obtain ⟨_, h2⟩ := parB_pair hp hj hs hne hb'
      rcases h2 with h2 | h2
      · rw [hnot j (hjl j sj hj) h2]
        have := lt_of_bit j i (hjl j sj hj) h2
        simp; omega
      · rw [hn] at h2; cases h2
  have eqF : ∀ t, ((lk s.rs t).isSome ∨ s.ws = some t) → foldF D 0 ss (lk fs) t = foldF (fun j => decide (j < i)) 0 ss (lk fs) t := by
    intro t ht
    refine foldF_cell ss 0 _ _ rfl (fun j sj hj hw => ?_)
    simp only [Nat.zero_add]
    by_cases hne : j = i
    · subst hne; simp [hDi]
    · refine hsame j sj hj hne ?_
      cases hn : nc sj s with
      | false => rfl
      | true =>
        obtain ⟨a, b⟩ := nc_slot hn hw
        rcases ht with ht | ht
        · rw [a] at ht; cases ht
        · exact absurd ht b
  have eqM : ∀ k, k ∈ s.ids → foldM D 0 ss (lkT L) k = foldM (fun j => decide (j < i)) 0 ss (lkT L) k := by
    intro k hk
    refine foldM_cell ss 0 _ _ rfl (fun j sj hj hw => ?_)
    simp only [Nat.zero_add]
    by_cases hne : j = i
    · subst hne; simp [hDi]
    · refine hsame j sj hj hne ?_
      cases hn : nc sj s with
      | false => rfl
      | true => exact absurd hk (nc_id hn hw)
  have hfresh : fresh0 s fs L = true := by
    simp only [parB, Bool.and_eq_true] at hp
    exact List.all_eq_true.1 hp.2 s (List.mem_of_getElem? hs)
  have hnames : ∀ j sj, ss[j]? = some sj → D j = true → ∀ k ∈ s.fr, k ∉ sj.names := by
    intro j sj hj hD k hk
    have hne : i ≠ j := by rintro rfl; rw [hDi] at hD; cases hD
    have hb : ((bm l).getD j 0).testBit i = false := by
      cases hb : ((bm l).getD j 0).testBit i with
      | false => rfl
      | true => rw [hnot j (hjl j sj hj) hb] at hD; cases hD
    obtain ⟨h1, _⟩ := parB_pair hp hs hj hne hb
    have := List.all_eq_true.1 h1 k hk
    simpa using this
  refine ⟨⟨fun t x hx => ?_, hfit.ws, fun p hp' => ?_, hfit.nd, hfit.nd', fun p hp' => ?_, hfit.fr, fun t x hx j hj hjf => ?_, fun k t hk _ j hj hjf => ?_⟩, fun t => ?_, fun k => ?_⟩
  · rw [eqF t (.inl (by rw [hx]; rfl))]; exact hfit.rs t x hx
  · rw [eqM p.1 ?_]
    · exact hfit.tk p hp'
    · simp only [Step.ids, Step.wi]
      rcases List.mem_append.1 hp' with h | h
      · exact List.mem_append_left _ (List.mem_map_of_mem h)
      · exact List.mem_append_right _ (List.mem_append_left _ (List.mem_map_of_mem h))
  · rw [eqM p.1 (by simp only [Step.ids, Step.wi]; exact List.mem_append_right _ (List.mem_append_right _ (List.mem_map_of_mem hp')))]
    exact hfit.out p hp'
  · rcases foldF_from ss 0 _ hx with h0 | ⟨j', s', h1, h2, h3⟩
    · have := List.all_eq_true.1 hfresh j hjf
      simp only [Bool.and_eq_true] at this
      have := List.all_eq_true.1 this.1.2 _ (lk_mem h0)
      simp at this; exact this hj
    · simp only [Nat.zero_add] at h2
      exact hnames j' s' h1 h2 j hjf (by simp only [Step.names]; exact List.mem_append_left _ (by rw [h3]; exact hj))
  · rcases foldM_from ss 0 _ hk with h0 | ⟨j', s', h1, h2, h3⟩
    · have := List.all_eq_true.1 hfresh j hjf
      simp only [Bool.and_eq_true] at this
      have := List.all_eq_true.1 this.2 _ (lkT_mem h0)
      simp at this; exact this hj
    · simp only [Nat.zero_add] at h2
      exact hnames j' s' h1 h2 j hjf (by simp only [Step.names]; exact List.mem_append_right _ (List.mem_flatMap.2 ⟨_, h3, hj⟩))
  · -- the slots behind the step
    have later : ∀ j sj, ss[j]? = some sj → j ≠ i → D j = true → ((bm l).getD i 0).testBit j = true ∨ nc sj s = true := fun j sj hj hne hD => by
      by_cases hb : ((bm l).getD i 0).testBit j = true
      · exact .inl hb
      · obtain ⟨_, h2⟩ := parB_pair hp hj hs hne (by simpa using hb)
        rcases h2 with h2 | h2
        · rw [hnot j (hjl j sj hj) h2] at hD; cases hD
        · exact .inr h2
    by_cases hw : s.ws = some t
    · rw [outF_eq hw]
      -- the last writer is i
      have key : ∀ (r : List Step) (i0 : Nat) (f : Nat → Option SV), (∀ j sj, r[j]? = some sj → ss[i0 + j]? = some sj) → (i0 ≤ i → i < i0 + r.length) → (i < i0 → f t = some s.xv) →
          foldF (fun j => D j || decide (j = i)) i0 r f t = some s.xv := by
        intro r
        induction r with
        | nil =>
          intro i0 f _ h1 h2
          show f t = some s.xv
          by_cases hlt : i < i0
          · exact h2 hlt
          · have := h1 (by omega); simp at this; omega
        | cons s0 r ih =>
          intro i0 f hr h1 h2
          show foldF (fun j => D j || decide (j = i)) (i0 + 1) r (if (D i0 || decide (i0 = i)) = true then s0.outF f else f) t = some s.xv
          refine ih (i0 + 1) _ (fun j sj hj => by have := hr (j + 1) sj (by simpa using hj); rwa [show i0 + (j + 1) = i0 + 1 + j by omega] at this) (fun h => by have := h1 (by omega); simp at this; omega) (fun hlt => ?_)
          have h0 := hr 0 s0 (by simp)
          simp only [Nat.add_zero] at h0
          by_cases e : i0 = i
          · subst e
            have e2 : s0 = s := Option.some.inj (h0.symm.trans hs)
            subst e2
            simp only [decide_true, Bool.or_true, if_true]
            exact outF_eq hw
          · have hf := h2 (by omega)
            simp only [e, decide_false, Bool.or_false]
            by_cases hD : D i0 = true
            · rw [if_pos hD]
              rw [outF_ne]
              · exact hf
              · intro hw0
                rcases later i0 s0 h0 e hD with hb | hn
                · have := lt_of_bit i i0 hil hb; omega
                · exact (nc_slot hn hw0).2 hw
            · rw [if_neg hD]; exact hf
      exact key ss 0 _ (fun j sj hj => by simpa using hj) (fun _ => by simp; rw [hlen]; exact hil) (fun h => by omega)
    · rw [outF_ne hw]
      refine foldF_cell ss 0 _ _ rfl (fun j sj hj hw' => ?_)
      simp only [Nat.zero_add]
      by_cases e : j = i
      · subst e
        have e2 : sj = s := Option.some.inj (hj.symm.trans hs)
        subst e2; exact absurd hw' hw
      · simp [e]
  · have later : ∀ j sj, ss[j]? = some sj → j ≠ i → D j = true → ((bm l).getD i 0).testBit j = true ∨ nc sj s = true := fun j sj hj hne hD => by
      by_cases hb : ((bm l).getD i 0).testBit j = true
      · exact .inl hb
      · obtain ⟨_, h2⟩ := parB_pair hp hj hs hne (by simpa using hb)
        rcases h2 with h2 | h2
        · rw [hnot j (hjl j sj hj) h2] at hD; cases hD
        · exact .inr h2
    by_cases hw : k ∈ s.wi
    · have key : ∀ (r : List Step) (i0 : Nat) (f : Nat → Option Tok), (∀ j sj, r[j]? = some sj → ss[i0 + j]? = some sj) → (i0 ≤ i → i < i0 + r.length) → (i < i0 → f k = s.outM (foldM D 0 ss (lkT L)) k) →
          foldM (fun j => D j || decide (j = i)) i0 r f k = s.outM (foldM D 0 ss (lkT L)) k := by
        intro r
        induction r with
        | nil =>
          intro i0 f _ h1 h2
          show f k = s.outM (foldM D 0 ss (lkT L)) k
          by_cases hlt : i < i0
          · exact h2 hlt
          · have := h1 (by omega); simp at this; omega
        | cons s0 r ih =>
          intro i0 f hr h1 h2
          show foldM (fun j => D j || decide (j = i)) (i0 + 1) r (if (D i0 || decide (i0 = i)) = true then s0.outM f else f) k = s.outM (foldM D 0 ss (lkT L)) k
          refine ih (i0 + 1) _ (fun j sj hj => by have := hr (j + 1) sj (by simpa using hj); rwa [show i0 + (j + 1) = i0 + 1 + j by omega] at this) (fun h => by have := h1 (by omega); simp at this; omega) (fun hlt => ?_)
          have h0 := hr 0 s0 (by simp)
          simp only [Nat.add_zero] at h0
          by_cases e : i0 = i
          · subst e
            have e2 : s0 = s := Option.some.inj (h0.symm.trans hs)
            subst e2
            simp only [decide_true, Bool.or_true, if_true]
            exact outM_eq' hw
          · have hf := h2 (by omega)
            simp only [e, decide_false, Bool.or_false]
            by_cases hD : D i0 = true
            · rw [if_pos hD]
              rw [outM_ne]
              · exact hf
              · intro hw0
                rcases later i0 s0 h0 e hD with hb | hn
                · have := lt_of_bit i i0 hil hb; omega
                · exact nc_id hn hw0 (List.mem_append_right _ hw)
            · rw [if_neg hD]; exact hf
      exact key ss 0 _ (fun j sj hj => by simpa using hj) (fun _ => by simp; rw [hlen]; exact hil) (fun h => by omega)
    · rw [outM_ne hw]
      refine foldM_cell ss 0 _ _ rfl (fun j sj hj hw' => ?_)
      simp only [Nat.zero_add]
      by_cases e : j = i
      · subst e
        have e2 : sj = s := Option.some.inj (hj.symm.trans hs)
        subst e2; exact absurd hw' hw
      · simp [e]

theorem opW_any {ops : Array Oper} {Q : Exit → Act → World → Prop} {i : Nat} {o : Oper} {K : Act → World → Prop} {a : Act} {w : World} (ho : ops[i]? = some o) (h : opW P ops Q o K a w) : wpOp P ops Q i K a w := by
  unfold wpOp; unfold opW at h
  simp only [ho]
  split
  · rename_i hw; rw [if_pos hw] at h; exact .inl h
  · rename_i hw; rw [if_neg hw] at h; exact h

theorem wpAny_run {C : Ctx} {Q : Exit → Act → World → Prop} (h : Run P C.n l.toArray l fs L ss fs' L') (hp : parB l ss fs L = true)
    (hq : ∀ a w, Holds C (lk fs') (lkT L') a w → Q .normal a w) :
    ∀ (fuel : Nat) (listed : Array Bool) (D : Nat → Bool), listed.size = l.length → (∀ j, j < l.length → listed.getD j true = D j) → Closed l D → ((List.range l.length).filter fun j => !D j).length ≤ fuel →
      ∀ a w, Holds C (foldF D 0 ss (lk fs)) (foldM D 0 ss (lkT L)) a w → wpAny P .any l.toArray Q fuel listed a w := by
  obtain ⟨hlen, hall⟩ := h.at
  have hback : backB l = true := by simp only [parB, Bool.and_eq_true] at hp; exact hp.1.1
  -- all done
  have fin : ∀ (D : Nat → Bool), (∀ j, j < l.length → D j = true) → ∀ a w, Holds C (foldF D 0 ss (lk fs)) (foldM D 0 ss (lkT L)) a w → Q .normal a w := by
    intro D hD a w hh
    obtain ⟨e1, e2⟩ := hall 0 (fun _ => true) (fun _ _ => rfl)
    refine hq a w ?_
    have a1 : foldF D 0 ss (lk fs) = lk fs' := funext fun t => (foldF_cell ss 0 _ _ rfl (fun j s hj _ => by simp only [Nat.zero_add]; exact hD j (by rw [← hlen]; exact (List.getElem?_eq_some_iff.1 hj).1))).trans (e1 t)
    have a2 : foldM D 0 ss (lkT L) = lkT L' := funext fun t => (foldM_cell ss 0 _ _ rfl (fun j s hj _ => by simp only [Nat.zero_add]; exact hD j (by rw [← hlen]; exact (List.getElem?_eq_some_iff.1 hj).1))).trans (e2 t)
    rw [a1, a2] at hh; exact hh
  have ready_iff : ∀ (listed : Array Bool) (D : Nat → Bool), listed.size = l.length → (∀ j, j < l.length → listed.getD j true = D j) → ∀ i, i ∈ Region.ready .any l.toArray listed ↔
      i < l.length ∧ D i = false ∧ ∀ o, l[i]? = some o → ∀ e ∈ o.after.toList, Region.binds .any e = true → D e.on = true := by
    intro listed D hsz hl i
    simp only [Region.ready, List.mem_filter, List.mem_range, List.size_toArray, List.getElem?_toArray, Bool.and_eq_true, Bool.not_eq_true']
    constructor
    · rintro ⟨hi, h1, h2⟩
      refine ⟨hi, by rw [← hl i hi]; exact h1, fun o ho e he hb => ?_⟩
      simp only [ho, Option.map_some, Option.getD_some] at h2
      have h3 := Array.all_eq_true_iff_forall_mem.1 h2 e (Array.mem_toList_iff.1 he)
      simp only [hb, Bool.not_true, Bool.false_or] at h3
      have hlt : e.on < i := by
        have hbb := List.all_eq_true.1 hback i (List.mem_range.2 hi)
        simp only [ho] at hbb
        have := List.all_eq_true.1 hbb e he
        simpa [hb] using this
      rw [← hl e.on (by omega)]
      simp only [Array.getD_eq_getD_getElem?] at h3 ⊢
      have : e.on < listed.size := by omega
      simp [this] at h3 ⊢; exact h3
    · rintro ⟨hi, h1, h2⟩
      refine ⟨hi, by rw [hl i hi]; exact h1, ?_⟩
      simp only [List.getElem?_eq_getElem hi, Option.map_some, Option.getD_some]
      refine Array.all_eq_true_iff_forall_mem.2 (fun e he => ?_)
      by_cases hb : Region.binds .any e = true
      · have hD := h2 l[i] (by simp [hi]) e (Array.mem_toList_iff.2 he) hb
        have hlt : e.on < i := by
          have hbb := List.all_eq_true.1 hback i (List.mem_range.2 hi)
          simp only [List.getElem?_eq_getElem hi] at hbb
          have := List.all_eq_true.1 hbb e (Array.mem_toList_iff.2 he)
          simpa [hb] using this
        rw [← hl e.on (by omega)] at hD
        simp only [Array.getD_eq_getD_getElem?] at hD ⊢
        have : e.on < listed.size := by omega
        simp [this] at hD ⊢; exact .inr hD
      · simp [hb]
  -- nothing may come up: all is done
  have ready_nil : ∀ (listed : Array Bool) (D : Nat → Bool), listed.size = l.length → (∀ j, j < l.length → listed.getD j true = D j) → Region.ready .any l.toArray listed = [] → ∀ j, j < l.length → D j = true := by
    intro listed D hsz hl hr
    have : ∀ m j, j < m → j < l.length → D j = true := by
      intro m
      induction m with
      | zero => intro j h; omega
      | succ m ih =>
        intro j hjm hj
        cases hD : D j with
        | true => rfl
        | false =>
          exfalso
          have hmem := (ready_iff listed D hsz hl j).2 ⟨hj, hD, fun o ho e he hb => by
            have hlt : e.on < j := by
              have hbb := List.all_eq_true.1 hback j (List.mem_range.2 hj)
              simp only [ho] at hbb
              have := List.all_eq_true.1 hbb e he
              simpa [hb] using this
            exact ih e.on (by omega) (by omega)⟩
          rw [hr] at hmem; cases hmem
    exact fun j hj => this (j + 1) j (by omega) hj
  intro fuel
  induction fuel with
  | zero =>
    intro listed D hsz hl hc hfuel a w hh
    have hD : ∀ j, j < l.length → D j = true := by
      intro j hj
      cases hD : D j with
      | true => rfl
      | false =>
        have hm : j ∈ (List.range l.length).filter fun j => !D j := by simp [hj, hD]
        have h0 : ((List.range l.length).filter fun j => !D j).length = 0 := by omega
        rw [List.eq_nil_of_length_eq_zero h0] at hm; cases hm
    refine ⟨?_, fin D hD a w hh⟩
    cases hr : Region.ready .any l.toArray listed with
    | nil => rfl
    | cons i r =>
      have := (ready_iff listed D hsz hl i).1 (by rw [hr]; exact List.mem_cons_self)
      rw [hD i this.1] at this; exact absurd this.2.1 (by simp)
  | succ fuel ih =>
    intro listed D hsz hl hc hfuel a w hh
    refine ⟨fun hr => fin D (ready_nil listed D hsz hl hr) a w hh, fun i hi => ?_⟩
    obtain ⟨hil, hDi, hpre⟩ := (ready_iff listed D hsz hl i).1 hi
    obtain ⟨s, hs⟩ : ∃ s, ss[i]? = some s := ⟨ss[i]'(by omega), by simp⟩
    obtain ⟨⟨o, ho, hv⟩, _⟩ := h.fits 0 i s hs
    obtain ⟨hfit, e1, e2⟩ := fits_at h hp hc hs hDi hpre
    refine opW_any (by simpa using ho) (step_state hv hfit hh (fun a' w' hh' => ?_))
    refine ih (listed.setIfInBounds i true) (fun j => D j || decide (j = i)) (by simpa using hsz) (fun j hj => ?_) ?_ ?_ a' w' ?_
    · by_cases e : j = i
      · subst e; simp [hsz, hj]
      · have := hl j hj
        simp [Array.getD_eq_getD_getElem?, e, Ne.symm e] at this ⊢
        exact this
    · intro j o' hj hD e he hb
      by_cases ej : j = i
      · subst ej; simp [hpre o' hj e he hb]
      · simp [ej] at hD; simp [hc j o' hj hD e he hb]
    · have hsub : ((List.range l.length).filter fun j => !(D j || decide (j = i))).length < ((List.range l.length).filter fun j => !D j).length := by
        have e : ((List.range l.length).filter fun j => !(D j || decide (j = i))) = ((List.range l.length).filter fun j => !D j).filter (fun j => !decide (j = i)) := by
          rw [List.filter_filter]; congr 1; funext j; cases D j <;> simp
        rw [e]
        refine List.length_filter_lt_length_iff_exists.2 ⟨i, by simp [hil, hDi], by simp⟩
      omega
    · rw [show foldF (fun j => D j || decide (j = i)) 0 ss (lk fs) = s.outF (foldF D 0 ss (lk fs)) from funext e1, show foldM (fun j => D j || decide (j = i)) 0 ss (lkT L) = s.outM (foldM D 0 ss (lkT L)) from funext e2]
      exact hh'

/-- A region that draws its order, by the order of the text. -/
theorem wp_par {C : Ctx} {Q : Exit → Act → World → Prop} {id : Nat} (hm : P.follows .mixedOrders = true) (h : Run P C.n l.toArray l fs L ss fs' L') (hp : parB l ss fs L = true)
    (hq : ∀ a w, Holds C (lk fs') (lkT L') a w → Q .normal a w) {a : Act} {w : World} (hh : Holds C (lk fs) (lkT L) a w) : (Code.region id l.toArray true).wp P Q a w := by
  refine wp_region_any hm (wpAny_run h hp hq l.toArray.size _ (fun _ => false) (by simp) (fun j hj => by simp [hj]) (fun _ _ _ h => by cases h) ?_ a _ ?_)
  · have := List.length_filter_le (fun j => !(fun _ => false) j) (List.range l.length)
    simpa using this
  · have z : ∀ (r : List Step) (j : Nat) (f : Nat → Option SV), foldF (fun _ => false) j r f = f := by
      intro r
      induction r with
      | nil => intro j f; rfl
      | cons s r ihr => intro j f; unfold foldF; exact ihr (j + 1) f
    have z' : ∀ (r : List Step) (j : Nat) (f : Nat → Option Tok), foldM (fun _ => false) j r f = f := by
      intro r
      induction r with
      | nil => intro j f; rfl
      | cons s r ihr => intro j f; unfold foldM; exact ihr (j + 1) f
    rw [z, z']
    obtain ⟨β, F, h1, h2, h3, h4, h5, h6, h7, h8⟩ := hh
    exact ⟨β, F, h1, h2, h3, h4, h5, h6.loc (fun _ _ => rfl), h7, h8.trans (Mod.drew (fun _ => False) w) (fun _ h => h.elim)⟩
end
end Go.Proofs.Ytheopcgjdfckmaa.Sx

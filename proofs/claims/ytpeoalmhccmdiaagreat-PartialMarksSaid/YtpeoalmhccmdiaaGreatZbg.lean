/- My texts that the proof of PartialMarks rests on, part 7: a calculus of walks, the walks, and the plain law. -/
import Derived.Test.YtpeoalmhccmdiaaGreatZbf
set_option linter.unusedVariables false
set_option linter.unusedSimpArgs false
namespace Go.Proofs.YtpeoalmhccmdiaaGreat
open Go Go.Proofs.YtpeoalmhccmdiaaGreat.Sx
theorem take_snoc {α : Type} {l : List α} {i : Nat} {x : α} (h : l[i]? = some x) : l.take (i + 1) = l.take i ++ [x] := by rw [List.take_add_one, h]; rfl
theorem itemB (a b : TItem) : ((a.key == b.key) && ((a.id == b.id) && true)) = decide (a = b) := by
  by_cases h : a = b
  · subst h; simp
  · have : ¬ (a.key = b.key ∧ a.id = b.id) := fun h' => h (item_ext h'.1 h'.2)
    by_cases h1 : a.key = b.key
    · have h2 : (a.id == b.id) = false := by simpa using fun h2 => this ⟨h1, h2⟩
      simp [h, h2]
    · have h2 : (a.key == b.key) = false := by simpa using h1
      simp [h, h2]
theorem nat_in {a n : Nat} (h : a ≤ n) : decide ((0 : Int) ≤ (a : Int) ∧ (a : Int) ≤ (n : Int)) = true := by simp; omega
theorem same_loop (l : List TItem) (hl : l.length < 1000000) : ∀ (d i n : Nat), i + d = l.length → d < n → R02_Same.l0 K1 l l n (i : Int) = some (Sum.inr ())
  | d, i, 0, _, h => by omega
  | 0, i, n + 1, hi, _ => by
    simp only [R02_Same.l0]
    rw [dec_nlt (by omega)]; rfl
  | d + 1, i, n + 1, hi, hn => by
    obtain ⟨x, hx, _⟩ := drop_cons (l := l) (i := i) (by omega)
    simp only [R02_Same.l0]
    rw [dec_lt (by omega)]
    simp only [cond_true, atL_nat hx, Option.bind_some, beq_self_eq_true, Bool.and_self, Bool.not_true, cond_false, w64_succ (i := i) (by omega)]
    exact same_loop l hl d (i + 1) n (by omega) (by omega)
theorem refSame (l : List TItem) (hl : l.length < 1000000) : R02_Same.f K1 l l = some true := by
  unfold R02_Same.f
  have e0 : ((l.length : Int) != (l.length : Int)) = false := by simp
  have hlt : l.length < K1 := by unfold K1; omega
  have e := same_loop l hl l.length 0 K1 (Nat.zero_add _) hlt
  replace e : R02_Same.l0 K1 l l K1 0 = some (Sum.inr ()) := e
  rw [e0, e]; rfl
theorem refCSame (c : TChange) (h1 : c.in_.length < 1000000) (h2 : c.out.length < 1000000) : R12_Same.f K1 c c = some true := by
  unfold R12_Same.f
  rw [refSame _ h1]
  simp only [Option.bind_some, cond_true, refSame _ h2]
theorem iat_loop (x : TItem) (l : List TItem) (hl : l.length < 1000000) : ∀ (d i n : Nat), i + d = l.length → d < n → (∀ y ∈ l.take i, y ≠ x) → ∃ v, R09_At.l0 K1 l x n (i : Int) = some v ∧ ((v = Sum.inr () ∧ x ∉ l) ∨ ∃ j : Nat, v = Sum.inl (j : Int) ∧ l[j]? = some x)
  | d, i, 0, _, h, _ => by omega
  | 0, i, n + 1, hi, _, h1 => by
    simp only [R09_At.l0]
    rw [dec_nlt (by omega)]
    rw [List.take_of_length_le (by omega)] at h1
    exact ⟨_, rfl, .inl ⟨rfl, fun h => h1 x h rfl⟩⟩
  | d + 1, i, n + 1, hi, hn, h1 => by
    obtain ⟨y, hy, _⟩ := drop_cons (l := l) (i := i) (by omega)
    simp only [R09_At.l0]
    rw [dec_lt (by omega)]
    simp only [cond_true, atL_nat hy, Option.bind_some, itemB]
    by_cases e : y = x
    · subst e
      simp only [decide_true, cond_true]
      exact ⟨_, rfl, .inr ⟨i, rfl, hy⟩⟩
    · simp only [e, decide_false, cond_false, w64_succ (i := i) (by omega)]
      refine iat_loop x l hl d (i + 1) n (by omega) (by omega) (fun z hz => ?_)
      rw [take_snoc hy] at hz
      rcases List.mem_append.1 hz with hz | hz
      · exact h1 z hz
      · rw [List.mem_singleton.1 hz]; exact e
theorem refIAt (x : TItem) (l : List TItem) (hl : l.length < 100000) : ∃ v, R09_At.f K1 l x = some v ∧ decide (v < 0) = decide (x ∉ l) := by
  obtain ⟨v, h1, h2⟩ := iat_loop x l (by omega) l.length 0 K1 (Nat.zero_add _) (by unfold K1; omega) (by simp)
  replace h1 : R09_At.l0 K1 l x K1 0 = some v := h1
  unfold R09_At.f
  rw [h1]
  rcases h2 with ⟨rfl, h2⟩ | ⟨j, rfl, h2⟩
  · exact ⟨-1, rfl, by simp [h2]⟩
  · refine ⟨(j : Int), rfl, ?_⟩
    have := List.mem_of_getElem? h2
    simp [this]
theorem change_loop0 (a b : List TItem) (ha : a.length < 100000) (hb : b.length < 100000) : ∀ (d i n : Nat), i + d = b.length → d < n → R12_Change.l0 K1 a b n ((b.take i).filter (fun x => decide (x ∉ a)), (i : Int)) = some (b.filter (fun x => decide (x ∉ a)))
  | d, i, 0, _, h => by omega
  | 0, i, n + 1, hi, _ => by
    simp only [R12_Change.l0]
    rw [dec_nlt (by omega), List.take_of_length_le (by omega)]; rfl
  | d + 1, i, n + 1, hi, hn => by
    obtain ⟨x, hx, _⟩ := drop_cons (l := b) (i := i) (by omega)
    obtain ⟨v, v1, v2⟩ := refIAt x a ha
    have hle : ((b.take i).filter (fun x => decide (x ∉ a))).length ≤ i := Nat.le_trans (List.length_filter_le ..) (by rw [List.length_take]; omega)
    have ih := change_loop0 a b ha hb d (i + 1) n (by omega) (by omega)
    rw [take_snoc hx, List.filter_append] at ih
    simp only [R12_Change.l0]
    rw [dec_lt (by omega)]
    simp only [cond_true, atL_nat hx, Option.bind_some, v1, v2, w64_succ (i := i) (by omega)]
    by_cases e : x ∈ a
    · have : [x].filter (fun x => decide (x ∉ a)) = [] := by simp [e]
      rw [this, List.append_nil] at ih
      simpa [e] using ih
    · have : [x].filter (fun x => decide (x ∉ a)) = [x] := by simp [e]
      rw [this] at ih
      rw [decide_eq_true e, cond_true, decide_eq_true (by rw [List.length_singleton]; omega), cond_true]
      exact ih
theorem change_loop1 (a b : List TItem) (ha : a.length < 100000) (hb : b.length < 100000) : ∀ (d i n : Nat), i + d = a.length → d < n → R12_Change.l1 K1 a b n ((a.take i).filter (fun x => decide (x ∉ b)), (i : Int)) = some (a.filter (fun x => decide (x ∉ b)))
  | d, i, 0, _, h => by omega
  | 0, i, n + 1, hi, _ => by
    simp only [R12_Change.l1]
    rw [dec_nlt (by omega), List.take_of_length_le (by omega)]; rfl
  | d + 1, i, n + 1, hi, hn => by
    obtain ⟨x, hx, _⟩ := drop_cons (l := a) (i := i) (by omega)
    obtain ⟨v, v1, v2⟩ := refIAt x b hb
    have hle : ((a.take i).filter (fun x => decide (x ∉ b))).length ≤ i := Nat.le_trans (List.length_filter_le ..) (by rw [List.length_take]; omega)
    have ih := change_loop1 a b ha hb d (i + 1) n (by omega) (by omega)
    rw [take_snoc hx, List.filter_append] at ih
    simp only [R12_Change.l1]
    rw [dec_lt (by omega)]
    simp only [cond_true, atL_nat hx, Option.bind_some, v1, v2, w64_succ (i := i) (by omega)]
    by_cases e : x ∈ b
    · have : [x].filter (fun x => decide (x ∉ b)) = [] := by simp [e]
      rw [this, List.append_nil] at ih
      simpa [e] using ih
    · have : [x].filter (fun x => decide (x ∉ b)) = [x] := by simp [e]
      rw [this] at ih
      rw [decide_eq_true e, cond_true, decide_eq_true (by rw [List.length_singleton]; omega), cond_true]
      exact ih
theorem refChange (a b : List TItem) (ha : a.length < 100000) (hb : b.length < 100000) : R12_Change.f K1 a b = some ⟨b.filter (fun x => decide (x ∉ a)), a.filter (fun x => decide (x ∉ b))⟩ := by
  have e0 := change_loop0 a b ha hb b.length 0 K1 (Nat.zero_add _) (by unfold K1; omega)
  have e1 := change_loop1 a b ha hb a.length 0 K1 (Nat.zero_add _) (by unfold K1; omega)
  replace e0 : R12_Change.l0 K1 a b K1 ([], 0) = some (b.filter (fun x => decide (x ∉ a))) := e0
  replace e1 : R12_Change.l1 K1 a b K1 ([], 0) = some (a.filter (fun x => decide (x ∉ b))) := e1
  unfold R12_Change.f
  simp only [e0, e1, Option.bind_some]
theorem runR_len (l : List TOp) : (runR l).here.length ≤ l.length ∧ (runR l).gone.length ≤ l.length ∧ (runR l).took.length = l.length ∧ 0 ≤ (runR l).free ∧ (runR l).free ≤ l.length := by
  have key : ∀ i, i ≤ l.length → (runR (l.take i)).here.length ≤ i ∧ (runR (l.take i)).gone.length ≤ i ∧ (runR (l.take i)).took.length = i ∧ 0 ≤ (runR (l.take i)).free ∧ (runR (l.take i)).free ≤ i := by
    intro i
    induction i with
    | zero => intro _; simp [runR]
    | succ i ih =>
      intro h
      obtain ⟨x, hx, _⟩ := drop_cons (l := l) (i := i) (by omega)
      obtain ⟨h1, h2, h3, h4, h5⟩ := ih (by omega)
      rw [runR_succ hx]
      unfold stepR
      split
      · have := (sins_perm x.item (runR (l.take i)).here).length_eq
        simp only [List.length_cons] at this
        simp only [List.length_append, List.length_singleton]; omega
      · split
        · rename_i hh; rw [hh] at h1; simp only [List.length_cons] at h1; simp only [List.length_append, List.length_singleton]; omega
        · rename_i hh; simp only [List.length_append, List.length_singleton, List.length_nil]; omega
  have := key l.length (Nat.le_refl _)
  rwa [List.take_length] at this
theorem runR_sorted (l : List TOp) : Sorted (runR l).here := by
  have key : ∀ i, i ≤ l.length → Sorted (runR (l.take i)).here := by
    intro i
    induction i with
    | zero => intro _; simp [runR]
    | succ i ih =>
      intro h
      obtain ⟨x, hx, _⟩ := drop_cons (l := l) (i := i) (by omega)
      have h1 := ih (by omega)
      rw [runR_succ hx]
      unfold stepR
      split
      · exact sins_sorted _ _ h1
      · split
        · rename_i hh; rw [hh] at h1; exact (List.pairwise_cons.1 h1).2
        · exact List.Pairwise.nil
  have := key l.length (Nat.le_refl _)
  rwa [List.take_length] at this
theorem runR_take_bounds (l : List TOp) {i : Nat} (h : i ≤ l.length) : (runR (l.take i)).here.length ≤ i ∧ (runR (l.take i)).gone.length ≤ i ∧ (runR (l.take i)).took.length = i ∧ 0 ≤ (runR (l.take i)).free ∧ (runR (l.take i)).free ≤ i := by
  have := runR_len (l.take i)
  rwa [List.length_take, Nat.min_eq_left h] at this
theorem run_loop (l : List TOp) (hl : l.length < 100000) : ∀ (d i n : Nat), i + d = l.length → d < n → R12_Run.l0 K1 l n ((runR (l.take i)).here, (runR (l.take i)).gone, (runR (l.take i)).took, (runR (l.take i)).free, (i : Int)) = some ((runR l).here, (runR l).gone, (runR l).took, (runR l).free)
  | d, i, 0, _, h => by omega
  | 0, i, n + 1, hi, _ => by
    simp only [R12_Run.l0]
    rw [dec_nlt (by omega), List.take_of_length_le (by omega)]; rfl
  | d + 1, i, n + 1, hi, hn => by
    obtain ⟨x, hx, _⟩ := drop_cons (l := l) (i := i) (by omega)
    obtain ⟨h1, h2, h3, h4, h5⟩ := runR_take_bounds l (i := i) (by omega)
    have hsr := runR_sorted (l.take i)
    have ih := run_loop l hl d (i + 1) n (by omega) (by omega)
    rw [runR_succ hx] at ih
    simp only [R12_Run.l0]
    rw [dec_lt (by omega)]
    generalize hs : runR (l.take i) = s at *
    simp only [cond_true, atL_nat hx, Option.bind_some, w64_succ (i := i) (by omega)]
    have hdT : ∀ z : TTook, decide (s.took.length + [z].length < 4294967296) = true := fun z => decide_eq_true (by rw [List.length_singleton]; omega)
    cases hx1 : x.insert with
    | true =>
      have e : stepR s x = ⟨sins x.item s.here, s.gone, s.free, s.took ++ [zTTook]⟩ := by unfold stepR; rw [if_pos hx1]
      rw [e] at ih
      obtain ⟨r, r1, r2, r3⟩ := sorted_f K1 (s.here ++ [x.item]) (by rw [List.length_append, List.length_singleton]; omega) (Nat.le_refl _)
      have hr : r = sins x.item s.here := sorted_perm_eq r2 (sins_sorted _ _ hsr) (r3.trans (List.perm_append_comm.trans (sins_perm _ _).symm))
      rw [hr] at r1
      simp only [cond_true, List.nil_append]
      rw [decide_eq_true (by rw [List.length_nil]; omega), cond_true, decide_eq_true (by rw [List.length_singleton]; omega), cond_true, r1]
      simp only [Option.bind_some, hdT, cond_true]
      exact ih
    | false =>
      simp only [cond_false]
      cases hh : s.here with
      | nil =>
        have e : stepR s x = ⟨[], s.gone, s.free + 1, s.took ++ [zTTook]⟩ := by unfold stepR; rw [hx1]; simp [hh]
        rw [e] at ih
        have e0 : decide ((([] : List TItem).length : Int) > 0) = false := rfl
        simp only [e0, cond_false, hdT, cond_true]
        rw [w64_id (by omega) (by omega)]
        exact ih
      | cons y t =>
        have e : stepR s x = ⟨t, s.gone ++ [y], s.free, s.took ++ [⟨true, y⟩]⟩ := by unfold stepR; rw [hx1]; simp [hh]
        rw [e] at ih
        rw [hh] at h1
        simp only [List.length_cons] at h1
        have e0 : decide (((y :: t).length : Int) > 0) = true := decide_eq_true (by rw [List.length_cons]; omega)
        have e1 : atL (y :: t) 0 = some y := atL_nat (i := 0) rfl
        have e2 : ((y :: t).drop (1 : Int).toNat).take ((y :: t).length - (1 : Int).toNat) = t := by
          show ((y :: t).drop 1).take ((y :: t).length - 1) = t
          simp
        simp only [e0, cond_true, e1, Option.bind_some, e2, List.nil_append, hdT]
        rw [decide_eq_true (by rw [List.length_singleton]; omega), cond_true, decide_eq_true (by rw [List.length_cons]; omega), cond_true, decide_eq_true (by rw [List.length_nil]; omega), cond_true]
        exact ih
theorem refRun (l : List TOp) (hl : l.length < 100000) : ∃ g, R12_Run.f K1 l = some ((runR l).here, g, (runR l).free, (runR l).took) ∧ Sorted g ∧ g.Perm (runR l).gone := by
  have e := run_loop l hl l.length 0 K1 (Nat.zero_add _) (by unfold K1; omega)
  replace e : R12_Run.l0 K1 l K1 ([], [], [], 0, 0) = some ((runR l).here, (runR l).gone, (runR l).took, (runR l).free) := e
  have hb := runR_len l
  obtain ⟨r, r1, r2, r3⟩ := sorted_f K1 (runR l).gone (by omega) (Nat.le_refl _)
  unfold R12_Run.f
  simp only [e, Option.bind_some, r1]
  exact ⟨r, rfl, r2, r3⟩
end Go.Proofs.YtpeoalmhccmdiaaGreat
namespace Go.Proofs.YtpeoalmhccmdiaaGreat
open Go Go.Proofs.YtpeoalmhccmdiaaGreat.Sx
theorem cap_bd (n : Int) : 0 ≤ gmin (gmax n 0) 65536 ∧ gmin (gmax n 0) 65536 ≤ 65536 := by
  unfold gmin gmax; split <;> split <;> omega
theorem oat_loop (t : Int) (l : List TOp) (hl : l.length < 1000000) : ∀ (d i n : Nat), i + d = l.length → d < n → (∀ y ∈ l.take i, y.time ≠ t) → ∃ v, R12_At.l0 K1 l t n (i : Int) = some v ∧ ((v = Sum.inr () ∧ ∀ y ∈ l, y.time ≠ t) ∨ ∃ (j : Nat) (y : TOp), v = Sum.inl (j : Int) ∧ l[j]? = some y ∧ y.time = t ∧ ∀ z ∈ l.take j, z.time ≠ t)
  | d, i, 0, _, h, _ => by omega
  | 0, i, n + 1, hi, _, h1 => by
    simp only [R12_At.l0]
    rw [dec_nlt (by omega)]
    rw [List.take_of_length_le (by omega)] at h1
    exact ⟨_, rfl, .inl ⟨rfl, h1⟩⟩
  | d + 1, i, n + 1, hi, hn, h1 => by
    obtain ⟨y, hy, _⟩ := drop_cons (l := l) (i := i) (by omega)
    simp only [R12_At.l0]
    rw [dec_lt (by omega)]
    simp only [cond_true, atL_nat hy, Option.bind_some]
    by_cases e : y.time = t
    · rw [e, beq_self_eq_true]
      exact ⟨_, rfl, .inr ⟨i, y, rfl, hy, e, h1⟩⟩
    · have e' : (y.time == t) = false := by simpa using e
      simp only [e', cond_false, w64_succ (i := i) (by omega)]
      refine oat_loop t l hl d (i + 1) n (by omega) (by omega) (fun z hz => ?_)
      rw [take_snoc hy] at hz
      rcases List.mem_append.1 hz with hz | hz
      · exact h1 z hz
      · rw [List.mem_singleton.1 hz]; exact e
theorem refOAt {t : Int} {m A M D : List TMark} (hc : CutM t m A M D) (hl : m.length < 100000) : R12_At.f K1 (m.map (·.op)) t = some (if M = [] then -1 else (A.length : Int)) := by
  obtain ⟨v, h1, h2⟩ := oat_loop t (m.map (·.op)) (by simp; omega) m.length 0 K1 (by simp) (by unfold K1; omega) (by simp)
  replace h1 : R12_At.l0 K1 (m.map (·.op)) t K1 0 = some v := h1
  unfold R12_At.f
  rw [h1]
  rcases h2 with ⟨rfl, h2⟩ | ⟨j, y, rfl, h2, h3, h4⟩
  · have : M = [] := hc.none (fun x hx => h2 x.op (List.mem_map_of_mem hx))
    rw [if_pos this]; rfl
  · rw [List.getElem?_map] at h2
    obtain ⟨x, hx, rfl⟩ := Option.map_eq_some_iff.1 h2
    have hM := hc.mem (List.mem_of_getElem? hx) h3
    have hj : j = A.length := by
      have e := hc.eq
      rw [hM] at e
      rcases Nat.lt_trichotomy j A.length with h | h | h
      · rw [e, List.getElem?_append_left h] at hx
        have := hc.la x (List.mem_of_getElem? hx); omega
      · exact h
      · exfalso
        have h5 : x.op ∈ (m.map (·.op)).take j := by
          rw [← List.map_take]
          refine List.mem_map_of_mem (List.mem_of_getElem? (i := A.length) ?_)
          rw [List.getElem?_take_of_lt h, e, List.singleton_append, get_mid]
        exact h4 _ h5 h3
    rw [hM, hj]; rfl
theorem has_loop (x : TItem) (l : List TOp) (hl : l.length < 1000000) : ∀ (d i n : Nat), i + d = l.length → d < n → (∀ y ∈ l.take i, y.insert = true → y.item ≠ x) → ∃ v, R12_Has.l0 K1 l x n (i : Int) = some v ∧ ((v = Sum.inr () ∧ ∀ y ∈ l, y.insert = true → y.item ≠ x) ∨ (v = Sum.inl true ∧ ∃ y ∈ l, y.insert = true ∧ y.item = x))
  | d, i, 0, _, h, _ => by omega
  | 0, i, n + 1, hi, _, h1 => by
    simp only [R12_Has.l0]
    rw [dec_nlt (by omega)]
    rw [List.take_of_length_le (by omega)] at h1
    exact ⟨_, rfl, .inl ⟨rfl, h1⟩⟩
  | d + 1, i, n + 1, hi, hn, h1 => by
    obtain ⟨y, hy, _⟩ := drop_cons (l := l) (i := i) (by omega)
    have next : (y.insert = true → y.item ≠ x) → ∃ v, R12_Has.l0 K1 l x n ((i + 1 : Nat) : Int) = some v ∧ ((v = Sum.inr () ∧ ∀ y ∈ l, y.insert = true → y.item ≠ x) ∨ (v = Sum.inl true ∧ ∃ y ∈ l, y.insert = true ∧ y.item = x)) := fun hy' => by
      refine has_loop x l hl d (i + 1) n (by omega) (by omega) (fun z hz => ?_)
      rw [take_snoc hy] at hz
      rcases List.mem_append.1 hz with hz | hz
      · exact h1 z hz
      · rw [List.mem_singleton.1 hz]; exact hy'
    simp only [R12_Has.l0]
    rw [dec_lt (by omega)]
    simp only [cond_true, atL_nat hy, Option.bind_some, itemB, w64_succ (i := i) (by omega)]
    cases hi1 : y.insert with
    | false => simp only [cond_false]; exact next (fun h => by rw [hi1] at h; cases h)
    | true =>
      simp only [cond_true]
      by_cases e : y.item = x
      · simp only [e, decide_true, cond_true]
        exact ⟨_, rfl, .inr ⟨rfl, y, List.mem_of_getElem? hy, hi1, e⟩⟩
      · simp only [e, decide_false, cond_false]; exact next (fun _ => e)
theorem refHas (x : TItem) (m : List TMark) (hl : m.length < 100000) : (R12_Has.f K1 (m.map (·.op)) x = some true ∧ ∃ y ∈ m, y.op.insert = true ∧ y.op.item = x) ∨ (R12_Has.f K1 (m.map (·.op)) x = some false ∧ ∀ y ∈ m, y.op.insert = true → y.op.item ≠ x) := by
  obtain ⟨v, h1, h2⟩ := has_loop x (m.map (·.op)) (by simp; omega) m.length 0 K1 (by simp) (by unfold K1; omega) (by simp)
  replace h1 : R12_Has.l0 K1 (m.map (·.op)) x K1 0 = some v := h1
  unfold R12_Has.f
  rw [h1]
  rcases h2 with ⟨rfl, h2⟩ | ⟨rfl, y, h2, h3, h4⟩
  · exact .inr ⟨rfl, fun y hy => h2 y.op (List.mem_map_of_mem hy)⟩
  · obtain ⟨z, hz, rfl⟩ := List.mem_map.1 h2
    exact .inl ⟨rfl, z, hz, h3, h4⟩
theorem add_loop (o : TOp) (A D : List TOp) (hA : ∀ x ∈ A, x.time < o.time) (hD : ∀ x ∈ D, o.time < x.time) (hl : (A ++ D).length < 1000000) : ∀ (d i n : Nat), i + d = A.length → d < n → R12_Add.l0 K1 (A ++ D) o n (i : Int) = some (A.length : Int)
  | d, i, 0, _, h => by omega
  | 0, i, n + 1, hi, _ => by
    have : i = A.length := by omega
    subst this
    simp only [R12_Add.l0]
    cases D with
    | nil => rw [List.append_nil, dec_nlt (Nat.le_refl _)]; rfl
    | cons y D =>
      have hy : (A ++ y :: D)[A.length]? = some y := by rw [List.getElem?_append_right (Nat.le_refl _), Nat.sub_self]; rfl
      have := hD y List.mem_cons_self
      rw [dec_lt (by simp)]
      simp only [cond_true, atL_nat hy, Option.bind_some]
      rw [decide_eq_false (by omega)]; rfl
  | d + 1, i, n + 1, hi, hn => by
    simp only [List.length_append] at hl
    obtain ⟨y, hy, _⟩ := drop_cons (l := A) (i := i) (by omega)
    have hy' : (A ++ D)[i]? = some y := by rw [List.getElem?_append_left (by omega)]; exact hy
    have := hA y (List.mem_of_getElem? hy)
    simp only [R12_Add.l0]
    rw [dec_lt (by simp; omega)]
    simp only [cond_true, atL_nat hy', Option.bind_some]
    rw [decide_eq_true this, cond_true, w64_succ (i := i) (by omega)]
    exact add_loop o A D hA hD (by simp; omega) d (i + 1) n (by omega) (by omega)
theorem refAdd (o : TOp) (A D : List TOp) (hA : ∀ x ∈ A, x.time < o.time) (hD : ∀ x ∈ D, o.time < x.time) (hl : (A ++ D).length < 100000) : R12_Add.f K1 (A ++ D) o = some (A ++ o :: D) := by
  have hl' := hl
  simp only [List.length_append] at hl'
  have e := add_loop o A D hA hD (by omega) A.length 0 K1 (Nat.zero_add _) (by unfold K1; omega)
  replace e : R12_Add.l0 K1 (A ++ D) o K1 0 = some (A.length : Int) := e
  have e1 : ((A ++ D).drop 0).take (((A.length : Int)).toNat - 0) = A := by simp
  have e2 : ((A ++ D).drop ((A.length : Int)).toNat).take ((A ++ D).length - ((A.length : Int)).toNat) = D := by
    rw [Int.toNat_natCast, List.drop_left' rfl, List.take_of_length_le (by simp)]
  unfold R12_Add.f
  simp only [e, Option.bind_some, e1, e2, List.nil_append]
  rw [nat_in (by simp), cond_true, decide_eq_true (by rw [List.length_nil]; omega), cond_true, decide_eq_true (by rw [List.length_singleton]; omega), cond_true, cond_true, decide_eq_true (by simp; omega), cond_true]
  simp
theorem refWithout (A D : List TOp) (y : TOp) (hl : (A ++ y :: D).length < 100000) : R12_Without.f K1 (A ++ y :: D) (A.length : Int) = some (A ++ D) := by
  have hl' := hl
  simp only [List.length_append, List.length_cons] at hl'
  have hw : w64 ((A.length : Int) + 1) = ((A.length + 1 : Nat) : Int) := w64_succ (by omega)
  have e1 : ((A ++ y :: D).drop 0).take (((A.length : Int)).toNat - 0) = A := by simp
  have e2 : ((A ++ y :: D).drop (((A.length + 1 : Nat) : Int)).toNat).take ((A ++ y :: D).length - (((A.length + 1 : Nat) : Int)).toNat) = D := by
    rw [Int.toNat_natCast, List.take_of_length_le (by simp; omega)]
    rw [show A ++ y :: D = (A ++ [y]) ++ D by simp, List.drop_left' (by simp)]
  unfold R12_Without.f
  simp only [hw, e1, e2, List.nil_append]
  rw [nat_in (by simp), cond_true, decide_eq_true (by rw [List.length_nil]; omega), cond_true, nat_in (by simp), cond_true, decide_eq_true (by omega), cond_true]
theorem refRest (a : Int) {n : Nat} (hn : 1 ≤ n) (hn2 : n < 1000000) : ∃ r : Nat, R01_Rest.f K1 a (n : Int) = some (r : Int) ∧ r < n := by
  have h0 : decide ((n : Int) ≠ 0) = true := decide_eq_true (by omega)
  have h6 : (a.tmod (n : Int)).natAbs < n := by rw [Int.natAbs_tmod]; exact Nat.mod_lt _ (by omega)
  have h3 : w64 (a.tmod (n : Int) + (n : Int)) = a.tmod (n : Int) + (n : Int) := w64_id (by omega) (by omega)
  unfold R01_Rest.f
  simp only [h0, cond_true, h3]
  have h4 := Int.tmod_nonneg (a := a.tmod (n : Int) + (n : Int)) (n : Int) (by omega)
  have h5 := Int.tmod_lt_of_pos (a.tmod (n : Int) + (n : Int)) (b := (n : Int)) (by omega)
  exact ⟨((a.tmod (n : Int) + (n : Int)).tmod (n : Int)).toNat, by congr 1; omega, by omega⟩
theorem actTime (a : TL12Act) (l : List TOp) (hl : l.length < 100000) : ∃ t, Lw12_Act_time.f K1 a l = some t := by
  unfold Lw12_Act_time.f
  cases a.told with
  | false => exact ⟨_, rfl⟩
  | true =>
    simp only [Bool.not_true, cond_false]
    by_cases h : l.length = 0
    · have : ((l.length : Int) == 0) = true := by simp [h]
      rw [this]; exact ⟨_, rfl⟩
    · have : ((l.length : Int) == 0) = false := by simpa using h
      rw [this]
      obtain ⟨r, r1, r2⟩ := refRest a.time (n := l.length) (by omega) (by omega)
      obtain ⟨x, hx, _⟩ := drop_cons (l := l) (i := r) r2
      simp only [cond_false, r1, Option.bind_some, atL_nat hx]
      exact ⟨_, rfl⟩
theorem hereI_nodup : ∀ {m : List TMark}, Dist m → (hereI m).Nodup
  | [], _ => List.nodup_nil
  | x :: m, h => by
    have hd : Dist m := dist_del (A := []) (x := x) h
    have e : hereI (x :: m) = hereI [x] ++ hereI m := hereI_app [x] m
    rw [e]
    have ih := hereI_nodup hd
    cases hi : x.op.insert with
    | false => rw [(one_D hi).1]; exact ih
    | true =>
      cases hh : x.here with
      | false => rw [(one_G ⟨hi, hh⟩).1]; exact ih
      | true =>
        rw [(one_S ⟨hi, hh⟩).1]
        refine List.nodup_cons.2 ⟨fun hx => ?_, ih⟩
        obtain ⟨i, y, h1, h2, h3⟩ := mem_hereI.1 hx
        have := h 0 (i + 1) x y rfl h1 hi h2.1 h3.symm
        omega
theorem chg_ok {m m' : List TMark} (hd : Dist m) (hd' : Dist m') {ch : TChange} (h : Chg ch m m') {a b : List TItem} (ha : Sorted a) (hb : Sorted b) (pa : a.Perm (hereI m)) (pb : b.Perm (hereI m')) :
    (⟨b.filter (fun x => decide (x ∉ a)), a.filter (fun x => decide (x ∉ b))⟩ : TChange) = ch := by
  have nil : ∀ {u v : List TItem}, (∀ x ∈ u, x ∈ v) → u.filter (fun x => decide (x ∉ v)) = [] := fun h => List.filter_eq_nil_iff.2 (fun x hx => by simpa using h x hx)
  have one : ∀ {u v : List TItem} {y : TItem}, u.Perm (y :: v) → y ∉ v → u.filter (fun x => decide (x ∉ v)) = [y] := fun {u v y} hp hy => by
    have h1 := hp.filter (fun x => decide (x ∉ v))
    have h2 : (y :: v).filter (fun x => decide (x ∉ v)) = [y] := by
      rw [List.filter_cons, nil (fun x hx => hx)]; simp [hy]
    rw [h2] at h1
    exact List.perm_singleton.1 h1
  have nod := hereI_nodup hd; have nod' := hereI_nodup hd'
  rcases h with ⟨rfl, h⟩ | ⟨y, rfl, h⟩ | ⟨y, rfl, h⟩
  · rw [nil (fun x hx => pa.mem_iff.2 (h.mem_iff.1 (pb.mem_iff.1 hx))), nil (fun x hx => pb.mem_iff.2 (h.mem_iff.2 (pa.mem_iff.1 hx)))]
  · have hy : y ∉ hereI m := (List.nodup_cons.1 (h.nodup_iff.1 nod')).1
    have hp : b.Perm (y :: a) := pb.trans (h.trans (pa.symm.cons y))
    rw [one hp (fun hy' => hy (pa.mem_iff.1 hy')), nil (fun x hx => hp.mem_iff.2 (List.mem_cons_of_mem _ hx))]
  · have hy : y ∉ hereI m' := (List.nodup_cons.1 (h.nodup_iff.1 nod)).1
    have hp : a.Perm (y :: b) := pa.trans (h.trans (pb.symm.cons y))
    rw [one hp (fun hy' => hy (pb.mem_iff.1 hy')), nil (fun x hx => hp.mem_iff.2 (List.mem_cons_of_mem _ hx))]
theorem Chg.refl (m : List TMark) : Chg ⟨[], []⟩ m m := .inl ⟨rfl, List.Perm.refl _⟩
theorem Chg.small {ch : TChange} {m m' : List TMark} (h : Chg ch m m') : ch.in_.length ≤ 1 ∧ ch.out.length ≤ 1 := by
  rcases h with ⟨rfl, _⟩ | ⟨y, rfl, _⟩ | ⟨y, rfl, _⟩ <;> simp
theorem tell_ok {q q' : TQueue} {m m' : List TMark} {E E' c : Int} {B B' : Nat} (h : QOk q m E c B) (h' : QOk q' m' E' c B') {ch : TChange} (hg : Chg ch m m') : ∃ o n, R12_Run.f K1 (m.map (·.op)) = some o ∧ R12_Run.f K1 (m'.map (·.op)) = some n ∧ R12_Change.f K1 o.1 n.1 = some ch ∧ R12_Same.f K1 ch ch = some true := by
  have hl := h.rep.lim; have hl' := h'.rep.lim
  obtain ⟨g, g1, _⟩ := refRun (m.map (·.op)) (by simp; omega)
  obtain ⟨g', g1', _⟩ := refRun (m'.map (·.op)) (by simp; omega)
  have r := run_cert h.rep.dist h.cert
  have r' := run_cert h'.rep.dist h'.cert
  have b := runR_len (m.map (·.op)); have b' := runR_len (m'.map (·.op))
  simp only [List.length_map] at b b'
  refine ⟨_, _, g1, g1', ?_, refCSame ch (by have := hg.small; omega) (by have := hg.small; omega)⟩
  rw [refChange _ _ (by show (runR _).here.length < _; omega) (by show (runR _).here.length < _; omega)]
  congr 1
  exact chg_ok h.rep.dist h'.rep.dist hg r.2.2.2 r'.2.2.2 r.1 r'.1
theorem QOk.up {q : TQueue} {m : List TMark} {E c : Int} {B B' : Nat} (h : QOk q m E c B) (hB : B ≤ B') (hb9 : B' < 900000) : QOk q m E c B' :=
  ⟨⟨h.rep.cap, h.rep.marks.mono hB (by omega), h.rep.pres.imp (fun T h => ⟨h.1.mono hB (by omega), h.2⟩), h.rep.gone.imp (fun T h => ⟨h.1.mono hB (by omega), h.2⟩), h.rep.times.imp (fun T h => ⟨h.1.mono hB (by omega), h.2⟩), h.rep.dist, h.rep.len, h.rep.lim, hb9, h.rep.plain⟩, h.cert, h.exc⟩
theorem do_ok {q : TQueue} {m : List TMark} {E c : Int} {B : Nat} (h : QOk q m E c B) (hl2 : m.length < 100) (hb9 : B + 2 < 900000) (a : TL12Act) :
    ∃ q' m' E', Lw12_do.f K1 q (m.map (·.op)) c a = some (m'.map (·.op), true, q') ∧ QOk q' m' E' c (B + 2) ∧ m'.length ≤ m.length + 1 := by
  obtain ⟨t, ht⟩ := actTime a (m.map (·.op)) (by simp; omega)
  obtain ⟨k, hk, hk3⟩ := refRest a.kind (n := 3) (by decide) (by decide)
  replace hk : R01_Rest.f K1 a.kind 3 = some (k : Int) := hk
  obtain ⟨A, M, D, hc⟩ := mcut h.rep.marks (by omega) t
  have hat := refOAt hc (by omega)
  have hno : ∀ ch : TChange, ∀ e : Int, ch = ⟨[], []⟩ → ∃ o, R12_Run.f K1 (m.map (·.op)) = some o ∧ R12_Change.f K1 o.1 o.1 = some ⟨[], []⟩ ∧ R12_Same.f K1 ⟨[], []⟩ ⟨[], []⟩ = some true := fun ch e _ => by
    obtain ⟨o, n, h1, h2, h3, h4⟩ := tell_ok h h (Chg.refl m)
    rw [h1] at h2; cases h2
    exact ⟨o, h1, h3, h4⟩
  obtain ⟨o, o1, o2, o3⟩ := hno ⟨[], []⟩ 0 rfl
  have hsame := h.up (B' := B + 2) (by omega) hb9
  unfold Lw12_do.f
  simp only [ht, Option.bind_some, hat, hk]
  have hlen : ((m.map (·.op)).length : Int) = (m.length : Int) := by simp
  -- revoking
  by_cases k2 : k = 2
  · subst k2
    have e0 : (((2 : Nat) : Int) == 2) = true := rfl
    rw [e0, cond_true]
    rcases hc.lm with hM | ⟨y, hM, hy⟩
    · subst hM
      have e1 : decide ((if ([] : List TMark) = [] then (-1 : Int) else (A.length : Int)) < 0) = true := rfl
      rw [revoke_no h.rep hc]
      simp only [Option.bind_some, e1, cond_true, o1, o2, o3]
      exact ⟨q, m, E, rfl, hsame, by omega⟩
    · subst hM
      have e1 : (if [y] = [] then (-1 : Int) else (A.length : Int)) = (A.length : Int) := if_neg (by simp)
      obtain ⟨ch, q', m', E', r1, r2, r3, r4⟩ := revoke_ok h hc hb9
      obtain ⟨o', n', p1, p2, p3, p4⟩ := tell_ok h r2 r4
      rw [o1] at p1; cases p1
      have em : m.map (·.op) = A.map (·.op) ++ y.op :: D.map (·.op) := by rw [hc.eq]; simp
      have ew := refWithout (A.map (·.op)) (D.map (·.op)) y.op (by rw [← em]; simp; omega)
      rw [← em, ← r3, List.length_map] at ew
      have hml : m'.length ≤ m.length := by
        have := congrArg List.length r3
        have := congrArg List.length em
        simp at *; omega
      rw [r1, e1]
      have e2 : decide ((A.length : Int) < 0) = false := by simp
      simp only [Option.bind_some, e2, cond_false, ew, o1, p2, p3, p4]
      exact ⟨q', m', E', rfl, r2, by omega⟩
  have e2 : ((k : Int) == 2) = false := by simpa using (fun e : (k : Int) = 2 => k2 (by omega))
  rw [e2, cond_false]
  -- the three refusals, and the way on
  by_cases k0 : k = 0
  · subst k0
    have e0 : (((0 : Nat) : Int) == 0) = true := rfl
    rw [e0, cond_true]
    obtain ⟨n1, n2, n3⟩ := insert_no h.rep hc a.x
    by_cases hfull : (m.length : Int) = c
    · rw [n1 hfull, hlen, hfull]
      simp only [Option.bind_some, beq_self_eq_true, cond_true, o1, o2, o3]
      exact ⟨q, m, E, rfl, hsame, by omega⟩
    · have e3 : (((m.map (·.op)).length : Int) == c) = false := by rw [hlen]; simpa using hfull
      rw [e3]
      rcases hc.lm with hM | ⟨y, hM, hy⟩
      · subst hM
        have e1 : decide ((if ([] : List TMark) = [] then (-1 : Int) else (A.length : Int)) ≥ 0) = false := rfl
        rcases refHas a.x m (by omega) with ⟨s1, s2⟩ | ⟨s1, s2⟩
        · rw [n3 hfull rfl s2]
          simp only [Option.bind_some, e1, cond_false, s1, cond_true, o1, o2, o3, beq_self_eq_true]
          exact ⟨q, m, E, rfl, hsame, by omega⟩
        · obtain ⟨ch, q', m', E', r1, r2, r3, r4⟩ := insert_ok h hc a.x hfull hl2 s2 hb9
          obtain ⟨o', n', p1, p2, p3, p4⟩ := tell_ok h r2 r4
          rw [o1] at p1; cases p1
          have em : m.map (·.op) = A.map (·.op) ++ D.map (·.op) := by rw [hc.eq]; simp
          have ea := refAdd ⟨t, true, a.x⟩ (A.map (·.op)) (D.map (·.op)) (fun x hx => by
            obtain ⟨z, hz, rfl⟩ := List.mem_map.1 hx; exact hc.la z hz) (fun x hx => by
            obtain ⟨z, hz, rfl⟩ := List.mem_map.1 hx; exact hc.lb z hz) (by rw [← em]; simp; omega)
          rw [← em, ← r3] at ea
          have hml : m'.length = m.length + 1 := by
            have h1 := congrArg List.length r3
            have h2 := congrArg List.length em
            simp at h1 h2; omega
          rw [r1]
          simp only [Option.bind_some, e1, cond_false, s1, ea, o1, p2, beq_self_eq_true, cond_true, p3, p4]
          exact ⟨q', m', E', rfl, r2, by omega⟩
      · subst hM
        have e1 : decide ((if [y] = [] then (-1 : Int) else (A.length : Int)) ≥ 0) = true := by rw [if_neg (by simp)]; simp
        rw [n2 hfull (by simp)]
        simp only [Option.bind_some, e1, cond_false, cond_true, o1, o2, o3, beq_self_eq_true]
        exact ⟨q, m, E, rfl, hsame, by omega⟩
  · have k1 : k = 1 := by omega
    subst k1
    have e0 : (((1 : Nat) : Int) == 0) = false := rfl
    have e01 : (((1 : Nat) : Int) == 1) = true := rfl
    rw [e0, cond_false, e01, cond_true]
    obtain ⟨n1, n2⟩ := delete_no h.rep hc
    by_cases hfull : (m.length : Int) = c
    · rw [n1 hfull, hlen, hfull]
      simp only [Option.bind_some, beq_self_eq_true, cond_true, o1, o2, o3]
      exact ⟨q, m, E, rfl, hsame, by omega⟩
    · have e3 : (((m.map (·.op)).length : Int) == c) = false := by rw [hlen]; simpa using hfull
      rw [e3]
      rcases hc.lm with hM | ⟨y, hM, hy⟩
      · subst hM
        have e1 : decide ((if ([] : List TMark) = [] then (-1 : Int) else (A.length : Int)) ≥ 0) = false := rfl
        obtain ⟨ch, q', m', E', r1, r2, r3, r4⟩ := delete_ok h hc hfull hl2 hb9
        obtain ⟨o', n', p1, p2, p3, p4⟩ := tell_ok h r2 r4
        rw [o1] at p1; cases p1
        have em : m.map (·.op) = A.map (·.op) ++ D.map (·.op) := by rw [hc.eq]; simp
        have ea := refAdd ⟨t, false, zTItem⟩ (A.map (·.op)) (D.map (·.op)) (fun x hx => by
          obtain ⟨z, hz, rfl⟩ := List.mem_map.1 hx; exact hc.la z hz) (fun x hx => by
          obtain ⟨z, hz, rfl⟩ := List.mem_map.1 hx; exact hc.lb z hz) (by rw [← em]; simp; omega)
        rw [← em, ← r3] at ea
        have hml : m'.length = m.length + 1 := by
          have h1 := congrArg List.length r3
          have h2 := congrArg List.length em
          simp at h1 h2; omega
        rw [r1]
        simp only [Option.bind_some, e1, cond_false, ea, o1, p2, beq_self_eq_true, cond_true, p3, p4]
        exact ⟨q', m', E', rfl, r2, by omega⟩
      · subst hM
        have e1 : decide ((if [y] = [] then (-1 : Int) else (A.length : Int)) ≥ 0) = true := by rw [if_neg (by simp)]; simp
        rw [n2 hfull (by simp)]
        simp only [Option.bind_some, e1, cond_false, cond_true, o1, o2, o3, beq_self_eq_true]
        exact ⟨q, m, E, rfl, hsame, by omega⟩
theorem new_ok (n : Int) : ∃ q, partial_New.f K1 n = some q ∧ QOk q [] 0 (gmin (gmax n 0) 65536) 0 := by
  have hb := cap_bd n
  have hc : capOf (gmin (gmax n 0) 65536) = gmin (gmax n 0) 65536 := by
    generalize gmin (gmax n 0) 65536 = c at *
    unfold capOf; split <;> split <;> omega
  unfold partial_New.f wave_New.f shelf_New.f Tree_New.f
  simp only [Option.bind_some, hc]
  refine ⟨_, rfl, ⟨⟨rfl, Gr.new _ 0 (by decide), ⟨[], Gr.new _ 0 (by decide), List.Perm.refl _⟩, ⟨[], Gr.new _ 0 (by decide), List.Perm.refl _⟩, ⟨[], Gr.new _ 0 (by decide), List.Perm.refl _⟩, ?_, by simpa using hb.1, by decide, by decide, fun x hx => by cases hx⟩, ?_, rfl⟩⟩
  · intro i j x y h1; simp at h1
  · refine ⟨fun p hp => ?_, ?_, fun i j hi => ?_, fun h => ?_⟩
    · have : p = 0 := by simpa using hp
      subst this; simp [hgt]
    · simp [hgt]
    · simp at hi
    · simp [hgt] at h
theorem awake12 : Lw12_awake.f K1 = some true := by kernel_rfl
end Go.Proofs.YtpeoalmhccmdiaaGreat
namespace Go.Proofs.YtpeoalmhccmdiaaGreat
open Go Go.Proofs.YtpeoalmhccmdiaaGreat.Sx
theorem marks_loop0 (acts : List TL12Act) (hl : acts.length ≤ 60) : ∀ (d i n : Nat) {q : TQueue} {m : List TMark} {E : Int}, i + d = acts.length → d < n → QOk q m E 60 (2 * i) → m.length ≤ i → ∃ q' m' E', Lw12_PartialMarks.l0 K1 acts n (q, m.map (·.op), (i : Int)) = some (q', m'.map (·.op)) ∧ QOk q' m' E' 60 (2 * acts.length) ∧ m'.length ≤ acts.length
  | d, i, 0, _, _, _, _, h, _, _ => by omega
  | 0, i, n + 1, q, m, E, hi, _, h, hm => by
    simp only [Lw12_PartialMarks.l0]
    rw [dec_nlt (by omega)]
    exact ⟨q, m, E, rfl, by rw [show acts.length = i by omega]; exact h, by omega⟩
  | d + 1, i, n + 1, q, m, E, hi, hn, h, hm => by
    obtain ⟨a, ha, _⟩ := drop_cons (l := acts) (i := i) (by omega)
    obtain ⟨q', m', E', r1, r2, r3⟩ := do_ok h (by omega) (by omega) a
    simp only [Lw12_PartialMarks.l0]
    rw [dec_lt (by omega)]
    simp only [cond_true, atL_nat ha, Option.bind_some, r1, w64_succ (i := i) (by omega)]
    exact marks_loop0 acts hl d (i + 1) n (by omega) (by omega) r2 (by omega)
theorem acts_done (acts : List TL12Act) (hl : acts.length ≤ 60) : ∃ q0 q m E, partial_New.f K1 60 = some q0 ∧ Lw12_PartialMarks.l0 K1 acts K1 (q0, [], 0) = some (q, m.map (·.op)) ∧ QOk q m E 60 (2 * acts.length) ∧ m.length ≤ acts.length := by
  obtain ⟨q0, q1, q2⟩ := new_ok 60
  obtain ⟨q', m', E', h1, h2, h3⟩ := marks_loop0 acts hl acts.length 0 K1 (Nat.zero_add _) (by unfold K1; omega) q2 (Nat.le_refl _)
  exact ⟨q0, q', m', E', q1, h1, h2, h3⟩
theorem marks_loop2 (qm : TQueue × List TOp) (r : List TItem × List TItem × Int × List TTook) (hl : r.1.length < 1000000) {i : Nat} {o : TOp} (ho : qm.2[i]? = some o) : ∀ (d j n : Nat) (b : Bool), j + d = r.1.length → d < n → b = decide (o.item ∈ r.1.take j) → Lw12_PartialMarks.l2 K1 qm r (i : Int) n (b, (j : Int)) = some (decide (o.item ∈ r.1))
  | d, j, 0, _, _, h, _ => by omega
  | 0, j, n + 1, b, hj, _, hb => by
    simp only [Lw12_PartialMarks.l2]
    rw [dec_nlt (by omega), hb, List.take_of_length_le (by omega)]; rfl
  | d + 1, j, n + 1, b, hj, hn, hb => by
    obtain ⟨x, hx, _⟩ := drop_cons (l := r.1) (i := j) (by omega)
    have ih := fun b' hb' => marks_loop2 qm r hl ho d (j + 1) n b' (by omega) (by omega) hb'
    simp only [Lw12_PartialMarks.l2]
    rw [dec_lt (by omega)]
    simp only [cond_true, w64_succ (i := j) (by omega), atL_nat hx, atL_nat ho, Option.bind_some, itemB]
    rw [take_snoc hx] at ih
    cases b with
    | true =>
      simp only [cond_true]
      refine ih true ?_
      have := of_decide_eq_true hb.symm
      exact (decide_eq_true (List.mem_append_left _ this)).symm
    | false =>
      simp only [cond_false]
      refine ih _ ?_
      have := of_decide_eq_false hb.symm
      by_cases e : x = o.item
      · rw [decide_eq_true e]; exact (decide_eq_true (List.mem_append_right _ (by rw [e]; exact List.mem_singleton_self _))).symm
      · rw [decide_eq_false e]
        refine (decide_eq_false (fun h => ?_)).symm
        rcases List.mem_append.1 h with h | h
        · exact this h
        · exact e (List.mem_singleton.1 h).symm
theorem tookB : ((zTTook.found == false) && ((zTTook.item.key == 0) && ((zTTook.item.id == 0) && true))) = true := rfl
theorem marks_loop1 {q : TQueue} {m : List TMark} {E c : Int} {B : Nat} (h : QOk q m E c B) (qm : TQueue × List TOp) (hqm : qm.2 = m.map (·.op)) (r : List TItem × List TItem × Int × List TTook) (hr : r.1.Perm (hereI m)) : ∀ (d i n : Nat), i + d = m.length → d < n → Lw12_PartialMarks.l1 K1 qm r m n (i : Int) = some (Sum.inr ())
  | d, i, 0, _, hn => by omega
  | 0, i, n + 1, hi, _ => by
    simp only [Lw12_PartialMarks.l1, hqm, List.length_map]
    rw [dec_nlt (by omega)]; rfl
  | d + 1, i, n + 1, hi, hn => by
    have hlim := h.rep.lim
    have ls := len_split m
    obtain ⟨x, hx, _⟩ := drop_cons (l := m) (i := i) (by omega)
    have ho : qm.2[i]? = some x.op := by rw [hqm, List.getElem?_map, hx]; rfl
    have hxm := List.mem_of_getElem? hx
    have hrl : r.1.length = (hereI m).length := hr.length_eq
    have e2 := marks_loop2 qm r (by omega) ho r.1.length 0 K1 false (Nat.zero_add _) (by unfold K1; omega) (by simp)
    replace e2 : Lw12_PartialMarks.l2 K1 qm r (i : Int) K1 (false, 0) = some (decide (x.op.item ∈ r.1)) := e2
    have hlen : (qm.2.length : Int) = (m.length : Int) := by rw [hqm, List.length_map]
    have ih := marks_loop1 h qm hqm r hr d (i + 1) n (by omega) (by omega)
    obtain ⟨p1, p2⟩ := h.rep.plain x hxm
    simp only [Lw12_PartialMarks.l1, hlen]
    rw [dec_lt (by omega)]
    simp only [cond_true, e2, Option.bind_some, atL_nat hx, atL_nat ho, beq_self_eq_true, Bool.and_self, Bool.not_true, cond_false, p1, tookB, w64_succ (i := i) (by omega)]
    cases hi1 : x.op.insert with
    | true =>
      have hin : decide (x.op.item ∈ r.1) = x.here := by
        cases hh : x.here with
        | true => exact decide_eq_true (hr.mem_iff.2 (mem_hereI.2 ⟨i, x, hx, ⟨hi1, hh⟩, rfl⟩))
        | false => exact decide_eq_false (fun h' => not_here h.rep.dist hxm hi1 hh (hr.mem_iff.1 h'))
      simp only [hin, beq_self_eq_true, Bool.not_true, cond_true, cond_false, Option.bind_some, Sum.elim_inr]
      exact ih
    | false =>
      have hh := (p2 hi1).1
      simp only [hh, beq_self_eq_true, Bool.not_true, cond_false, Option.bind_some, Sum.elim_inr]
      exact ih
theorem PartialMarks_pure (acts : List TL12Act) : Lw12_PartialMarks.f K1 acts = some true := by
  unfold Lw12_PartialMarks.f
  simp only [awake12, Option.bind_some, Bool.not_true, cond_false]
  by_cases h : (acts.length : Int) > 50
  · rw [decide_eq_true h]; rfl
  · obtain ⟨q0, q, m, E, h1, h2, h3, h4⟩ := acts_done acts (by omega)
    have hlim := h3.rep.lim
    obtain ⟨g, g1, _⟩ := refRun (m.map (·.op)) (by simp; omega)
    have r := run_cert h3.rep.dist h3.cert
    have e := marks_loop1 h3 (q, m.map (·.op)) rfl ((runR (m.map (·.op))).here, g, (runR (m.map (·.op))).free, (runR (m.map (·.op))).took) r.1 m.length 0 K1 (Nat.zero_add _) (by unfold K1; omega)
    replace e : Lw12_PartialMarks.l1 K1 (q, m.map (·.op)) ((runR (m.map (·.op))).here, g, (runR (m.map (·.op))).free, (runR (m.map (·.op))).took) m K1 0 = some (Sum.inr ()) := e
    have hbn : ((m.length : Int) != (m.length : Int)) = false := by simp
    rw [decide_eq_false h]
    simp only [cond_false, Option.bind_some, Sum.elim_inr, h1, h2, g1, partial_Queue_Marks.f, h3.rep.marks.all okM (by decide) (by omega), List.length_map, hbn, e]
end Go.Proofs.YtpeoalmhccmdiaaGreat

/- The law of acts on a shelf. -/
import Derived.Test.YtjokolmijhhinaaTz
namespace Go.Proofs.Ytjokolmijhhinaa
open Go Go.Proofs.Ytjokolmijhhinaa.Sx
set_option linter.unusedVariables false
set_option linter.unusedSimpArgs false

def slot (x : TItem) : TSlot := ⟨x, false, 0⟩
abbrev sls (l : List TItem) : List TSlot := l.map slot
/-- Where an item's place cuts a list of items. -/
structure CutI (x : TItem) (l A M B : List TItem) : Prop where
  eq : l = A ++ (M ++ B)
  la : ∀ y ∈ A, ilt y x
  lb : ∀ y ∈ B, ilt x y
  lm : M = [] ∨ M = [x]
theorem cutI {x : TItem} {l : List TItem} {a m b : List TSlot} (h : Cut ltS (slot x) (sls l) a m b) : ∃ A M B, CutI x l A M B ∧ sls A = a ∧ sls M = m ∧ sls B = b := by
  obtain ⟨A, R, h1, h2, h3⟩ := List.map_eq_append_iff.1 h.eq
  obtain ⟨M, B, h4, h5, h6⟩ := List.map_eq_append_iff.1 h3
  refine ⟨A, M, B, ⟨by rw [h1, h4], fun y hy => ?_, fun y hy => ?_, ?_⟩, h2, h5, h6⟩
  · exact h.la (slot y) (by rw [← h2]; exact List.mem_map.2 ⟨y, hy, rfl⟩)
  · exact h.lb (slot y) (by rw [← h6]; exact List.mem_map.2 ⟨y, hy, rfl⟩)
  · rcases h.lm with h7 | ⟨y, h7, h8, h9⟩
    · left; subst h7; exact List.map_eq_nil_iff.1 h5
    · right
      subst h7
      obtain ⟨z, hz, hzy⟩ := List.map_eq_singleton_iff.1 h5
      subst hzy
      have e := item_eq (a := x) (b := z) h8 h9
      rw [hz, e]
theorem CutI.len {x : TItem} {l A M B : List TItem} (h : CutI x l A M B) : l.length = A.length + (M.length + B.length) := by rw [h.eq]; simp
theorem CutI.above {x : TItem} {l A M B : List TItem} (h : CutI x l A M B) : l.filter (fun y => decide (ilt x y)) = B := by
  rw [h.eq, List.filter_append, List.filter_append]
  have h1 : A.filter (fun y => decide (ilt x y)) = [] := List.filter_eq_nil_iff.2 (fun y hy => by
    have := h.la y hy
    have : ¬ ilt x y := by unfold ilt at *; omega
    simpa using this)
  have h2 : M.filter (fun y => decide (ilt x y)) = [] := by
    rcases h.lm with h | h
    · rw [h]; rfl
    · rw [h]; simp [ilt_irrefl]
  have h3 : B.filter (fun y => decide (ilt x y)) = B := List.filter_eq_self.2 (fun y hy => by simpa using h.lb y hy)
  rw [h1, h2, h3]; rfl
theorem CutI.below {x : TItem} {l A M B : List TItem} (h : CutI x l A M B) : l.filter (fun y => decide (ilt y x)) = A := by
  rw [h.eq, List.filter_append, List.filter_append]
  have h1 : B.filter (fun y => decide (ilt y x)) = [] := List.filter_eq_nil_iff.2 (fun y hy => by
    have := h.lb y hy
    have : ¬ ilt y x := by unfold ilt at *; omega
    simpa using this)
  have h2 : M.filter (fun y => decide (ilt y x)) = [] := by
    rcases h.lm with h | h
    · rw [h]; rfl
    · rw [h]; simp [ilt_irrefl]
  have h3 : A.filter (fun y => decide (ilt y x)) = A := List.filter_eq_self.2 (fun y hy => by simpa using h.la y hy)
  rw [h1, h2, h3]; simp
theorem CutI.unique {x : TItem} {l A M B A' M' B' : List TItem} (h : CutI x l A M B) (g : CutI x l A' M' B') : A = A' ∧ M = M' ∧ B = B' := by
  have e1 : A = A' := by rw [← h.below, ← g.below]
  have e2 : B = B' := by rw [← h.above, ← g.above]
  subst e1; subst e2
  have := h.eq.symm.trans g.eq
  exact ⟨rfl, List.append_cancel_right (List.append_cancel_left this), rfl⟩
theorem at_loop (x : TItem) (l : List TItem) (a : Nat) (v : Sum Int Unit) (ha : a ≤ l.length) (hl : l.length < 1000000) (h1 : ∀ y ∈ l.take a, y ≠ x) (h2 : (∃ y, l[a]? = some y ∧ y = x ∧ v = Sum.inl (a : Int)) ∨ (a = l.length ∧ v = Sum.inr ())) : ∀ (d i n : Nat), i + d = a → d < n → R09_At.l0 K1 l x n (i : Int) = some v
  | d, i, 0, _, h => by omega
  | 0, i, n + 1, hi, _ => by
    have : i = a := by omega
    subst this
    simp only [R09_At.l0]
    rcases h2 with ⟨y, hy, rfl, rfl⟩ | ⟨h2, rfl⟩
    · have hlt := (List.getElem?_eq_some_iff.1 hy).1
      rw [dec_lt hlt]
      simp only [cond_true, atL_nat hy, Option.bind_some, itemB, decide_true]
    · rw [dec_nlt (by omega)]; rfl
  | d + 1, i, n + 1, hi, hn => by
    obtain ⟨y, hy, _⟩ := drop_cons (l := l) (i := i) (by omega)
    have h3 : y ≠ x := h1 y (List.mem_of_getElem? (i := i) (by rw [List.getElem?_take_of_lt (by omega)]; exact hy))
    simp only [R09_At.l0]
    rw [dec_lt (by omega)]
    simp only [cond_true, atL_nat hy, Option.bind_some, itemB, h3, decide_false, cond_false, w64_succ (i := i) (by omega)]
    exact at_loop x l a v ha hl h1 h2 d (i + 1) n (by omega) (by omega)
theorem refAt {x : TItem} {l A M B : List TItem} (h : CutI x l A M B) (hl : l.length < 1000000) : R09_At.f K1 l x = some (if M = [] then -1 else (A.length : Int)) := by
  have hlen := h.len
  have hA : ∀ y ∈ A, y ≠ x := fun y hy e => by have := h.la y hy; rw [e] at this; exact ilt_irrefl _ this
  have hB : ∀ y ∈ B, y ≠ x := fun y hy e => by have := h.lb y hy; rw [e] at this; exact ilt_irrefl _ this
  unfold R09_At.f
  rcases h.lm with hm | hm
  · have hlt : l.length < K1 := by unfold K1; omega
    have e := at_loop x l l.length (Sum.inr ()) (Nat.le_refl _) hl (fun y hy => by
      rw [List.take_length, h.eq, hm] at hy
      rcases List.mem_append.1 hy with hy | hy
      · exact hA y hy
      · exact hB y (by simpa using hy)) (.inr ⟨rfl, rfl⟩) l.length 0 K1 (Nat.zero_add _) hlt
    replace e : R09_At.l0 K1 l x K1 0 = some (Sum.inr ()) := e
    rw [e, if_pos hm]; rfl
  · have hlt : A.length < K1 := by unfold K1; omega
    have e := at_loop x l A.length (Sum.inl (A.length : Int)) (by omega) hl (fun y hy => by
      rw [h.eq, List.take_left' rfl] at hy
      exact hA y hy) (.inl ⟨x, by rw [h.eq, List.getElem?_append_right (Nat.le_refl _), hm]; simp, rfl, rfl⟩) A.length 0 K1 (Nat.zero_add _) hlt
    replace e : R09_At.l0 K1 l x K1 0 = some (Sum.inl (A.length : Int)) := e
    rw [e, if_neg (by rw [hm]; simp)]; rfl
theorem nat_in {a n : Nat} (h : a ≤ n) : decide ((0 : Int) ≤ (a : Int) ∧ (a : Int) ≤ (n : Int)) = true := by simp; omega
theorem refDrop {x : TItem} {l A M B : List TItem} (h : CutI x l A M B) (hl : l.length < 1000000) : R09_Drop.f K1 l x = some (A ++ B) := by
  have hlen := h.len
  unfold R09_Drop.f
  rw [refAt h hl]
  simp only [Option.bind_some]
  rcases h.lm with hm | hm
  · subst hm
    have e := h.eq
    simp only [List.nil_append] at e
    simp [e]
  · subst hm
    have e1 : A.length - 0 = A.length := Nat.sub_zero _
    have hsu : w64 ((A.length : Int) + 1) = ((A.length + 1 : Nat) : Int) := w64_succ (by omega)
    have hta : l.take A.length = A := by rw [h.eq, List.take_left' rfl]
    have hdr : (l.drop (A.length + 1)).take (l.length - (A.length + 1)) = B := by
      rw [List.take_of_length_le (by simp)]
      rw [show l = (A ++ [x]) ++ B by rw [h.eq]; simp, List.drop_left' (by simp)]
    have h0 : ¬ ((A.length : Int) < 0) := by omega
    rw [if_neg (by simp)]
    simp only [List.length_cons, List.length_nil] at hlen
    simp only [h0, decide_false, cond_false, Int.toNat_natCast, e1, List.drop_zero, hta, List.nil_append, hsu, hdr]
    rw [nat_in (by omega), nat_in (by omega)]
    simp only [cond_true]
    rw [decide_eq_true (p := ([] : List TItem).length + A.length < 4294967296) (by simp; omega), decide_eq_true (by omega)]
    simp only [cond_true]
theorem refPut {x : TItem} {l A M B : List TItem} (h : CutI x l A M B) (hs : l.Pairwise ilt) (hl : l.length + 1 < 1000000) : R09_Put.f K1 l x = some (A ++ x :: B) := by
  have hlen := h.len
  unfold R09_Put.f
  rw [refAt h (by omega)]
  simp only [Option.bind_some]
  rcases h.lm with hm | hm
  · rw [if_pos hm]
    obtain ⟨r, r1, r2, r3⟩ := sorted_f K1 (l ++ [x]) (by simp; omega) (Nat.le_refl _)
    have hsA : Sorted (A ++ x :: B) := by
      rw [h.eq, hm, List.nil_append] at hs
      obtain ⟨s1, s2, s3⟩ := List.pairwise_append.1 hs
      refine List.pairwise_append.2 ⟨s1.imp (fun h => ilt_ile h), List.pairwise_cons.2 ⟨fun y hy => ilt_ile (h.lb y hy), s2.imp (fun h => ilt_ile h)⟩, fun y hy z hz => ?_⟩
      rcases List.mem_cons.1 hz with rfl | hz
      · exact ilt_ile (h.la y hy)
      · exact ilt_ile (s3 y hy z hz)
    have hp : r.Perm (A ++ x :: B) := by
      refine r3.trans ?_
      rw [h.eq, hm, List.nil_append, List.append_assoc]
      exact List.Perm.append_left _ List.perm_append_comm
    have : r = A ++ x :: B := sorted_perm_eq r2 hsA hp
    simp only [show decide ((-1 : Int) ≥ 0) = false from rfl, cond_false, List.nil_append]
    rw [decide_eq_true (p := ([] : List TItem).length + l.length < 4294967296) (by simp; omega), decide_eq_true (by simp; omega)]
    simp only [cond_true, r1, Option.bind_some, this]
  · rw [if_neg (by rw [hm]; simp)]
    have h0 : ((A.length : Int) ≥ 0) := by omega
    simp only [h0, decide_true, cond_true]
    rw [h.eq, hm]; simp
theorem items_loop (l : List TItem) (hl : l.length < 1000000) : ∀ (d i n : Nat), i + d = l.length → d < n → shelf_Items.l0 K1 (sls l) n (l.take i, (i : Int)) = some l
  | d, i, 0, _, h => by omega
  | 0, i, n + 1, hi, _ => by
    simp only [shelf_Items.l0, List.length_map]
    rw [dec_nlt (by omega), List.take_of_length_le (by omega)]; rfl
  | d + 1, i, n + 1, hi, hn => by
    obtain ⟨x, hx, _⟩ := drop_cons (l := l) (i := i) (by omega)
    have hx' : (sls l)[i]? = some (slot x) := by rw [List.getElem?_map, hx]; rfl
    have ht : l.take (i + 1) = l.take i ++ [x] := by rw [List.take_add_one, hx]; rfl
    have e : l.take i ++ [(slot x).item] = l.take (i + 1) := ht.symm
    simp only [shelf_Items.l0, List.length_map]
    rw [dec_lt (by omega)]
    simp only [cond_true, atL_nat hx', Option.bind_some]
    rw [decide_eq_true (by simp; omega)]
    simp only [cond_true, e, w64_succ (i := i) (by omega)]
    exact items_loop l hl d (i + 1) n (by omega) (by omega)
theorem same_loop (l : List TItem) (hl : l.length < 1000000) : ∀ (d i n : Nat), i + d = l.length → d < n → R02_Same.l0 K1 l l n (i : Int) = some (Sum.inr ())
  | d, i, 0, _, h => by omega
  | 0, i, n + 1, hi, _ => by
    simp only [R02_Same.l0]
    rw [dec_nlt (by omega)]; rfl
  | d + 1, i, n + 1, hi, hn => by
    obtain ⟨x, hx, _⟩ := drop_cons (l := l) (i := i) (by omega)
    simp only [R02_Same.l0]
    rw [dec_lt (by omega)]
    simp only [cond_true, atL_nat hx, Option.bind_some, beq_self_eq_true, Bool.and_self, Bool.not_true, cond_false, w64_succ (i := i) (by omega)]
    exact same_loop l hl d (i + 1) n (by omega) (by omega)
theorem refSame (l : List TItem) (hl : l.length < 1000000) : R02_Same.f K1 l l = some true := by
  unfold R02_Same.f
  have e0 : ((l.length : Int) != (l.length : Int)) = false := by simp
  have hlt : l.length < K1 := by unfold K1; omega
  have e := same_loop l hl l.length 0 K1 (Nat.zero_add _) hlt
  replace e : R02_Same.l0 K1 l l K1 0 = some (Sum.inr ()) := e
  rw [e0, e]; rfl
theorem filter_take {l : List TItem} {i : Nat} {x : TItem} (hx : l[i]? = some x) (p : TItem → Bool) : (l.take (i + 1)).filter p = (l.take i).filter p ++ (bif p x then [x] else []) := by
  rw [List.take_add_one, hx, List.filter_append]
  cases h : p x <;> simp [h]
theorem above_loop (x : TItem) (l : List TItem) (hl : l.length < 1000000) : ∀ (d i n : Nat), i + d = l.length → d < n → R09_Above.l0 K1 l x n ((((l.take i).filter (fun y => decide (ilt x y))).length : Int), (i : Int)) = some ((l.filter (fun y => decide (ilt x y))).length : Int)
  | d, i, 0, _, h => by omega
  | 0, i, n + 1, hi, _ => by
    simp only [R09_Above.l0]
    rw [dec_nlt (by omega), List.take_of_length_le (by omega)]; rfl
  | d + 1, i, n + 1, hi, hn => by
    obtain ⟨y, hy, _⟩ := drop_cons (l := l) (i := i) (by omega)
    have hft := filter_take hy (fun y => decide (ilt x y))
    have hfl := List.length_filter_le (fun y => decide (ilt x y)) (l.take i)
    rw [List.length_take] at hfl
    have ih := above_loop x l hl d (i + 1) n (by omega) (by omega)
    rw [hft] at ih
    simp only [R09_Above.l0]
    rw [dec_lt (by omega)]
    simp only [cond_true, atL_nat hy, Option.bind_some, Ahead_eq, w64_succ (i := i) (by omega)]
    by_cases h : ilt x y
    · simp only [h, decide_true, cond_true] at ih ⊢
      rw [w64_succ (by omega)]
      simpa using ih
    · simp only [h, decide_false, cond_false, List.append_nil] at ih ⊢
      exact ih
theorem refAbove {x : TItem} {l A M B : List TItem} (h : CutI x l A M B) (hl : l.length < 1000000) : R09_Above.f K1 l x = some (B.length : Int) := by
  have hlt : l.length < K1 := by unfold K1; omega
  have e := above_loop x l hl l.length 0 K1 (Nat.zero_add _) hlt
  rw [h.above] at e
  replace e : R09_Above.l0 K1 l x K1 (0, 0) = some (B.length : Int) := e
  unfold R09_Above.f; rw [e]; rfl
theorem sls_sorted {l : List TItem} (h : InOrd ltS (sls l)) : l.Pairwise ilt := ((List.pairwise_map (f := slot) (R := ltS)).1 h).imp (fun h => h)
/-- What a shelf answers. -/
theorem shelf_ok {p : PN TSlot TSize} {r : TRef} {l : List TItem} {c : Int} {B : Nat} (h : GrS p r (sls l) c B) (hl : l.length < 1000000) (x : TItem) : shelf_Items.f K1 p r = some l ∧ Tree_Len.f opsS K1 p r = some (l.length : Int) ∧ Tree_Between.f opsS K1 p r 0 (l.length : Int) = some ((l.length : Int) : TSize) ∧ ∃ v, shelf_Above.f K1 p r x = some v ∧ R09_Above.f K1 l x = some v := by
  have hl' : (sls l).length < 1000000 := by simpa using hl
  have q1 := h.all okS (by decide) hl'
  have q2 := h.len okS
  rw [List.length_map] at q2
  obtain ⟨s, q3, q4⟩ := h.between okS (by decide) 0 (l.length : Int) hl'
  rw [seg_all (Int.le_refl _) (by rw [List.length_map]; exact Int.le_refl _), lenS', List.length_map] at q4
  refine ⟨?_, q2, by rw [q3, q4], ?_⟩
  · have hlt : l.length < K1 := by unfold K1; omega
    have e := items_loop l hl l.length 0 K1 (Nat.zero_add _) hlt
    replace e : shelf_Items.l0 K1 (sls l) K1 (([] : List TItem), 0) = some l := e
    unfold shelf_Items.f
    rw [q1]; simp only [Option.bind_some, e]
  · obtain ⟨a, m, b, hc, r1⟩ := h.rank okS (by decide) (slot x) hl'
    obtain ⟨a', m', b', hc', r2⟩ := h.find okS (by decide) (slot x) hl'
    obtain ⟨A, M, B, c1, rfl, rfl, rfl⟩ := cutI hc
    obtain ⟨A', M', B', c2, rfl, rfl, rfl⟩ := cutI hc'
    obtain ⟨rfl, rfl, rfl⟩ := c1.unique c2
    refine ⟨(B.length : Int), ?_, refAbove c1 hl⟩
    have hlen := c1.len
    have r1' : Tree_Rank.f opsS K1 p r ⟨x, false, 0⟩ = _ := r1
    have r2' : Tree_Find.f opsS K1 p r ⟨x, false, 0⟩ = _ := r2
    unfold shelf_Above.f shelf_Of.f
    simp only [q2, Option.bind_some, r1', r2', List.length_map]
    rw [w64_id (x := (l.length : Int) - (A.length : Int)) (by omega) (by omega)]
    rcases c1.lm with hm | hm
    · subst hm
      simp only [List.map_nil, cond_false, List.length_nil] at hlen ⊢
      congr 1; omega
    · subst hm
      simp only [List.map_cons, cond_true, List.length_cons, List.length_nil] at hlen ⊢
      rw [w64_id (by omega) (by omega)]
      congr 1; omega
theorem acts_loop (acts : List TL09Act) (x : TItem) (h60 : acts.length ≤ 60) : ∀ (d i n : Nat) {p : PN TSlot TSize} {r : TRef} {l : List TItem}, i + d = acts.length → d < n → GrS p r (sls l) 60 i → l.length ≤ i → Lw09_ShelfActs.l0 K1 acts x n (p, r.index, r.gen, l, (i : Int)) = some (Sum.inr ())
  | d, i, 0, _, _, _, _, h, _, _ => by omega
  | 0, i, n + 1, p, r, l, hi, _, h, hw => by
    simp only [Lw09_ShelfActs.l0]
    rw [dec_nlt (by omega)]; rfl
  | d + 1, i, n + 1, p, r, l, hi, hn, h, hw => by
    obtain ⟨e, he, _⟩ := drop_cons (l := acts) (i := i) (by omega)
    have hl' : (sls l).length < 1000000 := by rw [List.length_map]; omega
    have fin : ∀ {p' : PN TSlot TSize} {r' : TRef} {l' : List TItem}, GrS p' r' (sls l') 60 (i + 1) → l'.length ≤ i + 1 →
        ((shelf_Items.f K1 p' (TRef.mk r'.index r'.gen)).bind fun x18 => (R02_Same.f K1 x18 l').bind fun x19 => bif (!x19) then (some (Sum.inl false)) else ((Tree_Len.f opsS K1 p' (TRef.mk r'.index r'.gen)).bind fun x20 => (Tree_Between.f opsS K1 p' (TRef.mk r'.index r'.gen) 0 x20).bind fun x21 => bif (x21 != (l'.length : Int)) then (some (Sum.inl false)) else ((shelf_Above.f K1 p' (TRef.mk r'.index r'.gen) x).bind fun x22 => (R09_Above.f K1 l' x).bind fun x23 => bif (x22 != x23) then (some (Sum.inl false)) else (Lw09_ShelfActs.l0 K1 acts x n (p', r'.index, r'.gen, l', (w64 ((i : Int) + 1))))))) = some (Sum.inr ()) := by
      intro p' r' l' g1 g2
      obtain ⟨s1, s2, s3, v, s4, s5⟩ := shelf_ok g1 (by omega) x
      have s1' : shelf_Items.f K1 p' (TRef.mk r'.index r'.gen) = some l' := s1
      have s2' : Tree_Len.f opsS K1 p' (TRef.mk r'.index r'.gen) = some (l'.length : Int) := s2
      have s3' : Tree_Between.f opsS K1 p' (TRef.mk r'.index r'.gen) 0 (l'.length : Int) = some ((l'.length : Int) : TSize) := s3
      have s4' : shelf_Above.f K1 p' (TRef.mk r'.index r'.gen) x = some v := s4
      have e0 : (((l'.length : Int) : TSize) != (l'.length : Int)) = false := by simp
      have e1 : (v != v) = false := by simp
      simp only [s1', refSame l' (by omega), Option.bind_some, Bool.not_true, cond_false, s2', s3', e0, s4', s5, e1, w64_succ (i := i) (by omega)]
      exact acts_loop acts x h60 d (i + 1) n (by omega) (by omega) g1 g2
    simp only [Lw09_ShelfActs.l0]
    rw [dec_lt (by omega)]
    simp only [cond_true, atL_nat he, Option.bind_some, shelf_Of.f]
    cases hd : e.drop
    · obtain ⟨a, m, b, hcut, hres⟩ := h.put okS (by decide) (slot e.x) trivial (by omega) (by rw [List.length_map]; omega)
      obtain ⟨A, M, B, c1, rfl, rfl, rfl⟩ := cutI hcut
      rcases hres with ⟨_, h2, _⟩ | ⟨r', p', _, q1, q2⟩
      · rw [List.length_map] at h2; omega
      · have q1' : Tree_Put.f opsS K1 p ⟨r.index, r.gen⟩ ⟨e.x, false, 0⟩ = some (true, r', p') := q1
        have hlen := c1.len
        simp only [cond_false, q1', Option.bind_some, Bool.not_true, refPut c1 (sls_sorted h.sorted) (by omega), Sum.elim_inr]
        refine fin (l' := A ++ e.x :: B) ?_ ?_
        · have : sls (A ++ e.x :: B) = sls A ++ slot e.x :: sls B := by simp
          rw [this]; exact q2
        · simp only [List.length_append, List.length_cons]; omega
    · obtain ⟨a, m, b, hcut, hres⟩ := h.drop okS (by decide) (slot e.x) hl'
      obtain ⟨A, M, B, c1, rfl, rfl, rfl⟩ := cutI hcut
      have hlen := c1.len
      rcases hres with ⟨h2, q1⟩ | ⟨y, r', p', h2, q1, q2⟩
      · have hm : M = [] := List.map_eq_nil_iff.1 h2
        subst hm
        have q1' : Tree_Drop.f opsS K1 p ⟨r.index, r.gen⟩ ⟨e.x, false, 0⟩ = some (opsS.zE, false, r, p) := q1
        have ha := refAt c1 (by omega)
        rw [if_pos rfl] at ha
        have e0 : (false == decide ((-1 : Int) ≥ 0)) = true := rfl
        simp only [cond_true, q1', ha, Option.bind_some, e0, Bool.not_true, cond_false, refDrop c1 (by omega), Sum.elim_inr]
        have heq : A ++ B = l := by rw [c1.eq]; simp
        rw [heq]
        refine fin (l' := l) ?_ (by omega)
        obtain ⟨t, hP, hr, ht⟩ := h.ex
        exact ⟨⟨t, hP.mono (by omega) (by omega), hr, ht⟩, h.sorted, h.good, h.cap⟩
      · have hm : M = [e.x] := by
          rcases c1.lm with hm | hm
          · rw [hm] at h2; cases h2
          · exact hm
        subst hm
        have hy : y = slot e.x := by simpa using h2.symm
        subst hy
        have q1' : Tree_Drop.f opsS K1 p ⟨r.index, r.gen⟩ ⟨e.x, false, 0⟩ = some (slot e.x, true, r', p') := q1
        have ha := refAt c1 (by omega)
        rw [if_neg (by simp)] at ha
        have e0 : (true == decide ((A.length : Int) ≥ 0)) = true := by simp
        simp only [cond_true, q1', ha, Option.bind_some, e0, Bool.not_true, cond_false, slot, beq_self_eq_true, Bool.and_self, refDrop c1 (by omega), Sum.elim_inr]
        refine fin (l' := A ++ B) ?_ ?_
        · have : sls (A ++ B) = sls A ++ sls B := by simp
          rw [this]
          obtain ⟨t, hP, hr, ht⟩ := q2.ex
          exact ⟨⟨t, hP.mono (by omega) (by omega), hr, ht⟩, q2.sorted, q2.good, q2.cap⟩
        · simp only [List.length_append]; omega
theorem ShelfActs_pure (acts : List TL09Act) (x : TItem) : Lw09_ShelfActs.f K1 acts x = some true := by
  unfold Lw09_ShelfActs.f
  simp only [awake09, Option.bind_some, Bool.not_true, cond_false]
  by_cases h : (acts.length : Int) > 60
  · simp only [h, decide_true, cond_true, Option.bind_some, Sum.elim_inl]
  · have h60 : acts.length ≤ 60 := by omega
    have hlt : acts.length < K1 := by unfold K1; omega
    have h0 : GrS (⟨[], [], capOf 60, 0, 0⟩ : PN TSlot TSize) zTRef (sls []) 60 0 := Gr.new 60 0 (by decide)
    have e := acts_loop acts x h60 acts.length 0 K1 (Nat.zero_add _) hlt h0 (Nat.le_refl _)
    replace e : Lw09_ShelfActs.l0 K1 acts x K1 ((⟨[], [], capOf 60, 0, 0⟩ : PN TSlot TSize), zTRef.index, zTRef.gen, ([] : List TItem), 0) = some (Sum.inr ()) := e
    simp only [h, decide_false, cond_false, Option.bind_some, Sum.elim_inr, shelf_New.f, Tree_New.f, e, shelf_Items_z.f, shelf_Above_z.f]
    rfl
end Go.Proofs.Ytjokolmijhhinaa

/- The groves of the laws: their elements, the document's lists. -/
import Derived.KernelRfl
import Derived.Test.YtjokolmijhhinaaTk
import Derived.Test.YtjokolmijhhinaaTt
namespace Go.Proofs.Ytjokolmijhhinaa
open Go Go.Proofs.Ytjokolmijhhinaa.Sx
set_option linter.unusedVariables false
set_option linter.unusedSimpArgs false

abbrev K1 : Nat := 1000001
abbrev ltE (a b : TL07Elem) : Prop := a.k < b.k
abbrev wsE (l : List TL07Elem) : List Int := l.map (·.w)
abbrev SE (s : TTide) (l : List TL07Elem) : Prop := s = tideF (wsE l)
abbrev GE (x : TL07Elem) : Prop := -1000000 ≤ x.w ∧ x.w ≤ 1000000
theorem smallE {l : List TL07Elem} (h : ∀ x ∈ l, GE x) : smallN (wsE l) := by
  intro y hy
  obtain ⟨x, hx, rfl⟩ := List.mem_map.1 hy
  have := h x hx
  simp only [GE] at this; omega
theorem okE : OpsOk opsE K1 1000000 GE SE ltE where
  cmp a b := by
    unfold opsE Lw07_elem_Compare.f ltE
    by_cases h1 : a.k < b.k
    · exact ⟨-1, by simp [h1], by omega, by omega⟩
    · by_cases h2 : b.k < a.k
      · exact ⟨1, by simp [h1, h2], by omega, by omega⟩
      · exact ⟨0, by simp [h1, h2], by omega, by omega⟩
  sum e he := by
    refine ⟨tideF [e.w], ?_, rfl⟩
    show Lw07_elem_Sum.f K1 e = _
    unfold Lw07_elem_Sum.f
    have hs : smallN [e.w] := smallE (l := [e]) (by simpa using he)
    rw [tideOf_eq K1 hs (by simp) (by unfold K1; simp)]; rfl
  plus := by
    rintro a b l r rfl rfl hG hN
    refine ⟨_, ?_, rfl⟩
    show tide_Tide_Plus.f K1 _ _ = _
    rw [tidePlus_eq K1 (by have := smallE hG; simpa using this) (by simpa using hN)]
    simp
  zero := rfl
  irrefl a := by simp
  trans := by intro a b c h1 h2; unfold ltE at *; omega
  left := by intro a b c h1 h2 h3; unfold ltE at *; omega
  right := by intro a b c h1 h2 h3; unfold ltE at *; omega
  big := by decide
abbrev GrE := Gr SE ltE GE
theorem awake07 : Lw07_awake.f K1 = some true := by kernel_rfl

/-! ### the document's -/
def toR (x : TL07Elem) : TR07Elem := ⟨x.k, x.w⟩
abbrev rl (l : List TL07Elem) : List TR07Elem := l.map toR
theorem toR_inj {x y : TL07Elem} (h : toR x = toR y) : x = y := by
  cases x; cases y; simp [toR] at h; simp [h]
theorem refRank_loop (key : Int) (l : List TR07Elem) (a : Nat) (ha : a ≤ l.length) (hl : l.length < 1000000) (h1 : ∀ x ∈ l.take a, x.k < key) (h2 : ∀ x, l[a]? = some x → ¬ x.k < key) : ∀ (d i n : Nat), i + d = a → d < n → R07_Rank.l0 K1 l key n (i : Int) = some (a : Int)
  | d, i, 0, _, h => by omega
  | 0, i, n + 1, hi, _ => by
    have : i = a := by omega
    subst this
    simp only [R07_Rank.l0]
    by_cases h : i < l.length
    · obtain ⟨x, hx, _⟩ := drop_cons h
      have := h2 x hx
      rw [dec_lt h]
      simp only [cond_true, atL_nat hx, Option.bind_some, this, decide_false, cond_false]
    · rw [dec_nlt (by omega)]; rfl
  | d + 1, i, n + 1, hi, hn => by
    obtain ⟨x, hx, _⟩ := drop_cons (l := l) (i := i) (by omega)
    have h3 : x.k < key := h1 x (List.mem_of_getElem? (i := i) (by rw [List.getElem?_take_of_lt (by omega)]; exact hx))
    simp only [R07_Rank.l0]
    rw [dec_lt (by omega)]
    simp only [cond_true, atL_nat hx, Option.bind_some, h3, decide_true, w64_succ (i := i) (by omega)]
    exact refRank_loop key l a ha hl h1 h2 d (i + 1) n (by omega) (by omega)
theorem refRank {e : TL07Elem} {l a m b : List TL07Elem} (h : Cut ltE e l a m b) (hl : l.length < 1000000) : R07_Rank.f K1 (rl l) e.k = some (a.length : Int) := by
  have hlen : l.length = a.length + (m.length + b.length) := by rw [h.eq]; simp
  unfold R07_Rank.f
  have := refRank_loop e.k (rl l) a.length (by simp; omega) (by simpa using hl) (by
    intro x hx
    rw [h.eq] at hx
    simp only [List.map_append] at hx
    rw [List.take_left' (by simp)] at hx
    obtain ⟨y, hy, rfl⟩ := List.mem_map.1 hx
    exact h.la y hy) (by
    intro x hx
    rw [h.eq] at hx
    simp only [List.map_append] at hx
    rw [List.getElem?_append_right (by simp)] at hx
    simp only [List.length_map, Nat.sub_self] at hx
    have hx' := List.mem_of_getElem? hx
    rcases List.mem_append.1 hx' with hx' | hx'
    · obtain ⟨y, hy, rfl⟩ := List.mem_map.1 hx'
      rcases h.lm with h1 | ⟨z, h1, h2, h3⟩
      · rw [h1] at hy; cases hy
      · rw [h1] at hy; simp at hy; subst hy; exact h3
    · obtain ⟨y, hy, rfl⟩ := List.mem_map.1 hx'
      have := h.lb y hy
      simp only [toR]; unfold ltE at this; omega) a.length 0 K1 (by omega) (by unfold K1; omega)
  have e : R07_Rank.l0 K1 (rl l) e.k K1 0 = some (a.length : Int) := this
  rw [e]; rfl
theorem toR_at {l a m b : List TL07Elem} (he : l = a ++ (m ++ b)) : (rl l)[a.length]? = (rl (m ++ b))[0]? := by
  rw [he]; simp only [List.map_append]
  rw [List.getElem?_append_right (by simp)]; simp
theorem nat_ok {a n : Nat} (h : a ≤ n) : decide ((0 : Int) ≤ (a : Int) ∧ (a : Int) ≤ (n : Int)) = true := by simp; omega
theorem refPut {e : TL07Elem} {l a m b : List TL07Elem} (h : Cut ltE e l a m b) (hl : l.length < 1000000) (c : Int) :
    R07_Put.f K1 (rl l) (toR e) c = some (if m = [] ∧ (l.length : Int) ≥ c then (rl l, false) else (rl (a ++ e :: b), true)) := by
  have hlen : l.length = a.length + (m.length + b.length) := by rw [h.eq]; simp
  have hr : R07_Rank.f K1 (rl l) (toR e).k = some (a.length : Int) := refRank h hl
  have hta : (rl l).take a.length = rl a := by rw [h.eq]; simp
  unfold R07_Put.f
  rw [hr]
  simp only [Option.bind_some]
  rw [nat_ok (by simp; omega)]
  have e1 : a.length - 0 = a.length := by omega
  simp only [e1, List.drop_zero, hta, List.nil_append, cond_true, Int.toNat_natCast]
  rw [decide_eq_true (p := ([] : List TR07Elem).length + (rl a).length < 4294967296) (by simp; omega)]
  simp only [cond_true]
  have hputL : decide ((rl a).length + [toR e].length < 4294967296) = true := decide_eq_true (by simp; omega)
  rcases h.lm with hm | ⟨y, hm, h2, h3⟩
  · subst hm
    have hdr : ((rl l).drop a.length).take ((rl l).length - a.length) = rl b := by
      rw [List.take_of_length_le (by simp)]
      have : rl l = rl a ++ rl b := by rw [h.eq]; simp
      rw [this, List.drop_left' (by simp)]
    have hcont : (bif decide ((a.length : Int) < ((rl l).length : Int)) then ((atL (rl l) (a.length : Int)).bind fun x3 => bif (x3.k == (toR e).k) then (bif decide ((rl a).length + ([toR e] : List TR07Elem).length < 4294967296) then (bif decide (0 ≤ (w64 ((a.length : Int) + 1)) ∧ (w64 ((a.length : Int) + 1)) ≤ ((rl l).length : Int)) then (bif decide ((rl a ++ ([toR e] : List TR07Elem)).length + (((rl l).drop (((w64 ((a.length : Int) + 1))).toNat)).take ((rl l).length - (((w64 ((a.length : Int) + 1))).toNat))).length < 4294967296) then (some (Sum.inl ((rl a ++ ([toR e] : List TR07Elem)) ++ (((rl l).drop (((w64 ((a.length : Int) + 1))).toNat)).take ((rl l).length - (((w64 ((a.length : Int) + 1))).toNat))), true))) else none) else none) else none) else (some (Sum.inr ()))) else (some (Sum.inr ()))) = (some (Sum.inr ()) : Option (Sum (List TR07Elem × Bool) Unit)) := by
      by_cases hb : a.length < (rl l).length
      · rw [dec_lt hb]
        cases b with
        | nil => simp at hb hlen; omega
        | cons z b' =>
          have hz : (rl l)[a.length]? = some (toR z) := by rw [toR_at h.eq]; rfl
          have hk : ((toR z).k == (toR e).k) = false := by
            have := h.lb z List.mem_cons_self
            simp only [toR]; unfold ltE at this; simp; omega
          simp only [cond_true, atL_nat hz, Option.bind_some, hk, cond_false]
      · rw [dec_nlt (by omega)]; rfl
    rw [hcont]
    simp only [Option.bind_some, Sum.elim_inr, List.length_map, true_and]
    by_cases hc : (l.length : Int) ≥ c
    · simp only [hc, decide_true, cond_true, if_true]
    · simp only [hc, decide_false, cond_false, if_false]
      rw [List.length_map] at hputL hdr
      rw [hputL, hdr]
      simp only [cond_true]
      rw [decide_eq_true (by simp; omega)]
      simp
  · subst hm
    have hz : (rl l)[a.length]? = some (toR y) := by rw [toR_at h.eq]; rfl
    have hk : ((toR y).k == (toR e).k) = true := by
      simp only [toR]; unfold ltE at h2 h3; simp; omega
    simp only [List.length_cons, List.length_nil] at hlen
    have hsu : w64 ((a.length : Int) + 1) = ((a.length + 1 : Nat) : Int) := w64_succ (by omega)
    have hdr : ((rl l).drop (a.length + 1)).take ((rl l).length - (a.length + 1)) = rl b := by
      rw [List.take_of_length_le (by simp)]
      have : rl l = (rl a ++ [toR y]) ++ rl b := by rw [h.eq]; simp
      rw [this, List.drop_left' (by simp)]
    rw [dec_lt (by simp; omega)]
    simp only [cond_true, atL_nat hz, Option.bind_some, hk, hputL, hsu, Int.toNat_natCast, hdr]
    rw [nat_ok (by simp; omega)]
    simp only [cond_true]
    rw [decide_eq_true (by simp; omega)]
    simp
theorem refDrop {e : TL07Elem} {l a m b : List TL07Elem} (h : Cut ltE e l a m b) (hl : l.length < 1000000) :
    R07_Drop.f K1 (rl l) e.k = some (match m with | [] => (rl l, zTR07Elem, false) | y :: _ => (rl (a ++ b), toR y, true)) := by
  have hlen : l.length = a.length + (m.length + b.length) := by rw [h.eq]; simp
  have hr : R07_Rank.f K1 (rl l) e.k = some (a.length : Int) := refRank h hl
  have hta : (rl l).take a.length = rl a := by rw [h.eq]; simp
  unfold R07_Drop.f
  rw [hr]
  simp only [Option.bind_some]
  rcases h.lm with hm | ⟨y, hm, h2, h3⟩
  · subst hm
    cases b with
    | nil =>
      have h0 : ((a.length : Int) == ((rl l).length : Int)) = true := by simp at hlen ⊢; omega
      simp only [h0, cond_true, Option.bind_some, Sum.elim_inl]
    | cons z b' =>
      have h0 : ((a.length : Int) == ((rl l).length : Int)) = false := by simp at hlen ⊢; omega
      have hz : (rl l)[a.length]? = some (toR z) := by rw [toR_at h.eq]; rfl
      have hk : ((toR z).k != e.k) = true := by
        have := h.lb z List.mem_cons_self
        simp only [toR]; unfold ltE at this; simp; omega
      simp only [h0, cond_false, atL_nat hz, Option.bind_some, hk, cond_true, Sum.elim_inl]
  · subst hm
    simp only [List.length_cons, List.length_nil] at hlen
    have h0 : ((a.length : Int) == ((rl l).length : Int)) = false := by simp; omega
    have hz : (rl l)[a.length]? = some (toR y) := by rw [toR_at h.eq]; rfl
    have hk : ((toR y).k != e.k) = false := by
      simp only [toR]; unfold ltE at h2 h3; simp; omega
    have hsu : w64 ((a.length : Int) + 1) = ((a.length + 1 : Nat) : Int) := w64_succ (by omega)
    have hdr : ((rl l).drop (a.length + 1)).take ((rl l).length - (a.length + 1)) = rl b := by
      rw [List.take_of_length_le (by simp)]
      have : rl l = (rl a ++ [toR y]) ++ rl b := by rw [h.eq]; simp
      rw [this, List.drop_left' (by simp)]
    have e1 : a.length - 0 = a.length := by omega
    simp only [h0, cond_false, atL_nat hz, Option.bind_some, hk, Sum.elim_inr, e1, List.drop_zero, hta, List.nil_append, hsu, Int.toNat_natCast, hdr]
    rw [nat_ok (by simp; omega), nat_ok (by simp; omega)]
    simp only [cond_true]
    rw [decide_eq_true (p := ([] : List TR07Elem).length + (rl a).length < 4294967296) (by simp; omega), decide_eq_true (by simp; omega)]
    simp
theorem refSame_loop (l : List TR07Elem) (hl : l.length < 1000000) : ∀ (d i n : Nat), i + d = l.length → d < n → R07_Same.l0 K1 l l n (i : Int) = some (Sum.inr ())
  | d, i, 0, _, h => by omega
  | 0, i, n + 1, hi, _ => by
    simp only [R07_Same.l0]
    rw [dec_nlt (by omega)]; rfl
  | d + 1, i, n + 1, hi, hn => by
    obtain ⟨x, hx, _⟩ := drop_cons (l := l) (i := i) (by omega)
    simp only [R07_Same.l0]
    rw [dec_lt (by omega)]
    simp only [cond_true, atL_nat hx, Option.bind_some, beq_self_eq_true, Bool.and_self, Bool.not_true, cond_false, w64_succ (i := i) (by omega)]
    exact refSame_loop l hl d (i + 1) n (by omega) (by omega)
theorem refSame (l : List TR07Elem) (hl : l.length < 1000000) : R07_Same.f K1 l l = some true := by
  unfold R07_Same.f
  have e0 : ((l.length : Int) != (l.length : Int)) = false := by simp
  have e : R07_Same.l0 K1 l l K1 0 = some (Sum.inr ()) := refSame_loop l hl l.length 0 K1 (by omega) (by unfold K1; omega)
  rw [e0, e]; rfl
theorem alike_loop (l : List TL07Elem) (hl : l.length < 1000000) : ∀ (d i n : Nat), i + d = l.length → d < n → Lw07_alike.l0 K1 l n (rl (l.take i), (i : Int)) = some (rl l)
  | d, i, 0, _, h => by omega
  | 0, i, n + 1, hi, _ => by
    simp only [Lw07_alike.l0]
    rw [dec_nlt (by omega), List.take_of_length_le (by omega)]; rfl
  | d + 1, i, n + 1, hi, hn => by
    obtain ⟨x, hx, _⟩ := drop_cons (l := l) (i := i) (by omega)
    have ht : l.take (i + 1) = l.take i ++ [x] := by rw [List.take_add_one, hx]; rfl
    have e : rl (l.take i) ++ [TR07Elem.mk x.k x.w] = rl (l.take (i + 1)) := by rw [ht]; simp [toR]
    simp only [Lw07_alike.l0]
    rw [dec_lt (by omega)]
    simp only [cond_true, atL_nat hx, Option.bind_some]
    rw [decide_eq_true (by simp; omega)]
    simp only [cond_true, e, w64_succ (i := i) (by omega)]
    exact alike_loop l hl d (i + 1) n (by omega) (by omega)
theorem alike_ok {p : PN TL07Elem TTide} {r : TRef} {l : List TL07Elem} {c : Int} {B : Nat} (h : GrE p r l c B) (hN : l.length < 1000000) : Lw07_alike.f K1 p r (rl l) = some true := by
  unfold Lw07_alike.f
  have e : Lw07_alike.l0 K1 l K1 (([] : List TR07Elem), 0) = some (rl l) := alike_loop l hN l.length 0 K1 (by omega) (by unfold K1; omega)
  rw [h.all okE (by decide) hN]
  simp only [Option.bind_some, e, h.len okE, List.length_map, beq_self_eq_true, cond_true, refSame (rl l) (by simpa using hN)]

/-! ### the laws' common parts -/
def SmallActs (l : List TL07Act) : Prop := (∀ x ∈ l, -1000000 ≤ x.w ∧ x.w ≤ 1000000) ∧ l.length ≤ 60
theorem small_loop (l : List TL07Act) (hl : l.length < 1000000) : ∀ (d i n : Nat), i + d = l.length → d < n → (∀ x ∈ l.take i, -1000000 ≤ x.w ∧ x.w ≤ 1000000) →
    ∃ v, Lw07_small.l0 K1 l n (i : Int) = some v ∧ (v = Sum.inl false ∨ (v = Sum.inr () ∧ ∀ x ∈ l, -1000000 ≤ x.w ∧ x.w ≤ 1000000))
  | d, i, 0, _, h, _ => by omega
  | 0, i, n + 1, hi, _, ha => by
    simp only [Lw07_small.l0]
    rw [dec_nlt (by omega)]
    rw [List.take_of_length_le (by omega)] at ha
    exact ⟨_, rfl, .inr ⟨rfl, ha⟩⟩
  | d + 1, i, n + 1, hi, hn, ha => by
    obtain ⟨x, hx, _⟩ := drop_cons (l := l) (i := i) (by omega)
    have ht : l.take (i + 1) = l.take i ++ [x] := by rw [List.take_add_one, hx]; rfl
    simp only [Lw07_small.l0]
    rw [dec_lt (by omega)]
    simp only [cond_true, atL_nat hx, Option.bind_some]
    by_cases h1 : x.w < -1000000
    · simp only [h1, decide_true, cond_true]; exact ⟨_, rfl, .inl rfl⟩
    · by_cases h2 : x.w > 1000000
      · simp only [h1, h2, decide_true, decide_false, cond_true, cond_false]; exact ⟨_, rfl, .inl rfl⟩
      · simp only [h1, h2, decide_false, cond_false, w64_succ (i := i) (by omega)]
        refine small_loop l hl d (i + 1) n (by omega) (by omega) (fun y hy => ?_)
        rw [ht] at hy
        rcases List.mem_append.1 hy with hy | hy
        · exact ha y hy
        · simp at hy; subst hy; omega
theorem small07 (l : List TL07Act) : Lw07_small.f K1 l 60 = some false ∨ (Lw07_small.f K1 l 60 = some true ∧ SmallActs l) := by
  unfold Lw07_small.f
  by_cases h : (l.length : Int) > 60
  · simp only [h, decide_true, cond_true]; exact .inl trivial
  · simp only [h, decide_false, cond_false]
    obtain ⟨v, h1, h2⟩ := small_loop l (by omega) l.length 0 K1 (by omega) (by unfold K1; omega) (by simp)
    have h1' : Lw07_small.l0 K1 l K1 0 = some v := h1
    rw [h1']
    rcases h2 with rfl | ⟨rfl, h2⟩
    · exact .inl rfl
    · exact .inr ⟨rfl, h2, by omega⟩
theorem capOf_le {c : Int} (h : c ≤ 16777216) {n : Nat} (hn : (n : Int) ≤ capOf c) : (n : Int) = capOf c ↔ (n : Int) ≥ c := by
  unfold capOf at *
  split at hn <;> split at hn <;> simp_all <;> omega
/-- Putting into a grove and into the document's list. -/
theorem grPut {p : PN TL07Elem TTide} {r : TRef} {l : List TL07Elem} {c : Int} {B : Nat} (h : GrE p r l (capOf c) B) (hc : c ≤ 16777216) (hl : (l.length : Int) ≤ capOf c) (e : TL07Elem) (hG : GE e) (hB : B + 1 < 4294967295) (hN : l.length + 1 < 1000000) :
    ∃ f r' p' l', Tree_Put.f opsE K1 p r e = some (f, r', p') ∧ R07_Put.f K1 (rl l) ⟨e.k, e.w⟩ c = some (rl l', f) ∧ GrE p' r' l' (capOf c) (B + 1) ∧ (l'.length : Int) ≤ capOf c ∧ l'.length ≤ l.length + 1 := by
  obtain ⟨a, m, b, hcut, hres⟩ := h.put okE (by decide) e hG hB hN
  have hr := refPut hcut (by omega) c
  have hlen : l.length = a.length + (m.length + b.length) := by rw [hcut.eq]; simp
  rcases hres with ⟨h1, h2, h3⟩ | ⟨r', p', h1, h2, h3⟩
  · refine ⟨false, r, p, l, h3, ?_, ⟨?_, h.sorted, h.good, h.cap⟩, hl, by omega⟩
    · have := hr
      rw [if_pos ⟨h1, (capOf_le hc hl).1 h2⟩] at this
      exact this
    · obtain ⟨t, hP, hr, ht⟩ := h.ex
      exact ⟨t, hP.mono (by omega) hB, hr, ht⟩
  · refine ⟨true, r', p', a ++ e :: b, h2, ?_, h3, ?_, ?_⟩
    · have := hr
      rw [if_neg (fun ⟨hm, hge⟩ => h1 hm ((capOf_le hc hl).2 hge))] at this
      exact this
    · simp only [List.length_append, List.length_cons]
      rcases hcut.lm with hm | ⟨y, hm, _⟩
      · have := h1 hm
        subst hm; simp at hlen; omega
      · subst hm; simp at hlen; omega
    · simp; omega
theorem grDrop {p : PN TL07Elem TTide} {r : TRef} {l : List TL07Elem} {c : Int} {B : Nat} (h : GrE p r l c B) (e : TL07Elem) (hN : l.length < 1000000) :
    ∃ y f r' p' l', Tree_Drop.f opsE K1 p r e = some (y, f, r', p') ∧ R07_Drop.f K1 (rl l) e.k = some (rl l', toR y, f) ∧ GrE p' r' l' c B ∧ l'.length ≤ l.length := by
  obtain ⟨a, m, b, hcut, hres⟩ := h.drop okE (by decide) e hN
  have hr := refDrop hcut (by omega)
  have hlen : l.length = a.length + (m.length + b.length) := by rw [hcut.eq]; simp
  rcases hres with ⟨h1, h3⟩ | ⟨y, r', p', h1, h2, h3⟩
  · subst h1
    exact ⟨_, false, r, p, l, h3, hr, h, Nat.le_refl _⟩
  · subst h1
    exact ⟨y, true, r', p', a ++ b, h2, hr, h3, by simp; omega⟩
/-- A grove that came of acts. -/
structure MadeL (p : PN TL07Elem TTide) (r : TRef) (l : List TL07Elem) (c : Int) (B : Nat) (i : Nat) : Prop where
  gr : GrE p r l (capOf c) B
  cap : (l.length : Int) ≤ capOf c
  len : l.length ≤ i
theorem made_loop (acts : List TL07Act) (hs : SmallActs acts) (c : Int) (hc : c ≤ 16777216) : ∀ (d i n : Nat) {p : PN TL07Elem TTide} {r : TRef} {l : List TL07Elem}, i + d = acts.length → d < n → MadeL p r l c i i →
    ∃ p' r' l', Lw07_made.l0 K1 acts c n (p, r.index, r.gen, rl l, (i : Int)) = some (Sum.inr (p', r'.index, r'.gen, rl l')) ∧ MadeL p' r' l' c acts.length acts.length
  | d, i, 0, _, _, _, _, h, _ => by omega
  | 0, i, n + 1, p, r, l, hi, _, h => by
    simp only [Lw07_made.l0]
    rw [dec_nlt (by omega)]
    have : i = acts.length := by omega
    exact ⟨p, r, l, rfl, this ▸ h⟩
  | d + 1, i, n + 1, p, r, l, hi, hn, h => by
    have h60 := hs.2
    obtain ⟨x, hx, _⟩ := drop_cons (l := acts) (i := i) (by omega)
    have hxw := hs.1 x (List.mem_of_getElem? hx)
    have hll := h.len
    simp only [Lw07_made.l0]
    rw [dec_lt (by omega)]
    simp only [cond_true, atL_nat hx, Option.bind_some]
    by_cases h1 : ((x.kind.tmod 3) == 1) = true
    · obtain ⟨y, f, r', p', l', q1, q2, q3, q4⟩ := grDrop h.gr ⟨x.k, 0⟩ (by omega)
      have q1' : Tree_Drop.f opsE K1 p ⟨r.index, r.gen⟩ ⟨x.k, 0⟩ = some (y, f, r', p') := q1
      have q2' : R07_Drop.f K1 (rl l) x.k = some (rl l', toR y, f) := q2
      simp only [h1, cond_true, q1', q2', Option.bind_some, w64_succ (i := i) (by omega)]
      have := h.cap
      have hg : GrE p' r' l' (capOf c) (i + 1) := by
        obtain ⟨t, hP, hr, ht⟩ := q3.ex
        exact ⟨⟨t, hP.mono (by omega) (by omega), hr, ht⟩, q3.sorted, q3.good, q3.cap⟩
      exact made_loop acts hs c hc d (i + 1) n (by omega) (by omega) ⟨hg, by omega, by omega⟩
    · have h1' : ((x.kind.tmod 3) == 1) = false := by simpa using h1
      obtain ⟨f, r', p', l', q1, q2, q3, q4, q5⟩ := grPut h.gr hc h.cap ⟨x.k, x.w⟩ hxw (by omega) (by omega)
      have q1' : Tree_Put.f opsE K1 p ⟨r.index, r.gen⟩ ⟨x.k, x.w⟩ = some (f, r', p') := q1
      simp only [h1', cond_false, q1', q2, Option.bind_some, w64_succ (i := i) (by omega), beq_self_eq_true, Bool.not_true]
      exact made_loop acts hs c hc d (i + 1) n (by omega) (by omega) ⟨q3, q4, by omega⟩
theorem made_ok (acts : List TL07Act) (hs : SmallActs acts) (c : Int) (hc : c ≤ 16777216) : ∃ p r l, Lw07_made.f K1 acts c = some (r, p, rl l, true) ∧ MadeL p r l c acts.length acts.length := by
  have h60 := hs.2
  have h0 : MadeL (⟨[], [], capOf c, 0, 0⟩ : PN TL07Elem TTide) zTRef [] c 0 0 := ⟨Gr.new _ _ (by decide), by simp only [List.length_nil]; unfold capOf; split <;> split <;> omega, Nat.le_refl _⟩
  obtain ⟨p, r, l, h1, h2⟩ := made_loop acts hs c hc acts.length 0 K1 (by omega) (by unfold K1; omega) h0
  have h1' : Lw07_made.l0 K1 acts c K1 ((⟨[], [], capOf c, 0, 0⟩ : PN TL07Elem TTide), zTRef.index, zTRef.gen, ([] : List TR07Elem), 0) = some (Sum.inr (p, r.index, r.gen, rl l)) := h1
  refine ⟨p, r, l, ?_, h2⟩
  have hll := h2.len
  have ha : Lw07_alike.f K1 p ⟨r.index, r.gen⟩ (rl l) = some true := alike_ok h2.gr (by omega)
  unfold Lw07_made.f Tree_New.f
  simp only [Option.bind_some, h1', Sum.elim_inr, ha]
end Go.Proofs.Ytjokolmijhhinaa

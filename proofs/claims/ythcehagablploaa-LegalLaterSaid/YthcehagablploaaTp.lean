/- Pools as plain heaps: which handles live, what they hold. -/
import Derived.Test.YthcehagablploaaT0
namespace Go.Proofs.Ythcehagablploaa
open Go Go.Proofs.Ythcehagablploaa.Sx
set_option linter.unusedVariables false
set_option linter.unusedSimpArgs false

theorem ref_ext {a b : TRef} (h1 : a.index = b.index) (h2 : a.gen = b.gen) : a = b := by cases a; cases b; simp_all
instance : DecidableEq TRef := fun a b => if h : a.index = b.index ∧ a.gen = b.gen then .isTrue (ref_ext h.1 h.2) else .isFalse (fun e => h (by rw [e]; exact ⟨rfl, rfl⟩))
section
variable {α : Type} {z : α}
/-- What a handle leads to. -/
def look (p : Pool α) (r : TRef) : Option α := (lookC p.cells r.index r.gen).map (·.v)
/-- A pool in order: the handles L live, and no others. -/
structure PW (p : Pool α) (L : List TRef) (B : Nat) : Prop where
  len : p.cells.length ≤ B
  small : B < 4294967295
  room : p.free.length + L.length ≤ p.cells.length
  nodup : p.free.Nodup
  free : ∀ i ∈ p.free, 0 ≤ i ∧ ∃ c, p.cells[i.toNat]? = some c ∧ c.live = false ∧ c.gen < 4294967295
  gen : ∀ c ∈ p.cells, 0 ≤ c.gen ∧ c.gen ≤ 4294967295 ∧ (c.live = true → 1 ≤ c.gen)
  live : ∀ r, (look p r).isSome = true ↔ r ∈ L
  ld : L.Nodup
  held : p.held = (L.length : Int)
theorem PW.ok {p : Pool α} {L : List TRef} {B : Nat} (h : PW p L B) : pOk p := by
  refine ⟨Nat.lt_of_le_of_lt h.len h.small, ?_, fun i hi => ?_⟩
  · have := h.room; have := h.len; have := h.small; omega
  · obtain ⟨h0, c, hc, _⟩ := h.free i hi
    exact ⟨h0, (List.getElem?_eq_some_iff.1 hc).1⟩
theorem PW.dok {p : Pool α} {L : List TRef} {B : Nat} (h : PW p L B) : decide (pOk p) = true := decide_eq_true h.ok
theorem PW.mono {p : Pool α} {L : List TRef} {B B' : Nat} (h : PW p L B) (hB : B ≤ B') (hs : B' < 4294967295) : PW p L B' := ⟨Nat.le_trans h.len hB, hs, h.room, h.nodup, h.free, h.gen, h.live, h.ld, h.held⟩
theorem PW.perm {p : Pool α} {L L' : List TRef} {B : Nat} (h : PW p L B) (hp : L.Perm L') : PW p L' B :=
  ⟨h.len, h.small, by rw [← hp.length_eq]; exact h.room, h.nodup, h.free, h.gen, fun r => (h.live r).trans hp.mem_iff, hp.nodup_iff.1 h.ld, by rw [← hp.length_eq]; exact h.held⟩
theorem PW.new (c : Int) (B : Nat) (hB : B < 4294967295) : PW (⟨[], [], c, 0, 0⟩ : Pool α) [] B :=
  ⟨Nat.zero_le _, hB, Nat.le_refl _, List.Pairwise.nil, fun i hi => (by cases hi), fun c hc => (by cases hc), fun r => by simp [look, lookC], List.Pairwise.nil, rfl⟩
theorem look_cell {p : Pool α} {r : TRef} {v : α} (h : look p r = some v) : ∃ (n : Nat) (c : Cell α), r.index = n ∧ p.cells[n]? = some c ∧ c.live = true ∧ c.gen = r.gen ∧ c.v = v ∧ lookC p.cells r.index r.gen = some c := by
  unfold look at h
  cases hc : lookC p.cells r.index r.gen with
  | none => rw [hc] at h; cases h
  | some c =>
    rw [hc] at h
    obtain ⟨n, h1, h2, h3, h4⟩ := lookC_some hc
    exact ⟨n, c, h1, h2, h3, h4, by simpa using h, rfl⟩
theorem lookC_at {cells : List (Cell α)} {n : Nat} {g : Int} : lookC cells (n : Int) g = match cells[n]? with | some c => if c.live = true ∧ c.gen = g then some c else none | none => none := by
  unfold lookC
  rw [if_neg (by omega), Int.toNat_natCast]
  cases cells[n]? <;> rfl
theorem PW.get {p : Pool α} {L : List TRef} {B : Nat} (h : PW p L B) {r : TRef} {v : α} (hl : look p r = some v) : pGet z p r.index r.gen = some (v, true) := by
  obtain ⟨n, c, h1, h2, h3, h4, h5, h6⟩ := look_cell hl
  unfold pGet Pool.get
  rw [h.dok, h6]
  simp [h5]
theorem PW.mem {p : Pool α} {L : List TRef} {B : Nat} (h : PW p L B) {r : TRef} {v : α} (hl : look p r = some v) : r ∈ L := (h.live r).1 (by rw [hl]; rfl)
theorem PW.ex {p : Pool α} {L : List TRef} {B : Nat} (h : PW p L B) {r : TRef} (hr : r ∈ L) : ∃ v, look p r = some v := Option.isSome_iff_exists.1 ((h.live r).2 hr)
theorem PW.gen_ne {p : Pool α} {L : List TRef} {B : Nat} (h : PW p L B) {r : TRef} (hr : r ∈ L) : r.gen ≠ 0 := by
  obtain ⟨v, hv⟩ := h.ex hr
  obtain ⟨n, c, h1, h2, h3, h4, h5, h6⟩ := look_cell hv
  have := (h.gen c (List.mem_of_getElem? h2)).2.2 h3
  omega
/-- Where one cell's value is another one. -/
theorem look_set {cells : List (Cell α)} {n : Nat} {c : Cell α} (hc : cells[n]? = some c) (c' : Cell α) (r : TRef) : lookC (cells.set n c') r.index r.gen = if r.index = n then (if c'.live = true ∧ c'.gen = r.gen then some c' else none) else lookC cells r.index r.gen := by
  have hlt := (List.getElem?_eq_some_iff.1 hc).1
  by_cases h : r.index = n
  · rw [if_pos h, h, lookC_at]
    simp [hlt]
  · rw [if_neg h]
    unfold lookC
    by_cases h0 : r.index < 0
    · rw [if_pos h0, if_pos h0]
    · rw [if_neg h0, if_neg h0, List.getElem?_set_ne (by omega)]
theorem PW.set {p : Pool α} {L : List TRef} {B : Nat} (h : PW p L B) {r : TRef} {v : α} (hl : look p r = some v) (v' : α) :
    ∃ p', pSet p r.index r.gen v' = some (true, p') ∧ PW p' L B ∧ look p' r = some v' ∧ (∀ x, x ≠ r → look p' x = look p x) ∧ p'.cap = p.cap := by
  obtain ⟨n, c, h1, h2, h3, h4, h5, h6⟩ := look_cell hl
  have hlt := (List.getElem?_eq_some_iff.1 h2).1
  refine ⟨(p.set r.index r.gen v').2, ?_, ?_, ?_, ?_, ?_⟩
  · unfold pSet
    rw [h.dok]
    simp only [cond_true]
    unfold Pool.set
    rw [h6]
  all_goals (unfold Pool.set; rw [h6]; try simp only [h1, Int.toNat_natCast])
  · have hlook : ∀ x, (look ({ p with cells := p.cells.set n { c with v := v' }, vis := IntKind.i64.wrap (p.vis + 1) } : Pool α) x).isSome = (look p x).isSome := by
      intro x
      unfold look
      simp only [look_set h2]
      by_cases hx : x.index = n
      · rw [if_pos hx, hx, lookC_at, h2]
        simp only
        by_cases hg : c.live = true ∧ c.gen = x.gen
        · rw [if_pos hg, if_pos hg]; rfl
        · rw [if_neg hg, if_neg hg]
      · rw [if_neg hx]
    refine ⟨by simpa using h.len, h.small, by simpa using h.room, h.nodup, fun i hi => ?_, fun d hd => ?_, fun x => by rw [hlook]; exact h.live x, h.ld, h.held⟩
    · obtain ⟨h0, d, hd, hl', hg⟩ := h.free i hi
      refine ⟨h0, d, ?_, hl', hg⟩
      have : n ≠ i.toNat := by rintro rfl; rw [h2] at hd; cases hd; rw [h3] at hl'; cases hl'
      simp only
      rw [List.getElem?_set_ne this]; exact hd
    · rcases List.mem_or_eq_of_mem_set hd with hd | rfl
      · exact h.gen d hd
      · exact h.gen c (List.mem_of_getElem? h2)
  · have := look_set h2 { c with v := v' } r
    rw [if_pos h1, if_pos ⟨h3, h4⟩] at this
    unfold look
    simp only
    rw [this]; rfl
  · intro x hx
    unfold look
    simp only [look_set h2]
    by_cases hi : x.index = n
    · rw [if_pos hi, hi, lookC_at, h2]
      have : ¬ (c.live = true ∧ c.gen = x.gen) := fun hc => hx (ref_ext (hi.trans h1.symm) (hc.2.symm.trans h4))
      simp only
      rw [if_neg this, if_neg this]
    · rw [if_neg hi]
theorem PW.drop {p : Pool α} {L : List TRef} {B : Nat} (h : PW p L B) {r : TRef} {v : α} (hl : look p r = some v) :
    ∃ p', pDrop z p r.index r.gen = some ((v, true), p') ∧ PW p' (L.erase r) B ∧ (∀ x, x ≠ r → look p' x = look p x) ∧ p'.cap = p.cap := by
  obtain ⟨n, c, h1, h2, h3, h4, h5, h6⟩ := look_cell hl
  have hlt := (List.getElem?_eq_some_iff.1 h2).1
  have hm := h.mem hl
  have hlen : (L.erase r).length = L.length - 1 := List.length_erase_of_mem hm
  have hpos : 0 < L.length := List.length_pos_of_mem hm
  have hgc := h.gen c (List.mem_of_getElem? h2)
  refine ⟨(p.drop z r.index r.gen).2, ?_, ?_, ?_, ?_⟩
  · unfold pDrop
    rw [h.dok]
    simp only [cond_true]
    unfold Pool.drop
    rw [h6]
    simp [h5]
  all_goals (unfold Pool.drop; rw [h6]; try simp only [h1, Int.toNat_natCast])
  · have hlook : ∀ x, (look (⟨p.cells.set n ⟨z, c.gen, false⟩, bif decide (c.gen < 4294967295) then p.free ++ [(n : Int)] else p.free, p.cap, IntKind.i64.wrap (p.held - 1), IntKind.i64.wrap (p.vis + 1)⟩ : Pool α) x).isSome = true ↔ x ∈ L.erase r := by
      intro x
      rw [h.ld.mem_erase_iff]
      unfold look
      simp only [look_set h2]
      by_cases hi : x.index = n
      · rw [if_pos hi]
        simp only [Bool.false_eq_true, false_and, if_false, Option.map_none, Option.isSome_none, false_iff, not_and]
        intro hne hx
        obtain ⟨v', hv'⟩ := h.ex hx
        obtain ⟨n', c', g1, g2, g3, g4, g5, g6⟩ := look_cell hv'
        have : n' = n := by omega
        subst this
        rw [h2] at g2; cases g2
        exact hne (ref_ext (hi.trans h1.symm) (g4.symm.trans h4))
      · rw [if_neg hi]
        have := h.live x
        unfold look at this
        rw [this]
        exact ⟨fun hx => ⟨fun e => hi (by rw [e]; exact h1), hx⟩, fun hx => hx.2⟩
    have hnf : (n : Int) ∉ p.free := fun hn => by
      obtain ⟨_, d, hd, hl', _⟩ := h.free _ hn
      rw [Int.toNat_natCast, h2] at hd; cases hd; rw [h3] at hl'; cases hl'
    have hheld : IntKind.i64.wrap (p.held - 1) = ((L.erase r).length : Int) := by
      have e := h.held
      have hB := h.room; have hB2 := h.len; have hB3 := h.small
      have : w64 (p.held - 1) = p.held - 1 := w64_id (by omega) (by omega)
      rw [show IntKind.i64.wrap (p.held - 1) = w64 (p.held - 1) from rfl, this, hlen]; omega
    refine ⟨by simpa using h.len, h.small, ?_, ?_, fun i hi => ?_, fun d hd => ?_, hlook, h.ld.erase r, hheld⟩
    · have := h.room
      cases decide (c.gen < 4294967295) <;> simp <;> omega
    · cases decide (c.gen < 4294967295)
      · exact h.nodup
      · simp only [cond_true]
        refine List.nodup_append.2 ⟨h.nodup, List.pairwise_singleton _ _, fun a ha b hb => ?_⟩
        simp at hb; subst hb; rintro rfl; exact hnf ha
    · have hi' : i ∈ p.free ∨ (i = (n : Int) ∧ c.gen < 4294967295) := by
        revert hi
        by_cases hg : c.gen < 4294967295
        · simp only [hg, decide_true, cond_true, List.mem_append, List.mem_singleton]
          rintro (hi | hi)
          · exact .inl hi
          · exact .inr ⟨hi, trivial⟩
        · simp only [hg, decide_false, cond_false]; exact .inl
      rcases hi' with hi' | ⟨rfl, hg⟩
      · obtain ⟨h0, d, hd, hl', hg⟩ := h.free i hi'
        refine ⟨h0, d, ?_, hl', hg⟩
        have : n ≠ i.toNat := fun e => hnf (by rw [show (n : Int) = i by omega]; exact hi')
        simp only
        rw [List.getElem?_set_ne this]; exact hd
      · refine ⟨by omega, ⟨z, c.gen, false⟩, ?_, rfl, hg⟩
        simp [hlt]
    · rcases List.mem_or_eq_of_mem_set hd with hd | rfl
      · exact h.gen d hd
      · exact ⟨hgc.1, hgc.2.1, fun hh => by cases hh⟩
  · intro x hx
    unfold look
    simp only [look_set h2]
    by_cases hi : x.index = n
    · rw [if_pos hi, hi, lookC_at, h2]
      have : ¬ (c.live = true ∧ c.gen = x.gen) := fun hc => hx (ref_ext (hi.trans h1.symm) (hc.2.symm.trans h4))
      simp only [Bool.false_eq_true, false_and, if_false]
      rw [if_neg this]
    · rw [if_neg hi]
theorem PW.put_full {p : Pool α} {L : List TRef} {B : Nat} (h : PW p L B) (hc : (L.length : Int) = p.cap) (v : α) : pPut z p v = some (((0, 0), false), p) := by
  unfold pPut Pool.put
  rw [h.dok, if_pos (h.held.trans hc)]
  rfl
theorem PW.put {p : Pool α} {L : List TRef} {B : Nat} (h : PW p L B) (hc : (L.length : Int) ≠ p.cap) (hB : B + 1 < 4294967295) (v : α) :
    ∃ (r : TRef) (p' : Pool α), pPut z p v = some (((r.index, r.gen), true), p') ∧ r ∉ L ∧ r.gen ≠ 0 ∧ PW p' (r :: L) (B + 1) ∧ look p' r = some v ∧ (∀ x, x ≠ r → look p' x = look p x) ∧ p'.cap = p.cap := by
  have hh : ¬ p.held = p.cap := fun e => hc (h.held.symm.trans e)
  have hr := h.room
  have hheld : IntKind.i64.wrap (p.held + 1) = ((L.length + 1 : Nat) : Int) := by
    have e := h.held
    have hB2 := h.len
    rw [show IntKind.i64.wrap (p.held + 1) = w64 (p.held + 1) from rfl, w64_id (by omega) (by omega)]; omega
  cases hl : p.free.getLast? with
  | none =>
    have hf : p.free = [] := by simpa using hl
    have hnx : p.next z = ((p.cells.length : Int), { p with cells := p.cells ++ [⟨z, 0, false⟩] }) := by unfold Pool.next; rw [hl]
    have hcc : (p.cells ++ [⟨z, 0, false⟩])[p.cells.length]? = some ⟨z, 0, false⟩ := by simp
    have hput : p.put z v = ((((p.cells.length : Int), 1), true), ⟨p.cells ++ [⟨v, 1, true⟩], p.free, p.cap, IntKind.i64.wrap (p.held + 1), p.vis⟩) := by
      unfold Pool.put
      rw [if_neg hh, hnx]
      simp only [Int.toNat_natCast, hcc, Pool.lay]
      simp
      rfl
    have hlook : ∀ x : TRef, lookC (p.cells ++ [⟨v, 1, true⟩]) x.index x.gen = if x.index = (p.cells.length : Int) then (if (1 : Int) = x.gen then some ⟨v, 1, true⟩ else none) else lookC p.cells x.index x.gen := by
      intro x
      by_cases hi : x.index = (p.cells.length : Int)
      · rw [if_pos hi, hi, lookC_at]; simp
      · rw [if_neg hi]
        unfold lookC
        by_cases h0 : x.index < 0
        · rw [if_pos h0, if_pos h0]
        · rw [if_neg h0, if_neg h0]
          by_cases h1 : x.index.toNat < p.cells.length
          · rw [List.getElem?_append_left h1]
          · rw [List.getElem?_eq_none (by simp; omega), List.getElem?_eq_none (by omega)]
    have hnone : ∀ g : Int, look p ⟨(p.cells.length : Int), g⟩ = none := by intro g; unfold look; simp [lookC_at]
    refine ⟨⟨(p.cells.length : Int), 1⟩, ⟨p.cells ++ [⟨v, 1, true⟩], p.free, p.cap, IntKind.i64.wrap (p.held + 1), p.vis⟩, by unfold pPut; rw [h.dok, hput]; rfl, ?_, by simp, ?_, ?_, ?_, rfl⟩
    · intro hm
      have := (h.live _).2 hm
      rw [hnone] at this; cases this
    · refine ⟨by have := h.len; simp; omega, hB, by simp [hf]; simp [hf] at hr; omega, h.nodup, fun i hi => (by rw [hf] at hi; cases hi), fun d hd => ?_, fun x => ?_, ?_, hheld⟩
      · rcases List.mem_append.1 hd with hd | hd
        · exact h.gen d hd
        · simp at hd; subst hd; simp
      · unfold look
        simp only [hlook]
        by_cases hi : x.index = (p.cells.length : Int)
        · rw [if_pos hi]
          by_cases hg : (1 : Int) = x.gen
          · rw [if_pos hg]
            simp only [Option.map_some, Option.isSome_some, List.mem_cons, true_iff]
            exact .inl (ref_ext hi hg.symm)
          · rw [if_neg hg]
            simp only [Option.map_none, Option.isSome_none, Bool.false_eq_true, List.mem_cons, false_iff, not_or]
            refine ⟨fun e => hg (by rw [e]), fun hm => ?_⟩
            have := (h.live _).2 hm
            rw [show x = ⟨(p.cells.length : Int), x.gen⟩ from ref_ext hi rfl, hnone] at this; cases this
        · rw [if_neg hi]
          have := h.live x
          unfold look at this
          rw [this, List.mem_cons]
          exact ⟨.inr, fun hm => hm.resolve_left (fun e => hi (by rw [e]))⟩
      · refine List.nodup_cons.2 ⟨fun hm => ?_, h.ld⟩
        have := (h.live _).2 hm
        rw [hnone] at this; cases this
    · have := hlook ⟨(p.cells.length : Int), 1⟩
      rw [if_pos rfl, if_pos rfl] at this
      unfold look
      simp only
      rw [this]; rfl
    · intro x hx
      unfold look
      simp only [hlook]
      by_cases hi : x.index = (p.cells.length : Int)
      · rw [if_pos hi]
        have : ¬ ((1 : Int) = x.gen) := fun e => hx (ref_ext hi e.symm)
        rw [if_neg this, hi, lookC_at]; simp
      · rw [if_neg hi]
  | some i =>
    have hm : i ∈ p.free := List.mem_of_getLast? hl
    obtain ⟨h0, c, hcell, hlv, hg⟩ := h.free i hm
    have hlt := (List.getElem?_eq_some_iff.1 hcell).1
    have hsplit : p.free = p.free.dropLast ++ [i] := by
      have hne : p.free ≠ [] := List.ne_nil_of_mem hm
      have := List.dropLast_concat_getLast hne
      rw [List.getLast?_eq_some_getLast hne] at hl
      simp at hl; rw [hl] at this; exact this.symm
    have hgc := h.gen c (List.mem_of_getElem? hcell)
    have hnx : p.next z = (i, { p with free := p.free.dropLast }) := by unfold Pool.next; rw [hl]
    have hgw : IntKind.i64.wrap (c.gen + 1) = c.gen + 1 := by
      rw [show IntKind.i64.wrap (c.gen + 1) = w64 (c.gen + 1) from rfl, w64_id (by omega) (by omega)]
    have hput : p.put z v = (((i, c.gen + 1), true), ⟨p.cells.set i.toNat ⟨v, c.gen + 1, true⟩, p.free.dropLast, p.cap, IntKind.i64.wrap (p.held + 1), p.vis⟩) := by
      unfold Pool.put
      rw [if_neg hh, hnx]
      simp only [hcell, Pool.lay, hgw]
    have hnone : ∀ x : TRef, x.index = i → look p x = none := by
      intro x hx
      unfold look
      have : lookC p.cells x.index x.gen = none := by
        rw [hx, show i = ((i.toNat : Nat) : Int) by omega, lookC_at, hcell]
        simp [hlv]
      rw [this]; rfl
    have hii : ∀ x : TRef, x.index = ((i.toNat : Nat) : Int) ↔ x.index = i := fun x => by omega
    refine ⟨⟨i, c.gen + 1⟩, ⟨p.cells.set i.toNat ⟨v, c.gen + 1, true⟩, p.free.dropLast, p.cap, IntKind.i64.wrap (p.held + 1), p.vis⟩, by unfold pPut; rw [h.dok, hput]; rfl, ?_, by simp; omega, ?_, ?_, ?_, rfl⟩
    · intro hmm
      have := (h.live _).2 hmm
      rw [hnone _ rfl] at this; cases this
    · have hdl : p.free.dropLast.length = p.free.length - 1 := by simp
      have hfp : 0 < p.free.length := List.length_pos_of_mem hm
      refine ⟨by have := h.len; simp; omega, hB, by simp; omega, ?_, fun j hj => ?_, fun d hd => ?_, fun x => ?_, ?_, hheld⟩
      · have := h.nodup
        rw [hsplit] at this
        exact (List.nodup_append.1 this).1
      · have hj' : j ∈ p.free := by rw [hsplit]; exact List.mem_append_left _ hj
        obtain ⟨j0, d, hd, hl', hg'⟩ := h.free j hj'
        refine ⟨j0, d, ?_, hl', hg'⟩
        have hne : i.toNat ≠ j.toNat := by
          intro e
          have : i = j := by omega
          subst this
          have hn := h.nodup
          rw [hsplit] at hn
          exact (List.nodup_append.1 hn).2.2 i hj i (by simp) rfl
        simp only
        rw [List.getElem?_set_ne hne]; exact hd
      · rcases List.mem_or_eq_of_mem_set hd with hd | rfl
        · exact h.gen d hd
        · exact ⟨by simp only; omega, by simp only; omega, fun _ => by simp only; omega⟩
      · unfold look
        simp only [look_set hcell, hii]
        by_cases hi : x.index = i
        · rw [if_pos hi]
          by_cases hgx : c.gen + 1 = x.gen
          · simp only [hgx, and_self, if_true, Option.map_some, Option.isSome_some, List.mem_cons, true_iff]
            exact .inl (ref_ext hi rfl)
          · simp only [hgx, and_false, if_false, Option.map_none, Option.isSome_none, Bool.false_eq_true, List.mem_cons, false_iff, not_or]
            refine ⟨fun e => hgx (by rw [e]), fun hmm => ?_⟩
            have := (h.live _).2 hmm
            rw [hnone _ hi] at this; cases this
        · rw [if_neg hi]
          have := h.live x
          unfold look at this
          rw [this, List.mem_cons]
          exact ⟨.inr, fun hmm => hmm.resolve_left (fun e => hi (by rw [e]))⟩
      · refine List.nodup_cons.2 ⟨fun hmm => ?_, h.ld⟩
        have := (h.live _).2 hmm
        rw [hnone _ rfl] at this; cases this
    · have := look_set hcell ⟨v, c.gen + 1, true⟩ ⟨i, c.gen + 1⟩
      rw [if_pos (by simp only; omega), if_pos ⟨rfl, rfl⟩] at this
      unfold look
      simp only
      rw [this]; rfl
    · intro x hx
      by_cases hi : x.index = i
      · rw [hnone x hi]
        unfold look
        simp only [look_set hcell, hii]
        have : ¬ (c.gen + 1 = x.gen) := fun e => hx (ref_ext hi e.symm)
        rw [if_pos hi]; simp [this]
      · unfold look
        simp only [look_set hcell, hii]
        rw [if_neg hi]
end
end Go.Proofs.Ythcehagablploaa

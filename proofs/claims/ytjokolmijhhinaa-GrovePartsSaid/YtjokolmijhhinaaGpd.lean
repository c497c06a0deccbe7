/- My texts that the proof of GroveParts rests on, part 4: a calculus of walks, the walks, and the plain law. -/
import Derived.KernelRfl
import Derived.Test.YtjokolmijhhinaaGpc
set_option linter.unusedVariables false
set_option linter.unusedSimpArgs false
namespace Go.Proofs.Ytjokolmijhhinaa
open Go Go.Proofs.Ytjokolmijhhinaa.Sx
theorem ref_ext {a b : TRef} (h1 : a.index = b.index) (h2 : a.gen = b.gen) : a = b := by cases a; cases b; simp_all
instance : DecidableEq TRef := fun a b => if h : a.index = b.index ∧ a.gen = b.gen then .isTrue (ref_ext h.1 h.2) else .isFalse (fun e => h (by rw [e]; exact ⟨rfl, rfl⟩))
section
variable {α : Type} {z : α}
def look (p : Pool α) (r : TRef) : Option α := (lookC p.cells r.index r.gen).map (·.v)
structure PW (p : Pool α) (L : List TRef) (B : Nat) : Prop where
  len : p.cells.length ≤ B
  small : B < 4294967295
  room : p.free.length + L.length ≤ p.cells.length
  nodup : p.free.Nodup
  free : ∀ i ∈ p.free, 0 ≤ i ∧ ∃ c, p.cells[i.toNat]? = some c ∧ c.live = false ∧ c.gen < 4294967295
  gen : ∀ c ∈ p.cells, 0 ≤ c.gen ∧ c.gen ≤ 4294967295 ∧ (c.live = true → 1 ≤ c.gen)
  live : ∀ r, (look p r).isSome = true ↔ r ∈ L
  ld : L.Nodup
  held : p.held = (L.length : Int)
theorem PW.ok {p : Pool α} {L : List TRef} {B : Nat} (h : PW p L B) : pOk p := by
  refine ⟨Nat.lt_of_le_of_lt h.len h.small, ?_, fun i hi => ?_⟩
  · have := h.room; have := h.len; have := h.small; omega
  · obtain ⟨h0, c, hc, _⟩ := h.free i hi
    exact ⟨h0, (List.getElem?_eq_some_iff.1 hc).1⟩
theorem PW.dok {p : Pool α} {L : List TRef} {B : Nat} (h : PW p L B) : decide (pOk p) = true := decide_eq_true h.ok
theorem PW.mono {p : Pool α} {L : List TRef} {B B' : Nat} (h : PW p L B) (hB : B ≤ B') (hs : B' < 4294967295) : PW p L B' := ⟨Nat.le_trans h.len hB, hs, h.room, h.nodup, h.free, h.gen, h.live, h.ld, h.held⟩
theorem PW.perm {p : Pool α} {L L' : List TRef} {B : Nat} (h : PW p L B) (hp : L.Perm L') : PW p L' B :=
  ⟨h.len, h.small, by rw [← hp.length_eq]; exact h.room, h.nodup, h.free, h.gen, fun r => (h.live r).trans hp.mem_iff, hp.nodup_iff.1 h.ld, by rw [← hp.length_eq]; exact h.held⟩
theorem PW.new (c : Int) (B : Nat) (hB : B < 4294967295) : PW (⟨[], [], c, 0, 0⟩ : Pool α) [] B :=
  ⟨Nat.zero_le _, hB, Nat.le_refl _, List.Pairwise.nil, fun i hi => (by cases hi), fun c hc => (by cases hc), fun r => by simp [look, lookC], List.Pairwise.nil, rfl⟩
theorem look_cell {p : Pool α} {r : TRef} {v : α} (h : look p r = some v) : ∃ (n : Nat) (c : Cell α), r.index = n ∧ p.cells[n]? = some c ∧ c.live = true ∧ c.gen = r.gen ∧ c.v = v ∧ lookC p.cells r.index r.gen = some c := by
  unfold look at h
  cases hc : lookC p.cells r.index r.gen with
  | none => rw [hc] at h; cases h
  | some c =>
    rw [hc] at h
    obtain ⟨n, h1, h2, h3, h4⟩ := lookC_some hc
    exact ⟨n, c, h1, h2, h3, h4, by simpa using h, rfl⟩
theorem lookC_at {cells : List (Cell α)} {n : Nat} {g : Int} : lookC cells (n : Int) g = match cells[n]? with | some c => if c.live = true ∧ c.gen = g then some c else none | none => none := by
  unfold lookC
  rw [if_neg (by omega), Int.toNat_natCast]
  cases cells[n]? <;> rfl
theorem PW.get {p : Pool α} {L : List TRef} {B : Nat} (h : PW p L B) {r : TRef} {v : α} (hl : look p r = some v) : pGet z p r.index r.gen = some (v, true) := by
  obtain ⟨n, c, h1, h2, h3, h4, h5, h6⟩ := look_cell hl
  unfold pGet Pool.get
  rw [h.dok, h6]
  simp [h5]
theorem PW.mem {p : Pool α} {L : List TRef} {B : Nat} (h : PW p L B) {r : TRef} {v : α} (hl : look p r = some v) : r ∈ L := (h.live r).1 (by rw [hl]; rfl)
theorem PW.ex {p : Pool α} {L : List TRef} {B : Nat} (h : PW p L B) {r : TRef} (hr : r ∈ L) : ∃ v, look p r = some v := Option.isSome_iff_exists.1 ((h.live r).2 hr)
theorem PW.gen_ne {p : Pool α} {L : List TRef} {B : Nat} (h : PW p L B) {r : TRef} (hr : r ∈ L) : r.gen ≠ 0 := by
  obtain ⟨v, hv⟩ := h.ex hr
  obtain ⟨n, c, h1, h2, h3, h4, h5, h6⟩ := look_cell hv
  have := (h.gen c (List.mem_of_getElem? h2)).2.2 h3
  omega
theorem look_set {cells : List (Cell α)} {n : Nat} {c : Cell α} (hc : cells[n]? = some c) (c' : Cell α) (r : TRef) : lookC (cells.set n c') r.index r.gen = if r.index = n then (if c'.live = true ∧ c'.gen = r.gen then some c' else none) else lookC cells r.index r.gen := by
  have hlt := (List.getElem?_eq_some_iff.1 hc).1
  by_cases h : r.index = n
  · rw [if_pos h, h, lookC_at]
    simp [hlt]
  · rw [if_neg h]
    unfold lookC
    by_cases h0 : r.index < 0
    · rw [if_pos h0, if_pos h0]
    · rw [if_neg h0, if_neg h0, List.getElem?_set_ne (by omega)]
theorem PW.set {p : Pool α} {L : List TRef} {B : Nat} (h : PW p L B) {r : TRef} {v : α} (hl : look p r = some v) (v' : α) :
    ∃ p', pSet p r.index r.gen v' = some (true, p') ∧ PW p' L B ∧ look p' r = some v' ∧ (∀ x, x ≠ r → look p' x = look p x) ∧ p'.cap = p.cap := by
  obtain ⟨n, c, h1, h2, h3, h4, h5, h6⟩ := look_cell hl
  have hlt := (List.getElem?_eq_some_iff.1 h2).1
  refine ⟨(p.set r.index r.gen v').2, ?_, ?_, ?_, ?_, ?_⟩
  · unfold pSet
    rw [h.dok]
    simp only [cond_true]
    unfold Pool.set
    rw [h6]
  all_goals (unfold Pool.set; rw [h6]; try simp only [h1, Int.toNat_natCast])
  · have hlook : ∀ x, (look ({ p with cells := p.cells.set n { c with v := v' }, vis := IntKind.i64.wrap (p.vis + 1) } : Pool α) x).isSome = (look p x).isSome := by
      intro x
      unfold look
      simp only [look_set h2]
      by_cases hx : x.index = n
      · rw [if_pos hx, hx, lookC_at, h2]
        simp only
        by_cases hg : c.live = true ∧ c.gen = x.gen
        · rw [if_pos hg, if_pos hg]; rfl
        · rw [if_neg hg, if_neg hg]
      · rw [if_neg hx]
    refine ⟨by simpa using h.len, h.small, by simpa using h.room, h.nodup, fun i hi => ?_, fun d hd => ?_, fun x => by rw [hlook]; exact h.live x, h.ld, h.held⟩
    · obtain ⟨h0, d, hd, hl', hg⟩ := h.free i hi
      refine ⟨h0, d, ?_, hl', hg⟩
      have : n ≠ i.toNat := by rintro rfl; rw [h2] at hd; cases hd; rw [h3] at hl'; cases hl'
      simp only
      rw [List.getElem?_set_ne this]; exact hd
    · rcases List.mem_or_eq_of_mem_set hd with hd | rfl
      · exact h.gen d hd
      · exact h.gen c (List.mem_of_getElem? h2)
  · have := look_set h2 { c with v := v' } r
    rw [if_pos h1, if_pos ⟨h3, h4⟩] at this
    unfold look
    simp only
    rw [this]; rfl
  · intro x hx
    unfold look
    simp only [look_set h2]
    by_cases hi : x.index = n
    · rw [if_pos hi, hi, lookC_at, h2]
      have : ¬ (c.live = true ∧ c.gen = x.gen) := fun hc => hx (ref_ext (hi.trans h1.symm) (hc.2.symm.trans h4))
      simp only
      rw [if_neg this, if_neg this]
    · rw [if_neg hi]
theorem PW.drop {p : Pool α} {L : List TRef} {B : Nat} (h : PW p L B) {r : TRef} {v : α} (hl : look p r = some v) :
    ∃ p', pDrop z p r.index r.gen = some ((v, true), p') ∧ PW p' (L.erase r) B ∧ (∀ x, x ≠ r → look p' x = look p x) ∧ p'.cap = p.cap := by
  obtain ⟨n, c, h1, h2, h3, h4, h5, h6⟩ := look_cell hl
  have hlt := (List.getElem?_eq_some_iff.1 h2).1
  have hm := h.mem hl
  have hlen : (L.erase r).length = L.length - 1 := List.length_erase_of_mem hm
  have hpos : 0 < L.length := List.length_pos_of_mem hm
  have hgc := h.gen c (List.mem_of_getElem? h2)
  refine ⟨(p.drop z r.index r.gen).2, ?_, ?_, ?_, ?_⟩
  · unfold pDrop
    rw [h.dok]
    simp only [cond_true]
    unfold Pool.drop
    rw [h6]
    simp [h5]
  all_goals (unfold Pool.drop; rw [h6]; try simp only [h1, Int.toNat_natCast])
  · have hlook : ∀ x, (look (⟨p.cells.set n ⟨z, c.gen, false⟩, bif decide (c.gen < 4294967295) then p.free ++ [(n : Int)] else p.free, p.cap, IntKind.i64.wrap (p.held - 1), IntKind.i64.wrap (p.vis + 1)⟩ : Pool α) x).isSome = true ↔ x ∈ L.erase r := by
      intro x
      rw [h.ld.mem_erase_iff]
      unfold look
      simp only [look_set h2]
      by_cases hi : x.index = n
      · rw [if_pos hi]
        simp only [Bool.false_eq_true, false_and, if_false, Option.map_none, Option.isSome_none, false_iff, not_and]
        intro hne hx
        obtain ⟨v', hv'⟩ := h.ex hx
        obtain ⟨n', c', g1, g2, g3, g4, g5, g6⟩ := look_cell hv'
        have : n' = n := by omega
        subst this
        rw [h2] at g2; cases g2
        exact hne (ref_ext (hi.trans h1.symm) (g4.symm.trans h4))
      · rw [if_neg hi]
        have := h.live x
        unfold look at this
        rw [this]
        exact ⟨fun hx => ⟨fun e => hi (by rw [e]; exact h1), hx⟩, fun hx => hx.2⟩
    have hnf : (n : Int) ∉ p.free := fun hn => by
      obtain ⟨_, d, hd, hl', _⟩ := h.free _ hn
      rw [Int.toNat_natCast, h2] at hd; cases hd; rw [h3] at hl'; cases hl'
    have hheld : IntKind.i64.wrap (p.held - 1) = ((L.erase r).length : Int) := by
      have e := h.held
      have hB := h.room; have hB2 := h.len; have hB3 := h.small
      have : w64 (p.held - 1) = p.held - 1 := w64_id (by omega) (by omega)
      rw [show IntKind.i64.wrap (p.held - 1) = w64 (p.held - 1) from rfl, this, hlen]; omega
    refine ⟨by simpa using h.len, h.small, ?_, ?_, fun i hi => ?_, fun d hd => ?_, hlook, h.ld.erase r, hheld⟩
    · have := h.room
      cases decide (c.gen < 4294967295) <;> simp <;> omega
    · cases decide (c.gen < 4294967295)
      · exact h.nodup
      · simp only [cond_true]
        refine List.nodup_append.2 ⟨h.nodup, List.pairwise_singleton _ _, fun a ha b hb => ?_⟩
        simp at hb; subst hb; rintro rfl; exact hnf ha
    · have hi' : i ∈ p.free ∨ (i = (n : Int) ∧ c.gen < 4294967295) := by
        revert hi
        by_cases hg : c.gen < 4294967295
        · simp only [hg, decide_true, cond_true, List.mem_append, List.mem_singleton]
          rintro (hi | hi)
          · exact .inl hi
          · exact .inr ⟨hi, trivial⟩
        · simp only [hg, decide_false, cond_false]; exact .inl
      rcases hi' with hi' | ⟨rfl, hg⟩
      · obtain ⟨h0, d, hd, hl', hg⟩ := h.free i hi'
        refine ⟨h0, d, ?_, hl', hg⟩
        have : n ≠ i.toNat := fun e => hnf (by rw [show (n : Int) = i by omega]; exact hi')
        simp only
        rw [List.getElem?_set_ne this]; exact hd
      · refine ⟨by omega, ⟨z, c.gen, false⟩, ?_, rfl, hg⟩
        simp [hlt]
    · rcases List.mem_or_eq_of_mem_set hd with hd | rfl
      · exact h.gen d hd
      · exact ⟨hgc.1, hgc.2.1, fun hh => by cases hh⟩
  · intro x hx
    unfold look
    simp only [look_set h2]
    by_cases hi : x.index = n
    · rw [if_pos hi, hi, lookC_at, h2]
      have : ¬ (c.live = true ∧ c.gen = x.gen) := fun hc => hx (ref_ext (hi.trans h1.symm) (hc.2.symm.trans h4))
      simp only [Bool.false_eq_true, false_and, if_false]
      rw [if_neg this]
    · rw [if_neg hi]
theorem PW.put_full {p : Pool α} {L : List TRef} {B : Nat} (h : PW p L B) (hc : (L.length : Int) = p.cap) (v : α) : pPut z p v = some (((0, 0), false), p) := by
  unfold pPut Pool.put
  rw [h.dok, if_pos (h.held.trans hc)]
  rfl
theorem PW.put {p : Pool α} {L : List TRef} {B : Nat} (h : PW p L B) (hc : (L.length : Int) ≠ p.cap) (hB : B + 1 < 4294967295) (v : α) :
    ∃ (r : TRef) (p' : Pool α), pPut z p v = some (((r.index, r.gen), true), p') ∧ r ∉ L ∧ r.gen ≠ 0 ∧ PW p' (r :: L) (B + 1) ∧ look p' r = some v ∧ (∀ x, x ≠ r → look p' x = look p x) ∧ p'.cap = p.cap := by
  have hh : ¬ p.held = p.cap := fun e => hc (h.held.symm.trans e)
  have hr := h.room
  have hheld : IntKind.i64.wrap (p.held + 1) = ((L.length + 1 : Nat) : Int) := by
    have e := h.held
    have hB2 := h.len
    rw [show IntKind.i64.wrap (p.held + 1) = w64 (p.held + 1) from rfl, w64_id (by omega) (by omega)]; omega
  cases hl : p.free.getLast? with
  | none =>
    have hf : p.free = [] := by simpa using hl
    have hnx : p.next z = ((p.cells.length : Int), { p with cells := p.cells ++ [⟨z, 0, false⟩] }) := by unfold Pool.next; rw [hl]
    have hcc : (p.cells ++ [⟨z, 0, false⟩])[p.cells.length]? = some ⟨z, 0, false⟩ := by simp
    have hput : p.put z v = ((((p.cells.length : Int), 1), true), ⟨p.cells ++ [⟨v, 1, true⟩], p.free, p.cap, IntKind.i64.wrap (p.held + 1), p.vis⟩) := by
      unfold Pool.put
      rw [if_neg hh, hnx]
      simp only [Int.toNat_natCast, hcc, Pool.lay]
      simp
      rfl
    have hlook : ∀ x : TRef, lookC (p.cells ++ [⟨v, 1, true⟩]) x.index x.gen = if x.index = (p.cells.length : Int) then (if (1 : Int) = x.gen then some ⟨v, 1, true⟩ else none) else lookC p.cells x.index x.gen := by
      intro x
      by_cases hi : x.index = (p.cells.length : Int)
      · rw [if_pos hi, hi, lookC_at]; simp
      · rw [if_neg hi]
        unfold lookC
        by_cases h0 : x.index < 0
        · rw [if_pos h0, if_pos h0]
        · rw [if_neg h0, if_neg h0]
          by_cases h1 : x.index.toNat < p.cells.length
          · rw [List.getElem?_append_left h1]
          · rw [List.getElem?_eq_none (by simp; omega), List.getElem?_eq_none (by omega)]
    have hnone : ∀ g : Int, look p ⟨(p.cells.length : Int), g⟩ = none := by intro g; unfold look; simp [lookC_at]
    refine ⟨⟨(p.cells.length : Int), 1⟩, ⟨p.cells ++ [⟨v, 1, true⟩], p.free, p.cap, IntKind.i64.wrap (p.held + 1), p.vis⟩, by unfold pPut; rw [h.dok, hput]; rfl, ?_, by simp, ?_, ?_, ?_, rfl⟩
    · intro hm
      have := (h.live _).2 hm
      rw [hnone] at this; cases this
    · refine ⟨by have := h.len; simp; omega, hB, by simp [hf]; simp [hf] at hr; omega, h.nodup, fun i hi => (by rw [hf] at hi; cases hi), fun d hd => ?_, fun x => ?_, ?_, hheld⟩
      · rcases List.mem_append.1 hd with hd | hd
        · exact h.gen d hd
        · simp at hd; subst hd; simp
      · unfold look
        simp only [hlook]
        by_cases hi : x.index = (p.cells.length : Int)
        · rw [if_pos hi]
          by_cases hg : (1 : Int) = x.gen
          · rw [if_pos hg]
            simp only [Option.map_some, Option.isSome_some, List.mem_cons, true_iff]
            exact .inl (ref_ext hi hg.symm)
          · rw [if_neg hg]
            simp only [Option.map_none, Option.isSome_none, Bool.false_eq_true, List.mem_cons, false_iff, not_or]
            refine ⟨fun e => hg (by rw [e]), fun hm => ?_⟩
            have := (h.live _).2 hm
            rw [show x = ⟨(p.cells.length : Int), x.gen⟩ from ref_ext hi rfl, hnone] at this; cases this
        · rw [if_neg hi]
          have := h.live x
          unfold look at this
          rw [this, List.mem_cons]
          exact ⟨.inr, fun hm => hm.resolve_left (fun e => hi (by rw [e]))⟩
      · refine List.nodup_cons.2 ⟨fun hm => ?_, h.ld⟩
        have := (h.live _).2 hm
        rw [hnone] at this; cases this
    · have := hlook ⟨(p.cells.length : Int), 1⟩
      rw [if_pos rfl, if_pos rfl] at this
      unfold look
      simp only
      rw [this]; rfl
    · intro x hx
      unfold look
      simp only [hlook]
      by_cases hi : x.index = (p.cells.length : Int)
      · rw [if_pos hi]
        have : ¬ ((1 : Int) = x.gen) := fun e => hx (ref_ext hi e.symm)
        rw [if_neg this, hi, lookC_at]; simp
      · rw [if_neg hi]
  | some i =>
    have hm : i ∈ p.free := List.mem_of_getLast? hl
    obtain ⟨h0, c, hcell, hlv, hg⟩ := h.free i hm
    have hlt := (List.getElem?_eq_some_iff.1 hcell).1
    have hsplit : p.free = p.free.dropLast ++ [i] := by
      have hne : p.free ≠ [] := List.ne_nil_of_mem hm
      have := List.dropLast_concat_getLast hne
      rw [List.getLast?_eq_some_getLast hne] at hl
      simp at hl; rw [hl] at this; exact this.symm
    have hgc := h.gen c (List.mem_of_getElem? hcell)
    have hnx : p.next z = (i, { p with free := p.free.dropLast }) := by unfold Pool.next; rw [hl]
    have hgw : IntKind.i64.wrap (c.gen + 1) = c.gen + 1 := by
      rw [show IntKind.i64.wrap (c.gen + 1) = w64 (c.gen + 1) from rfl, w64_id (by omega) (by omega)]
    have hput : p.put z v = (((i, c.gen + 1), true), ⟨p.cells.set i.toNat ⟨v, c.gen + 1, true⟩, p.free.dropLast, p.cap, IntKind.i64.wrap (p.held + 1), p.vis⟩) := by
      unfold Pool.put
      rw [if_neg hh, hnx]
      simp only [hcell, Pool.lay, hgw]
    have hnone : ∀ x : TRef, x.index = i → look p x = none := by
      intro x hx
      unfold look
      have : lookC p.cells x.index x.gen = none := by
        rw [hx, show i = ((i.toNat : Nat) : Int) by omega, lookC_at, hcell]
        simp [hlv]
      rw [this]; rfl
    have hii : ∀ x : TRef, x.index = ((i.toNat : Nat) : Int) ↔ x.index = i := fun x => by omega
    refine ⟨⟨i, c.gen + 1⟩, ⟨p.cells.set i.toNat ⟨v, c.gen + 1, true⟩, p.free.dropLast, p.cap, IntKind.i64.wrap (p.held + 1), p.vis⟩, by unfold pPut; rw [h.dok, hput]; rfl, ?_, by simp; omega, ?_, ?_, ?_, rfl⟩
    · intro hmm
      have := (h.live _).2 hmm
      rw [hnone _ rfl] at this; cases this
    · have hdl : p.free.dropLast.length = p.free.length - 1 := by simp
      have hfp : 0 < p.free.length := List.length_pos_of_mem hm
      refine ⟨by have := h.len; simp; omega, hB, by simp; omega, ?_, fun j hj => ?_, fun d hd => ?_, fun x => ?_, ?_, hheld⟩
      · have := h.nodup
        rw [hsplit] at this
        exact (List.nodup_append.1 this).1
      · have hj' : j ∈ p.free := by rw [hsplit]; exact List.mem_append_left _ hj
        obtain ⟨j0, d, hd, hl', hg'⟩ := h.free j hj'
        refine ⟨j0, d, ?_, hl', hg'⟩
        have hne : i.toNat ≠ j.toNat := by
          intro e
          have : i = j := by omega
          subst this
          have hn := h.nodup
          rw [hsplit] at hn
          exact (List.nodup_append.1 hn).2.2 i hj i (by simp) rfl
        simp only
        rw [List.getElem?_set_ne hne]; exact hd
      · rcases List.mem_or_eq_of_mem_set hd with hd | rfl
        · exact h.gen d hd
        · exact ⟨by simp only; omega, by simp only; omega, fun _ => by simp only; omega⟩
      · unfold look
        simp only [look_set hcell, hii]
        by_cases hi : x.index = i
        · rw [if_pos hi]
          by_cases hgx : c.gen + 1 = x.gen
          · simp only [hgx, and_self, if_true, Option.map_some, Option.isSome_some, List.mem_cons, true_iff]
            exact .inl (ref_ext hi rfl)
          · simp only [hgx, and_false, if_false, Option.map_none, Option.isSome_none, Bool.false_eq_true, List.mem_cons, false_iff, not_or]
            refine ⟨fun e => hgx (by rw [e]), fun hmm => ?_⟩
            have := (h.live _).2 hmm
            rw [hnone _ hi] at this; cases this
        · rw [if_neg hi]
          have := h.live x
          unfold look at this
          rw [this, List.mem_cons]
          exact ⟨.inr, fun hmm => hmm.resolve_left (fun e => hi (by rw [e]))⟩
      · refine List.nodup_cons.2 ⟨fun hmm => ?_, h.ld⟩
        have := (h.live _).2 hmm
        rw [hnone _ rfl] at this; cases this
    · have := look_set hcell ⟨v, c.gen + 1, true⟩ ⟨i, c.gen + 1⟩
      rw [if_pos (by simp only; omega), if_pos ⟨rfl, rfl⟩] at this
      unfold look
      simp only
      rw [this]; rfl
    · intro x hx
      by_cases hi : x.index = i
      · rw [hnone x hi]
        unfold look
        simp only [look_set hcell, hii]
        have : ¬ (c.gen + 1 = x.gen) := fun e => hx (ref_ext hi e.symm)
        rw [if_pos hi]; simp [this]
      · unfold look
        simp only [look_set hcell, hii]
        rw [if_neg hi]
end
end Go.Proofs.Ytjokolmijhhinaa
namespace Go.Proofs.Ytjokolmijhhinaa
open Go Go.Proofs.Ytjokolmijhhinaa.Sx
inductive Tr (E : Type) where
  | nil
  | node (r : TRef) (e : E) (l u : Tr E)
namespace Tr
variable {E : Type}
def size : Tr E → Nat
  | nil => 0
  | node _ _ l u => l.size + 1 + u.size
abbrev w (t : Tr E) : Nat := t.size + 1
def toList : Tr E → List E
  | nil => []
  | node _ e l u => l.toList ++ e :: u.toList
def refs : Tr E → List TRef
  | nil => []
  | node r _ l u => l.refs ++ r :: u.refs
theorem len_toList : ∀ t : Tr E, t.toList.length = t.size
  | nil => rfl
  | node _ _ l u => by simp only [toList, List.length_append, List.length_cons, len_toList l, len_toList u, size]; omega
theorem len_refs : ∀ t : Tr E, t.refs.length = t.size
  | nil => rfl
  | node _ _ l u => by simp only [refs, List.length_append, List.length_cons, len_refs l, len_refs u, size]; omega
def turnL : Tr E → Tr E
  | node r e l (node r2 e2 a b) => node r2 e2 (node r e l a) b
  | t => t
def turnR : Tr E → Tr E
  | node r e (node r2 e2 a b) u => node r2 e2 a (node r e b u)
  | t => t
def bal : Tr E → Tr E
  | nil => nil
  | node r e l u =>
    if u.w > 3 * l.w then (match u with
      | node r2 e2 a b => if a.w ≥ 2 * b.w then turnL (node r e l (turnR (node r2 e2 a b))) else turnL (node r e l (node r2 e2 a b))
      | nil => node r e l u)
    else if l.w > 3 * u.w then (match l with
      | node r2 e2 a b => if b.w ≥ 2 * a.w then turnR (node r e (turnL (node r2 e2 a b)) u) else turnR (node r e (node r2 e2 a b) u)
      | nil => node r e l u)
    else node r e l u
def link : Nat → Tr E → TRef → E → Tr E → Tr E
  | 0, l, r, e, u => node r e l u
  | n + 1, l, r, e, u =>
    if u.w > 3 * l.w then (match u with
      | node r2 e2 a b => bal (node r2 e2 (link n l r e a) b)
      | nil => node r e l u)
    else if l.w > 3 * u.w then (match l with
      | node r2 e2 a b => bal (node r2 e2 a (link n b r e u))
      | nil => node r e l u)
    else node r e l u
theorem bal_node (r : TRef) (e : E) (l u : Tr E) : bal (node r e l u) =
    if u.w > 3 * l.w then (match u with
      | node r2 e2 a b => if a.w ≥ 2 * b.w then turnL (node r e l (turnR (node r2 e2 a b))) else turnL (node r e l (node r2 e2 a b))
      | nil => node r e l u)
    else if l.w > 3 * u.w then (match l with
      | node r2 e2 a b => if b.w ≥ 2 * a.w then turnR (node r e (turnL (node r2 e2 a b)) u) else turnR (node r e (node r2 e2 a b) u)
      | nil => node r e l u)
    else node r e l u := by rw [bal.eq_def]
theorem link_succ (n : Nat) (l : Tr E) (r : TRef) (e : E) (u : Tr E) : link (n + 1) l r e u =
    if u.w > 3 * l.w then (match u with
      | node r2 e2 a b => bal (node r2 e2 (link n l r e a) b)
      | nil => node r e l u)
    else if l.w > 3 * u.w then (match l with
      | node r2 e2 a b => bal (node r2 e2 a (link n b r e u))
      | nil => node r e l u)
    else node r e l u := by rw [link.eq_def]
theorem turnL_list (t : Tr E) : t.turnL.toList = t.toList := by
  unfold turnL; split <;> simp [toList]
theorem turnR_list (t : Tr E) : t.turnR.toList = t.toList := by
  unfold turnR; split <;> simp [toList]
theorem turnL_refs (t : Tr E) : t.turnL.refs = t.refs := by
  unfold turnL; split <;> simp [refs]
theorem turnR_refs (t : Tr E) : t.turnR.refs = t.refs := by
  unfold turnR; split <;> simp [refs]
theorem bal_list (t : Tr E) : t.bal.toList = t.toList := by
  cases t with
  | nil => rfl
  | node r e l u =>
    rw [bal_node]
    split
    · cases u with
      | nil => rfl
      | node r2 e2 a b =>
        simp only
        split
        · rw [turnL_list]; simp only [toList]; rw [turnR_list]; simp [toList]
        · rw [turnL_list]
    · split
      · cases l with
        | nil => rfl
        | node r2 e2 a b =>
          simp only
          split
          · rw [turnR_list]; simp only [toList]; rw [turnL_list]; simp [toList]
          · rw [turnR_list]
      · rfl
theorem bal_refs (t : Tr E) : t.bal.refs = t.refs := by
  cases t with
  | nil => rfl
  | node r e l u =>
    rw [bal_node]
    split
    · cases u with
      | nil => rfl
      | node r2 e2 a b =>
        simp only
        split
        · rw [turnL_refs]; simp only [refs]; rw [turnR_refs]; simp [refs]
        · rw [turnL_refs]
    · split
      · cases l with
        | nil => rfl
        | node r2 e2 a b =>
          simp only
          split
          · rw [turnR_refs]; simp only [refs]; rw [turnL_refs]; simp [refs]
          · rw [turnR_refs]
      · rfl
theorem link_list : ∀ (n : Nat) (l : Tr E) (r : TRef) (e : E) (u : Tr E), (link n l r e u).toList = l.toList ++ e :: u.toList
  | 0, l, r, e, u => rfl
  | n + 1, l, r, e, u => by
    rw [link_succ]
    split
    · cases u with
      | nil => rfl
      | node r2 e2 a b => simp only [bal_list, toList, link_list n l r e a]; simp
    · split
      · cases l with
        | nil => rfl
        | node r2 e2 a b => simp only [bal_list, toList, link_list n b r e u]; simp
      · rfl
theorem link_refs : ∀ (n : Nat) (l : Tr E) (r : TRef) (e : E) (u : Tr E), (link n l r e u).refs = l.refs ++ r :: u.refs
  | 0, l, r, e, u => rfl
  | n + 1, l, r, e, u => by
    rw [link_succ]
    split
    · cases u with
      | nil => rfl
      | node r2 e2 a b => simp only [bal_refs, refs, link_refs n l r e a]; simp
    · split
      · cases l with
        | nil => rfl
        | node r2 e2 a b => simp only [bal_refs, refs, link_refs n b r e u]; simp
      · rfl
theorem link_size (n : Nat) (l : Tr E) (r : TRef) (e : E) (u : Tr E) : (link n l r e u).size = l.size + 1 + u.size := by
  rw [← len_toList, link_list]; simp [len_toList]; omega
def last (k : Nat) : Tr E → Tr E × Option (TRef × E)
  | nil => (nil, none)
  | node r e l u => match u with
    | nil => (l, some (r, e))
    | node r2 e2 a b => (link k l r e (last k (node r2 e2 a b)).1, (last k (node r2 e2 a b)).2)
def merge (k : Nat) (l u : Tr E) : Tr E := match l, u with
  | nil, u => u
  | l, nil => l
  | l, u => match last k l with
    | (rest, some (m, e)) => link k rest m e u
    | (rest, none) => u
theorem last_spec (k : Nat) : ∀ (t : Tr E), t ≠ nil → ∃ m e, (last k t).2 = some (m, e) ∧ t.toList = (last k t).1.toList ++ [e] ∧ t.refs = (last k t).1.refs ++ [m]
  | nil, h => absurd rfl h
  | node r e l nil, _ => ⟨r, e, rfl, by simp [last, toList], by simp [last, refs]⟩
  | node r e l (node r2 e2 a b), _ => by
    obtain ⟨m, x, h1, h2, h3⟩ := last_spec k (node r2 e2 a b) (by simp)
    refine ⟨m, x, ?_, ?_, ?_⟩
    · unfold last; exact h1
    · have : (last k (node r e l (node r2 e2 a b))).1 = link k l r e (last k (node r2 e2 a b)).1 := by rw [last]
      rw [this, link_list]
      have e1 : (node r e l (node r2 e2 a b)).toList = l.toList ++ e :: (node r2 e2 a b).toList := rfl
      rw [e1, h2]; simp
    · have : (last k (node r e l (node r2 e2 a b))).1 = link k l r e (last k (node r2 e2 a b)).1 := by rw [last]
      rw [this, link_refs]
      have e1 : (node r e l (node r2 e2 a b)).refs = l.refs ++ r :: (node r2 e2 a b).refs := rfl
      rw [e1, h3]; simp
theorem merge_spec (k : Nat) (l u : Tr E) : (merge k l u).toList = l.toList ++ u.toList ∧ (merge k l u).refs = l.refs ++ u.refs := by
  cases l with
  | nil => simp [merge, toList, refs]
  | node r e a b =>
    cases u with
    | nil => simp [merge, toList, refs]
    | node r2 e2 c d =>
      obtain ⟨m, x, h1, h2, h3⟩ := last_spec k (node r e a b) (by simp)
      have : merge k (node r e a b) (node r2 e2 c d) = link k (last k (node r e a b)).1 m x (node r2 e2 c d) := by
        unfold merge
        have : last k (node r e a b) = ((last k (node r e a b)).1, some (m, x)) := by rw [← h1]
        simp only
        rw [this]
      rw [this, link_list, link_refs, h2, h3]
      simp
end Tr
structure OpsOk {E A : Type} (O : Ops E A) (k N : Nat) (G : E → Prop) (S : A → List E → Prop) (lt : E → E → Prop) : Prop where
  cmp : ∀ a b, ∃ c, O.cmp k a b = some c ∧ (c < 0 ↔ lt a b) ∧ (c > 0 ↔ lt b a)
  sum : ∀ e, G e → ∃ s, O.sum k e = some s ∧ S s [e]
  plus : ∀ {a b l r}, S a l → S b r → (∀ e ∈ l ++ r, G e) → (l ++ r).length < N → ∃ c, O.plus k a b = some c ∧ S c (l ++ r)
  zero : S O.zA []
  irrefl : ∀ a, ¬ lt a a
  trans : ∀ {a b c}, lt a b → lt b c → lt a c
  left : ∀ {a b c}, ¬ lt a b → ¬ lt b a → lt a c → lt b c
  right : ∀ {a b c}, ¬ lt a b → ¬ lt b a → lt c a → lt c b
  big : N < 4294967296
section
variable {E A : Type} {O : Ops E A} {k N : Nat} {G : E → Prop} {S : A → List E → Prop} {lt : E → E → Prop}
abbrev PN (E A : Type) := Pool (TNode E A)
def Rep (S : A → List E → Prop) (p : PN E A) : TRef → Tr E → Prop
  | r, .nil => r = zTRef
  | r, .node r' e l u => r = r' ∧ r.gen ≠ 0 ∧ ∃ n, look p r = some n ∧ n.e = e ∧ n.size = ((l.size + 1 + u.size : Nat) : Int) ∧ S n.sum (l.toList ++ e :: u.toList) ∧ Rep S p n.left l ∧ Rep S p n.right u
theorem Rep.frame {p p' : PN E A} : ∀ {t : Tr E} {r : TRef}, Rep S p r t → (∀ x ∈ t.refs, look p' x = look p x) → Rep S p' r t
  | .nil, _, h, _ => h
  | .node r' e l u, r, ⟨h1, h2, n, h3, h4, h5, h6, h7, h8⟩, hf => by
    subst h1
    refine ⟨rfl, h2, n, (hf r (by simp [Tr.refs])).trans h3, h4, h5, h6, h7.frame (fun x hx => hf x (by simp [Tr.refs, hx])), h8.frame (fun x hx => hf x (by simp [Tr.refs, hx]))⟩
theorem Rep.sub {p : PN E A} {L : List TRef} {B : Nat} (hP : PW p L B) : ∀ {t : Tr E} {r : TRef}, Rep S p r t → ∀ x ∈ t.refs, x ∈ L
  | .nil, _, _, x, hx => by simp [Tr.refs] at hx
  | .node r' e l u, r, ⟨h1, h2, n, h3, h4, h5, h6, h7, h8⟩, x, hx => by
    subst h1
    simp only [Tr.refs, List.mem_append, List.mem_cons] at hx
    rcases hx with hx | rfl | hx
    · exact h7.sub hP x hx
    · exact hP.mem h3
    · exact h8.sub hP x hx
theorem Rep.nil_iff {p : PN E A} {r : TRef} {t : Tr E} (h : Rep S p r t) : r.gen = 0 ↔ t = .nil := by
  cases t with
  | nil => have : r = zTRef := h; rw [this]; simp
  | node r' e l u => obtain ⟨h1, h2, _⟩ := h; simp [h2]
structure IsN (S : A → List E → Prop) (p : PN E A) (r : TRef) (t : Tr E) (n : TNode E A) : Prop where
  size : n.size = (t.size : Int)
  sum : S n.sum t.toList
  node : ∀ {r' e l u}, t = .node r' e l u → r = r' ∧ n.e = e ∧ Rep S p n.left l ∧ Rep S p n.right u ∧ look p r = some n
theorem get_ok (ok : OpsOk O k N G S lt) {p : PN E A} {L : List TRef} {B : Nat} (hP : PW p L B) {t : Tr E} {r : TRef} (h : Rep S p r t) : ∃ n, Tree_get.f O k p r = some n ∧ IsN S p r t n := by
  unfold Tree_get.f
  cases t with
  | nil =>
    have : r = zTRef := h
    subst this
    exact ⟨zNode O, rfl, rfl, ok.zero, fun e => by cases e⟩
  | node r' e l u =>
    obtain ⟨h1, h2, n, h3, h4, h5, h6, h7, h8⟩ := h
    subst h1
    have e0 : (r.gen == 0) = false := by simpa using h2
    refine ⟨n, ?_, h5, by rw [Tr.toList]; exact h6, fun e => by cases e; exact ⟨rfl, h4, h7, h8, h3⟩⟩
    rw [e0, hP.get h3]; rfl
theorem weight_ok (ok : OpsOk O k N G S lt) {p : PN E A} {L : List TRef} {B : Nat} (hP : PW p L B) {t : Tr E} {r : TRef} (h : Rep S p r t) (hs : t.size < 4294967296) : Tree_weight.f O k p r = some ((t.w : Nat) : Int) := by
  obtain ⟨n, h1, h2⟩ := get_ok ok hP h
  unfold Tree_weight.f
  rw [h1]
  simp only [Option.bind_some, h2.size]
  rw [w64_id (by omega) (by omega)]
  rfl
structure Left (S : A → List E → Prop) (p p' : PN E A) (L : List TRef) (B : Nat) (r : TRef) (t : Tr E) (F : List TRef) : Prop where
  pw : PW p' L B
  rep : Rep S p' r t
  frame : ∀ x, x ∉ F → look p' x = look p x
  cap : p'.cap = p.cap
theorem lay_ok (ok : OpsOk O k N G S lt) {p : PN E A} {L : List TRef} {B : Nat} (hP : PW p L B) {r a b : TRef} {n0 : TNode E A} (hr : look p r = some n0) {l u : Tr E} (hl : Rep S p a l) (hu : Rep S p b u)
    (h1 : r ∉ l.refs) (h2 : r ∉ u.refs) (hG : ∀ e ∈ l.toList ++ n0.e :: u.toList, G e) (hN : l.size + 1 + u.size < N) : ∃ p', Tree_lay.f O k p r a b = some (r, p') ∧ Left S p p' L B r (.node r n0.e l u) [r] := by
  have hg := hP.gen_ne (hP.mem hr)
  have e0 : (r.gen == 0) = false := by simpa using hg
  have hget : Tree_get.f O k p r = some n0 := by unfold Tree_get.f; rw [e0, hP.get hr]; rfl
  obtain ⟨nl, l1, l2⟩ := get_ok ok hP hl
  obtain ⟨nu, u1, u2⟩ := get_ok ok hP hu
  obtain ⟨s, s1, s2⟩ := ok.sum n0.e (hG _ (by simp))
  obtain ⟨c1, c2, c3⟩ := ok.plus l2.sum s2 (fun e he => hG e (by simp at he ⊢; rcases he with he | he; exact .inl he; exact .inr (.inl he))) (by simp [Tr.len_toList]; omega)
  obtain ⟨d1, d2, d3⟩ := ok.plus c3 u2.sum (fun e he => hG e (by simpa [or_assoc] using he)) (by simp [Tr.len_toList]; omega)
  have hb := ok.big
  have hsz : w64 (w64 (nl.size + 1) + nu.size) = ((l.size + 1 + u.size : Nat) : Int) := by
    have e1 : w64 ((l.size : Int) + 1) = (l.size : Int) + 1 := w64_id (by omega) (by omega)
    rw [l2.size, u2.size, e1, w64_id (by omega) (by omega)]; omega
  obtain ⟨p', q1, q2, q3, q4, q5⟩ := hP.set hr (TNode.mk n0.e a b (w64 (w64 (nl.size + 1) + nu.size)) d1)
  refine ⟨p', ?_, q2, ⟨rfl, hg, _, q3, rfl, hsz, by simpa using d3, hl.frame (fun x hx => q4 x (fun e => h1 (e ▸ hx))), hu.frame (fun x hx => q4 x (fun e => h2 (e ▸ hx)))⟩, fun x hx => q4 x (by simpa using hx), q5⟩
  unfold Tree_lay.f
  rw [hget, l1, u1]
  simp only [Option.bind_some, s1, c2, d2, q1]
theorem turnLeft_ok (ok : OpsOk O k N G S lt) {p : PN E A} {L : List TRef} {B : Nat} (hP : PW p L B) {r r' r2 : TRef} {e e2 : E} {l a b : Tr E} (h : Rep S p r (.node r' e l (.node r2 e2 a b))) (hnd : (Tr.node r' e l (.node r2 e2 a b)).refs.Nodup)
    (hG : ∀ x ∈ (Tr.node r' e l (.node r2 e2 a b)).toList, G x) (hN : (Tr.node r' e l (.node r2 e2 a b)).size < N) : ∃ p', Tree_turnLeft.f O k p r = some (r2, p') ∧ Left S p p' L B r2 (.node r2 e2 (.node r' e l a) b) (Tr.node r' e l (.node r2 e2 a b)).refs := by
  obtain ⟨n, g1, g2⟩ := get_ok ok hP h
  obtain ⟨rfl, he, hl, hu, hlk⟩ := g2.node rfl
  obtain ⟨n2, g3, g4⟩ := get_ok ok hP hu
  obtain ⟨hr2, he2, ha, hb, hlk2⟩ := g4.node rfl
  simp only [Tr.refs, List.nodup_append, List.nodup_cons, List.mem_append, List.mem_cons, not_or] at hnd
  obtain ⟨nl, ⟨⟨nr1, nr2, nr3⟩, na, ⟨nb1, nb⟩, nab⟩, nlu⟩ := hnd
  simp only [Tr.toList, List.mem_append, List.mem_cons] at hG
  simp only [Tr.size] at hN
  have hra : r ∉ a.refs := nr1
  obtain ⟨p1, q1, q2⟩ := lay_ok ok hP hlk hl ha (fun hm => nlu _ hm _ (.inl rfl) rfl) nr1 (fun x hx => hG x (by rw [he] at hx; simp at hx ⊢; rcases hx with hx | hx | hx <;> simp [hx])) (by omega)
  have hb1 : Rep S p1 n2.right b := hb.frame (fun x hx => q2.frame x (by simp; rintro rfl; exact nr3 hx))
  have hlk2' : look p1 r2 = some n2 := by rw [q2.frame r2 (by simp; exact fun e => nr2 e.symm), ← hr2]; exact hlk2
  have hrep1 : Rep S p1 r (.node r e l a) := by have := q2.rep; rw [he] at this; exact this
  obtain ⟨p2, q3, q4⟩ := lay_ok ok q2.pw hlk2' hrep1 hb1 (by simp only [Tr.refs, List.mem_append, List.mem_cons, not_or]; exact ⟨fun hm => nlu _ hm _ (.inr (.inr (.inl rfl))) rfl, fun e => nr2 e.symm, fun hm => nab _ hm _ (.inl rfl) rfl⟩) nb1
    (fun x hx => hG x (by rw [he2] at hx; simp [Tr.toList] at hx ⊢; rcases hx with hx | hx | hx | hx | hx <;> simp [hx])) (by simp only [Tr.size]; omega)
  refine ⟨p2, ?_, q4.pw, by have := q4.rep; rw [he2] at this; exact this, fun x hx => ?_, q4.cap.trans q2.cap⟩
  · unfold Tree_turnLeft.f
    rw [g1]
    simp only [Option.bind_some, g3, q1]
    rw [hr2, q3]; rfl
  · simp only [Tr.refs, List.mem_append, List.mem_cons, not_or] at hx
    rw [q4.frame x (by simp; exact hx.2.2.2.1), q2.frame x (by simp; exact hx.2.1)]
theorem turnRight_ok (ok : OpsOk O k N G S lt) {p : PN E A} {L : List TRef} {B : Nat} (hP : PW p L B) {r r' r2 : TRef} {e e2 : E} {u a b : Tr E} (h : Rep S p r (.node r' e (.node r2 e2 a b) u)) (hnd : (Tr.node r' e (.node r2 e2 a b) u).refs.Nodup)
    (hG : ∀ x ∈ (Tr.node r' e (.node r2 e2 a b) u).toList, G x) (hN : (Tr.node r' e (.node r2 e2 a b) u).size < N) : ∃ p', Tree_turnRight.f O k p r = some (r2, p') ∧ Left S p p' L B r2 (.node r2 e2 a (.node r' e b u)) (Tr.node r' e (.node r2 e2 a b) u).refs := by
  obtain ⟨n, g1, g2⟩ := get_ok ok hP h
  obtain ⟨rfl, he, hl, hu, hlk⟩ := g2.node rfl
  obtain ⟨n2, g3, g4⟩ := get_ok ok hP hl
  obtain ⟨hr2, he2, ha, hb, hlk2⟩ := g4.node rfl
  simp only [Tr.refs, List.nodup_append, List.nodup_cons, List.mem_append, List.mem_cons, not_or] at hnd
  obtain ⟨⟨na, ⟨nb1, nb⟩, nab⟩, ⟨nu1, nu⟩, nlu⟩ := hnd
  simp only [Tr.toList, List.mem_append, List.mem_cons] at hG
  simp only [Tr.size] at hN
  have hne : r2 ≠ r := fun e => nlu r2 (.inr (.inl rfl)) r (.inl rfl) e
  obtain ⟨p1, q1, q2⟩ := lay_ok ok hP hlk hb hu (fun hm => nlu r (.inr (.inr hm)) r (.inl rfl) rfl) nu1 (fun x hx => hG x (by rw [he] at hx; simp at hx ⊢; rcases hx with hx | hx | hx <;> simp [hx])) (by omega)
  have ha1 : Rep S p1 n2.left a := ha.frame (fun x hx => q2.frame x (by simp; rintro rfl; exact nlu _ (.inl hx) _ (.inl rfl) rfl))
  have hlk2' : look p1 r2 = some n2 := by rw [q2.frame r2 (by simp; exact hne), ← hr2]; exact hlk2
  have hrep1 : Rep S p1 r (.node r e b u) := by have := q2.rep; rw [he] at this; exact this
  obtain ⟨p2, q3, q4⟩ := lay_ok ok q2.pw hlk2' ha1 hrep1 (fun hm => nab _ hm _ (.inl rfl) rfl) (by simp only [Tr.refs, List.mem_append, List.mem_cons, not_or]; exact ⟨nb1, hne, fun hm => nlu _ (.inr (.inl rfl)) _ (.inr hm) rfl⟩)
    (fun x hx => hG x (by rw [he2] at hx; simp [Tr.toList] at hx ⊢; rcases hx with hx | hx | hx | hx | hx <;> simp [hx])) (by simp only [Tr.size]; omega)
  refine ⟨p2, ?_, q4.pw, by have := q4.rep; rw [he2] at this; exact this, fun x hx => ?_, q4.cap.trans q2.cap⟩
  · unfold Tree_turnRight.f
    rw [g1]
    simp only [Option.bind_some, g3, q1]
    rw [hr2, q3]; rfl
  · simp only [Tr.refs, List.mem_append, List.mem_cons, not_or] at hx
    rw [q4.frame x (by simp; exact hx.1.2.1), q2.frame x (by simp; exact hx.2.1)]
end
end Go.Proofs.Ytjokolmijhhinaa
namespace Go.Proofs.Ytjokolmijhhinaa
open Go Go.Proofs.Ytjokolmijhhinaa.Sx
section
variable {E A : Type} {O : Ops E A} {k N : Nat} {G : E → Prop} {S : A → List E → Prop} {lt : E → E → Prop}
theorem dec_gt3 {a b : Nat} (hb : b < 4294967296) : decide ((a : Int) > w64 (3 * (b : Int))) = decide (a > 3 * b) := by
  rw [w64_id (by omega) (by omega)]
  by_cases h : a > 3 * b
  · simp only [h, decide_true, decide_eq_true_eq]; omega
  · simp only [h, decide_false, decide_eq_false_iff_not]; omega
theorem dec_ge2 {a b : Nat} (hb : b < 4294967296) : decide ((a : Int) ≥ w64 (2 * (b : Int))) = decide (a ≥ 2 * b) := by
  rw [w64_id (by omega) (by omega)]
  by_cases h : a ≥ 2 * b
  · simp only [h, decide_true, decide_eq_true_eq]; omega
  · simp only [h, decide_false, decide_eq_false_iff_not]; omega
theorem nodup_left {l u : List TRef} {r : TRef} (h : (l ++ r :: u).Nodup) : l.Nodup := (List.nodup_append.1 h).1
theorem nodup_right {l u : List TRef} {r : TRef} (h : (l ++ r :: u).Nodup) : u.Nodup := (List.nodup_cons.1 (List.nodup_append.1 h).2.1).2
theorem nodup_l {l u : List TRef} {r : TRef} (h : (l ++ r :: u).Nodup) : r ∉ l := fun hm => (List.nodup_append.1 h).2.2 r hm r List.mem_cons_self rfl
theorem nodup_u {l u : List TRef} {r : TRef} (h : (l ++ r :: u).Nodup) : r ∉ u := (List.nodup_cons.1 (List.nodup_append.1 h).2.1).1
theorem nodup_lu {l u : List TRef} {r : TRef} (h : (l ++ r :: u).Nodup) {x : TRef} (hl : x ∈ l) (hu : x ∈ u) : False := (List.nodup_append.1 h).2.2 x hl x (List.mem_cons_of_mem _ hu) rfl
theorem balance_ok (ok : OpsOk O k N G S lt) {p : PN E A} {L : List TRef} {B : Nat} (hP : PW p L B) {r r0 : TRef} {e : E} {l u : Tr E} (h : Rep S p r (.node r0 e l u)) (hnd : (Tr.node r0 e l u).refs.Nodup)
    (hG : ∀ x ∈ (Tr.node r0 e l u).toList, G x) (hN : (Tr.node r0 e l u).size < N) : ∃ r' p', Tree_balance.f O k p r = some (r', p') ∧ Left S p p' L B r' (Tr.bal (.node r0 e l u)) (Tr.node r0 e l u).refs := by
  have hbig := ok.big
  obtain ⟨n, g1, g2⟩ := get_ok ok hP h
  obtain ⟨rfl, he, hl, hu, hlk⟩ := g2.node rfl
  have hN' := hN
  simp only [Tr.size] at hN'
  have wl := weight_ok ok hP hl (by omega)
  have wu := weight_ok ok hP hu (by omega)
  unfold Tree_balance.f
  rw [g1]
  simp only [Option.bind_some, wl, wu]
  rw [dec_gt3 (by simp only [Tr.w]; omega), dec_gt3 (by simp only [Tr.w]; omega), Tr.bal_node]
  by_cases c1 : u.w > 3 * l.w
  · simp only [c1, decide_true, cond_true, if_true]
    cases u with
    | nil => simp only [Tr.w, Tr.size] at c1; omega
    | node r2 e2 a b =>
      obtain ⟨n2, q1, q2⟩ := get_ok ok hP hu
      obtain ⟨hr2, he2, ha, hb, hlk2⟩ := q2.node rfl
      simp only [Tr.size] at hN'
      have wa := weight_ok ok hP ha (by omega)
      have wb := weight_ok ok hP hb (by omega)
      simp only [q1, Option.bind_some, wa, wb]
      rw [dec_ge2 (by simp only [Tr.w]; omega)]
      by_cases c2 : a.w ≥ 2 * b.w
      · simp only [c2, decide_true, cond_true, if_true]
        cases a with
        | nil => simp only [Tr.w, Tr.size] at c2; omega
        | node r3 e3 c d =>
          have hndu : (Tr.node r2 e2 (.node r3 e3 c d) b).refs.Nodup := nodup_right hnd
          obtain ⟨p1, t1, t2⟩ := turnRight_ok ok hP hu hndu (fun x hx => hG x (by simp [Tr.toList] at hx ⊢; rcases hx with hx | hx | hx | hx | hx <;> simp [hx])) (by simp only [Tr.size] at hN ⊢; omega)
          have hlk1 : look p1 r = some n := by rw [t2.frame r (nodup_u hnd)]; exact hlk
          have hl1 : Rep S p1 n.left l := hl.frame (fun x hx => t2.frame x (fun hm => nodup_lu hnd hx hm))
          have hrf : (Tr.node r3 e3 c (.node r2 e2 d b)).refs = (Tr.node r2 e2 (.node r3 e3 c d) b).refs := by simp [Tr.refs]
          have htl : (Tr.node r3 e3 c (.node r2 e2 d b)).toList = (Tr.node r2 e2 (.node r3 e3 c d) b).toList := by simp [Tr.toList]
          obtain ⟨p2, v1, v2⟩ := lay_ok ok t2.pw hlk1 hl1 t2.rep (nodup_l hnd) (by rw [hrf]; exact nodup_u hnd) (fun x hx => hG x (by rw [he, htl] at hx; exact hx)) (by simp only [Tr.size] at hN ⊢; omega)
          have hrep : Rep S p2 r (.node r e l (.node r3 e3 c (.node r2 e2 d b))) := by have := v2.rep; rw [he] at this; exact this
          obtain ⟨p3, y1, y2⟩ := turnLeft_ok ok v2.pw hrep (by simp only [Tr.refs] at hnd ⊢; simpa using hnd) (fun x hx => hG x (by simp [Tr.toList] at hx ⊢; exact hx)) (by simp only [Tr.size] at hN ⊢; omega)
          refine ⟨r3, p3, ?_, y2.pw, ?_, fun x hx => ?_, y2.cap.trans (v2.cap.trans t2.cap)⟩
          · simp only [t1, Option.bind_some, v1, y1]
          · simp only [Tr.turnR, Tr.turnL]; exact y2.rep
          · have hx2 : x ∉ (Tr.node r e l (.node r3 e3 c (.node r2 e2 d b))).refs := by simpa [Tr.refs] using hx
            simp only [Tr.refs, List.mem_append, List.mem_cons, not_or] at hx
            rw [y2.frame x hx2, v2.frame x (by simp; exact hx.2.1), t2.frame x (by simp only [Tr.refs, List.mem_append, List.mem_cons, not_or]; exact hx.2.2)]
      · simp only [c2, decide_false, cond_false, if_false]
        obtain ⟨p1, t1, t2⟩ := turnLeft_ok ok hP h hnd hG hN
        refine ⟨r2, p1, ?_, t2.pw, by simp only [Tr.turnL]; exact t2.rep, t2.frame, t2.cap⟩
        simp only [t1, Option.bind_some]
  · simp only [c1, decide_false, cond_false, if_false]
    by_cases c3 : l.w > 3 * u.w
    · simp only [c3, decide_true, cond_true, if_true]
      cases l with
      | nil => simp only [Tr.w, Tr.size] at c3; omega
      | node r2 e2 a b =>
        obtain ⟨n2, q1, q2⟩ := get_ok ok hP hl
        obtain ⟨hr2, he2, ha, hb, hlk2⟩ := q2.node rfl
        simp only [Tr.size] at hN'
        have wa := weight_ok ok hP ha (by omega)
        have wb := weight_ok ok hP hb (by omega)
        simp only [q1, Option.bind_some, wa, wb]
        rw [dec_ge2 (by simp only [Tr.w]; omega)]
        by_cases c2 : b.w ≥ 2 * a.w
        · simp only [c2, decide_true, cond_true, if_true]
          cases b with
          | nil => simp only [Tr.w, Tr.size] at c2; omega
          | node r3 e3 c d =>
            have hndl : (Tr.node r2 e2 a (.node r3 e3 c d)).refs.Nodup := nodup_left hnd
            obtain ⟨p1, t1, t2⟩ := turnLeft_ok ok hP hl hndl (fun x hx => hG x (by simp [Tr.toList] at hx ⊢; rcases hx with hx | hx | hx | hx | hx <;> simp [hx])) (by simp only [Tr.size] at hN ⊢; omega)
            have hlk1 : look p1 r = some n := by rw [t2.frame r (nodup_l hnd)]; exact hlk
            have hu1 : Rep S p1 n.right u := hu.frame (fun x hx => t2.frame x (fun hm => nodup_lu hnd hm hx))
            have hrf : (Tr.node r3 e3 (.node r2 e2 a c) d).refs = (Tr.node r2 e2 a (.node r3 e3 c d)).refs := by simp [Tr.refs]
            have htl : (Tr.node r3 e3 (.node r2 e2 a c) d).toList = (Tr.node r2 e2 a (.node r3 e3 c d)).toList := by simp [Tr.toList]
            obtain ⟨p2, v1, v2⟩ := lay_ok ok t2.pw hlk1 t2.rep hu1 (by rw [hrf]; exact nodup_l hnd) (nodup_u hnd) (fun x hx => hG x (by rw [he, htl] at hx; exact hx)) (by simp only [Tr.size] at hN ⊢; omega)
            have hrep : Rep S p2 r (.node r e (.node r3 e3 (.node r2 e2 a c) d) u) := by have := v2.rep; rw [he] at this; exact this
            obtain ⟨p3, y1, y2⟩ := turnRight_ok ok v2.pw hrep (by simp only [Tr.refs] at hnd ⊢; simpa using hnd) (fun x hx => hG x (by simp [Tr.toList] at hx ⊢; exact hx)) (by simp only [Tr.size] at hN ⊢; omega)
            refine ⟨r3, p3, ?_, y2.pw, ?_, fun x hx => ?_, y2.cap.trans (v2.cap.trans t2.cap)⟩
            · simp only [t1, Option.bind_some, v1, y1]
            · simp only [Tr.turnR, Tr.turnL]; exact y2.rep
            · have hx2 : x ∉ (Tr.node r e (.node r3 e3 (.node r2 e2 a c) d) u).refs := by simpa [Tr.refs] using hx
              simp only [Tr.refs, List.mem_append, List.mem_cons, not_or] at hx
              rw [y2.frame x hx2, v2.frame x (by simp; exact hx.2.1), t2.frame x (by simp only [Tr.refs, List.mem_append, List.mem_cons, not_or]; exact hx.1)]
        · simp only [c2, decide_false, cond_false, if_false]
          obtain ⟨p1, t1, t2⟩ := turnRight_ok ok hP h hnd hG hN
          refine ⟨r2, p1, ?_, t2.pw, by simp only [Tr.turnR]; exact t2.rep, t2.frame, t2.cap⟩
          simp only [t1, Option.bind_some]
    · simp only [c3, decide_false, cond_false, if_false]
      exact ⟨r, p, rfl, hP, h, fun x _ => rfl, rfl⟩
theorem link_ok (ok : OpsOk O k N G S lt) : ∀ (n : Nat) {p : PN E A} {L : List TRef} {B : Nat} (hP : PW p L B) {a m b : TRef} {n0 : TNode E A} {l u : Tr E}, l.size + u.size < n → Rep S p a l → look p m = some n0 → Rep S p b u → (l.refs ++ m :: u.refs).Nodup →
    (∀ x ∈ l.toList ++ n0.e :: u.toList, G x) → l.size + 1 + u.size < N → ∃ r' p', Tree_link.r O k n p a m b = some (r', p') ∧ Left S p p' L B r' (Tr.link n l m n0.e u) (l.refs ++ m :: u.refs)
  | 0, _, _, _, _, _, _, _, _, _, _, h, _, _, _, _, _, _ => by omega
  | n + 1, p, L, B, hP, a, m, b, n0, l, u, hn, hl, hm, hu, hnd, hG, hN => by
    have hbig := ok.big
    have wl := weight_ok ok hP hl (by omega)
    have wu := weight_ok ok hP hu (by omega)
    simp only [Tree_link.r, wl, wu, Option.bind_some]
    rw [dec_gt3 (by simp only [Tr.w]; omega), dec_gt3 (by simp only [Tr.w]; omega), Tr.link_succ]
    by_cases c1 : u.w > 3 * l.w
    · simp only [c1, decide_true, cond_true, if_true]
      cases u with
      | nil => simp only [Tr.w, Tr.size] at c1; omega
      | node r2 e2 c d =>
        obtain ⟨n2, q1, q2⟩ := get_ok ok hP hu
        obtain ⟨hr2, he2, hc, hd, hlk2⟩ := q2.node rfl
        subst hr2
        simp only [Tr.size] at hn hN
        have hnd1 : (l.refs ++ m :: c.refs).Nodup := by
          simp only [Tr.refs] at hnd
          refine List.Nodup.sublist ?_ hnd
          exact List.Sublist.append_left (List.Sublist.cons_cons _ (List.sublist_append_left _ _)) _
        have hndu : (Tr.node b e2 c d).refs.Nodup := nodup_right hnd
        have hbL : b ∉ l.refs ++ m :: c.refs := by
          simp only [List.mem_append, List.mem_cons, not_or]
          refine ⟨fun h => nodup_lu hnd h (by simp [Tr.refs]), fun e => nodup_u hnd (by rw [← e]; simp [Tr.refs]), nodup_l hndu⟩
        have hdL : ∀ x ∈ d.refs, x ∉ l.refs ++ m :: c.refs := by
          intro x hx
          simp only [List.mem_append, List.mem_cons, not_or]
          exact ⟨fun h => nodup_lu hnd h (by simp [Tr.refs, hx]), fun e => nodup_u hnd (by rw [← e]; simp [Tr.refs, hx]), fun h => nodup_lu hndu h hx⟩
        obtain ⟨r1, p1, t1, t2⟩ := link_ok ok n hP (by omega) hl hm hc hnd1 (fun x hx => hG x (by simp [Tr.toList] at hx ⊢; rcases hx with hx | hx | hx <;> simp [hx])) (by omega)
        have hlk1 : look p1 b = some n2 := by rw [t2.frame b hbL]; exact hlk2
        have hd1 : Rep S p1 n2.right d := hd.frame (fun x hx => t2.frame x (hdL x hx))
        have hnd2 : (Tr.node b e2 (Tr.link n l m n0.e c) d).refs.Nodup := by simp only [Tr.refs, Tr.link_refs] at hnd ⊢; simpa using hnd
        have hG2 : ∀ x ∈ (Tr.node b e2 (Tr.link n l m n0.e c) d).toList, G x := fun x hx => hG x (by simp [Tr.toList, Tr.link_list] at hx ⊢; exact hx)
        have hsz : (Tr.node b e2 (Tr.link n l m n0.e c) d).size < N := by simp only [Tr.size, Tr.link_size]; omega
        obtain ⟨p2, v1, v2⟩ := lay_ok ok t2.pw hlk1 t2.rep hd1 (nodup_l hnd2) (nodup_u hnd2) (fun x hx => hG2 x (by rw [he2] at hx; exact hx)) (by simpa [Tr.size] using hsz)
        have hrep : Rep S p2 b (.node b e2 (Tr.link n l m n0.e c) d) := by have := v2.rep; rw [he2] at this; exact this
        obtain ⟨r', p3, y1, y2⟩ := balance_ok ok v2.pw hrep hnd2 hG2 hsz
        refine ⟨r', p3, ?_, y2.pw, y2.rep, fun x hx => ?_, y2.cap.trans (v2.cap.trans t2.cap)⟩
        · simp only [q1, Option.bind_some, t1, v1, y1]
        · have hx1 : x ∉ (Tr.node b e2 (Tr.link n l m n0.e c) d).refs := by simp only [Tr.refs, Tr.link_refs] at hx ⊢; simpa using hx
          simp only [Tr.refs, List.mem_append, List.mem_cons, not_or] at hx
          rw [y2.frame x hx1, v2.frame x (by simp; exact hx.2.2.2.1), t2.frame x (by simp only [List.mem_append, List.mem_cons, not_or]; exact ⟨hx.1, hx.2.1, hx.2.2.1⟩)]
    · simp only [c1, decide_false, cond_false, if_false]
      by_cases c3 : l.w > 3 * u.w
      · simp only [c3, decide_true, cond_true, if_true]
        cases l with
        | nil => simp only [Tr.w, Tr.size] at c3; omega
        | node r2 e2 c d =>
          obtain ⟨n2, q1, q2⟩ := get_ok ok hP hl
          obtain ⟨hr2, he2, hc, hd, hlk2⟩ := q2.node rfl
          subst hr2
          simp only [Tr.size] at hn hN
          have hnd' : (c.refs ++ a :: (d.refs ++ m :: u.refs)).Nodup := by simp only [Tr.refs] at hnd; simpa using hnd
          have hnd1 : (d.refs ++ m :: u.refs).Nodup := nodup_right hnd'
          have haL : a ∉ d.refs ++ m :: u.refs := nodup_u hnd'
          have hcL : ∀ x ∈ c.refs, x ∉ d.refs ++ m :: u.refs := fun x hx h => nodup_lu hnd' hx h
          obtain ⟨r1, p1, t1, t2⟩ := link_ok ok n hP (by omega) hd hm hu hnd1 (fun x hx => hG x (by simp [Tr.toList] at hx ⊢; rcases hx with hx | hx | hx <;> simp [hx])) (by omega)
          have hlk1 : look p1 a = some n2 := by rw [t2.frame a haL]; exact hlk2
          have hc1 : Rep S p1 n2.left c := hc.frame (fun x hx => t2.frame x (hcL x hx))
          have hnd2 : (Tr.node a e2 c (Tr.link n d m n0.e u)).refs.Nodup := by simp only [Tr.refs, Tr.link_refs]; exact hnd'
          have hG2 : ∀ x ∈ (Tr.node a e2 c (Tr.link n d m n0.e u)).toList, G x := fun x hx => hG x (by simp [Tr.toList, Tr.link_list] at hx ⊢; exact hx)
          have hsz : (Tr.node a e2 c (Tr.link n d m n0.e u)).size < N := by simp only [Tr.size, Tr.link_size]; omega
          obtain ⟨p2, v1, v2⟩ := lay_ok ok t2.pw hlk1 hc1 t2.rep (nodup_l hnd2) (nodup_u hnd2) (fun x hx => hG2 x (by rw [he2] at hx; exact hx)) (by simpa [Tr.size] using hsz)
          have hrep : Rep S p2 a (.node a e2 c (Tr.link n d m n0.e u)) := by have := v2.rep; rw [he2] at this; exact this
          obtain ⟨r', p3, y1, y2⟩ := balance_ok ok v2.pw hrep hnd2 hG2 hsz
          refine ⟨r', p3, ?_, y2.pw, y2.rep, fun x hx => ?_, y2.cap.trans (v2.cap.trans t2.cap)⟩
          · simp only [q1, Option.bind_some, t1, v1, y1]
          · have hx1 : x ∉ (Tr.node a e2 c (Tr.link n d m n0.e u)).refs := by simp only [Tr.refs, Tr.link_refs] at hx ⊢; simpa using hx
            simp only [Tr.refs, List.mem_append, List.mem_cons, not_or] at hx
            rw [y2.frame x hx1, v2.frame x (by simp; exact hx.1.2.1), t2.frame x (by simp only [List.mem_append, List.mem_cons, not_or]; exact ⟨hx.1.2.2, hx.2⟩)]
      · simp only [c3, decide_false, cond_false, if_false]
        obtain ⟨p1, t1, t2⟩ := lay_ok ok hP hm hl hu (nodup_l hnd) (nodup_u hnd) hG hN
        refine ⟨m, p1, by simp only [t1, Option.bind_some], t2.pw, t2.rep, fun x hx => t2.frame x ?_, t2.cap⟩
        simp only [List.mem_append, List.mem_cons, not_or] at hx
        simp; exact hx.2.1
theorem linkf_ok (ok : OpsOk O k N G S lt) (hk : N ≤ k) {p : PN E A} {L : List TRef} {B : Nat} (hP : PW p L B) {a m b : TRef} {n0 : TNode E A} {l u : Tr E} (hl : Rep S p a l) (hm : look p m = some n0) (hu : Rep S p b u) (hnd : (l.refs ++ m :: u.refs).Nodup)
    (hG : ∀ x ∈ l.toList ++ n0.e :: u.toList, G x) (hN : l.size + 1 + u.size < N) : ∃ r' p', Tree_link.f O k p a m b = some (r', p') ∧ Left S p p' L B r' (Tr.link k l m n0.e u) (l.refs ++ m :: u.refs) :=
  link_ok ok k hP (by omega) hl hm hu hnd hG hN
end
end Go.Proofs.Ytjokolmijhhinaa
namespace Go.Proofs.Ytjokolmijhhinaa
open Go Go.Proofs.Ytjokolmijhhinaa.Sx
structure Cut {E : Type} (lt : E → E → Prop) (e : E) (l a m b : List E) : Prop where
  eq : l = a ++ (m ++ b)
  la : ∀ x ∈ a, lt x e
  lb : ∀ x ∈ b, lt e x
  lm : m = [] ∨ ∃ y, m = [y] ∧ ¬ lt e y ∧ ¬ lt y e
abbrev InOrd {E : Type} (lt : E → E → Prop) (l : List E) : Prop := l.Pairwise lt
section
variable {E A : Type} {O : Ops E A} {k N : Nat} {G : E → Prop} {S : A → List E → Prop} {lt : E → E → Prop}
theorem Cut.nil (e : E) : Cut lt e [] [] [] [] := ⟨rfl, by simp, by simp, .inl rfl⟩
theorem Cut.left (ok : OpsOk O k N G S lt) {e n : E} {l a m b u : List E} (h : Cut lt e l a m b) (hs : InOrd lt (l ++ n :: u)) (hl : lt e n) : Cut lt e (l ++ n :: u) a m (b ++ n :: u) := by
  refine ⟨by rw [h.eq]; simp, h.la, fun x hx => ?_, h.lm⟩
  rcases List.mem_append.1 hx with hx | hx
  · exact h.lb x hx
  · rcases List.mem_cons.1 hx with rfl | hx
    · exact hl
    · exact ok.trans hl ((List.pairwise_cons.1 (List.pairwise_append.1 hs).2.1).1 x hx)
theorem Cut.right (ok : OpsOk O k N G S lt) {e n : E} {l a m b u : List E} (h : Cut lt e u a m b) (hs : InOrd lt (l ++ n :: u)) (hl : lt n e) : Cut lt e (l ++ n :: u) (l ++ n :: a) m b := by
  refine ⟨by rw [h.eq]; simp, fun x hx => ?_, h.lb, h.lm⟩
  rcases List.mem_append.1 hx with hx | hx
  · exact ok.trans ((List.pairwise_append.1 hs).2.2 x hx n List.mem_cons_self) hl
  · rcases List.mem_cons.1 hx with rfl | hx
    · exact hl
    · exact h.la x hx
theorem Cut.mid (ok : OpsOk O k N G S lt) {e n : E} {l u : List E} (hs : InOrd lt (l ++ n :: u)) (h1 : ¬ lt e n) (h2 : ¬ lt n e) : Cut lt e (l ++ n :: u) l [n] u := by
  refine ⟨by simp, fun x hx => ?_, fun x hx => ?_, .inr ⟨n, rfl, h1, h2⟩⟩
  · exact ok.right h2 h1 ((List.pairwise_append.1 hs).2.2 x hx n List.mem_cons_self)
  · exact ok.left h2 h1 ((List.pairwise_cons.1 (List.pairwise_append.1 hs).2.1).1 x hx)
theorem sorted_l {l u : List E} {n : E} (hs : InOrd lt (l ++ n :: u)) : InOrd lt l := (List.pairwise_append.1 hs).1
theorem sorted_u {l u : List E} {n : E} (hs : InOrd lt (l ++ n :: u)) : InOrd lt u := (List.pairwise_cons.1 (List.pairwise_append.1 hs).2.1).2
theorem Cut.put (ok : OpsOk O k N G S lt) {e : E} {l a m b : List E} (h : Cut lt e l a m b) (hs : InOrd lt l) : InOrd lt (a ++ e :: b) := by
  rw [h.eq] at hs
  obtain ⟨h1, h2, h3⟩ := List.pairwise_append.1 hs
  refine List.pairwise_append.2 ⟨h1, List.pairwise_cons.2 ⟨h.lb, (List.pairwise_append.1 h2).2.1⟩, fun x hx y hy => ?_⟩
  rcases List.mem_cons.1 hy with rfl | hy
  · exact h.la x hx
  · exact h3 x hx y (List.mem_append_right _ hy)
theorem Cut.drop {e : E} {l a m b : List E} (h : Cut lt e l a m b) (hs : InOrd lt l) : InOrd lt (a ++ b) := by
  rw [h.eq] at hs
  exact hs.sublist (List.Sublist.append_left (List.sublist_append_right _ _) _)
structure PutL (S : A → List E → Prop) (p p' : PN E A) (L : List TRef) (B : Nat) (t t' : Tr E) (r' : TRef) (F : List TRef) : Prop where
  pw : PW p' (F ++ L) (B + 1)
  rep : Rep S p' r' t'
  refs : t'.refs.Perm (F ++ t.refs)
  frame : ∀ x, x ∉ F → x ∉ t.refs → look p' x = look p x
  cap : p'.cap = p.cap
theorem put_ok (ok : OpsOk O k N G S lt) (hk : N ≤ k) {p : PN E A} {L : List TRef} {B : Nat} (hP : PW p L B) (hB : B + 1 < 4294967295) (e : E) (hGe : G e) : ∀ (n : Nat) {r : TRef} {t : Tr E}, t.size < n → Rep S p r t → t.refs.Nodup → InOrd lt t.toList → (∀ x ∈ t.toList, G x) → t.size + 1 < N →
    ∃ a m b, Cut lt e t.toList a m b ∧
      ((m = [] ∧ (L.length : Int) = p.cap ∧ ∃ rr, Tree_put.r O k n p r e = some (rr, false, p)) ∨
       (∃ r' p' t' F, (m = [] → (L.length : Int) ≠ p.cap) ∧ F.length + m.length = 1 ∧ Tree_put.r O k n p r e = some (r', true, p') ∧ t'.toList = a ++ e :: b ∧ PutL S p p' L B t t' r' F))
  | 0, _, _, h, _, _, _, _, _ => by omega
  | n + 1, r, .nil, hn, hr, hnd, hs, hG, hN => by
    refine ⟨[], [], [], Cut.nil e, ?_⟩
    have e0 : (r.gen == 0) = true := by simpa using hr.nil_iff.2 rfl
    obtain ⟨s, s1, s2⟩ := ok.sum e hGe
    simp only [Tree_put.r, e0, cond_true, s1, Option.bind_some]
    by_cases hc : (L.length : Int) = p.cap
    · exact .inl ⟨trivial, hc, ⟨⟨0, 0⟩, by rw [hP.put_full hc]; rfl⟩⟩
    · right
      obtain ⟨r1, p1, q1, q2, q3, q4, q5, q6, q7⟩ := hP.put (z := zNode O) hc hB (TNode.mk e zTRef zTRef 1 s)
      refine ⟨r1, p1, .node r1 e .nil .nil, [r1], fun _ => hc, rfl, by rw [q1]; rfl, rfl, q4, ⟨rfl, q3, _, q5, rfl, rfl, by simpa [Tr.toList] using s2, rfl, rfl⟩, by simp [Tr.refs], fun x hx _ => q6 x (by simpa using hx), q7⟩
  | n + 1, r, .node r0 e0 l u, hn, hr, hnd, hs, hG, hN => by
    obtain ⟨n1, g1, g2⟩ := get_ok ok hP hr
    obtain ⟨rfl, he, hl, hu, hlk⟩ := g2.node rfl
    have hg : (r.gen == 0) = false := by
      have := hP.gen_ne (hP.mem hlk); simpa using this
    obtain ⟨c, c1, c2, c3⟩ := ok.cmp e n1.e
    have hsz : (Tr.node r e0 l u).size = l.size + 1 + u.size := rfl
    have hln : (Tr.node r e0 l u).toList = l.toList ++ e0 :: u.toList := rfl
    have hrL : r ∈ L := hP.mem hlk
    simp only [Tree_put.r, hg, cond_false, g1, Option.bind_some, c1]
    rw [he] at c2 c3
    rw [hln] at hs hG ⊢
    by_cases h1 : c < 0
    · have hlt := c2.1 h1
      simp only [h1, decide_true, cond_true]
      obtain ⟨a, m, b, hcut, hres⟩ := put_ok ok hk hP hB e hGe n (by omega) hl (nodup_left hnd) (sorted_l hs) (fun x hx => hG x (List.mem_append_left _ hx)) (by omega)
      refine ⟨a, m, b ++ e0 :: u.toList, hcut.left ok hs hlt, ?_⟩
      rcases hres with ⟨h2, h3, rr, h4⟩ | ⟨r', p', t', F, h2, h3, h4, h5, h6⟩
      · exact .inl ⟨h2, h3, r, by simp only [h4, Option.bind_some]; rfl⟩
      · right
        have hF : ∀ x ∈ F, x ∉ L := fun x hx hL => (List.nodup_append.1 h6.pw.ld).2.2 x hx x hL rfl
        have hrF : r ∉ F := fun h => hF r h hrL
        have hlk1 : look p' r = some n1 := by rw [h6.frame r hrF (nodup_l hnd)]; exact hlk
        have hu1 : Rep S p' n1.right u := hu.frame (fun x hx => h6.frame x (fun h => hF x h (hu.sub hP x hx)) (fun h => nodup_lu hnd h hx))
        have hperm : (t'.refs ++ r :: u.refs).Perm (F ++ (Tr.node r e0 l u).refs) := by
          have := h6.refs.append_right (r :: u.refs)
          simpa [Tr.refs] using this
        have hFn : (F ++ (Tr.node r e0 l u).refs).Nodup := List.nodup_append.2 ⟨(List.nodup_append.1 h6.pw.ld).1, hnd, fun x hx y hy hxy => hF x hx (hxy ▸ hr.sub hP y hy)⟩
        have hts : t'.size ≤ l.size + 1 := by
          have := congrArg List.length h5
          have h7 := congrArg List.length hcut.eq
          simp only [Tr.len_toList, List.length_append, List.length_cons] at this h7; omega
        obtain ⟨r2, p2, v1, v2⟩ := linkf_ok ok hk h6.pw h6.rep hlk1 hu1 (hperm.nodup_iff.2 hFn) (fun x hx => by
          rw [h5, he] at hx
          simp only [List.mem_append, List.mem_cons] at hx
          have h8 : ∀ y, y ∈ a ∨ y ∈ b → y ∈ l.toList := fun y hy => by rw [hcut.eq]; rcases hy with hy | hy <;> simp [hy]
          rcases hx with (hx | rfl | hx) | rfl | hx
          · exact hG x (List.mem_append_left _ (h8 x (.inl hx)))
          · exact hGe
          · exact hG x (List.mem_append_left _ (h8 x (.inr hx)))
          · exact hG x (by simp)
          · exact hG x (by simp [hx])) (by omega)
        refine ⟨r2, p2, Tr.link k t' r n1.e u, F, h2, h3, ?_, ?_, v2.pw, v2.rep, ?_, fun x hx1 hx2 => ?_, v2.cap.trans h6.cap⟩
        · simp only [h4, Option.bind_some, v1]; rfl
        · rw [Tr.link_list, h5, he]; simp
        · rw [Tr.link_refs]; exact hperm
        · have hx3 : x ∉ l.refs := fun h => hx2 (by simp [Tr.refs, h])
          rw [v2.frame x (fun h => by
            rcases List.mem_append.1 (hperm.mem_iff.1 h) with h | h
            · exact hx1 h
            · exact hx2 h), h6.frame x hx1 hx3]
    · simp only [h1, decide_false, cond_false]
      by_cases h1' : c > 0
      · have hlt := c3.1 h1'
        simp only [h1', decide_true, cond_true]
        obtain ⟨a, m, b, hcut, hres⟩ := put_ok ok hk hP hB e hGe n (by omega) hu (nodup_right hnd) (sorted_u hs) (fun x hx => hG x (by simp [hx])) (by omega)
        refine ⟨l.toList ++ e0 :: a, m, b, hcut.right ok hs hlt, ?_⟩
        rcases hres with ⟨h2, h3, rr, h4⟩ | ⟨r', p', t', F, h2, h3, h4, h5, h6⟩
        · exact .inl ⟨h2, h3, r, by simp only [h4, Option.bind_some]; rfl⟩
        · right
          have hF : ∀ x ∈ F, x ∉ L := fun x hx hL => (List.nodup_append.1 h6.pw.ld).2.2 x hx x hL rfl
          have hrF : r ∉ F := fun h => hF r h hrL
          have hlk1 : look p' r = some n1 := by rw [h6.frame r hrF (nodup_u hnd)]; exact hlk
          have hl1 : Rep S p' n1.left l := hl.frame (fun x hx => h6.frame x (fun h => hF x h (hl.sub hP x hx)) (fun h => nodup_lu hnd hx h))
          have hperm : (l.refs ++ r :: t'.refs).Perm (F ++ (Tr.node r e0 l u).refs) := by
            have h7 : (l.refs ++ r :: t'.refs).Perm (l.refs ++ r :: (F ++ u.refs)) := List.Perm.append_left _ (List.Perm.cons _ h6.refs)
            refine h7.trans ?_
            have : (F ++ (Tr.node r e0 l u).refs) = F ++ ((l.refs ++ [r]) ++ u.refs) := by simp [Tr.refs]
            rw [this, show l.refs ++ r :: (F ++ u.refs) = (l.refs ++ [r]) ++ (F ++ u.refs) by simp, ← List.append_assoc, ← List.append_assoc]
            exact List.Perm.append_right _ List.perm_append_comm
          have hFn : (F ++ (Tr.node r e0 l u).refs).Nodup := List.nodup_append.2 ⟨(List.nodup_append.1 h6.pw.ld).1, hnd, fun x hx y hy hxy => hF x hx (hxy ▸ hr.sub hP y hy)⟩
          have hts : t'.size ≤ u.size + 1 := by
            have := congrArg List.length h5
            have h7 := congrArg List.length hcut.eq
            simp only [Tr.len_toList, List.length_append, List.length_cons] at this h7; omega
          obtain ⟨r2, p2, v1, v2⟩ := linkf_ok ok hk h6.pw hl1 hlk1 h6.rep (hperm.nodup_iff.2 hFn) (fun x hx => by
            rw [h5, he] at hx
            simp only [List.mem_append, List.mem_cons] at hx
            have h8 : ∀ y, y ∈ a ∨ y ∈ b → y ∈ u.toList := fun y hy => by rw [hcut.eq]; rcases hy with hy | hy <;> simp [hy]
            rcases hx with hx | rfl | hx | rfl | hx
            · exact hG x (by simp [hx])
            · exact hG x (by simp)
            · exact hG x (by simp [h8 x (.inl hx)])
            · exact hGe
            · exact hG x (by simp [h8 x (.inr hx)])) (by omega)
          refine ⟨r2, p2, Tr.link k l r n1.e t', F, h2, h3, ?_, ?_, v2.pw, v2.rep, ?_, fun x hx1 hx2 => ?_, v2.cap.trans h6.cap⟩
          · simp only [h4, Option.bind_some, v1]; rfl
          · rw [Tr.link_list, h5, he]; simp
          · rw [Tr.link_refs]; exact hperm
          · have hx3 : x ∉ u.refs := fun h => hx2 (by simp [Tr.refs, h])
            rw [v2.frame x (fun h => by
              rcases List.mem_append.1 (hperm.mem_iff.1 h) with h | h
              · exact hx1 h
              · exact hx2 h), h6.frame x hx1 hx3]
      · simp only [h1', decide_false, cond_false]
        have n1' : ¬ lt e e0 := fun h => h1 (c2.2 h)
        have n2' : ¬ lt e0 e := fun h => h1' (c3.2 h)
        refine ⟨l.toList, [e0], u.toList, Cut.mid ok hs n1' n2', .inr ?_⟩
        obtain ⟨p1, q1, q2, q3, q4, q5⟩ := hP.set hlk (TNode.mk e n1.left n1.right n1.size n1.sum)
        have hl1 : Rep S p1 n1.left l := hl.frame (fun x hx => q4 x (fun h => nodup_l hnd (h ▸ hx)))
        have hu1 : Rep S p1 n1.right u := hu.frame (fun x hx => q4 x (fun h => nodup_u hnd (h ▸ hx)))
        obtain ⟨p2, v1, v2⟩ := lay_ok ok q2 q3 hl1 hu1 (nodup_l hnd) (nodup_u hnd) (fun x hx => by
          simp only [List.mem_append, List.mem_cons] at hx
          rcases hx with hx | rfl | hx
          · exact hG x (by simp [hx])
          · exact hGe
          · exact hG x (by simp [hx])) (by omega)
        refine ⟨r, p2, .node r e l u, [], by simp, rfl, ?_, rfl, v2.pw.mono (Nat.le_succ _) hB, v2.rep, by simp [Tr.refs], fun x hx1 hx2 => ?_, v2.cap.trans q5⟩
        · simp only [q1, Option.bind_some, v1]
        · have hxr : x ≠ r := fun h => hx2 (by simp [Tr.refs, h])
          rw [v2.frame x (by simpa using hxr), q4 x hxr]
end
end Go.Proofs.Ytjokolmijhhinaa
namespace Go.Proofs.Ytjokolmijhhinaa
open Go Go.Proofs.Ytjokolmijhhinaa.Sx
section
variable {E A : Type} {O : Ops E A} {k N : Nat} {G : E → Prop} {S : A → List E → Prop} {lt : E → E → Prop}
theorem PW.ne0 {p : PN E A} {L : List TRef} {B : Nat} (hP : PW p L B) {r : TRef} {n : TNode E A} (h : look p r = some n) : (r.gen == 0) = false := by
  have := hP.gen_ne (hP.mem h); simpa using this
def seg {α : Type} (l : List α) (i j : Int) : List α := (l.take j.toNat).drop i.toNat
theorem seg_nil {α : Type} {l : List α} {i j : Int} (h : i ≥ j ∨ i ≥ l.length ∨ j ≤ 0 ∨ l.length = 0) : seg l i j = [] := by
  unfold seg
  apply List.drop_eq_nil_of_le
  rw [List.length_take]
  omega
theorem seg_all {α : Type} {l : List α} {i j : Int} (h1 : i ≤ 0) (h2 : j ≥ l.length) : seg l i j = l := by
  unfold seg
  rw [List.take_of_length_le (by omega), show i.toNat = 0 by omega, List.drop_zero]
theorem seg_node {α : Type} (l u : List α) (e : α) (i j : Int) : seg (l ++ e :: u) i j = seg l i j ++ ((if i ≤ l.length ∧ j > l.length then [e] else []) ++ seg u (i - l.length - 1) (j - l.length - 1)) := by
  by_cases hj : j > l.length
  · have h1 : (l ++ e :: u).take j.toNat = l ++ e :: u.take (j - l.length - 1).toNat := by
      rw [List.take_append, List.take_of_length_le (by omega), show j.toNat - l.length = (j - l.length - 1).toNat + 1 by omega, List.take_succ_cons]
    have h2 : seg l i j = l.drop i.toNat := by unfold seg; rw [List.take_of_length_le (by omega)]
    unfold seg at h2 ⊢
    rw [h1, h2, List.drop_append]
    congr 1
    by_cases hi : i ≤ l.length
    · rw [if_pos ⟨hi, hj⟩, show i.toNat - l.length = 0 by omega, show (i - (l.length : Int) - 1).toNat = 0 by omega]; rfl
    · rw [if_neg (fun h => hi h.1), show i.toNat - l.length = (i - (l.length : Int) - 1).toNat + 1 by omega]; rfl
  · rw [if_neg (fun h => hj h.2), seg_nil (l := u) (.inr (.inr (.inl (by omega))))]
    unfold seg
    rw [List.take_append_of_le_length (by omega)]; simp
theorem seg_sub {α : Type} (l : List α) (i j : Int) : (seg l i j).Sublist l := (List.drop_sublist _ _).trans (List.take_sublist _ _)
theorem between_ok (ok : OpsOk O k N G S lt) {p : PN E A} {L : List TRef} {B : Nat} (hP : PW p L B) : ∀ (n : Nat) {r : TRef} {t : Tr E} (i j : Int), t.size < n → Rep S p r t → (∀ x ∈ t.toList, G x) → t.size < N →
    -4611686018427387904 ≤ i - t.size → -4611686018427387904 ≤ j - t.size → i ≤ 4611686018427387904 → j ≤ 4611686018427387904 → ∃ c, Tree_between.r O k n p r i j = some c ∧ S c (seg t.toList i j)
  | 0, _, _, _, _, h, _, _, _, _, _, _, _ => by omega
  | n + 1, r, t, i, j, hn, hr, hG, hN, b1, b2, b3, b4 => by
    have hbig := ok.big
    obtain ⟨n1, g1, g2⟩ := get_ok ok hP hr
    have hll := Tr.len_toList t
    simp only [Tree_between.r, g1, Option.bind_some, g2.size]
    by_cases h1 : i ≥ j
    · simp only [h1, decide_true, cond_true, Option.bind_some, Sum.elim_inl]
      exact ⟨_, rfl, by rw [seg_nil (.inl h1)]; exact ok.zero⟩
    · simp only [h1, decide_false, cond_false]
      by_cases h2 : i ≥ (t.size : Int)
      · simp only [h2, decide_true, cond_true, Option.bind_some, Sum.elim_inl]
        exact ⟨_, rfl, by rw [seg_nil (.inr (.inl (by omega)))]; exact ok.zero⟩
      · simp only [h2, decide_false, cond_false]
        by_cases h3 : j ≤ 0
        · simp only [h3, decide_true, cond_true, Option.bind_some, Sum.elim_inl]
          exact ⟨_, rfl, by rw [seg_nil (.inr (.inr (.inl h3)))]; exact ok.zero⟩
        · simp only [h3, decide_false, cond_false]
          cases t with
          | nil => exact ⟨_, rfl, by rw [seg_nil (.inr (.inr (.inr rfl)))]; exact ok.zero⟩
          | node r0 e0 l u =>
            have hsz : (Tr.node r0 e0 l u).size = l.size + 1 + u.size := rfl
            have h4 : ((((Tr.node r0 e0 l u).size : Nat) : Int) == 0) = false := by simp; omega
            simp only [h4, cond_false, Option.bind_some, Sum.elim_inr]
            by_cases h5 : i ≤ 0 ∧ j ≥ ((Tr.node r0 e0 l u).size : Int)
            · simp only [h5.1, h5.2, decide_true, cond_true, Option.bind_some, Sum.elim_inl]
              exact ⟨_, rfl, by rw [seg_all h5.1 (by rw [hll]; exact h5.2)]; exact g2.sum⟩
            · have h6 : (bif decide (i ≤ 0) then (bif decide (j ≥ ((Tr.node r0 e0 l u).size : Int)) then some (Sum.inl n1.sum) else some (Sum.inr ())) else some (Sum.inr () : Sum A Unit)) = some (Sum.inr ()) := by
                by_cases h7 : i ≤ 0
                · have h8 : ¬ j ≥ ((Tr.node r0 e0 l u).size : Int) := fun h => h5 ⟨h7, h⟩
                  simp only [h7, h8, decide_true, decide_false, cond_true, cond_false]
                · simp only [h7, decide_false, cond_false]
              rw [h6]
              obtain ⟨rfl, he, hl, hu, hlk⟩ := g2.node rfl
              obtain ⟨n2, g3, g4⟩ := get_ok ok hP hl
              have hln : (Tr.node r e0 l u).toList = l.toList ++ e0 :: u.toList := rfl
              rw [hln] at hG
              rw [hsz] at hn hN b1 b2 h2
              obtain ⟨cl, d1, d2⟩ := between_ok ok hP n i j (by omega) hl (fun x hx => hG x (List.mem_append_left _ hx)) (by omega) (by omega) (by omega) (by omega) (by omega)
              obtain ⟨cu, f1, f2⟩ := between_ok ok hP n (i - (l.size : Int) - 1) (j - (l.size : Int) - 1) (by omega) hu (fun x hx => hG x (by simp [hx])) (by omega) (by omega) (by omega) (by omega) (by omega)
              have w1 : w64 (w64 (i - (l.size : Int)) - 1) = i - (l.size : Int) - 1 := by
                rw [w64_id (x := i - (l.size : Int)) (by omega) (by omega), w64_id (by omega) (by omega)]
              have w2 : w64 (w64 (j - (l.size : Int)) - 1) = j - (l.size : Int) - 1 := by
                rw [w64_id (x := j - (l.size : Int)) (by omega) (by omega), w64_id (by omega) (by omega)]
              simp only [Option.bind_some, Sum.elim_inr, g3, d1, g4.size, w1, w2, f1]
              have hsl := (seg_sub l.toList i j)
              have hsu := (seg_sub u.toList (i - (l.size : Int) - 1) (j - (l.size : Int) - 1))
              have hl1 := hsl.length_le
              have hl2 := hsu.length_le
              rw [Tr.len_toList] at hl1 hl2
              rw [hln, seg_node, Tr.len_toList]
              have hGl : ∀ x ∈ seg l.toList i j, G x := fun x hx => hG x (List.mem_append_left _ (hsl.subset hx))
              have hGu : ∀ x ∈ seg u.toList (i - (l.size : Int) - 1) (j - (l.size : Int) - 1), G x := fun x hx => hG x (by simp [hsu.subset hx])
              by_cases h7 : i ≤ (l.size : Int) ∧ j > (l.size : Int)
              · rw [if_pos h7]
                obtain ⟨s, s1, s2⟩ := ok.sum n1.e (hG _ (by rw [he]; simp))
                rw [he] at s2
                obtain ⟨x, x1, x2⟩ := ok.plus d2 s2 (fun y hy => by
                  rcases List.mem_append.1 hy with hy | hy
                  · exact hGl y hy
                  · simp at hy; subst hy; exact hG y (by simp)) (by simp; omega)
                obtain ⟨z, z1, z2⟩ := ok.plus x2 f2 (fun y hy => by
                  simp only [List.mem_append, List.mem_singleton] at hy
                  rcases hy with (hy | rfl) | hy
                  · exact hGl y hy
                  · exact hG y (by simp)
                  · exact hGu y hy) (by simp; omega)
                refine ⟨z, ?_, by simpa using z2⟩
                simp only [h7.1, h7.2, decide_true, cond_true, s1, Option.bind_some, x1, z1]
              · rw [if_neg h7, List.nil_append]
                obtain ⟨z, z1, z2⟩ := ok.plus d2 f2 (fun y hy => by
                  rcases List.mem_append.1 hy with hy | hy
                  · exact hGl y hy
                  · exact hGu y hy) (by simp; omega)
                refine ⟨z, ?_, z2⟩
                by_cases h8 : i ≤ (l.size : Int)
                · have h9 : ¬ j > (l.size : Int) := fun h => h7 ⟨h8, h⟩
                  simp only [h8, h9, decide_true, decide_false, cond_true, cond_false, Option.bind_some, z1]
                · simp only [h8, decide_false, cond_false, Option.bind_some, z1]
structure Gr (S : A → List E → Prop) (lt : E → E → Prop) (G : E → Prop) (p : PN E A) (r : TRef) (l : List E) (c : Int) (B : Nat) : Prop where
  ex : ∃ t, PW p t.refs B ∧ Rep S p r t ∧ t.toList = l
  sorted : InOrd lt l
  good : ∀ x ∈ l, G x
  cap : p.cap = c
theorem Gr.new (c : Int) (B : Nat) (hB : B < 4294967295) : Gr S lt G (⟨[], [], c, 0, 0⟩ : PN E A) zTRef [] c B :=
  ⟨⟨.nil, PW.new c B hB, rfl, rfl⟩, List.Pairwise.nil, by simp, rfl⟩
theorem Gr.put (ok : OpsOk O k N G S lt) (hk : N ≤ k) {p : PN E A} {r : TRef} {l : List E} {c : Int} {B : Nat} (h : Gr S lt G p r l c B) (e : E) (hG : G e) (hB : B + 1 < 4294967295) (hN : l.length + 1 < N) :
    ∃ a m b, Cut lt e l a m b ∧ ((m = [] ∧ (l.length : Int) = c ∧ Tree_Put.f O k p r e = some (false, r, p)) ∨
      (∃ r' p', (m = [] → (l.length : Int) ≠ c) ∧ Tree_Put.f O k p r e = some (true, r', p') ∧ Gr S lt G p' r' (a ++ e :: b) c (B + 1))) := by
  obtain ⟨t, hP, hr, rfl⟩ := h.ex
  have hlen : t.refs.length = t.toList.length := by rw [Tr.len_refs, Tr.len_toList]
  have hll := Tr.len_toList t
  obtain ⟨a, m, b, hcut, hres⟩ := put_ok ok hk hP hB e hG k (by omega) hr hP.ld h.sorted h.good (by omega)
  refine ⟨a, m, b, hcut, ?_⟩
  unfold Tree_Put.f Tree_put.f
  rcases hres with ⟨h1, h2, rr, h3⟩ | ⟨r', p', t', F, h1, h2, h3, h4, h5⟩
  · exact .inl ⟨h1, by rw [← hlen, h2, h.cap], by rw [h3]; rfl⟩
  · refine .inr ⟨r', p', fun hm => by rw [← hlen, ← h.cap]; exact h1 hm, by rw [h3]; rfl, ⟨t', h5.pw.perm h5.refs.symm, h5.rep, h4⟩, hcut.put ok h.sorted, fun x hx => ?_, h5.cap.trans h.cap⟩
    have h8 : ∀ y, y ∈ a ∨ y ∈ b → y ∈ t.toList := fun y hy => by rw [hcut.eq]; rcases hy with hy | hy <;> simp [hy]
    simp only [List.mem_append, List.mem_cons] at hx
    rcases hx with hx | rfl | hx
    · exact h.good x (h8 x (.inl hx))
    · exact hG
    · exact h.good x (h8 x (.inr hx))
theorem Gr.len (ok : OpsOk O k N G S lt) {p : PN E A} {r : TRef} {l : List E} {c : Int} {B : Nat} (h : Gr S lt G p r l c B) : Tree_Len.f O k p r = some (l.length : Int) := by
  obtain ⟨t, hP, hr, rfl⟩ := h.ex
  obtain ⟨n, g1, g2⟩ := get_ok ok hP hr
  unfold Tree_Len.f
  rw [g1]; simp only [Option.bind_some, g2.size, Tr.len_toList]
end
end Go.Proofs.Ytjokolmijhhinaa
namespace Go.Proofs.Ytjokolmijhhinaa
open Go Go.Proofs.Ytjokolmijhhinaa.Sx
section
variable {E A : Type} {O : Ops E A} {k N : Nat} {G : E → Prop} {S : A → List E → Prop} {lt : E → E → Prop}
theorem last_ok (ok : OpsOk O k N G S lt) (hk : N ≤ k) : ∀ (n : Nat) {p : PN E A} {L : List TRef} {B : Nat} (hP : PW p L B) {r : TRef} {t : Tr E}, t.size < n → t ≠ .nil → Rep S p r t → t.refs.Nodup → (∀ x ∈ t.toList, G x) → t.size < N →
    ∃ r' m e p' nm, Tree_last.r O k n p r = some (r', m, p') ∧ (Tr.last k t).2 = some (m, e) ∧ Left S p p' L B r' (Tr.last k t).1 t.refs ∧ look p' m = some nm ∧ nm.e = e
  | 0, _, _, _, _, _, _, h, _, _, _, _, _ => by omega
  | n + 1, p, L, B, hP, r, .nil, _, h, _, _, _, _ => absurd rfl h
  | n + 1, p, L, B, hP, r, .node r0 e l u, hn, _, hr, hnd, hG, hN => by
    obtain ⟨n1, q1, q2⟩ := get_ok ok hP hr
    obtain ⟨rfl, he, hl, hu, hlk⟩ := q2.node rfl
    simp only [Tr.size] at hn hN
    simp only [Tree_last.r, q1, Option.bind_some]
    cases u with
    | nil =>
      have e0 : (n1.right.gen == 0) = true := by simpa using hu.nil_iff.2 rfl
      rw [e0]
      exact ⟨n1.left, r, e, p, n1, rfl, rfl, ⟨hP, hl, fun x _ => rfl, rfl⟩, hlk, he⟩
    | node r2 e2 c d =>
      have e0 : (n1.right.gen == 0) = false := by
        have : n1.right.gen ≠ 0 := fun h => by have := hu.nil_iff.1 h; cases this
        simpa using this
      rw [e0]
      obtain ⟨r1, m, x, p1, nm, t1, t2, t3, t4, t5⟩ := last_ok ok hk n hP (by omega) (by simp) hu (nodup_right hnd) (fun x hx => hG x (by simp [Tr.toList] at hx ⊢; rcases hx with hx | hx | hx <;> simp [hx])) (by omega)
      obtain ⟨m', x', s1, s2, s3⟩ := Tr.last_spec k (.node r2 e2 c d) (by simp)
      have hmm : m' = m ∧ x' = x := by rw [s1] at t2; cases t2; exact ⟨rfl, rfl⟩
      obtain ⟨rfl, rfl⟩ := hmm
      have hnd' : (l.refs ++ r :: ((Tr.last k (.node r2 e2 c d)).1.refs ++ [m'])).Nodup := by rw [← s3]; exact hnd
      have hsub : ∀ y ∈ (Tr.last k (.node r2 e2 c d)).1.refs, y ∈ (Tr.node r2 e2 c d).refs := fun y hy => by rw [s3]; exact List.mem_append_left _ hy
      have hlk1 : look p1 r = some n1 := by rw [t3.frame r (nodup_u hnd)]; exact hlk
      have hl1 : Rep S p1 n1.left l := hl.frame (fun y hy => t3.frame y (fun h => nodup_lu hnd hy h))
      have hszl : (Tr.last k (.node r2 e2 c d)).1.size + 1 = (Tr.node r2 e2 c d).size := by
        have := congrArg List.length s2
        simp only [List.length_append, List.length_singleton, Tr.len_toList] at this; omega
      have hnd1 : (l.refs ++ r :: (Tr.last k (.node r2 e2 c d)).1.refs).Nodup := List.Nodup.sublist (List.Sublist.append_left (List.Sublist.cons_cons _ (List.sublist_append_left _ _)) _) hnd'
      have hGl : ∀ y ∈ l.toList ++ n1.e :: (Tr.last k (.node r2 e2 c d)).1.toList, G y := by
        intro y hy
        refine hG y ?_
        have e1 : (Tr.node r e l (.node r2 e2 c d)).toList = l.toList ++ e :: ((Tr.last k (.node r2 e2 c d)).1.toList ++ [x']) := by rw [← s2]; rfl
        rw [e1]
        rw [he] at hy
        simp only [List.mem_append, List.mem_cons] at hy ⊢
        rcases hy with hy | hy | hy
        · exact .inl hy
        · exact .inr (.inl hy)
        · exact .inr (.inr (.inl hy))
      obtain ⟨r', p2, v1, v2⟩ := linkf_ok ok hk t3.pw hl1 hlk1 t3.rep hnd1 hGl (by omega)
      refine ⟨r', m', x', p2, nm, ?_, ?_, ⟨v2.pw, ?_, fun y hy => ?_, v2.cap.trans t3.cap⟩, ?_, t5⟩
      · simp only [cond_false, t1, Option.bind_some, v1]
      · rw [Tr.last]; exact s1
      · rw [Tr.last]; rw [he] at v2; exact v2.rep
      · simp only [Tr.refs, List.mem_append, List.mem_cons, not_or] at hy
        rw [v2.frame y (by
          simp only [List.mem_append, List.mem_cons, not_or]
          exact ⟨hy.1, hy.2.1, fun h => by have := hsub y h; simp only [Tr.refs, List.mem_append, List.mem_cons] at this; rcases this with h | h | h <;> simp_all⟩), t3.frame y (by simp only [Tr.refs, List.mem_append, List.mem_cons, not_or]; exact hy.2.2)]
      · rw [v2.frame m' (by
          simp only [List.mem_append, List.mem_cons, not_or]
          have hm' : m' ∈ (Tr.node r2 e2 c d).refs := by rw [s3]; simp
          refine ⟨fun h => nodup_lu hnd h hm', fun e => nodup_u hnd (e ▸ hm'), fun h => ?_⟩
          have hu2 := nodup_right hnd'
          exact (List.nodup_append.1 hu2).2.2 m' h m' (by simp) rfl)]
        exact t4
theorem merge_ok (ok : OpsOk O k N G S lt) (hk : N ≤ k) {p : PN E A} {L : List TRef} {B : Nat} (hP : PW p L B) {a b : TRef} {l u : Tr E} (hl : Rep S p a l) (hu : Rep S p b u) (hnd : (l.refs ++ u.refs).Nodup) (hG : ∀ x ∈ l.toList ++ u.toList, G x) (hN : l.size + u.size < N) :
    ∃ r' p', Tree_merge.f O k p a b = some (r', p') ∧ Left S p p' L B r' (Tr.merge k l u) (l.refs ++ u.refs) := by
  unfold Tree_merge.f
  cases l with
  | nil =>
    have e0 : (a.gen == 0) = true := by simpa using hl.nil_iff.2 rfl
    rw [e0]
    exact ⟨b, p, rfl, hP, by simpa [Tr.merge] using hu, fun _ _ => rfl, rfl⟩
  | node r e c d =>
    have e0 : (a.gen == 0) = false := by
      have : a.gen ≠ 0 := fun h => by have := hl.nil_iff.1 h; cases this
      simpa using this
    rw [e0]
    cases u with
    | nil =>
      have e1 : (b.gen == 0) = true := by simpa using hu.nil_iff.2 rfl
      rw [e1]
      exact ⟨a, p, rfl, hP, by simpa [Tr.merge] using hl, fun _ _ => rfl, rfl⟩
    | node r2 e2 f g =>
      have e1 : (b.gen == 0) = false := by
        have : b.gen ≠ 0 := fun h => by have := hu.nil_iff.1 h; cases this
        simpa using this
      rw [e1]
      obtain ⟨d1, d2, d3⟩ := List.nodup_append.1 hnd
      obtain ⟨r1, m, x, p1, nm, t1, t2, t3, t4, t5⟩ := last_ok ok hk k hP (by omega) (by simp) hl d1 (fun x hx => hG x (List.mem_append_left _ hx)) (by omega)
      obtain ⟨m', x', s1, s2, s3⟩ := Tr.last_spec k (.node r e c d) (by simp)
      have hmm : m' = m ∧ x' = x := by rw [s1] at t2; cases t2; exact ⟨rfl, rfl⟩
      obtain ⟨rfl, rfl⟩ := hmm
      have hszl : (Tr.last k (.node r e c d)).1.size + 1 = (Tr.node r e c d).size := by
        have := congrArg List.length s2
        simp only [List.length_append, List.length_singleton, Tr.len_toList] at this; omega
      have hu1 : Rep S p1 b (.node r2 e2 f g) := hu.frame (fun y hy => t3.frame y (fun h => d3 y h y hy rfl))
      have hnd1 : ((Tr.last k (.node r e c d)).1.refs ++ m' :: (Tr.node r2 e2 f g).refs).Nodup := by
        have : (Tr.last k (.node r e c d)).1.refs ++ m' :: (Tr.node r2 e2 f g).refs = (Tr.node r e c d).refs ++ (Tr.node r2 e2 f g).refs := by rw [s3]; simp
        rw [this]; exact hnd
      have hG1 : ∀ y ∈ (Tr.last k (.node r e c d)).1.toList ++ nm.e :: (Tr.node r2 e2 f g).toList, G y := by
        intro y hy
        refine hG y ?_
        rw [s2, t5.symm]; simpa using hy
      obtain ⟨r', p2, v1, v2⟩ := linkf_ok ok hk t3.pw t3.rep t4 hu1 hnd1 hG1 (by omega)
      have t1' : Tree_last.f O k p a = some (r1, m', p1) := t1
      refine ⟨r', p2, ?_, ⟨v2.pw, ?_, fun y hy => ?_, v2.cap.trans t3.cap⟩⟩
      · simp only [cond_false, t1', Option.bind_some, v1]
      · have : Tr.merge k (.node r e c d) (.node r2 e2 f g) = Tr.link k (Tr.last k (.node r e c d)).1 m' x' (.node r2 e2 f g) := by
          unfold Tr.merge
          have : Tr.last k (.node r e c d) = ((Tr.last k (.node r e c d)).1, some (m', x')) := by rw [← s1]
          simp only
          rw [this]
        rw [this, ← t5]; exact v2.rep
      · rw [List.mem_append, not_or] at hy
        have hy1 := hy.1
        rw [s3, List.mem_append, not_or] at hy1
        rw [v2.frame y (by simp only [List.mem_append, List.mem_cons, not_or]; exact ⟨hy1.1, by simpa using hy1.2, hy.2⟩), t3.frame y hy.1]
end
end Go.Proofs.Ytjokolmijhhinaa
namespace Go.Proofs.Ytjokolmijhhinaa
open Go Go.Proofs.Ytjokolmijhhinaa.Sx
section
variable {E A : Type} {O : Ops E A} {k N : Nat} {G : E → Prop} {S : A → List E → Prop} {lt : E → E → Prop}
structure DropL (S : A → List E → Prop) (p p' : PN E A) (L : List TRef) (B : Nat) (t t' : Tr E) (r' x0 : TRef) : Prop where
  pw : PW p' (L.erase x0) B
  rep : Rep S p' r' t'
  refs : (x0 :: t'.refs).Perm t.refs
  frame : ∀ x, x ∉ t.refs → look p' x = look p x
  cap : p'.cap = p.cap
theorem drop_ok (ok : OpsOk O k N G S lt) (hk : N ≤ k) {p : PN E A} {L : List TRef} {B : Nat} (hP : PW p L B) (e : E) : ∀ (n : Nat) {r : TRef} {t : Tr E}, t.size < n → Rep S p r t → t.refs.Nodup → InOrd lt t.toList → (∀ x ∈ t.toList, G x) → t.size < N →
    ∃ a m b, Cut lt e t.toList a m b ∧
      ((m = [] ∧ Tree_drop.r O k n p r e = some (r, O.zE, false, p)) ∨
       (∃ y r' p' t' x0, m = [y] ∧ Tree_drop.r O k n p r e = some (r', y, true, p') ∧ t'.toList = a ++ b ∧ DropL S p p' L B t t' r' x0))
  | 0, _, _, h, _, _, _, _, _ => by omega
  | n + 1, r, .nil, hn, hr, hnd, hs, hG, hN => by
    refine ⟨[], [], [], Cut.nil e, .inl ⟨rfl, ?_⟩⟩
    have e0 : (r.gen == 0) = true := by simpa using hr.nil_iff.2 rfl
    simp only [Tree_drop.r, e0, cond_true]
  | n + 1, r, .node r0 e0 l u, hn, hr, hnd, hs, hG, hN => by
    obtain ⟨n1, g1, g2⟩ := get_ok ok hP hr
    obtain ⟨rfl, he, hl, hu, hlk⟩ := g2.node rfl
    have hg : (r.gen == 0) = false := by
      have := hP.gen_ne (hP.mem hlk); simpa using this
    obtain ⟨c, c1, c2, c3⟩ := ok.cmp e n1.e
    have hsz : (Tr.node r e0 l u).size = l.size + 1 + u.size := rfl
    have hln : (Tr.node r e0 l u).toList = l.toList ++ e0 :: u.toList := rfl
    have hrL : r ∈ L := hP.mem hlk
    simp only [Tree_drop.r, hg, cond_false, g1, Option.bind_some, c1]
    rw [he] at c2 c3
    rw [hln] at hs hG ⊢
    by_cases h1 : c < 0
    · have hlt := c2.1 h1
      simp only [h1, decide_true, cond_true]
      obtain ⟨a, m, b, hcut, hres⟩ := drop_ok ok hk hP e n (by omega) hl (nodup_left hnd) (sorted_l hs) (fun x hx => hG x (List.mem_append_left _ hx)) (by omega)
      refine ⟨a, m, b ++ e0 :: u.toList, hcut.left ok hs hlt, ?_⟩
      rcases hres with ⟨h2, h4⟩ | ⟨y, r', p', t', x0, h2, h4, h5, h6⟩
      · exact .inl ⟨h2, by simp only [h4, Option.bind_some]; rfl⟩
      · right
        have hx0 : x0 ∈ l.refs := h6.refs.mem_iff.1 List.mem_cons_self
        have hlk1 : look p' r = some n1 := by rw [h6.frame r (nodup_l hnd)]; exact hlk
        have hu1 : Rep S p' n1.right u := hu.frame (fun x hx => h6.frame x (fun h => nodup_lu hnd h hx))
        have hperm : (x0 :: (t'.refs ++ r :: u.refs)).Perm (Tr.node r e0 l u).refs := by
          have := h6.refs.append_right (r :: u.refs)
          simpa [Tr.refs] using this
        have hnd2 : (x0 :: (t'.refs ++ r :: u.refs)).Nodup := hperm.nodup_iff.2 hnd
        have hts : t'.size ≤ l.size := by
          have := congrArg List.length h5
          have h7 := congrArg List.length hcut.eq
          simp only [Tr.len_toList, List.length_append, List.length_cons] at this h7; omega
        obtain ⟨r2, p2, v1, v2⟩ := linkf_ok ok hk h6.pw h6.rep hlk1 hu1 (List.nodup_cons.1 hnd2).2 (fun x hx => by
          rw [h5, he] at hx
          simp only [List.mem_append, List.mem_cons] at hx
          have h8 : ∀ y, y ∈ a ∨ y ∈ b → y ∈ l.toList := fun y hy => by rw [hcut.eq]; rcases hy with hy | hy <;> simp [hy]
          rcases hx with hx | rfl | hx
          · exact hG x (List.mem_append_left _ (h8 x hx))
          · exact hG x (by simp)
          · exact hG x (by simp [hx])) (by omega)
        refine ⟨y, r2, p2, Tr.link k t' r n1.e u, x0, h2, ?_, ?_, v2.pw, v2.rep, ?_, fun x hx2 => ?_, v2.cap.trans h6.cap⟩
        · simp only [h4, Option.bind_some, v1]; rfl
        · rw [Tr.link_list, h5, he]; simp
        · rw [Tr.link_refs]; exact hperm
        · have hx3 : x ∉ l.refs := fun h => hx2 (by simp [Tr.refs, h])
          rw [v2.frame x (fun h => hx2 (hperm.mem_iff.1 (List.mem_cons_of_mem _ h))), h6.frame x hx3]
    · simp only [h1, decide_false, cond_false]
      by_cases h1' : c > 0
      · have hlt := c3.1 h1'
        simp only [h1', decide_true, cond_true]
        obtain ⟨a, m, b, hcut, hres⟩ := drop_ok ok hk hP e n (by omega) hu (nodup_right hnd) (sorted_u hs) (fun x hx => hG x (by simp [hx])) (by omega)
        refine ⟨l.toList ++ e0 :: a, m, b, hcut.right ok hs hlt, ?_⟩
        rcases hres with ⟨h2, h4⟩ | ⟨y, r', p', t', x0, h2, h4, h5, h6⟩
        · exact .inl ⟨h2, by simp only [h4, Option.bind_some]; rfl⟩
        · right
          have hx0 : x0 ∈ u.refs := h6.refs.mem_iff.1 List.mem_cons_self
          have hlk1 : look p' r = some n1 := by rw [h6.frame r (nodup_u hnd)]; exact hlk
          have hl1 : Rep S p' n1.left l := hl.frame (fun x hx => h6.frame x (fun h => nodup_lu hnd hx h))
          have hperm : (x0 :: (l.refs ++ r :: t'.refs)).Perm (Tr.node r e0 l u).refs := by
            have h7 : (l.refs ++ r :: (x0 :: t'.refs)).Perm (l.refs ++ r :: u.refs) := List.Perm.append_left _ (List.Perm.cons _ h6.refs)
            refine List.Perm.trans ?_ h7
            rw [show l.refs ++ r :: x0 :: t'.refs = (l.refs ++ [r]) ++ x0 :: t'.refs by simp]
            refine List.Perm.trans ?_ List.perm_middle.symm
            simp
          have hnd2 : (x0 :: (l.refs ++ r :: t'.refs)).Nodup := hperm.nodup_iff.2 hnd
          have hts : t'.size ≤ u.size := by
            have := congrArg List.length h5
            have h7 := congrArg List.length hcut.eq
            simp only [Tr.len_toList, List.length_append, List.length_cons] at this h7; omega
          obtain ⟨r2, p2, v1, v2⟩ := linkf_ok ok hk h6.pw hl1 hlk1 h6.rep (List.nodup_cons.1 hnd2).2 (fun x hx => by
            rw [h5, he] at hx
            simp only [List.mem_append, List.mem_cons] at hx
            have h8 : ∀ y, y ∈ a ∨ y ∈ b → y ∈ u.toList := fun y hy => by rw [hcut.eq]; rcases hy with hy | hy <;> simp [hy]
            rcases hx with hx | rfl | hx
            · exact hG x (by simp [hx])
            · exact hG x (by simp)
            · exact hG x (by simp [h8 x hx])) (by omega)
          refine ⟨y, r2, p2, Tr.link k l r n1.e t', x0, h2, ?_, ?_, v2.pw, v2.rep, ?_, fun x hx2 => ?_, v2.cap.trans h6.cap⟩
          · simp only [h4, Option.bind_some, v1]; rfl
          · rw [Tr.link_list, h5, he]; simp
          · rw [Tr.link_refs]; exact hperm
          · have hx3 : x ∉ u.refs := fun h => hx2 (by simp [Tr.refs, h])
            rw [v2.frame x (fun h => hx2 (hperm.mem_iff.1 (List.mem_cons_of_mem _ h))), h6.frame x hx3]
      · simp only [h1', decide_false, cond_false]
        have n1' : ¬ lt e e0 := fun h => h1 (c2.2 h)
        have n2' : ¬ lt e0 e := fun h => h1' (c3.2 h)
        refine ⟨l.toList, [e0], u.toList, Cut.mid ok hs n1' n2', .inr ?_⟩
        obtain ⟨p1, q1, q2, q3, q4⟩ := hP.drop (z := zNode O) hlk
        have hl1 : Rep S p1 n1.left l := hl.frame (fun x hx => q3 x (fun h => nodup_l hnd (h ▸ hx)))
        have hu1 : Rep S p1 n1.right u := hu.frame (fun x hx => q3 x (fun h => nodup_u hnd (h ▸ hx)))
        have hperm : (r :: (l.refs ++ u.refs)).Perm (Tr.node r e0 l u).refs := List.perm_middle.symm
        have hnd2 : (r :: (l.refs ++ u.refs)).Nodup := hperm.nodup_iff.2 hnd
        obtain ⟨r2, p2, v1, v2⟩ := merge_ok ok hk q2 hl1 hu1 (List.nodup_cons.1 hnd2).2 (fun x hx => hG x (by
          rcases List.mem_append.1 hx with hx | hx <;> simp [hx])) (by omega)
        obtain ⟨w1, w2⟩ := Tr.merge_spec k l u
        refine ⟨e0, r2, p2, Tr.merge k l u, r, rfl, ?_, w1, v2.pw, v2.rep, by rw [w2]; exact hperm, fun x hx => ?_, v2.cap.trans q4⟩
        · simp only [q1, Option.bind_some, v1, he]
        · have hxr : x ≠ r := fun h => hx (by simp [Tr.refs, h])
          rw [v2.frame x (fun h => hx (hperm.mem_iff.1 (List.mem_cons_of_mem _ h))), q3 x hxr]
end
end Go.Proofs.Ytjokolmijhhinaa
namespace Go.Proofs.Ytjokolmijhhinaa
open Go Go.Proofs.Ytjokolmijhhinaa.Sx
section
variable {E A : Type} {O : Ops E A} {k N : Nat} {G : E → Prop} {S : A → List E → Prop} {lt : E → E → Prop}
theorem all_ok (ok : OpsOk O k N G S lt) {p : PN E A} {L : List TRef} {B : Nat} (hP : PW p L B) : ∀ (n : Nat) {r : TRef} {t : Tr E} (out : List E), t.size < n → Rep S p r t → out.length + t.size < 4294967296 → Tree_all.r O k n p r out = some (out ++ t.toList)
  | 0, _, _, _, h, _, _ => by omega
  | n + 1, r, .nil, out, hn, hr, hb => by
    have e0 : (r.gen == 0) = true := by simpa using hr.nil_iff.2 rfl
    simp only [Tree_all.r, e0, cond_true, Tr.toList, List.append_nil]
  | n + 1, r, .node r0 e0 l u, out, hn, hr, hb => by
    obtain ⟨n1, g1, g2⟩ := get_ok ok hP hr
    obtain ⟨rfl, he, hl, hu, hlk⟩ := g2.node rfl
    have hg := hP.ne0 hlk
    have hsz : (Tr.node r e0 l u).size = l.size + 1 + u.size := rfl
    have hll := Tr.len_toList l
    simp only [Tree_all.r, hg, cond_false, g1, Option.bind_some]
    rw [all_ok ok hP n out (by omega) hl (by omega)]
    simp only [Option.bind_some]
    rw [decide_eq_true (by simp; omega)]
    simp only [cond_true]
    rw [all_ok ok hP n _ (by omega) hu (by simp; omega)]
    simp [Tr.toList, he]
theorem Gr.drop (ok : OpsOk O k N G S lt) (hk : N ≤ k) {p : PN E A} {r : TRef} {l : List E} {c : Int} {B : Nat} (h : Gr S lt G p r l c B) (e : E) (hN : l.length < N) :
    ∃ a m b, Cut lt e l a m b ∧ ((m = [] ∧ Tree_Drop.f O k p r e = some (O.zE, false, r, p)) ∨
      (∃ y r' p', m = [y] ∧ Tree_Drop.f O k p r e = some (y, true, r', p') ∧ Gr S lt G p' r' (a ++ b) c B)) := by
  obtain ⟨t, hP, hr, rfl⟩ := h.ex
  have hll := Tr.len_toList t
  obtain ⟨a, m, b, hcut, hres⟩ := drop_ok ok hk hP e k (by omega) hr hP.ld h.sorted h.good (by omega)
  refine ⟨a, m, b, hcut, ?_⟩
  unfold Tree_Drop.f Tree_drop.f
  rcases hres with ⟨h1, h3⟩ | ⟨y, r', p', t', x0, h1, h3, h4, h5⟩
  · exact .inl ⟨h1, by rw [h3]; rfl⟩
  · refine .inr ⟨y, r', p', h1, by rw [h3]; rfl, ⟨t', h5.pw.perm ?_, h5.rep, h4⟩, hcut.drop h.sorted, fun x hx => h.good x ?_, h5.cap.trans h.cap⟩
    · have := h5.refs.erase x0
      rw [List.erase_cons_head] at this
      exact this.symm
    · rw [hcut.eq]; rcases List.mem_append.1 hx with hx | hx <;> simp [hx]
theorem Gr.all (ok : OpsOk O k N G S lt) (hk : N ≤ k) {p : PN E A} {r : TRef} {l : List E} {c : Int} {B : Nat} (h : Gr S lt G p r l c B) (hN : l.length < N) : Tree_All.f O k p r = some l := by
  obtain ⟨t, hP, hr, rfl⟩ := h.ex
  have hbig := ok.big
  have hll := Tr.len_toList t
  unfold Tree_All.f Tree_all.f
  rw [all_ok ok hP k [] (by omega) hr (by simp; omega)]; rfl
end
end Go.Proofs.Ytjokolmijhhinaa
namespace Go.Proofs.Ytjokolmijhhinaa
open Go Go.Proofs.Ytjokolmijhhinaa.Sx
section
variable {E A : Type} {O : Ops E A} {k N : Nat} {G : E → Prop} {S : A → List E → Prop} {lt : E → E → Prop}
theorem at_ok (ok : OpsOk O k N G S lt) {p : PN E A} {L : List TRef} {B : Nat} (hP : PW p L B) : ∀ (n : Nat) {r : TRef} {t : Tr E} (i : Int), t.size < n → Rep S p r t → 0 ≤ i → i < 9223372036854775808 → t.size < 4294967296 →
    Tree_At.l0 O k p n (i, r) = some (match t.toList[i.toNat]? with | some y => Sum.inl (y, true) | none => Sum.inr ())
  | 0, _, _, _, h, _, _, _, _ => by omega
  | n + 1, r, .nil, i, hn, hr, hi, hi2, hb => by
    have e0 : (r.gen != 0) = false := by simpa using hr.nil_iff.2 rfl
    simp only [Tree_At.l0, e0, cond_false, Tr.toList, List.getElem?_nil]
  | n + 1, r, .node r0 e0 l u, i, hn, hr, hi, hi2, hb => by
    obtain ⟨n1, g1, g2⟩ := get_ok ok hP hr
    obtain ⟨rfl, he, hl, hu, hlk⟩ := g2.node rfl
    have hg : (r.gen != 0) = true := by have := hP.ne0 hlk; rw [bne, this]; rfl
    have hsz : (Tr.node r e0 l u).size = l.size + 1 + u.size := rfl
    have hln : (Tr.node r e0 l u).toList = l.toList ++ e0 :: u.toList := rfl
    obtain ⟨n2, g3, g4⟩ := get_ok ok hP hl
    simp only [Tree_At.l0, hg, cond_true, g1, Option.bind_some, g3, g4.size]
    rw [hln]
    have hll := Tr.len_toList l
    by_cases h1 : i = (l.size : Int)
    · have h0 : (i == (l.size : Int)) = true := by simpa using h1
      simp only [h0, cond_true]
      rw [List.getElem?_append_right (by omega), show i.toNat - l.toList.length = 0 by omega]
      simp [he]
    · have h0 : (i == (l.size : Int)) = false := by simpa using h1
      simp only [h0, cond_false]
      by_cases h2 : i < (l.size : Int)
      · simp only [h2, decide_true, cond_true]
        rw [at_ok ok hP n i (by omega) hl hi hi2 (by omega), List.getElem?_append_left (by omega)]
      · simp only [h2, decide_false, cond_false]
        have e1 : w64 ((l.size : Int) + 1) = (l.size : Int) + 1 := w64_id (by omega) (by omega)
        rw [e1, w64_id (by omega) (by omega), at_ok ok hP n (i - ((l.size : Int) + 1)) (by omega) hu (by omega) (by omega) (by omega), List.getElem?_append_right (by omega)]
        rw [show i.toNat - l.toList.length = (i - ((l.size : Int) + 1)).toNat + 1 by omega, List.getElem?_cons_succ]
end
end Go.Proofs.Ytjokolmijhhinaa
namespace Go.Proofs.Ytjokolmijhhinaa
open Go Go.Proofs.Ytjokolmijhhinaa.Sx
def lowF : List Int → Int
  | [] => 0
  | [x] => x
  | x :: y :: l => min x (x + lowF (y :: l))
def tideF (ns : List Int) : TTide := ⟨ns.length, ns.sum, lowF ns⟩
theorem lowF_append : ∀ (a b : List Int), a ≠ [] → b ≠ [] → lowF (a ++ b) = min (lowF a) (a.sum + lowF b)
  | [x], b, _, hb => by
    cases b with
    | nil => exact absurd rfl hb
    | cons y l => simp [lowF]
  | x :: y :: l, b, _, hb => by
    have ih := lowF_append (y :: l) b (by simp) hb
    have e : lowF (x :: y :: l ++ b) = min x (x + lowF (y :: l ++ b)) := by simp [lowF]
    rw [e, ih]
    have e2 : lowF (x :: y :: l) = min x (x + lowF (y :: l)) := rfl
    have e3 : (x :: y :: l).sum = x + (y :: l).sum := by simp
    rw [e2, e3]
    omega
  | [], _, h, _ => absurd rfl h
def smallN (ns : List Int) : Prop := ∀ x ∈ ns, -1099511627776 ≤ x ∧ x ≤ 1099511627776
theorem smallN.append {a b : List Int} (ha : smallN a) (hb : smallN b) : smallN (a ++ b) := fun x hx => (List.mem_append.1 hx).elim (ha x) (hb x)
theorem smallN.left {a b : List Int} (h : smallN (a ++ b)) : smallN a := fun x hx => h x (List.mem_append_left _ hx)
theorem smallN.right {a b : List Int} (h : smallN (a ++ b)) : smallN b := fun x hx => h x (List.mem_append_right _ hx)
theorem smallN.take {a : List Int} (h : smallN a) (i : Nat) : smallN (a.take i) := fun x hx => h x (List.mem_of_mem_take hx)
theorem sum_bound : ∀ {ns : List Int}, smallN ns → -1099511627776 * (ns.length : Int) ≤ ns.sum ∧ ns.sum ≤ 1099511627776 * (ns.length : Int)
  | [], _ => by simp
  | x :: l, h => by
    have h1 := h x List.mem_cons_self
    have h2 := sum_bound (ns := l) (fun y hy => h y (List.mem_cons_of_mem _ hy))
    simp only [List.sum_cons, List.length_cons]
    omega
theorem low_bound : ∀ {ns : List Int}, smallN ns → -1099511627776 * (ns.length : Int) ≤ lowF ns ∧ lowF ns ≤ 1099511627776 * (ns.length : Int)
  | [], _ => by simp [lowF]
  | [x], h => by have := h x List.mem_cons_self; simp [lowF]; omega
  | x :: y :: l, h => by
    have h1 := h x List.mem_cons_self
    have h2 := low_bound (ns := y :: l) (fun z hz => h z (List.mem_cons_of_mem _ hz))
    have e : lowF (x :: y :: l) = min x (x + lowF (y :: l)) := rfl
    simp only [List.length_cons] at h2 ⊢
    rw [e]
    omega
theorem tidePlus_eq (k : Nat) {a b : List Int} (h : smallN (a ++ b)) (hl : (a ++ b).length < 1000000) : tide_Tide_Plus.f k (tideF a) (tideF b) = some (tideF (a ++ b)) := by
  have ha := sum_bound h.left
  have hb := sum_bound h.right
  have la := low_bound h.left
  have lb := low_bound h.right
  simp only [List.length_append] at hl
  unfold tide_Tide_Plus.f
  by_cases h1 : a = []
  · subst h1; simp [tideF]
  · have p1 : a.length ≠ 0 := fun e => h1 (List.eq_nil_of_length_eq_zero e)
    by_cases h2 : b = []
    · subst h2
      have : ((tideF a).n == 0) = false := by simp [tideF]; exact h1
      simp only [this, cond_false]; simp [tideF]
    · have p2 : b.length ≠ 0 := fun e => h2 (List.eq_nil_of_length_eq_zero e)
      have e1 : ((a.length : Int) == 0) = false := by simp; exact h1
      have e2 : ((b.length : Int) == 0) = false := by simp; exact h2
      simp only [tideF, e1, e2, cond_false]
      rw [w64_id (by omega) (by omega), w64_id (by omega) (by omega), w64_id (by omega) (by omega), lowF_append a b h1 h2, List.sum_append, List.length_append]
      have e : gmin (lowF a) (a.sum + lowF b) = min (lowF a) (a.sum + lowF b) := by unfold gmin; split <;> omega
      rw [e, Int.natCast_add]
theorem tideOf_loop (k : Nat) (l : List Int) (hs : smallN l) (hl : l.length < 1000000) : ∀ (d i n : Nat), i + d = l.length → d < n → tide_Of.l0 k l n (tideF (l.take i), (i : Int)) = some (tideF l)
  | d, i, 0, _, h => by omega
  | 0, i, n + 1, hi, _ => by
    simp only [tide_Of.l0]
    rw [dec_nlt (by omega), List.take_of_length_le (by omega)]; rfl
  | d + 1, i, n + 1, hi, hn => by
    obtain ⟨x, hx, hdr⟩ := drop_cons (l := l) (i := i) (by omega)
    have ht : l.take (i + 1) = l.take i ++ [x] := by rw [List.take_add_one, hx]; rfl
    have e1 : (⟨1, x, x⟩ : TTide) = tideF [x] := by simp [tideF, lowF]
    simp only [tide_Of.l0]
    rw [dec_lt (by omega)]
    simp only [cond_true, atL_nat hx, Option.bind_some, e1]
    rw [tidePlus_eq k (by rw [← ht]; exact hs.take _) (by rw [← ht]; simp; omega)]
    simp only [Option.bind_some, w64_succ (i := i) (by omega), ← ht]
    exact tideOf_loop k l hs hl d (i + 1) n (by omega) (by omega)
theorem tideOf_eq (k : Nat) {l : List Int} (hs : smallN l) (hl : l.length < 1000000) (hk : l.length < k) : tide_Of.f k l = some (tideF l) := by
  have := tideOf_loop k l hs hl l.length 0 k (by omega) hk
  have e : tide_Of.l0 k l k (zTTide, 0) = some (tideF l) := this
  unfold tide_Of.f; rw [e]; rfl
end Go.Proofs.Ytjokolmijhhinaa
namespace Go.Proofs.Ytjokolmijhhinaa
open Go Go.Proofs.Ytjokolmijhhinaa.Sx
abbrev K1 : Nat := 1000001
abbrev ltE (a b : TL07Elem) : Prop := a.k < b.k
abbrev wsE (l : List TL07Elem) : List Int := l.map (·.w)
abbrev SE (s : TTide) (l : List TL07Elem) : Prop := s = tideF (wsE l)
abbrev GE (x : TL07Elem) : Prop := -1000000 ≤ x.w ∧ x.w ≤ 1000000
theorem smallE {l : List TL07Elem} (h : ∀ x ∈ l, GE x) : smallN (wsE l) := by
  intro y hy
  obtain ⟨x, hx, rfl⟩ := List.mem_map.1 hy
  have := h x hx
  simp only [GE] at this; omega
theorem okE : OpsOk opsE K1 1000000 GE SE ltE where
  cmp a b := by
    unfold opsE Lw07_elem_Compare.f ltE
    by_cases h1 : a.k < b.k
    · exact ⟨-1, by simp [h1], by omega, by omega⟩
    · by_cases h2 : b.k < a.k
      · exact ⟨1, by simp [h1, h2], by omega, by omega⟩
      · exact ⟨0, by simp [h1, h2], by omega, by omega⟩
  sum e he := by
    refine ⟨tideF [e.w], ?_, rfl⟩
    show Lw07_elem_Sum.f K1 e = _
    unfold Lw07_elem_Sum.f
    have hs : smallN [e.w] := smallE (l := [e]) (by simpa using he)
    rw [tideOf_eq K1 hs (by simp) (by unfold K1; simp)]; rfl
  plus := by
    rintro a b l r rfl rfl hG hN
    refine ⟨_, ?_, rfl⟩
    show tide_Tide_Plus.f K1 _ _ = _
    rw [tidePlus_eq K1 (by have := smallE hG; simpa using this) (by simpa using hN)]
    simp
  zero := rfl
  irrefl a := by simp
  trans := by intro a b c h1 h2; unfold ltE at *; omega
  left := by intro a b c h1 h2 h3; unfold ltE at *; omega
  right := by intro a b c h1 h2 h3; unfold ltE at *; omega
  big := by decide
abbrev GrE := Gr SE ltE GE
theorem awake07 : Lw07_awake.f K1 = some true := by kernel_rfl
def toR (x : TL07Elem) : TR07Elem := ⟨x.k, x.w⟩
abbrev rl (l : List TL07Elem) : List TR07Elem := l.map toR
theorem refRank_loop (key : Int) (l : List TR07Elem) (a : Nat) (ha : a ≤ l.length) (hl : l.length < 1000000) (h1 : ∀ x ∈ l.take a, x.k < key) (h2 : ∀ x, l[a]? = some x → ¬ x.k < key) : ∀ (d i n : Nat), i + d = a → d < n → R07_Rank.l0 K1 l key n (i : Int) = some (a : Int)
  | d, i, 0, _, h => by omega
  | 0, i, n + 1, hi, _ => by
    have : i = a := by omega
    subst this
    simp only [R07_Rank.l0]
    by_cases h : i < l.length
    · obtain ⟨x, hx, _⟩ := drop_cons h
      have := h2 x hx
      rw [dec_lt h]
      simp only [cond_true, atL_nat hx, Option.bind_some, this, decide_false, cond_false]
    · rw [dec_nlt (by omega)]; rfl
  | d + 1, i, n + 1, hi, hn => by
    obtain ⟨x, hx, _⟩ := drop_cons (l := l) (i := i) (by omega)
    have h3 : x.k < key := h1 x (List.mem_of_getElem? (i := i) (by rw [List.getElem?_take_of_lt (by omega)]; exact hx))
    simp only [R07_Rank.l0]
    rw [dec_lt (by omega)]
    simp only [cond_true, atL_nat hx, Option.bind_some, h3, decide_true, w64_succ (i := i) (by omega)]
    exact refRank_loop key l a ha hl h1 h2 d (i + 1) n (by omega) (by omega)
theorem refRank {e : TL07Elem} {l a m b : List TL07Elem} (h : Cut ltE e l a m b) (hl : l.length < 1000000) : R07_Rank.f K1 (rl l) e.k = some (a.length : Int) := by
  have hlen : l.length = a.length + (m.length + b.length) := by rw [h.eq]; simp
  unfold R07_Rank.f
  have := refRank_loop e.k (rl l) a.length (by simp; omega) (by simpa using hl) (by
    intro x hx
    rw [h.eq] at hx
    simp only [List.map_append] at hx
    rw [List.take_left' (by simp)] at hx
    obtain ⟨y, hy, rfl⟩ := List.mem_map.1 hx
    exact h.la y hy) (by
    intro x hx
    rw [h.eq] at hx
    simp only [List.map_append] at hx
    rw [List.getElem?_append_right (by simp)] at hx
    simp only [List.length_map, Nat.sub_self] at hx
    have hx' := List.mem_of_getElem? hx
    rcases List.mem_append.1 hx' with hx' | hx'
    · obtain ⟨y, hy, rfl⟩ := List.mem_map.1 hx'
      rcases h.lm with h1 | ⟨z, h1, h2, h3⟩
      · rw [h1] at hy; cases hy
      · rw [h1] at hy; simp at hy; subst hy; exact h3
    · obtain ⟨y, hy, rfl⟩ := List.mem_map.1 hx'
      have := h.lb y hy
      simp only [toR]; unfold ltE at this; omega) a.length 0 K1 (by omega) (by unfold K1; omega)
  have e : R07_Rank.l0 K1 (rl l) e.k K1 0 = some (a.length : Int) := this
  rw [e]; rfl
theorem toR_at {l a m b : List TL07Elem} (he : l = a ++ (m ++ b)) : (rl l)[a.length]? = (rl (m ++ b))[0]? := by
  rw [he]; simp only [List.map_append]
  rw [List.getElem?_append_right (by simp)]; simp
theorem nat_ok {a n : Nat} (h : a ≤ n) : decide ((0 : Int) ≤ (a : Int) ∧ (a : Int) ≤ (n : Int)) = true := by simp; omega
theorem refPut {e : TL07Elem} {l a m b : List TL07Elem} (h : Cut ltE e l a m b) (hl : l.length < 1000000) (c : Int) :
    R07_Put.f K1 (rl l) (toR e) c = some (if m = [] ∧ (l.length : Int) ≥ c then (rl l, false) else (rl (a ++ e :: b), true)) := by
  have hlen : l.length = a.length + (m.length + b.length) := by rw [h.eq]; simp
  have hr : R07_Rank.f K1 (rl l) (toR e).k = some (a.length : Int) := refRank h hl
  have hta : (rl l).take a.length = rl a := by rw [h.eq]; simp
  unfold R07_Put.f
  rw [hr]
  simp only [Option.bind_some]
  rw [nat_ok (by simp; omega)]
  have e1 : a.length - 0 = a.length := by omega
  simp only [e1, List.drop_zero, hta, List.nil_append, cond_true, Int.toNat_natCast]
  rw [decide_eq_true (p := ([] : List TR07Elem).length + (rl a).length < 4294967296) (by simp; omega)]
  simp only [cond_true]
  have hputL : decide ((rl a).length + [toR e].length < 4294967296) = true := decide_eq_true (by simp; omega)
  rcases h.lm with hm | ⟨y, hm, h2, h3⟩
  · subst hm
    have hdr : ((rl l).drop a.length).take ((rl l).length - a.length) = rl b := by
      rw [List.take_of_length_le (by simp)]
      have : rl l = rl a ++ rl b := by rw [h.eq]; simp
      rw [this, List.drop_left' (by simp)]
    have hcont : (bif decide ((a.length : Int) < ((rl l).length : Int)) then ((atL (rl l) (a.length : Int)).bind fun x3 => bif (x3.k == (toR e).k) then (bif decide ((rl a).length + ([toR e] : List TR07Elem).length < 4294967296) then (bif decide (0 ≤ (w64 ((a.length : Int) + 1)) ∧ (w64 ((a.length : Int) + 1)) ≤ ((rl l).length : Int)) then (bif decide ((rl a ++ ([toR e] : List TR07Elem)).length + (((rl l).drop (((w64 ((a.length : Int) + 1))).toNat)).take ((rl l).length - (((w64 ((a.length : Int) + 1))).toNat))).length < 4294967296) then (some (Sum.inl ((rl a ++ ([toR e] : List TR07Elem)) ++ (((rl l).drop (((w64 ((a.length : Int) + 1))).toNat)).take ((rl l).length - (((w64 ((a.length : Int) + 1))).toNat))), true))) else none) else none) else none) else (some (Sum.inr ()))) else (some (Sum.inr ()))) = (some (Sum.inr ()) : Option (Sum (List TR07Elem × Bool) Unit)) := by
      by_cases hb : a.length < (rl l).length
      · rw [dec_lt hb]
        cases b with
        | nil => simp at hb hlen; omega
        | cons z b' =>
          have hz : (rl l)[a.length]? = some (toR z) := by rw [toR_at h.eq]; rfl
          have hk : ((toR z).k == (toR e).k) = false := by
            have := h.lb z List.mem_cons_self
            simp only [toR]; unfold ltE at this; simp; omega
          simp only [cond_true, atL_nat hz, Option.bind_some, hk, cond_false]
      · rw [dec_nlt (by omega)]; rfl
    rw [hcont]
    simp only [Option.bind_some, Sum.elim_inr, List.length_map, true_and]
    by_cases hc : (l.length : Int) ≥ c
    · simp only [hc, decide_true, cond_true, if_true]
    · simp only [hc, decide_false, cond_false, if_false]
      rw [List.length_map] at hputL hdr
      rw [hputL, hdr]
      simp only [cond_true]
      rw [decide_eq_true (by simp; omega)]
      simp
  · subst hm
    have hz : (rl l)[a.length]? = some (toR y) := by rw [toR_at h.eq]; rfl
    have hk : ((toR y).k == (toR e).k) = true := by
      simp only [toR]; unfold ltE at h2 h3; simp; omega
    simp only [List.length_cons, List.length_nil] at hlen
    have hsu : w64 ((a.length : Int) + 1) = ((a.length + 1 : Nat) : Int) := w64_succ (by omega)
    have hdr : ((rl l).drop (a.length + 1)).take ((rl l).length - (a.length + 1)) = rl b := by
      rw [List.take_of_length_le (by simp)]
      have : rl l = (rl a ++ [toR y]) ++ rl b := by rw [h.eq]; simp
      rw [this, List.drop_left' (by simp)]
    rw [dec_lt (by simp; omega)]
    simp only [cond_true, atL_nat hz, Option.bind_some, hk, hputL, hsu, Int.toNat_natCast, hdr]
    rw [nat_ok (by simp; omega)]
    simp only [cond_true]
    rw [decide_eq_true (by simp; omega)]
    simp
theorem refDrop {e : TL07Elem} {l a m b : List TL07Elem} (h : Cut ltE e l a m b) (hl : l.length < 1000000) :
    R07_Drop.f K1 (rl l) e.k = some (match m with | [] => (rl l, zTR07Elem, false) | y :: _ => (rl (a ++ b), toR y, true)) := by
  have hlen : l.length = a.length + (m.length + b.length) := by rw [h.eq]; simp
  have hr : R07_Rank.f K1 (rl l) e.k = some (a.length : Int) := refRank h hl
  have hta : (rl l).take a.length = rl a := by rw [h.eq]; simp
  unfold R07_Drop.f
  rw [hr]
  simp only [Option.bind_some]
  rcases h.lm with hm | ⟨y, hm, h2, h3⟩
  · subst hm
    cases b with
    | nil =>
      have h0 : ((a.length : Int) == ((rl l).length : Int)) = true := by simp at hlen ⊢; omega
      simp only [h0, cond_true, Option.bind_some, Sum.elim_inl]
    | cons z b' =>
      have h0 : ((a.length : Int) == ((rl l).length : Int)) = false := by simp at hlen ⊢; omega
      have hz : (rl l)[a.length]? = some (toR z) := by rw [toR_at h.eq]; rfl
      have hk : ((toR z).k != e.k) = true := by
        have := h.lb z List.mem_cons_self
        simp only [toR]; unfold ltE at this; simp; omega
      simp only [h0, cond_false, atL_nat hz, Option.bind_some, hk, cond_true, Sum.elim_inl]
  · subst hm
    simp only [List.length_cons, List.length_nil] at hlen
    have h0 : ((a.length : Int) == ((rl l).length : Int)) = false := by simp; omega
    have hz : (rl l)[a.length]? = some (toR y) := by rw [toR_at h.eq]; rfl
    have hk : ((toR y).k != e.k) = false := by
      simp only [toR]; unfold ltE at h2 h3; simp; omega
    have hsu : w64 ((a.length : Int) + 1) = ((a.length + 1 : Nat) : Int) := w64_succ (by omega)
    have hdr : ((rl l).drop (a.length + 1)).take ((rl l).length - (a.length + 1)) = rl b := by
      rw [List.take_of_length_le (by simp)]
      have : rl l = (rl a ++ [toR y]) ++ rl b := by rw [h.eq]; simp
      rw [this, List.drop_left' (by simp)]
    have e1 : a.length - 0 = a.length := by omega
    simp only [h0, cond_false, atL_nat hz, Option.bind_some, hk, Sum.elim_inr, e1, List.drop_zero, hta, List.nil_append, hsu, Int.toNat_natCast, hdr]
    rw [nat_ok (by simp; omega), nat_ok (by simp; omega)]
    simp only [cond_true]
    rw [decide_eq_true (p := ([] : List TR07Elem).length + (rl a).length < 4294967296) (by simp; omega), decide_eq_true (by simp; omega)]
    simp
theorem refSame_loop (l : List TR07Elem) (hl : l.length < 1000000) : ∀ (d i n : Nat), i + d = l.length → d < n → R07_Same.l0 K1 l l n (i : Int) = some (Sum.inr ())
  | d, i, 0, _, h => by omega
  | 0, i, n + 1, hi, _ => by
    simp only [R07_Same.l0]
    rw [dec_nlt (by omega)]; rfl
  | d + 1, i, n + 1, hi, hn => by
    obtain ⟨x, hx, _⟩ := drop_cons (l := l) (i := i) (by omega)
    simp only [R07_Same.l0]
    rw [dec_lt (by omega)]
    simp only [cond_true, atL_nat hx, Option.bind_some, beq_self_eq_true, Bool.and_self, Bool.not_true, cond_false, w64_succ (i := i) (by omega)]
    exact refSame_loop l hl d (i + 1) n (by omega) (by omega)
theorem refSame (l : List TR07Elem) (hl : l.length < 1000000) : R07_Same.f K1 l l = some true := by
  unfold R07_Same.f
  have e0 : ((l.length : Int) != (l.length : Int)) = false := by simp
  have e : R07_Same.l0 K1 l l K1 0 = some (Sum.inr ()) := refSame_loop l hl l.length 0 K1 (by omega) (by unfold K1; omega)
  rw [e0, e]; rfl
theorem alike_loop (l : List TL07Elem) (hl : l.length < 1000000) : ∀ (d i n : Nat), i + d = l.length → d < n → Lw07_alike.l0 K1 l n (rl (l.take i), (i : Int)) = some (rl l)
  | d, i, 0, _, h => by omega
  | 0, i, n + 1, hi, _ => by
    simp only [Lw07_alike.l0]
    rw [dec_nlt (by omega), List.take_of_length_le (by omega)]; rfl
  | d + 1, i, n + 1, hi, hn => by
    obtain ⟨x, hx, _⟩ := drop_cons (l := l) (i := i) (by omega)
    have ht : l.take (i + 1) = l.take i ++ [x] := by rw [List.take_add_one, hx]; rfl
    have e : rl (l.take i) ++ [TR07Elem.mk x.k x.w] = rl (l.take (i + 1)) := by rw [ht]; simp [toR]
    simp only [Lw07_alike.l0]
    rw [dec_lt (by omega)]
    simp only [cond_true, atL_nat hx, Option.bind_some]
    rw [decide_eq_true (by simp; omega)]
    simp only [cond_true, e, w64_succ (i := i) (by omega)]
    exact alike_loop l hl d (i + 1) n (by omega) (by omega)
theorem alike_ok {p : PN TL07Elem TTide} {r : TRef} {l : List TL07Elem} {c : Int} {B : Nat} (h : GrE p r l c B) (hN : l.length < 1000000) : Lw07_alike.f K1 p r (rl l) = some true := by
  unfold Lw07_alike.f
  have e : Lw07_alike.l0 K1 l K1 (([] : List TR07Elem), 0) = some (rl l) := alike_loop l hN l.length 0 K1 (by omega) (by unfold K1; omega)
  rw [h.all okE (by decide) hN]
  simp only [Option.bind_some, e, h.len okE, List.length_map, beq_self_eq_true, cond_true, refSame (rl l) (by simpa using hN)]
def SmallActs (l : List TL07Act) : Prop := (∀ x ∈ l, -1000000 ≤ x.w ∧ x.w ≤ 1000000) ∧ l.length ≤ 60
theorem small_loop (l : List TL07Act) (hl : l.length < 1000000) : ∀ (d i n : Nat), i + d = l.length → d < n → (∀ x ∈ l.take i, -1000000 ≤ x.w ∧ x.w ≤ 1000000) →
    ∃ v, Lw07_small.l0 K1 l n (i : Int) = some v ∧ (v = Sum.inl false ∨ (v = Sum.inr () ∧ ∀ x ∈ l, -1000000 ≤ x.w ∧ x.w ≤ 1000000))
  | d, i, 0, _, h, _ => by omega
  | 0, i, n + 1, hi, _, ha => by
    simp only [Lw07_small.l0]
    rw [dec_nlt (by omega)]
    rw [List.take_of_length_le (by omega)] at ha
    exact ⟨_, rfl, .inr ⟨rfl, ha⟩⟩
  | d + 1, i, n + 1, hi, hn, ha => by
    obtain ⟨x, hx, _⟩ := drop_cons (l := l) (i := i) (by omega)
    have ht : l.take (i + 1) = l.take i ++ [x] := by rw [List.take_add_one, hx]; rfl
    simp only [Lw07_small.l0]
    rw [dec_lt (by omega)]
    simp only [cond_true, atL_nat hx, Option.bind_some]
    by_cases h1 : x.w < -1000000
    · simp only [h1, decide_true, cond_true]; exact ⟨_, rfl, .inl rfl⟩
    · by_cases h2 : x.w > 1000000
      · simp only [h1, h2, decide_true, decide_false, cond_true, cond_false]; exact ⟨_, rfl, .inl rfl⟩
      · simp only [h1, h2, decide_false, cond_false, w64_succ (i := i) (by omega)]
        refine small_loop l hl d (i + 1) n (by omega) (by omega) (fun y hy => ?_)
        rw [ht] at hy
        rcases List.mem_append.1 hy with hy | hy
        · exact ha y hy
        · simp at hy; subst hy; omega
theorem capOf_le {c : Int} (h : c ≤ 16777216) {n : Nat} (hn : (n : Int) ≤ capOf c) : (n : Int) = capOf c ↔ (n : Int) ≥ c := by
  unfold capOf at *
  split at hn <;> split at hn <;> simp_all <;> omega
theorem grPut {p : PN TL07Elem TTide} {r : TRef} {l : List TL07Elem} {c : Int} {B : Nat} (h : GrE p r l (capOf c) B) (hc : c ≤ 16777216) (hl : (l.length : Int) ≤ capOf c) (e : TL07Elem) (hG : GE e) (hB : B + 1 < 4294967295) (hN : l.length + 1 < 1000000) :
    ∃ f r' p' l', Tree_Put.f opsE K1 p r e = some (f, r', p') ∧ R07_Put.f K1 (rl l) ⟨e.k, e.w⟩ c = some (rl l', f) ∧ GrE p' r' l' (capOf c) (B + 1) ∧ (l'.length : Int) ≤ capOf c ∧ l'.length ≤ l.length + 1 := by
  obtain ⟨a, m, b, hcut, hres⟩ := h.put okE (by decide) e hG hB hN
  have hr := refPut hcut (by omega) c
  have hlen : l.length = a.length + (m.length + b.length) := by rw [hcut.eq]; simp
  rcases hres with ⟨h1, h2, h3⟩ | ⟨r', p', h1, h2, h3⟩
  · refine ⟨false, r, p, l, h3, ?_, ⟨?_, h.sorted, h.good, h.cap⟩, hl, by omega⟩
    · have := hr
      rw [if_pos ⟨h1, (capOf_le hc hl).1 h2⟩] at this
      exact this
    · obtain ⟨t, hP, hr, ht⟩ := h.ex
      exact ⟨t, hP.mono (by omega) hB, hr, ht⟩
  · refine ⟨true, r', p', a ++ e :: b, h2, ?_, h3, ?_, ?_⟩
    · have := hr
      rw [if_neg (fun ⟨hm, hge⟩ => h1 hm ((capOf_le hc hl).2 hge))] at this
      exact this
    · simp only [List.length_append, List.length_cons]
      rcases hcut.lm with hm | ⟨y, hm, _⟩
      · have := h1 hm
        subst hm; simp at hlen; omega
      · subst hm; simp at hlen; omega
    · simp; omega
theorem grDrop {p : PN TL07Elem TTide} {r : TRef} {l : List TL07Elem} {c : Int} {B : Nat} (h : GrE p r l c B) (e : TL07Elem) (hN : l.length < 1000000) :
    ∃ y f r' p' l', Tree_Drop.f opsE K1 p r e = some (y, f, r', p') ∧ R07_Drop.f K1 (rl l) e.k = some (rl l', toR y, f) ∧ GrE p' r' l' c B ∧ l'.length ≤ l.length := by
  obtain ⟨a, m, b, hcut, hres⟩ := h.drop okE (by decide) e hN
  have hr := refDrop hcut (by omega)
  have hlen : l.length = a.length + (m.length + b.length) := by rw [hcut.eq]; simp
  rcases hres with ⟨h1, h3⟩ | ⟨y, r', p', h1, h2, h3⟩
  · subst h1
    exact ⟨_, false, r, p, l, h3, hr, h, Nat.le_refl _⟩
  · subst h1
    exact ⟨y, true, r', p', a ++ b, h2, hr, h3, by simp; omega⟩
structure MadeL (p : PN TL07Elem TTide) (r : TRef) (l : List TL07Elem) (c : Int) (B : Nat) (i : Nat) : Prop where
  gr : GrE p r l (capOf c) B
  cap : (l.length : Int) ≤ capOf c
  len : l.length ≤ i
theorem made_loop (acts : List TL07Act) (hs : SmallActs acts) (c : Int) (hc : c ≤ 16777216) : ∀ (d i n : Nat) {p : PN TL07Elem TTide} {r : TRef} {l : List TL07Elem}, i + d = acts.length → d < n → MadeL p r l c i i →
    ∃ p' r' l', Lw07_made.l0 K1 acts c n (p, r.index, r.gen, rl l, (i : Int)) = some (Sum.inr (p', r'.index, r'.gen, rl l')) ∧ MadeL p' r' l' c acts.length acts.length
  | d, i, 0, _, _, _, _, h, _ => by omega
  | 0, i, n + 1, p, r, l, hi, _, h => by
    simp only [Lw07_made.l0]
    rw [dec_nlt (by omega)]
    have : i = acts.length := by omega
    exact ⟨p, r, l, rfl, this ▸ h⟩
  | d + 1, i, n + 1, p, r, l, hi, hn, h => by
    have h60 := hs.2
    obtain ⟨x, hx, _⟩ := drop_cons (l := acts) (i := i) (by omega)
    have hxw := hs.1 x (List.mem_of_getElem? hx)
    have hll := h.len
    simp only [Lw07_made.l0]
    rw [dec_lt (by omega)]
    simp only [cond_true, atL_nat hx, Option.bind_some]
    by_cases h1 : ((x.kind.tmod 3) == 1) = true
    · obtain ⟨y, f, r', p', l', q1, q2, q3, q4⟩ := grDrop h.gr ⟨x.k, 0⟩ (by omega)
      have q1' : Tree_Drop.f opsE K1 p ⟨r.index, r.gen⟩ ⟨x.k, 0⟩ = some (y, f, r', p') := q1
      have q2' : R07_Drop.f K1 (rl l) x.k = some (rl l', toR y, f) := q2
      simp only [h1, cond_true, q1', q2', Option.bind_some, w64_succ (i := i) (by omega)]
      have := h.cap
      have hg : GrE p' r' l' (capOf c) (i + 1) := by
        obtain ⟨t, hP, hr, ht⟩ := q3.ex
        exact ⟨⟨t, hP.mono (by omega) (by omega), hr, ht⟩, q3.sorted, q3.good, q3.cap⟩
      exact made_loop acts hs c hc d (i + 1) n (by omega) (by omega) ⟨hg, by omega, by omega⟩
    · have h1' : ((x.kind.tmod 3) == 1) = false := by simpa using h1
      obtain ⟨f, r', p', l', q1, q2, q3, q4, q5⟩ := grPut h.gr hc h.cap ⟨x.k, x.w⟩ hxw (by omega) (by omega)
      have q1' : Tree_Put.f opsE K1 p ⟨r.index, r.gen⟩ ⟨x.k, x.w⟩ = some (f, r', p') := q1
      simp only [h1', cond_false, q1', q2, Option.bind_some, w64_succ (i := i) (by omega), beq_self_eq_true, Bool.not_true]
      exact made_loop acts hs c hc d (i + 1) n (by omega) (by omega) ⟨q3, q4, by omega⟩
theorem made_ok (acts : List TL07Act) (hs : SmallActs acts) (c : Int) (hc : c ≤ 16777216) : ∃ p r l, Lw07_made.f K1 acts c = some (r, p, rl l, true) ∧ MadeL p r l c acts.length acts.length := by
  have h60 := hs.2
  have h0 : MadeL (⟨[], [], capOf c, 0, 0⟩ : PN TL07Elem TTide) zTRef [] c 0 0 := ⟨Gr.new _ _ (by decide), by simp only [List.length_nil]; unfold capOf; split <;> split <;> omega, Nat.le_refl _⟩
  obtain ⟨p, r, l, h1, h2⟩ := made_loop acts hs c hc acts.length 0 K1 (by omega) (by unfold K1; omega) h0
  have h1' : Lw07_made.l0 K1 acts c K1 ((⟨[], [], capOf c, 0, 0⟩ : PN TL07Elem TTide), zTRef.index, zTRef.gen, ([] : List TR07Elem), 0) = some (Sum.inr (p, r.index, r.gen, rl l)) := h1
  refine ⟨p, r, l, ?_, h2⟩
  have hll := h2.len
  have ha : Lw07_alike.f K1 p ⟨r.index, r.gen⟩ (rl l) = some true := alike_ok h2.gr (by omega)
  unfold Lw07_made.f Tree_New.f
  simp only [Option.bind_some, h1', Sum.elim_inr, ha]
end Go.Proofs.Ytjokolmijhhinaa
namespace Go.Proofs.Ytjokolmijhhinaa
open Go Go.Proofs.Ytjokolmijhhinaa.Sx
theorem refSum_loop (k : Nat) (l : List Int) (hs : smallN l) (hl : l.length < 1000000) (m : Nat) (hm : m ≤ l.length) : ∀ (d i n : Nat), i + d = m → d < n → R06_Sum.l0 k l (m : Int) n ((l.take i).sum, (i : Int)) = some ((l.take m).sum)
  | d, i, 0, _, h => by omega
  | 0, i, n + 1, hi, _ => by
    have : i = m := by omega
    subst this
    simp only [R06_Sum.l0]
    rw [dec_nlt (Nat.le_refl _)]; rfl
  | d + 1, i, n + 1, hi, hn => by
    obtain ⟨x, hx, hdr⟩ := drop_cons (l := l) (i := i) (by omega)
    have ht : l.take (i + 1) = l.take i ++ [x] := by rw [List.take_add_one, hx]; rfl
    have hb := sum_bound (hs.take (i + 1))
    simp only [List.length_take] at hb
    simp only [R06_Sum.l0]
    rw [dec_lt (by omega)]
    have e : (l.take i).sum + x = (l.take (i + 1)).sum := by rw [ht]; simp
    simp only [cond_true, atL_nat hx, Option.bind_some, w64_succ (i := i) (by omega), e]
    rw [w64_id (by omega) (by omega)]
    exact refSum_loop k l hs hl m hm d (i + 1) n (by omega) (by omega)
theorem refSum_eq (k : Nat) {l : List Int} (hs : smallN l) (hl : l.length < 1000000) {m : Nat} (hm : m ≤ l.length) (hk : m < k) : R06_Sum.f k l (m : Int) = some ((l.take m).sum) := by
  have := refSum_loop k l hs hl m hm m 0 k (by omega) hk
  have e : R06_Sum.l0 k l (m : Int) k (0, 0) = some ((l.take m).sum) := this
  unfold R06_Sum.f; rw [e]; rfl
end Go.Proofs.Ytjokolmijhhinaa
namespace Go.Proofs.Ytjokolmijhhinaa
open Go Go.Proofs.Ytjokolmijhhinaa.Sx
end Go.Proofs.Ytjokolmijhhinaa
namespace Go.Proofs.Ytjokolmijhhinaa
open Go Go.Proofs.Ytjokolmijhhinaa.Sx
theorem seg_nil' {α : Type} {l : List α} {i j : Int} (h : j.toNat ≤ i.toNat ∨ l.length ≤ i.toNat) : seg l i j = [] := by
  unfold seg
  apply List.drop_eq_nil_of_le
  rw [List.length_take]
  omega
theorem refWs_loop (l : List TL07Elem) (hl : l.length < 1000000) (i j : Int) : ∀ (d v n : Nat), l.length ≤ v + d → d < n → i.toNat ≤ v → (v ≤ j.toNat ∨ v = i.toNat) → v = i.toNat ∨ v ≤ l.length → R07_Ws.l0 K1 (rl l) j n (wsE (seg l i v), (v : Int)) = some (wsE (seg l i j))
  | d, v, 0, _, h, _, _, _ => by omega
  | d, v, n + 1, hd, hn, h1, h2, h3 => by
    simp only [R07_Ws.l0, List.length_map]
    by_cases h : v < l.length
    · rw [dec_lt h]
      simp only [cond_true]
      by_cases hj : (v : Int) < j
      · obtain ⟨x, hx, _⟩ := drop_cons h
        have hx' : (rl l)[v]? = some (toR x) := by rw [List.getElem?_map, hx]; rfl
        have e : wsE (seg l i v) ++ [(toR x).w] = wsE (seg l i ((v + 1 : Nat) : Int)) := by
          unfold seg
          rw [Int.toNat_natCast, Int.toNat_natCast, List.take_add_one, hx, List.drop_append_of_le_length (by rw [List.length_take]; omega)]
          simp [toR]
        have hsl := (seg_sub l i v).length_le
        simp only [hj, decide_true, cond_true, atL_nat hx', Option.bind_some]
        rw [decide_eq_true (by simp; omega)]
        simp only [cond_true, e, w64_succ (i := v) (by omega)]
        cases d with
        | zero => omega
        | succ d => exact refWs_loop l hl i j d (v + 1) n (by omega) (by omega) (by omega) (by omega) (by omega)
      · simp only [hj, decide_false, cond_false]
        congr 2
        rcases h2 with h2 | h2
        · have : v = j.toNat := by omega
          unfold seg; rw [Int.toNat_natCast, this]
        · rw [seg_nil' (by omega), seg_nil' (by omega)]
    · rw [dec_nlt (by omega)]
      simp only [cond_false]
      congr 2
      rcases h3 with h3 | h3
      · rw [seg_nil' (by omega), seg_nil' (by omega)]
      · rcases h2 with h2 | h2
        · unfold seg; rw [List.take_of_length_le (by omega), List.take_of_length_le (by omega)]
        · rw [seg_nil' (by omega), seg_nil' (by omega)]
theorem refWs (l : List TL07Elem) (hl : l.length < 1000000) (i j : Int) : R07_Ws.f K1 (rl l) i j = some (wsE (seg l i j)) := by
  have h := refWs_loop l hl i j l.length i.toNat K1 (by omega) (by unfold K1; omega) (Nat.le_refl _) (.inr rfl) (.inl rfl)
  have e1 : gmax i 0 = (i.toNat : Int) := by unfold gmax; split <;> omega
  have e2 : seg l i (i.toNat : Int) = [] := seg_nil' (by omega)
  rw [e2] at h
  unfold R07_Ws.f
  rw [e1]
  have h' : R07_Ws.l0 K1 (rl l) j K1 (([] : List Int), (i.toNat : Int)) = some (wsE (seg l i j)) := h
  rw [h']; rfl
end Go.Proofs.Ytjokolmijhhinaa
namespace Go.Proofs.Ytjokolmijhhinaa
open Go Go.Proofs.Ytjokolmijhhinaa.Sx
section
variable {E A : Type} {O : Ops E A} {k N : Nat} {G : E → Prop} {S : A → List E → Prop} {lt : E → E → Prop}
structure GrL (S : A → List E → Prop) (G : E → Prop) (p : PN E A) (r : TRef) (l : List E) : Prop where
  ex : ∃ t L B, PW p L B ∧ Rep S p r t ∧ t.toList = l
  good : ∀ x ∈ l, G x
theorem GrL.len (ok : OpsOk O k N G S lt) {p : PN E A} {r : TRef} {l : List E} (h : GrL S G p r l) : Tree_Len.f O k p r = some (l.length : Int) := by
  obtain ⟨t, L, B, hP, hr, rfl⟩ := h.ex
  obtain ⟨n, g1, g2⟩ := get_ok ok hP hr
  unfold Tree_Len.f
  rw [g1]; simp only [Option.bind_some, g2.size, Tr.len_toList]
theorem GrL.all (ok : OpsOk O k N G S lt) (hk : N ≤ k) {p : PN E A} {r : TRef} {l : List E} (h : GrL S G p r l) (hN : l.length < N) : Tree_All.f O k p r = some l := by
  obtain ⟨t, L, B, hP, hr, rfl⟩ := h.ex
  have hbig := ok.big
  have hll := Tr.len_toList t
  unfold Tree_All.f Tree_all.f
  rw [all_ok ok hP k [] (by omega) hr (by simp; omega)]; rfl
theorem GrL.at (ok : OpsOk O k N G S lt) (hk : N ≤ k) {p : PN E A} {r : TRef} {l : List E} (h : GrL S G p r l) (i : Int) (hi : i < 9223372036854775808) (hN : l.length < N) :
    Tree_At.f O k p r i = some (if i < 0 then (O.zE, false) else match l[i.toNat]? with | some y => (y, true) | none => (O.zE, false)) := by
  obtain ⟨t, L, B, hP, hr, rfl⟩ := h.ex
  have hbig := ok.big
  have hll := Tr.len_toList t
  unfold Tree_At.f
  by_cases h0 : i < 0
  · simp only [h0, decide_true, cond_true, if_true]
  · simp only [h0, decide_false, cond_false, if_false]
    rw [at_ok ok hP k i (by omega) hr (by omega) hi (by omega)]
    cases t.toList[i.toNat]? <;> rfl
theorem GrL.between (ok : OpsOk O k N G S lt) (hk : N ≤ k) {p : PN E A} {r : TRef} {l : List E} (h : GrL S G p r l) (hN : l.length < N) :
    ∃ s, Tree_Between.f O k p r 0 (l.length : Int) = some s ∧ S s l := by
  have hlen := h.len ok
  obtain ⟨t, L, B, hP, hr, rfl⟩ := h.ex
  have hbig := ok.big
  have hll := Tr.len_toList t
  unfold Tree_Between.f
  rw [hlen]
  simp only [Option.bind_some]
  have hg : ∀ x : Int, gmin (gmax x 0) (t.toList.length : Int) = min (max x 0) (t.toList.length : Int) := fun x => by unfold gmin gmax; split <;> split <;> omega
  have e1 : gmin (gmax 0 0) (t.toList.length : Int) = 0 := by rw [hg]; omega
  have e2 : gmin (gmax (t.toList.length : Int) 0) (t.toList.length : Int) = (t.toList.length : Int) := by rw [hg]; omega
  rw [e1, e2]
  obtain ⟨s, s1, s2⟩ := between_ok ok hP k 0 (t.toList.length : Int) (by omega) hr h.good (by omega) (by omega) (by omega) (by omega) (by omega)
  refine ⟨s, by unfold Tree_between.f; rw [s1]; rfl, ?_⟩
  have : seg t.toList 0 (t.toList.length : Int) = t.toList := by unfold seg; simp
  rw [this] at s2; exact s2
theorem split_ok (ok : OpsOk O k N G S lt) (hk : N ≤ k) (e : E) : ∀ (n : Nat) {p : PN E A} {L : List TRef} {B : Nat} (hP : PW p L B) {r : TRef} {t : Tr E}, t.size < n → Rep S p r t → t.refs.Nodup → InOrd lt t.toList → (∀ x ∈ t.toList, G x) → t.size < N →
    ∃ r1 r2 p' t1 t2, Tree_split.r O k n p r e = some (r1, r2, p') ∧ PW p' L B ∧ Rep S p' r1 t1 ∧ Rep S p' r2 t2 ∧ t1.refs ++ t2.refs = t.refs ∧ (∀ x, x ∉ t.refs → look p' x = look p x) ∧ p'.cap = p.cap ∧ t1.toList ++ t2.toList = t.toList ∧ (∀ x ∈ t1.toList, lt x e) ∧ ∀ x ∈ t2.toList, ¬ lt x e
  | 0, _, _, _, _, _, _, h, _, _, _, _, _ => by omega
  | n + 1, p, L, B, hP, r, .nil, hn, hr, hnd, hs, hG, hN => by
    have e0 : (r.gen == 0) = true := by simpa using hr.nil_iff.2 rfl
    refine ⟨r, r, p, .nil, .nil, ?_, hP, hr, hr, rfl, fun _ _ => rfl, rfl, rfl, fun x hx => (by cases hx), fun x hx => (by cases hx)⟩
    simp only [Tree_split.r, e0, cond_true]
  | n + 1, p, L, B, hP, r, .node r0 e0 l u, hn, hr, hnd, hs, hG, hN => by
    obtain ⟨n1, g1, g2⟩ := get_ok ok hP hr
    obtain ⟨rfl, he, hl, hu, hlk⟩ := g2.node rfl
    have hg : (r.gen == 0) = false := by simpa using hP.gen_ne (hP.mem hlk)
    have hsz : (Tr.node r e0 l u).size = l.size + 1 + u.size := rfl
    have hln : (Tr.node r e0 l u).toList = l.toList ++ e0 :: u.toList := rfl
    have hrf : (Tr.node r e0 l u).refs = l.refs ++ r :: u.refs := rfl
    obtain ⟨c, c1, c2, c3⟩ := ok.cmp n1.e e
    rw [hln] at hs hG
    rw [hrf] at hnd
    rw [he] at c2
    have nl := (List.nodup_append.1 hnd).1
    have nu := (List.nodup_cons.1 (List.nodup_append.1 hnd).2.1).2
    have nr := (List.nodup_cons.1 (List.nodup_append.1 hnd).2.1).1
    have nx : ∀ x ∈ l.refs, ∀ y ∈ r :: u.refs, x ≠ y := (List.nodup_append.1 hnd).2.2
    have sl := sorted_l hs
    have su := sorted_u hs
    have hlu : ∀ x ∈ u.toList, lt e0 x := (List.pairwise_cons.1 (List.pairwise_append.1 hs).2.1).1
    have hll : ∀ x ∈ l.toList, lt x e0 := fun x hx => (List.pairwise_append.1 hs).2.2 x hx e0 (by simp)
    simp only [Tree_split.r, hg, cond_false, g1, Option.bind_some, c1]
    by_cases h1 : lt e0 e
    · rw [decide_eq_true (c2.2 h1), cond_true]
      obtain ⟨ra, rb, p1, ta, tb, q1, q2, q3, q4, q5, q6, q7, q8, q9, q10⟩ := split_ok ok hk e n hP (by omega) hu nu su (fun x hx => hG x (by simp [hx])) (by omega)
      have hta : ∀ x ∈ ta.refs, x ∈ u.refs := fun x hx => by rw [← q5]; exact List.mem_append_left _ hx
      have hl' : Rep S p1 n1.left l := hl.frame (fun x hx => q6 x (fun h => nx x hx x (List.mem_cons_of_mem _ h) rfl))
      have hm' : look p1 r = some n1 := (q6 r nr).trans hlk
      have ndu : (ta.refs ++ tb.refs).Nodup := by rw [q5]; exact nu
      have hnd2 : (l.refs ++ r :: ta.refs).Nodup := List.nodup_append.2 ⟨nl, List.nodup_cons.2 ⟨fun h => nr (hta r h), (List.nodup_append.1 ndu).1⟩, fun x hx y hy => nx x hx y (by rcases List.mem_cons.1 hy with rfl | hy; exact List.mem_cons_self; exact List.mem_cons_of_mem _ (hta y hy))⟩
      have hsa : ta.size + tb.size = u.size := by rw [← Tr.len_refs, ← Tr.len_refs, ← Tr.len_refs, ← q5, List.length_append]
      have hGa : ∀ x ∈ l.toList ++ n1.e :: ta.toList, G x := fun x hx => by
        rw [he] at hx
        refine hG x ?_
        simp only [List.mem_append, List.mem_cons] at hx ⊢
        rcases hx with hx | hx | hx
        · exact .inl hx
        · exact .inr (.inl hx)
        · exact .inr (.inr (by rw [← q8]; exact List.mem_append_left _ hx))
      obtain ⟨r', p2, k1, k2⟩ := linkf_ok ok hk q2 hl' hm' q3 hnd2 hGa (by omega)
      rw [he] at k2
      refine ⟨r', rb, p2, _, tb, ?_, k2.pw, k2.rep, q4.frame (fun x hx => k2.frame x (fun h => ?_)), ?_, fun x hx => ?_, k2.cap.trans q7, ?_, fun x hx => ?_, q10⟩
      · rw [q1]; simp only [Option.bind_some, k1]
      · have hxu : x ∈ u.refs := by rw [← q5]; exact List.mem_append_right _ hx
        rcases List.mem_append.1 h with h | h
        · exact nx x h x (List.mem_cons_of_mem _ hxu) rfl
        · rcases List.mem_cons.1 h with rfl | h
          · exact nr hxu
          · exact (List.nodup_append.1 ndu).2.2 x h x hx rfl
      · rw [Tr.link_refs, hrf, ← q5]; simp
      · rw [hrf] at hx
        rw [k2.frame x (fun h => hx ?_), q6 x (fun h => hx (by simp [h]))]
        rcases List.mem_append.1 h with h | h
        · simp [h]
        · rcases List.mem_cons.1 h with rfl | h
          · simp
          · simp [hta x h]
      · rw [Tr.link_list, hln, ← q8]; simp
      · rw [Tr.link_list] at hx
        simp only [List.mem_append, List.mem_cons] at hx
        rcases hx with hx | rfl | hx
        · exact ok.trans (hll x hx) h1
        · exact h1
        · exact q9 x hx
    · rw [decide_eq_false (fun h => h1 (c2.1 h)), cond_false]
      obtain ⟨ra, rb, p1, ta, tb, q1, q2, q3, q4, q5, q6, q7, q8, q9, q10⟩ := split_ok ok hk e n hP (by omega) hl nl sl (fun x hx => hG x (by simp [hx])) (by omega)
      have htb : ∀ x ∈ tb.refs, x ∈ l.refs := fun x hx => by rw [← q5]; exact List.mem_append_right _ hx
      have hrl : r ∉ l.refs := fun h => nx r h r List.mem_cons_self rfl
      have hu' : Rep S p1 n1.right u := hu.frame (fun x hx => q6 x (fun h => nx x h x (List.mem_cons_of_mem _ hx) rfl))
      have hm' : look p1 r = some n1 := (q6 r hrl).trans hlk
      have ndl : (ta.refs ++ tb.refs).Nodup := by rw [q5]; exact nl
      have hnd2 : (tb.refs ++ r :: u.refs).Nodup := List.nodup_append.2 ⟨(List.nodup_append.1 ndl).2.1, (List.nodup_append.1 hnd).2.1, fun x hx y hy => nx x (htb x hx) y hy⟩
      have hsa : ta.size + tb.size = l.size := by rw [← Tr.len_refs, ← Tr.len_refs, ← Tr.len_refs, ← q5, List.length_append]
      have hGa : ∀ x ∈ tb.toList ++ n1.e :: u.toList, G x := fun x hx => by
        rw [he] at hx
        refine hG x ?_
        simp only [List.mem_append, List.mem_cons] at hx ⊢
        rcases hx with hx | hx | hx
        · exact .inl (by rw [← q8]; exact List.mem_append_right _ hx)
        · exact .inr (.inl hx)
        · exact .inr (.inr hx)
      obtain ⟨r', p2, k1, k2⟩ := linkf_ok ok hk q2 q4 hm' hu' hnd2 hGa (by omega)
      rw [he] at k2
      refine ⟨ra, r', p2, ta, _, ?_, k2.pw, q3.frame (fun x hx => k2.frame x (fun h => ?_)), k2.rep, ?_, fun x hx => ?_, k2.cap.trans q7, ?_, q9, fun x hx => ?_⟩
      · rw [q1]; simp only [Option.bind_some, k1]
      · have hxl : x ∈ l.refs := by rw [← q5]; exact List.mem_append_left _ hx
        rcases List.mem_append.1 h with h | h
        · exact (List.nodup_append.1 ndl).2.2 x hx x h rfl
        · exact nx x hxl x h rfl
      · rw [Tr.link_refs, hrf, ← q5]; simp
      · rw [hrf] at hx
        rw [k2.frame x (fun h => hx ?_), q6 x (fun h => hx (by simp [h]))]
        rcases List.mem_append.1 h with h | h
        · simp [htb x h]
        · exact List.mem_append_right _ h
      · rw [Tr.link_list, hln, ← q8]; simp
      · rw [Tr.link_list] at hx
        simp only [List.mem_append, List.mem_cons] at hx
        rcases hx with hx | rfl | hx
        · exact q10 x hx
        · exact h1
        · exact fun h => h1 (ok.trans (hlu x hx) h)
structure T2 (S : A → List E → Prop) (lt : E → E → Prop) (G : E → Prop) (p : PN E A) (r1 : TRef) (l1 : List E) (r2 : TRef) (l2 : List E) (c : Int) (B : Nat) : Prop where
  ex : ∃ t u, PW p (t.refs ++ u.refs) B ∧ Rep S p r1 t ∧ Rep S p r2 u ∧ t.toList = l1 ∧ u.toList = l2
  s1 : InOrd lt l1
  s2 : InOrd lt l2
  good : ∀ x ∈ l1 ++ l2, G x
  cap : p.cap = c
theorem T2.swap {p : PN E A} {r1 r2 : TRef} {l1 l2 : List E} {c : Int} {B : Nat} (h : T2 S lt G p r1 l1 r2 l2 c B) : T2 S lt G p r2 l2 r1 l1 c B := by
  obtain ⟨t, u, h1, h2, h3, h4, h5⟩ := h.ex
  exact ⟨⟨u, t, h1.perm List.perm_append_comm, h3, h2, h5, h4⟩, h.s2, h.s1, fun x hx => h.good x (by simp at hx ⊢; exact hx.symm), h.cap⟩
theorem T2.left {p : PN E A} {r1 r2 : TRef} {l1 l2 : List E} {c : Int} {B : Nat} (h : T2 S lt G p r1 l1 r2 l2 c B) : GrL S G p r1 l1 := by
  obtain ⟨t, u, h1, h2, h3, h4, h5⟩ := h.ex
  exact ⟨⟨t, _, _, h1, h2, h4⟩, fun x hx => h.good x (by simp [hx])⟩
theorem T2.right {p : PN E A} {r1 r2 : TRef} {l1 l2 : List E} {c : Int} {B : Nat} (h : T2 S lt G p r1 l1 r2 l2 c B) : GrL S G p r2 l2 := h.swap.left
theorem Gr.split (ok : OpsOk O k N G S lt) (hk : N ≤ k) {p : PN E A} {r : TRef} {l : List E} {c : Int} {B : Nat} (h : Gr S lt G p r l c B) (e : E) (hN : l.length < N) :
    ∃ r1 r2 p' l1 l2, Tree_Split.f O k p r e = some (r2, r1, p') ∧ T2 S lt G p' r1 l1 r2 l2 c B ∧ l1 ++ l2 = l ∧ (∀ x ∈ l1, lt x e) ∧ ∀ x ∈ l2, ¬ lt x e := by
  obtain ⟨t, hP, hr, rfl⟩ := h.ex
  have hll := Tr.len_toList t
  obtain ⟨r1, r2, p', t1, t2, q1, q2, q3, q4, q5, q6, q7, q8, q9, q10⟩ := split_ok ok hk e k hP (by omega) hr hP.ld h.sorted h.good (by omega)
  have hs := h.sorted
  rw [← q8] at hs
  refine ⟨r1, r2, p', t1.toList, t2.toList, ?_, ⟨⟨t1, t2, by rw [q5]; exact q2, q3, q4, rfl, rfl⟩, (List.pairwise_append.1 hs).1, (List.pairwise_append.1 hs).2.1, fun x hx => h.good x (by rw [← q8]; exact hx), q7.trans h.cap⟩, q8, q9, q10⟩
  unfold Tree_Split.f Tree_split.f
  rw [q1]; rfl
theorem T2.put (ok : OpsOk O k N G S lt) (hk : N ≤ k) {p : PN E A} {r1 r2 : TRef} {l1 l2 : List E} {c : Int} {B : Nat} (h : T2 S lt G p r1 l1 r2 l2 c B) (e : E) (hG : G e) (hB : B + 1 < 4294967295) (hc : ((l1.length + l2.length : Nat) : Int) < c) (hN : l1.length + 1 < N) :
    ∃ a m b r' p', Cut lt e l1 a m b ∧ Tree_Put.f O k p r1 e = some (true, r', p') ∧ T2 S lt G p' r' (a ++ e :: b) r2 l2 c (B + 1) := by
  obtain ⟨t, u, h1, h2, h3, rfl, rfl⟩ := h.ex
  have l1 := Tr.len_toList t
  have l2 := Tr.len_toList u
  have l3 := Tr.len_refs t
  have l4 := Tr.len_refs u
  obtain ⟨a, m, b, hcut, hres⟩ := put_ok ok hk h1 hB e hG k (by omega) h2 (List.nodup_append.1 h1.ld).1 h.s1 (fun x hx => h.good x (by simp [hx])) (by omega)
  rcases hres with ⟨g1, g2, rr, g3⟩ | ⟨r', p', t', F, g1, g2, g3, g4, g5⟩
  · exfalso
    rw [h.cap, List.length_append] at g2; omega
  · have hld := g5.pw.ld
    have hd := (List.nodup_append.1 hld).2.2
    have hd2 := (List.nodup_append.1 h1.ld).2.2
    refine ⟨a, m, b, r', p', hcut, by unfold Tree_Put.f Tree_put.f; rw [g3]; rfl, ⟨⟨t', u, ?_, g5.rep, h3.frame (fun x hx => g5.frame x (fun hf => ?_) (fun hf => ?_)), g4, rfl⟩, hcut.put ok h.s1, h.s2, fun x hx => ?_, g5.cap.trans h.cap⟩⟩
    · refine g5.pw.perm ?_
      rw [← List.append_assoc]
      exact (g5.refs.symm).append_right _
    · exact hd x hf x (List.mem_append_right _ hx) rfl
    · exact hd2 x hf x hx rfl
    · have h8 : ∀ y, y ∈ a ∨ y ∈ b → y ∈ t.toList := fun y hy => by rw [hcut.eq]; rcases hy with hy | hy <;> simp [hy]
      simp only [List.mem_append, List.mem_cons] at hx
      rcases hx with (hx | rfl | hx) | hx
      · exact h.good x (by simp [h8 x (.inl hx)])
      · exact hG
      · exact h.good x (by simp [h8 x (.inr hx)])
      · exact h.good x (by simp [hx])
theorem last_at {l : List E} (h : l ≠ []) : ∃ x, x ∈ l ∧ l[(w64 ((l.length : Int) - 1)).toNat]? = some x ∨ l.length ≥ 1000000000 := by
  by_cases hb : l.length ≥ 1000000000
  · obtain ⟨x, hx⟩ := List.exists_mem_of_ne_nil _ h
    exact ⟨x, .inr hb⟩
  · have : 0 < l.length := List.length_pos_iff.2 h
    have e : (w64 ((l.length : Int) - 1)).toNat = l.length - 1 := by
      have : w64 ((l.length : Int) - 1) = (l.length : Int) - 1 := by simp only [w64, IntKind.wrap_i64]; omega
      rw [this]; omega
    refine ⟨l[l.length - 1], .inl ⟨List.getElem_mem _, ?_⟩⟩
    rw [e, List.getElem?_eq_getElem (by omega)]
theorem ends (ok : OpsOk O k N G S lt) (hk : N ≤ k) {p : PN E A} {r1 r2 : TRef} {l1 l2 : List E} {c : Int} {B : Nat} (h : T2 S lt G p r1 l1 r2 l2 c B) (hN : l1.length + l2.length < N) (hn : N ≤ 1000000) :
    ∃ x y, Tree_At.f O k p r1 (w64 ((l1.length : Int) - 1)) = some x ∧ Tree_At.f O k p r2 0 = some y ∧ (l1 ≠ [] → x.2 = true ∧ x.1 ∈ l1) ∧ (l1 = [] → x.2 = false) ∧ (l2 ≠ [] → y.2 = true ∧ y.1 ∈ l2) ∧ (l2 = [] → y.2 = false) := by
  have ew : w64 ((l1.length : Int) - 1) = (l1.length : Int) - 1 := by simp only [w64, IntKind.wrap_i64]; omega
  have a1 := h.left.at ok hk (w64 ((l1.length : Int) - 1)) (by omega) (by omega)
  have a2 := h.right.at ok hk 0 (by omega) (by omega)
  refine ⟨_, _, a1, a2, fun h1 => ?_, fun h1 => ?_, fun h1 => ?_, fun h1 => ?_⟩
  · have hp := List.length_pos_iff.2 h1
    obtain ⟨x, hx⟩ := last_at h1
    rcases hx with ⟨hx, hy⟩ | hx
    · rw [if_neg (by omega), hy]; exact ⟨rfl, hx⟩
    · omega
  · subst h1
    rw [if_pos (by rw [ew]; simp)]
  · rw [if_neg (by omega)]
    cases l2 with
    | nil => exact absurd rfl h1
    | cons y l => exact ⟨rfl, List.mem_cons_self⟩
  · subst h1
    rw [if_neg (by omega)]; rfl
theorem T2.join (ok : OpsOk O k N G S lt) (hk : N ≤ k) {p : PN E A} {r1 r2 : TRef} {l1 l2 : List E} {c : Int} {B : Nat} (h : T2 S lt G p r1 l1 r2 l2 c B) (hN : l1.length + l2.length < N) (hn : N ≤ 1000000) (hlt : ∀ x ∈ l1, ∀ y ∈ l2, lt x y) :
    ∃ r' p', Tree_Join.f O k p r1 r2 = some (true, r', zTRef, p') ∧ GrL S G p' r' (l1 ++ l2) ∧ GrL S G p' zTRef [] := by
  obtain ⟨x, y, e1, e2, x1, x2, y1, y2⟩ := ends ok hk h hN hn
  have hlen := h.left.len ok
  have hgood := h.good
  obtain ⟨t, u, h1, h2, h3, rfl, rfl⟩ := h.ex
  have q1 := Tr.len_toList t
  have q2 := Tr.len_toList u
  obtain ⟨r', p', m1, m2⟩ := merge_ok ok hk h1 h2 h3 h1.ld h.good (by omega)
  refine ⟨r', p', ?_, ⟨⟨_, _, _, m2.pw, m2.rep, (Tr.merge_spec k t u).1⟩, hgood⟩, ⟨⟨.nil, _, _, m2.pw, rfl, rfl⟩, fun x hx => (by cases hx)⟩⟩
  unfold Tree_Join.f
  simp only [Option.bind_some, Sum.elim_inr, hlen, e1, e2]
  by_cases n1 : t.toList = []
  · rw [x2 n1]
    simp only [cond_false, Option.bind_some, Sum.elim_inr, m1]
  · rw [(x1 n1).1]
    by_cases n2 : u.toList = []
    · rw [y2 n2]
      simp only [cond_true, cond_false, Option.bind_some, Sum.elim_inr, m1]
    · rw [(y1 n2).1]
      obtain ⟨c, c1, c2, c3⟩ := ok.cmp x.1 y.1
      have hc : c < 0 := c2.2 (hlt _ (x1 n1).2 _ (y1 n2).2)
      simp only [cond_true, c1, Option.bind_some]
      rw [decide_eq_false (by omega)]
      simp only [cond_false, Option.bind_some, Sum.elim_inr, m1]
theorem T2.nojoin (ok : OpsOk O k N G S lt) (hk : N ≤ k) {p : PN E A} {r1 r2 : TRef} {l1 l2 : List E} {c : Int} {B : Nat} (h : T2 S lt G p r1 l1 r2 l2 c B) (hN : l1.length + l2.length < N) (hn : N ≤ 1000000) (n1 : l1 ≠ []) (n2 : l2 ≠ []) (hlt : ∀ x ∈ l1, ∀ y ∈ l2, ¬ lt x y) :
    Tree_Join.f O k p r1 r2 = some (false, r1, r2, p) := by
  obtain ⟨x, y, e1, e2, x1, x2, y1, y2⟩ := ends ok hk h hN hn
  obtain ⟨c, c1, c2, c3⟩ := ok.cmp x.1 y.1
  have hc : ¬ c < 0 := fun h => hlt _ (x1 n1).2 _ (y1 n2).2 (c2.1 h)
  unfold Tree_Join.f
  simp only [Option.bind_some, Sum.elim_inr, h.left.len ok, e1, e2, (x1 n1).1, (y1 n2).1, cond_true, c1]
  rw [decide_eq_true (by omega)]
  simp only [cond_true, Option.bind_some, Sum.elim_inl]
end
end Go.Proofs.Ytjokolmijhhinaa
namespace Go.Proofs.Ytjokolmijhhinaa
open Go Go.Proofs.Ytjokolmijhhinaa.Sx
theorem rl_app (a b : List TL07Elem) : rl (a ++ b) = rl a ++ rl b := List.map_append
theorem alikeL {p : PN TL07Elem TTide} {r : TRef} {l : List TL07Elem} (h : GrL SE GE p r l) (hN : l.length < 1000000) : Lw07_alike.f K1 p r (rl l) = some true := by
  unfold Lw07_alike.f
  have e : Lw07_alike.l0 K1 l K1 (([] : List TR07Elem), 0) = some (rl l) := alike_loop l hN l.length 0 K1 (by omega) (by unfold K1; omega)
  rw [h.all okE (by decide) hN]
  simp only [Option.bind_some, e, h.len okE, List.length_map, beq_self_eq_true, cond_true, refSame (rl l) (by simpa using hN)]
theorem smallC (l : List TL07Act) (c : Nat) (hc : c ≤ 60) : Lw07_small.f K1 l (c : Int) = some false ∨ (Lw07_small.f K1 l (c : Int) = some true ∧ SmallActs l ∧ l.length ≤ c) := by
  unfold Lw07_small.f
  by_cases h : (l.length : Int) > (c : Int)
  · simp only [h, decide_true, cond_true]; exact .inl trivial
  · simp only [h, decide_false, cond_false]
    obtain ⟨v, h1, h2⟩ := small_loop l (by omega) l.length 0 K1 (by omega) (by unfold K1; omega) (by simp)
    have h1' : Lw07_small.l0 K1 l K1 0 = some v := h1
    rw [h1']
    rcases h2 with rfl | ⟨rfl, h2⟩
    · exact .inl rfl
    · exact .inr ⟨rfl, ⟨h2, by omega⟩, by omega⟩
theorem refPutD {e : TL07Elem} {l a m b : List TL07Elem} (h : Cut ltE e l a m b) (hl : l.length < 1000) : R07_Put_d.f K1 (rl l) (toR e) 1000 = some (rl (a ++ e :: b), true) := by
  have h1 := refPut h (by omega) 1000
  rw [if_neg (fun h => by omega)] at h1
  rw [← h1]
  have hd : decide (((rl l).length : Int) ≥ 1000) = false := by simp; omega
  unfold R07_Put_d.f R07_Put.f
  simp only [hd, cond_false]
abbrev TE (p : PN TL07Elem TTide) (r1 : TRef) (l1 : List TL07Elem) (r2 : TRef) (l2 : List TL07Elem) (B : Nat) : Prop := T2 SE ltE GE p r1 l1 r2 l2 200 B
theorem parts_loop (key : Int) (more : List TL07Act) (hm : SmallActs more) (h20 : more.length ≤ 20) : ∀ (d i n : Nat) {p : PN TL07Elem TTide} {r1 r2 : TRef} {l1 l2 : List TL07Elem}, i + d = more.length → d < n → TE p r1 l1 r2 l2 (60 + i) → l1.length + l2.length ≤ 50 + i → (∀ x ∈ l1, x.k < key) → (∀ x ∈ l2, ¬ x.k < key) →
    ∃ p' r1' l1' r2' l2', Lw07_GroveParts.l0 K1 key more n (p, r1.index, r1.gen, r2.index, r2.gen, rl l1, rl l2, (i : Int)) = some (p', r1'.index, r1'.gen, r2'.index, r2'.gen, rl l1', rl l2') ∧ TE p' r1' l1' r2' l2' 80 ∧ l1'.length + l2'.length ≤ 70 ∧ (∀ x ∈ l1', x.k < key) ∧ (∀ x ∈ l2', ¬ x.k < key)
  | d, i, 0, _, _, _, _, _, _, h, _, _, _, _ => by omega
  | 0, i, n + 1, p, r1, r2, l1, l2, hi, _, ht, hl, k1, k2 => by
    refine ⟨p, r1, l1, r2, l2, ?_, ?_, by omega, k1, k2⟩
    · simp only [Lw07_GroveParts.l0]
      rw [dec_nlt (by omega)]; rfl
    · obtain ⟨t, u, h1, h2⟩ := ht.ex
      exact ⟨⟨t, u, h1.mono (by omega) (by omega), h2⟩, ht.s1, ht.s2, ht.good, ht.cap⟩
  | d + 1, i, n + 1, p, r1, r2, l1, l2, hi, hn, ht, hl, k1, k2 => by
    obtain ⟨x, hx, _⟩ := drop_cons (l := more) (i := i) (by omega)
    have hxw := hm.1 x (List.mem_of_getElem? hx)
    simp only [Lw07_GroveParts.l0]
    rw [dec_lt (by omega), cond_true, atL_nat hx, Option.bind_some]
    by_cases hk : x.k < key
    · obtain ⟨a, m, b, r', p', hcut, q1, q2⟩ := ht.put okE (by decide) ⟨x.k, x.w⟩ hxw (by omega) (by omega) (by omega)
      have q3 := refPutD hcut (by omega)
      have q1' : Tree_Put.f opsE K1 p ⟨r1.index, r1.gen⟩ ⟨x.k, x.w⟩ = some (true, r', p') := q1
      have q3' : R07_Put_d.f K1 (rl l1) ⟨x.k, x.w⟩ 1000 = some (rl (a ++ ⟨x.k, x.w⟩ :: b), true) := q3
      have hlen : l1.length = a.length + (m.length + b.length) := by rw [hcut.eq]; simp
      simp only [hk, decide_true, cond_true, q1', q3', Option.bind_some, w64_succ (i := i) (by omega)]
      refine parts_loop key more hm h20 d (i + 1) n (by omega) (by omega) q2 (by simp; omega) (fun y hy => ?_) k2
      have h8 : ∀ y, y ∈ a ∨ y ∈ b → y ∈ l1 := fun y hy => by rw [hcut.eq]; rcases hy with hy | hy <;> simp [hy]
      simp only [List.mem_append, List.mem_cons] at hy
      rcases hy with hy | rfl | hy
      · exact k1 y (h8 y (.inl hy))
      · exact hk
      · exact k1 y (h8 y (.inr hy))
    · obtain ⟨a, m, b, r', p', hcut, q1, q2⟩ := ht.swap.put okE (by decide) ⟨x.k, x.w⟩ hxw (by omega) (by omega) (by omega)
      have q3 := refPutD hcut (by omega)
      have q1' : Tree_Put.f opsE K1 p ⟨r2.index, r2.gen⟩ ⟨x.k, x.w⟩ = some (true, r', p') := q1
      have q3' : R07_Put_d.f K1 (rl l2) ⟨x.k, x.w⟩ 1000 = some (rl (a ++ ⟨x.k, x.w⟩ :: b), true) := q3
      have hlen : l2.length = a.length + (m.length + b.length) := by rw [hcut.eq]; simp
      simp only [hk, decide_false, cond_false, q1', q3', Option.bind_some, w64_succ (i := i) (by omega)]
      refine parts_loop key more hm h20 d (i + 1) n (by omega) (by omega) q2.swap (by simp; omega) k1 (fun y hy => ?_)
      have h8 : ∀ y, y ∈ a ∨ y ∈ b → y ∈ l2 := fun y hy => by rw [hcut.eq]; rcases hy with hy | hy <;> simp [hy]
      simp only [List.mem_append, List.mem_cons] at hy
      rcases hy with hy | rfl | hy
      · exact k2 y (h8 y (.inl hy))
      · exact hk
      · exact k2 y (h8 y (.inr hy))
theorem rank_split (l1 l2 : List TL07Elem) (key : Int) (hl : l1.length + l2.length < 1000) (k1 : ∀ x ∈ l1, x.k < key) (k2 : ∀ x ∈ l2, ¬ x.k < key) : R07_Rank.f K1 (rl (l1 ++ l2)) key = some (l1.length : Int) := by
  have := refRank_loop key (rl (l1 ++ l2)) l1.length (by simp) (by simp; omega) (fun x hx => by
    rw [rl_app, List.take_append_of_le_length (by simp), List.take_of_length_le (by simp)] at hx
    obtain ⟨y, hy, rfl⟩ := List.mem_map.1 hx
    exact k1 y hy) (fun x hx => by
    rw [rl_app, List.getElem?_append_right (by simp)] at hx
    obtain ⟨y, hy, rfl⟩ := List.mem_map.1 (List.mem_of_getElem? hx)
    exact k2 y hy) l1.length 0 K1 (by omega) (by unfold K1; omega)
  unfold R07_Rank.f
  replace this : R07_Rank.l0 K1 (rl (l1 ++ l2)) key K1 0 = _ := this
  rw [this]; rfl
theorem GroveParts_pure (acts : List TL07Act) (key : Int) (more : List TL07Act) : Lw07_GroveParts.f K1 acts key more = some true := by
  unfold Lw07_GroveParts.f
  simp only [awake07, Option.bind_some, Bool.not_true, cond_false]
  rcases smallC acts 50 (by decide) with h | ⟨h, hs, h50⟩
  · replace h : Lw07_small.f K1 acts 50 = some false := h
    simp only [h, Option.bind_some, Bool.not_false, cond_true, Sum.elim_inl]
  replace h : Lw07_small.f K1 acts 50 = some true := h
  rcases smallC more 20 (by decide) with g | ⟨g, gs, g20⟩
  · replace g : Lw07_small.f K1 more 20 = some false := g
    simp only [h, g, Option.bind_some, Bool.not_true, Bool.not_false, cond_true, cond_false, Sum.elim_inl]
  replace g : Lw07_small.f K1 more 20 = some true := g
  obtain ⟨p, r, l, m1, m2⟩ := made_ok acts hs 200 (by decide)
  have hll := m2.len
  have hgr := m2.gr
  have hc200 : capOf 200 = 200 := by decide
  rw [hc200] at hgr
  obtain ⟨r1, r2, p', l1, l2, s1, s2, s3, s4, s5⟩ := hgr.split okE (by decide) ⟨key, 0⟩ (by omega)
  replace s4 : ∀ x ∈ l1, x.k < key := s4
  replace s5 : ∀ x ∈ l2, ¬ x.k < key := s5
  subst s3
  rw [List.length_append] at hll
  have hT : TE p' r1 l1 r2 l2 (60 + 0) := by
    obtain ⟨t, u, h1, h2⟩ := s2.ex
    exact ⟨⟨t, u, h1.mono (by omega) (by omega), h2⟩, s2.s1, s2.s2, s2.good, s2.cap⟩
  have hrank := rank_split l1 l2 key (by omega) s4 s5
  have a1 := alikeL s2.left (by omega)
  have a2 := alikeL s2.right (by omega)
  have hlen : (rl (l1 ++ l2)).length = l1.length + l2.length := by simp
  have t1 : ((rl (l1 ++ l2)).drop 0).take (((l1.length : Int)).toNat - 0) = rl l1 := by
    rw [Int.toNat_natCast, List.drop_zero, Nat.sub_zero, rl_app, List.take_append_of_le_length (by simp), List.take_of_length_le (by simp)]
  have t2 : ((rl (l1 ++ l2)).drop ((l1.length : Int)).toNat).take ((rl (l1 ++ l2)).length - ((l1.length : Int)).toNat) = rl l2 := by
    rw [Int.toNat_natCast, rl_app, List.drop_append_of_le_length (by simp), List.drop_of_length_le (by simp), List.nil_append, List.take_of_length_le (by simp)]
  have d1 : decide (0 ≤ (l1.length : Int) ∧ (l1.length : Int) ≤ ((rl (l1 ++ l2)).length : Int)) = true := by rw [hlen]; exact decide_eq_true (by omega)
  obtain ⟨p3, q1, u1, q2, u2, e1, e2, e3, e4, e5⟩ := parts_loop key more gs g20 more.length 0 K1 (by omega) (by unfold K1; omega) hT (by omega) s4 s5
  replace e1 : Lw07_GroveParts.l0 K1 key more K1 (p', r1.index, r1.gen, r2.index, r2.gen, rl l1, rl l2, 0) = _ := e1
  have b1 : Lw07_alike.f K1 p3 ⟨q1.index, q1.gen⟩ (rl u1) = some true := alikeL e2.left (by omega)
  have b2 : Lw07_alike.f K1 p3 ⟨q2.index, q2.gen⟩ (rl u2) = some true := alikeL e2.right (by omega)
  obtain ⟨r4, p4, j1, j2, j3⟩ := e2.join okE (by decide) (by omega) (by decide) (fun x hx y hy => by
    have := e4 x hx; have := e5 y hy; show x.k < y.k; omega)
  replace j1 : Tree_Join.f opsE K1 p3 ⟨q1.index, q1.gen⟩ ⟨q2.index, q2.gen⟩ = _ := j1
  have c1 : Lw07_alike.f K1 p4 ⟨r4.index, r4.gen⟩ (rl (u1 ++ u2)) = some true := alikeL j2 (by simp; omega)
  have c2 : Lw07_alike.f K1 p4 ⟨zTRef.index, zTRef.gen⟩ ([] : List TR07Elem) = some true := alikeL j3 (by simp)
  obtain ⟨s, f1, f2⟩ := j2.between okE (by decide) (by simp; omega)
  have hall : (([] : List TR07Elem) ++ rl u1) ++ rl u2 = rl (u1 ++ u2) := by rw [List.nil_append, rl_app]
  have hal : (rl (u1 ++ u2)).length = (u1 ++ u2).length := by simp
  replace f1 : Tree_Between.f opsE K1 p4 ⟨r4.index, r4.gen⟩ 0 ((rl (u1 ++ u2)).length : Int) = some s := by rw [hal]; exact f1
  have hsm : smallN (wsE (u1 ++ u2)) := smallE (fun x hx => j2.good x hx)
  have hws := refWs (u1 ++ u2) (by simp; omega) 0 ((rl (u1 ++ u2)).length : Int)
  rw [seg_all (Int.le_refl _) (by rw [hal]; exact Int.le_refl _)] at hws
  have hsum := refSum_eq K1 hsm (by simp; omega) (Nat.le_refl (wsE (u1 ++ u2)).length) (by unfold K1; simp; omega)
  rw [show (wsE (u1 ++ u2)).length = (rl (u1 ++ u2)).length from by simp, List.take_of_length_le (by simp)] at hsum
  have hjoin : (bif (decide ((l1.length : Int) > 0)) then (bif (decide ((l1.length : Int) < ((rl (l1 ++ l2)).length : Int))) then ((Tree_Join.f opsE K1 p' r2 r1).bind fun x19 => bif x19.1 then (some (Sum.inl false)) else (some (Sum.inr (x19.2.2.2, x19.2.2.1.index, x19.2.2.1.gen, x19.2.1.index, x19.2.1.gen)))) else (some (Sum.inr (p', r1.index, r1.gen, r2.index, r2.gen)))) else (some (Sum.inr (p', r1.index, r1.gen, r2.index, r2.gen))) : Option (Sum Bool (PN TL07Elem TTide × Int × Int × Int × Int))) = some (Sum.inr (p', r1.index, r1.gen, r2.index, r2.gen)) := by
    by_cases z1 : (l1.length : Int) > 0
    · rw [decide_eq_true z1, cond_true]
      by_cases z2 : (l1.length : Int) < ((rl (l1 ++ l2)).length : Int)
      · rw [decide_eq_true z2, cond_true]
        rw [hlen] at z2
        rw [s2.swap.nojoin okE (by decide) (by omega) (by decide) (fun h => by subst h; simp at z2) (fun h => by subst h; simp at z1) (fun x hx y hy h => by
          have := s5 x hx; have := s4 y hy; have h' : x.k < y.k := h; omega)]
        rfl
      · rw [decide_eq_false z2, cond_false]
    · rw [decide_eq_false z1, cond_false]
  simp only [h, g, Option.bind_some, Bool.not_true, cond_false, Sum.elim_inr, m1, hrank, s1, d1, cond_true, t1, t2, a1, a2, Tree_Join_t.f, Tree_Join_z.f, Tree_New.f, Tree_Join_p.f, hjoin, e1, b1, b2, j1]
  rw [decide_eq_true (by simp; omega), cond_true, decide_eq_true (by simp; omega), cond_true]
  simp only [hall, c1, c2, f1, hws, hsum, Option.bind_some, cond_true, f2]
  simp [tideF]
end Go.Proofs.Ytjokolmijhhinaa

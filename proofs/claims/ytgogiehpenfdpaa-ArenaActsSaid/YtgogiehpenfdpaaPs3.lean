/- ArenaStale: which handles live: the plain law. -/
import Derived.Test.YtgogiehpenfdpaaPi3
namespace Go.Proofs.Ytgogiehpenfdpaa.Sx
open Go
set_option linter.unusedVariables false
abbrev Rf := Int × Int
structure StInv (i : Nat) (p : Pool Int) (live gone : List Rf) : Prop where
  ok : PoolOk i p
  cap : p.cap = 4
  held : p.held = live.length
  le : live.length ≤ 4
  nd : (live.map (·.1)).Nodup
  liv : ∀ r ∈ live, ∃ (n : Nat) (c : Cell Int), r.1 = n ∧ p.cells[n]? = some c ∧ c.live = true ∧ c.gen = r.2
  gon : ∀ r ∈ gone, ∃ (n : Nat) (c : Cell Int), r.1 = n ∧ p.cells[n]? = some c ∧ (r.2 < c.gen ∨ (r.2 = c.gen ∧ c.live = false))
  fre : ∀ j ∈ p.free, ∃ c, p.cells[j.toNat]? = some c ∧ c.live = false
  fnd : p.free.Nodup
  gen : ∀ (n : Nat) (c : Cell Int), p.cells[n]? = some c → 0 ≤ c.gen ∧ c.gen ≤ i
  llen : live.length ≤ i
  glen : gone.length ≤ i

def Pool.at (p : Pool Int) (v : Int) : Pool Int := { p with vis := v }
theorem StInv.at {i : Nat} {p : Pool Int} {live gone : List Rf} (h : StInv i p live gone) (v : Int) : StInv i (p.at v) live gone :=
  ⟨⟨h.ok.cells, h.ok.free, h.ok.inn⟩, h.cap, h.held, h.le, h.nd, h.liv, h.gon, h.fre, h.fnd, h.gen, h.llen, h.glen⟩
theorem StInv.start : StInv 0 ⟨[], [], 4, 0, 0⟩ [] [] :=
  ⟨PoolOk.new 4, rfl, rfl, by simp, by simp, fun _ h => (by cases h), fun _ h => (by cases h), fun _ h => (by cases h), by simp, fun n c h => (by simp at h), by simp, by simp⟩
theorem StInv.mono {i : Nat} {p : Pool Int} {live gone : List Rf} (h : StInv i p live gone) : StInv (i + 1) p live gone :=
  ⟨h.ok.mono (Nat.le_succ _), h.cap, h.held, h.le, h.nd, h.liv, h.gon, h.fre, h.fnd, fun n c hc => by have := h.gen n c hc; omega, by have := h.llen; omega, by have := h.glen; omega⟩

/-- The cell that comes next is a free one, or a new one. -/
theorem StInv.next {i : Nat} {p : Pool Int} {live gone : List Rf} (h : StInv i p live gone) :
    ∃ (n : Nat) (c : Cell Int), (p.next 0).1 = n ∧ (p.next 0).2.cells[n]? = some c ∧ c.live = false ∧ 0 ≤ c.gen ∧ c.gen ≤ i ∧ (n : Int) ∉ (p.next 0).2.free ∧ (p.next 0).2.free.Nodup ∧ (p.next 0).2.cap = p.cap ∧ (p.next 0).2.held = p.held ∧
      (∀ (m : Nat) (d : Cell Int), p.cells[m]? = some d → (p.next 0).2.cells[m]? = some d) ∧ (∀ (m : Nat) (d : Cell Int), (p.next 0).2.cells[m]? = some d → 0 ≤ d.gen ∧ d.gen ≤ i) ∧ (∀ j ∈ (p.next 0).2.free, j ∈ p.free) := by
  unfold Pool.next
  cases hl : p.free.getLast? with
  | none =>
    have hf : p.free = [] := List.getLast?_eq_none_iff.1 hl
    refine ⟨p.cells.length, ⟨0, 0, false⟩, rfl, by simp, rfl, by simp, by simp, by simp [hf], by simp [hf], rfl, rfl, fun m d hd => ?_, fun m d hd => ?_, fun j hj => hj⟩
    · have := (List.getElem?_eq_some_iff.1 hd).1
      show (p.cells ++ [_])[m]? = _
      rw [List.getElem?_append_left this]; exact hd
    · have hd' : (p.cells ++ [⟨0, 0, false⟩])[m]? = some d := hd
      rw [List.getElem?_append] at hd'
      split at hd'
      · exact h.gen m d hd'
      · have := (List.getElem?_eq_some_iff.1 hd').1
        have e : m - p.cells.length = 0 := by simp at this; omega
        rw [e] at hd'
        simp at hd'; subst hd'; simp
  | some j =>
    have hne : p.free ≠ [] := by intro e; rw [e] at hl; cases hl
    have hj : j = p.free.getLast hne := by rw [List.getLast?_eq_some_getLast hne] at hl; exact (Option.some.inj hl).symm
    have hm : j ∈ p.free := by rw [hj]; exact List.getLast_mem hne
    have h0 := h.ok.inn j hm
    obtain ⟨c, hc, hd⟩ := h.fre j hm
    have hg := h.gen _ c hc
    have hsp : p.free = p.free.dropLast ++ [j] := by rw [hj]; exact (List.dropLast_concat_getLast hne).symm
    have hnd := h.fnd
    rw [hsp] at hnd
    have hnd' := List.nodup_append.1 hnd
    refine ⟨j.toNat, c, by simp; omega, hc, hd, hg.1, hg.2, ?_, hnd'.1, rfl, rfl, fun m d hd => hd, fun m d hd => h.gen m d hd, fun x hx => by
      have hx' : x ∈ p.free.dropLast := hx
      rw [List.dropLast_eq_take] at hx'
      exact List.mem_of_mem_take hx'⟩
    have e : ((j.toNat : Nat) : Int) = j := by omega
    rw [e]
    intro hx
    exact hnd'.2.2 j hx j (by simp) rfl

theorem StInv.full {i : Nat} {p : Pool Int} {live gone : List Rf} (h : StInv i p live gone) (v : Int) (hf : live.length = 4) : p.put 0 v = (((0, 0), false), p) := by
  unfold Pool.put
  rw [if_pos (by rw [h.cap, h.held, hf]; rfl)]
theorem StInv.put {i : Nat} {p : Pool Int} {live gone : List Rf} (h : StInv i p live gone) (v : Int) (hi : i < 100) (hf : live.length < 4) :
    ∃ (n : Nat) (g : Int), (p.put 0 v).1 = (((n : Int), g), true) ∧ (∀ r ∈ live, r.1 ≠ n) ∧ StInv (i + 1) (p.put 0 v).2 (live ++ [((n : Int), g)]) gone := by
  obtain ⟨n, c, hn, hc, hd, g0, g1, hnf, hfn, hcap, hheld, hold, hgen, hsub⟩ := h.next
  have hne : ¬ p.held = p.cap := by rw [h.cap, h.held]; omega
  have e : p.put 0 v = ((((n : Int), IntKind.i64.wrap (c.gen + 1)), true), (p.next 0).2.lay n c v) := by
    unfold Pool.put
    rw [if_neg hne, hn, Int.toNat_natCast, hc]
  have e1 : IntKind.i64.wrap (c.gen + 1) = c.gen + 1 := by rw [IntKind.wrap_i64]; omega
  have e2 : IntKind.i64.wrap (p.held + 1) = p.held + 1 := by rw [IntKind.wrap_i64, h.held]; omega
  have hlt := (List.getElem?_eq_some_iff.1 hc).1
  have hdiff : ∀ r ∈ live, r.1 ≠ n := by
    intro r hr he
    obtain ⟨m, d, h1, h2, h3, _⟩ := h.liv r hr
    have : m = n := by omega
    subst this
    rw [hold _ _ h2] at hc
    cases hc
    rw [hd] at h3; cases h3
  rw [e, e1]
  refine ⟨n, c.gen + 1, rfl, hdiff, ?_⟩
  have hcells : ∀ m, m ≠ n → ((p.next 0).2.lay n c v).cells[m]? = (p.next 0).2.cells[m]? := fun m hm => by
    show ((p.next 0).2.cells.set n _)[m]? = _
    rw [List.getElem?_set_ne (Ne.symm hm)]
  have hcell : ((p.next 0).2.lay n c v).cells[n]? = some ⟨v, c.gen + 1, true⟩ := by
    show ((p.next 0).2.cells.set n _)[n]? = _
    rw [List.getElem?_set_self hlt, e1]
  have hok : PoolOk (i + 1) ((p.next 0).2.lay n c v) := (h.ok.next).1.lay
  refine ⟨hok, hcap.trans h.cap, ?_, by simp; omega, ?_, ?_, ?_, ?_, hfn, ?_, by simp; have := h.llen; omega, by have := h.glen; omega⟩
  · show IntKind.i64.wrap ((p.next 0).2.held + 1) = _
    rw [hheld, e2, h.held]; simp
  · rw [List.map_append]
    refine List.nodup_append.2 ⟨h.nd, by simp, ?_⟩
    intro a ha b hb
    simp at hb
    obtain ⟨r, hr, rfl⟩ := List.mem_map.1 ha
    rw [hb]; exact hdiff r hr
  · intro r hr
    rcases List.mem_append.1 hr with hr | hr
    · obtain ⟨m, d, h1, h2, h3, h4⟩ := h.liv r hr
      have hm : m ≠ n := fun e => hdiff r hr (by rw [h1, e])
      exact ⟨m, d, h1, by rw [hcells m hm]; exact hold _ _ h2, h3, h4⟩
    · simp at hr; subst hr
      exact ⟨n, _, rfl, hcell, rfl, rfl⟩
  · intro r hr
    obtain ⟨m, d, h1, h2, h3⟩ := h.gon r hr
    by_cases hm : m = n
    · subst hm
      rw [hold _ _ h2] at hc
      cases hc
      exact ⟨m, _, h1, hcell, .inl (by simp only; rcases h3 with h3 | h3 <;> omega)⟩
    · exact ⟨m, d, h1, by rw [hcells m hm]; exact hold _ _ h2, h3⟩
  · intro j hj
    have hj' : j ∈ (p.next 0).2.free := hj
    have h0 := h.ok.inn j (hsub j hj')
    obtain ⟨d, hd1, hd2⟩ := h.fre j (hsub j hj')
    have hm : j.toNat ≠ n := fun e => hnf (by
      have e2 : (n : Int) = j := by omega
      rw [e2]; exact hj')
    exact ⟨d, by rw [hcells _ hm]; exact hold _ _ hd1, hd2⟩
  · intro m d hm
    by_cases e : m = n
    · subst e
      rw [hcell] at hm; cases hm
      constructor
      · show 0 ≤ c.gen + 1; omega
      · show c.gen + 1 ≤ ((i + 1 : Nat) : Int); omega
    · rw [hcells m e] at hm
      have := hgen m d hm; omega
theorem StInv.drop {i : Nat} {p : Pool Int} {live gone : List Rf} (h : StInv i p live gone) (hi : i < 100) {k : Nat} {r : Rf} (hr : live[k]? = some r) :
    (p.drop 0 r.1 r.2).1.2 = true ∧ StInv (i + 1) (p.drop 0 r.1 r.2).2 (live.take k ++ live.drop (k + 1)) (gone ++ [r]) := by
  obtain ⟨hk, hke⟩ := List.getElem?_eq_some_iff.1 hr
  have hmem : r ∈ live := List.mem_of_getElem? hr
  obtain ⟨n, c, h1, h2, h3, h4⟩ := h.liv r hmem
  have hlt := (List.getElem?_eq_some_iff.1 h2).1
  have hg := h.gen n c h2
  have hlook : lookC p.cells r.1 r.2 = some c := by
    unfold lookC
    rw [h1, if_neg (by omega), Int.toNat_natCast, h2]
    simp only [h3, h4, and_self, if_true]
  have hgm : decide (c.gen < 4294967295) = true := by simp; omega
  have e2 : IntKind.i64.wrap (p.held - 1) = p.held - 1 := by rw [IntKind.wrap_i64, h.held]; have := h.le; omega
  have e : p.drop 0 r.1 r.2 = ((c.v, true), ⟨p.cells.set n ⟨0, c.gen, false⟩, p.free ++ [(n : Int)], p.cap, p.held - 1, IntKind.i64.wrap (p.vis + 1)⟩) := by
    unfold Pool.drop
    rw [hlook]
    simp only [hgm, cond_true, e2]
    rw [h1, Int.toNat_natCast]
  have hok : PoolOk (i + 1) (p.drop 0 r.1 r.2).2 := h.ok.drop
  rw [e] at hok ⊢
  refine ⟨rfl, ?_⟩
  have hsp : live = live.take k ++ r :: live.drop (k + 1) := by
    rw [← hke, List.getElem_cons_drop, List.take_append_drop]
  have hother : ∀ q ∈ live.take k ++ live.drop (k + 1), q ∈ live ∧ q.1 ≠ r.1 := by
    intro q hq
    have hnd := h.nd
    rw [hsp, List.map_append, List.map_cons] at hnd
    obtain ⟨n1, n2, n3⟩ := List.nodup_append.1 hnd
    rw [List.nodup_cons] at n2
    rcases List.mem_append.1 hq with hq | hq
    · refine ⟨by rw [hsp]; exact List.mem_append_left _ hq, ?_⟩
      exact n3 _ (List.mem_map_of_mem hq) _ List.mem_cons_self
    · refine ⟨by rw [hsp]; exact List.mem_append_right _ (List.mem_cons_of_mem _ hq), fun e => n2.1 (by rw [← e]; exact List.mem_map_of_mem hq)⟩
  have hnfree : (n : Int) ∉ p.free := by
    intro hn
    obtain ⟨d, hd1, hd2⟩ := h.fre _ hn
    rw [Int.toNat_natCast, h2] at hd1
    cases hd1
    rw [h3] at hd2; cases hd2
  have hcells : ∀ m, m ≠ n → (p.cells.set n ⟨0, c.gen, false⟩)[m]? = p.cells[m]? := fun m hm => List.getElem?_set_ne (Ne.symm hm)
  have hcell : (p.cells.set n ⟨0, c.gen, false⟩)[n]? = some ⟨0, c.gen, false⟩ := List.getElem?_set_self hlt
  refine ⟨hok, h.cap, ?_, ?_, ?_, ?_, ?_, ?_, ?_, ?_, ?_, ?_⟩
  · show p.held - 1 = _
    rw [h.held]; simp; omega
  · have := h.le; simp; omega
  · have hnd := h.nd
    rw [hsp, List.map_append, List.map_cons] at hnd
    rw [List.map_append]
    refine hnd.sublist ?_
    exact List.Sublist.append (List.Sublist.refl _) (List.sublist_cons_self _ _)
  · intro q hq
    obtain ⟨hq1, hq2⟩ := hother q hq
    obtain ⟨m, d, k1, k2, k3, k4⟩ := h.liv q hq1
    have hm : m ≠ n := fun e => hq2 (by rw [k1, h1, e])
    exact ⟨m, d, k1, by show (p.cells.set n _)[m]? = _; rw [hcells m hm]; exact k2, k3, k4⟩
  · intro q hq
    rcases List.mem_append.1 hq with hq | hq
    · obtain ⟨m, d, k1, k2, k3⟩ := h.gon q hq
      by_cases hm : m = n
      · subst hm
        rw [h2] at k2; cases k2
        refine ⟨m, _, k1, hcell, ?_⟩
        rcases k3 with k3 | ⟨_, k3⟩
        · exact .inl k3
        · rw [h3] at k3; cases k3
      · exact ⟨m, d, k1, by show (p.cells.set n _)[m]? = _; rw [hcells m hm]; exact k2, k3⟩
    · simp at hq; subst hq
      exact ⟨n, _, h1, hcell, .inr ⟨h4.symm, rfl⟩⟩
  · intro j hj
    rcases List.mem_append.1 hj with hj | hj
    · obtain ⟨d, hd1, hd2⟩ := h.fre j hj
      have h0 := h.ok.inn j hj
      have hm : j.toNat ≠ n := fun e => hnfree (by
        have e2 : (n : Int) = j := by omega
        rw [e2]; exact hj)
      exact ⟨d, by show (p.cells.set n _)[j.toNat]? = _; rw [hcells _ hm]; exact hd1, hd2⟩
    · simp at hj; subst hj
      exact ⟨_, by rw [Int.toNat_natCast]; exact hcell, rfl⟩
  · refine List.nodup_append.2 ⟨h.fnd, by simp, ?_⟩
    intro a ha b hb
    simp at hb
    rw [hb]; intro e; rw [e] at ha; exact hnfree ha
  · intro m d hm
    by_cases e : m = n
    · subst e
      have hm' : (p.cells.set m ⟨0, c.gen, false⟩)[m]? = some d := hm
      rw [hcell] at hm'; cases hm'
      constructor
      · exact hg.1
      · show c.gen ≤ ((i + 1 : Nat) : Int); omega
    · have hm' : (p.cells.set n ⟨0, c.gen, false⟩)[m]? = some d := hm
      rw [hcells m e] at hm'
      have := h.gen m d hm'; omega
  · have := h.llen; simp; omega
  · have := h.glen; simp; omega
theorem StInv.dead {i : Nat} {p : Pool Int} {live gone : List Rf} (h : StInv i p live gone) {r : Rf} (hr : r ∈ gone) : lookC p.cells r.1 r.2 = none := by
  obtain ⟨m, d, k1, k2, k3⟩ := h.gon r hr
  unfold lookC
  rw [k1, if_neg (by omega), Int.toNat_natCast, k2]
  simp only
  rw [if_neg]
  rintro ⟨h1, h2⟩
  rcases k3 with k3 | ⟨_, k3⟩
  · omega
  · rw [h1] at k3; cases k3
theorem StInv.alive {i : Nat} {p : Pool Int} {live gone : List Rf} (h : StInv i p live gone) {r : Rf} (hr : r ∈ live) : ∃ c, lookC p.cells r.1 r.2 = some c := by
  obtain ⟨n, c, h1, h2, h3, h4⟩ := h.liv r hr
  refine ⟨c, ?_⟩
  unfold lookC
  rw [h1, if_neg (by omega), Int.toNat_natCast, h2]
  simp only [h3, h4, and_self, if_true]
theorem stale_ok {i : Nat} {p : Pool Int} {live gone : List Rf} (h : StInv i p live gone) (v : Int) (hi : i < 100) : (p.put 0 v).1.2 = decide ((live.length : Int) < 4) := by
  by_cases hf : live.length < 4
  · obtain ⟨n, g, hp, _⟩ := h.put v hi hf
    rw [hp]; simp; omega
  · rw [h.full v (by have := h.le; omega)]
    simp; omega
theorem stale_room {i : Nat} {p : Pool Int} {live gone : List Rf} (h : StInv i p live gone) (v : Int) (hi : i < 100) (ho : (p.put 0 v).1.2 = true) : live.length < 4 := by
  rw [stale_ok h v hi] at ho
  simp at ho; omega
theorem stale_full {i : Nat} {p : Pool Int} {live gone : List Rf} (h : StInv i p live gone) (v : Int) (hi : i < 100) (ho : (p.put 0 v).1.2 = false) : p.put 0 v = (((0, 0), false), p) := by
  rw [stale_ok h v hi] at ho
  refine h.full v ?_
  have := h.le
  simp at ho; omega
theorem stale_ix (x : Int) {n : Nat} (hn : 0 < n) : ∃ k : Nat, (IntKind.i64.wrap (IntKind.u8.wrap (x.tdiv 2))).tmod (n : Int) = k ∧ k < n := by
  have h0 : 0 ≤ IntKind.u8.wrap (x.tdiv 2) ∧ IntKind.u8.wrap (x.tdiv 2) < 256 := by
    simp [IntKind.wrap, IntKind.signed, IntKind.bits]; omega
  have e : IntKind.i64.wrap (IntKind.u8.wrap (x.tdiv 2)) = IntKind.u8.wrap (x.tdiv 2) := by rw [IntKind.wrap_i64]; omega
  rw [e]
  have h1 := Int.tmod_nonneg (n : Int) h0.1
  have h2 := Int.tmod_lt_of_pos (IntKind.u8.wrap (x.tdiv 2)) (b := (n : Int)) (by omega)
  exact ⟨((IntKind.u8.wrap (x.tdiv 2)).tmod (n : Int)).toNat, by omega, by omega⟩
theorem part_eq {live : List Rf} {k : Nat} (hk : k < live.length) : ([] ++ (live.drop 0).take (k - 0)) ++ (live.drop (k + 1)).take (live.length - (k + 1)) = live.take k ++ live.drop (k + 1) := by
  have : (live.drop (k + 1)).take (live.length - (k + 1)) = live.drop (k + 1) := List.take_of_length_le (by simp)
  rw [this]; simp
end Go.Proofs.Ytgogiehpenfdpaa.Sx

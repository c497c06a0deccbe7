/- ArenaActs: the program's pool beside the document's: the plain law. -/
import Derived.Test.YtgogiehpenfdpaaPa3
import Derived.Test.YtgogiehpenfdpaaPs3
namespace Go.Proofs.Ytgogiehpenfdpaa.Sx
open Go
set_option linter.unusedVariables false
structure RInv (i : Nat) (p : Pool Int) (V free : List Int) : Prop where
  ok : PoolOk i p
  len : V.length = p.cells.length
  val : ∀ (n : Nat) (c : Cell Int), p.cells[n]? = some c → c.live = true → V[n]? = some c.v
  fr : free = p.free.reverse
  held : p.held = liveN p.cells
  fre : ∀ j ∈ p.free, ∃ c, p.cells[j.toNat]? = some c ∧ c.live = false
  fnd : p.free.Nodup
  gen : ∀ (n : Nat) (c : Cell Int), p.cells[n]? = some c → 0 ≤ c.gen ∧ c.gen ≤ i
theorem RInv.start (c : Int) : RInv 0 ⟨[], [], c, 0, 0⟩ [] [] :=
  ⟨PoolOk.new c, rfl, fun n c h => (by simp at h), rfl, rfl, fun _ h => (by cases h), by simp, fun n c h => (by simp at h)⟩
theorem RInv.mono {i : Nat} {p : Pool Int} {V free : List Int} (h : RInv i p V free) : RInv (i + 1) p V free :=
  ⟨h.ok.mono (Nat.le_succ _), h.len, h.val, h.fr, h.held, h.fre, h.fnd, fun n c hc => by have := h.gen n c hc; omega⟩
theorem map_set_same {cs : List (Cell Int)} {n : Nat} {c c' : Cell Int} {β : Type} (f : Cell Int → β) (hg : cs[n]? = some c) (he : f c' = f c) : (cs.set n c').map f = cs.map f := by
  rw [List.map_set, he]
  obtain ⟨hlt, hc⟩ := List.getElem?_eq_some_iff.1 hg
  apply List.ext_getElem?
  intro m
  by_cases hm : n = m
  · subst hm; simp [hlt, hc]
  · rw [List.getElem?_set_ne hm]
theorem liveN_append (a b : List (Cell Int)) : liveN (a ++ b) = liveN a + liveN b := List.countP_append
theorem liveN_set {cs : List (Cell Int)} {n : Nat} {c c' : Cell Int} (hg : cs[n]? = some c) : liveN (cs.set n c') + (if c.live = true then 1 else 0) = liveN cs + (if c'.live = true then 1 else 0) := by
  obtain ⟨hlt, hc⟩ := List.getElem?_eq_some_iff.1 hg
  have e1 : cs = cs.take n ++ c :: cs.drop (n + 1) := by rw [← hc, List.getElem_cons_drop, List.take_append_drop]
  have e2 : cs.set n c' = cs.take n ++ c' :: cs.drop (n + 1) := by rw [List.set_eq_take_append_cons_drop, if_pos hlt]
  have h1 : liveN cs = liveN (cs.take n) + liveN (c :: cs.drop (n + 1)) := by
    conv => lhs; rw [e1]
    exact liveN_append _ _
  rw [e2, liveN_append, h1]
  simp only [liveN, List.countP_cons]
  omega
theorem liveN_len (cs : List (Cell Int)) : liveN cs ≤ cs.length := List.countP_le_length
theorem liveN_pos {cs : List (Cell Int)} {n : Nat} {c : Cell Int} (hg : cs[n]? = some c) (hl : c.live = true) : 0 < liveN cs := by
  have := liveN_set (c' := ⟨0, 0, false⟩) hg
  simp [hl] at this; omega
/-- A handle that lives: what Get, Set and Drop leave. -/
theorem RInv.get {i : Nat} {p : Pool Int} {V free : List Int} (h : RInv i p V free) (r g : Int) : RInv i (p.get 0 r g).2 V free := by
  unfold Pool.get
  split
  · exact ⟨⟨h.ok.cells, h.ok.free, h.ok.inn⟩, h.len, h.val, h.fr, h.held, h.fre, h.fnd, h.gen⟩
  · exact h
theorem RInv.setY {i : Nat} {p : Pool Int} {V free : List Int} (h : RInv i p V free) {n : Nat} {c : Cell Int} (hg : p.cells[n]? = some c) (hl : c.live = true) (v vis : Int) : RInv i ⟨p.cells.set n { c with v := v }, p.free, p.cap, p.held, vis⟩ (V.set n v) free := by
  have hlt := (List.getElem?_eq_some_iff.1 hg).1
  refine ⟨⟨by simpa using h.ok.cells, h.ok.free, fun j hj => by simpa using h.ok.inn j hj⟩, by simpa using h.len, fun m d hd hdl => ?_, h.fr, ?_, fun j hj => ?_, h.fnd, fun m d hd => ?_⟩
  · by_cases e : n = m
    · subst e
      rw [List.getElem?_set_self hlt] at hd; cases hd
      rw [List.getElem?_set_self (by rw [h.len]; exact hlt)]
    · rw [List.getElem?_set_ne e] at hd ⊢
      exact h.val m d hd hdl
  · show p.held = ((liveN (p.cells.set n { c with v := v }) : Nat) : Int)
    rw [h.held]
    have := liveN_set (c' := { c with v := v }) hg
    simp only at this; omega
  · obtain ⟨d, hd, hdl⟩ := h.fre j hj
    have e : n ≠ j.toNat := fun e => by rw [← e, hg] at hd; cases hd; rw [hl] at hdl; cases hdl
    exact ⟨d, by show (p.cells.set n _)[j.toNat]? = _; rw [List.getElem?_set_ne e]; exact hd, hdl⟩
  · have hd' : (p.cells.set n { c with v := v })[m]? = some d := hd
    by_cases e : n = m
    · subst e
      rw [List.getElem?_set_self hlt] at hd'; cases hd'
      exact h.gen n c hg
    · rw [List.getElem?_set_ne e] at hd'
      exact h.gen m d hd'
theorem RInv.dropY {i : Nat} {p : Pool Int} {V free : List Int} (h : RInv i p V free) {n : Nat} {c : Cell Int} (hg : p.cells[n]? = some c) (hl : c.live = true) (vis : Int) : RInv (i + 1) ⟨p.cells.set n ⟨0, c.gen, false⟩, p.free ++ [(n : Int)], p.cap, p.held - 1, vis⟩ V ([(n : Int)] ++ free) := by
  have hlt := (List.getElem?_eq_some_iff.1 hg).1
  have hnf : (n : Int) ∉ p.free := by
    intro hn
    obtain ⟨d, hd, hdl⟩ := h.fre _ hn
    rw [Int.toNat_natCast, hg] at hd; cases hd; rw [hl] at hdl; cases hdl
  refine ⟨⟨by simpa using Nat.le_succ_of_le h.ok.cells, by simpa using h.ok.free, fun j hj => ?_⟩, by simpa using h.len, fun m d hd hdl => ?_, ?_, ?_, fun j hj => ?_, ?_, fun m d hd => ?_⟩
  · rcases List.mem_append.1 hj with hj | hj
    · simpa using h.ok.inn j hj
    · simp at hj; subst hj; simpa using hlt
  · have hd' : (p.cells.set n ⟨0, c.gen, false⟩)[m]? = some d := hd
    by_cases e : n = m
    · subst e
      rw [List.getElem?_set_self hlt] at hd'; cases hd'; cases hdl
    · rw [List.getElem?_set_ne e] at hd'
      exact h.val m d hd' hdl
  · rw [h.fr]; simp
  · show p.held - 1 = ((liveN (p.cells.set n ⟨0, c.gen, false⟩) : Nat) : Int)
    rw [h.held]
    have := liveN_set (c' := ⟨0, c.gen, false⟩) hg
    simp [hl] at this; omega
  · rcases List.mem_append.1 hj with hj | hj
    · obtain ⟨d, hd, hdl⟩ := h.fre j hj
      have h0 := h.ok.inn j hj
      have e : n ≠ j.toNat := fun e => hnf (by
        have e2 : (n : Int) = j := by omega
        rw [e2]; exact hj)
      exact ⟨d, by show (p.cells.set n _)[j.toNat]? = _; rw [List.getElem?_set_ne e]; exact hd, hdl⟩
    · simp at hj; subst hj
      exact ⟨⟨0, c.gen, false⟩, by rw [Int.toNat_natCast]; exact List.getElem?_set_self hlt, rfl⟩
  · refine List.nodup_append.2 ⟨h.fnd, by simp, fun a ha b hb => ?_⟩
    simp at hb; rw [hb]; intro e; rw [e] at ha; exact hnf ha
  · have hd' : (p.cells.set n ⟨0, c.gen, false⟩)[m]? = some d := hd
    by_cases e : n = m
    · subst e
      rw [List.getElem?_set_self hlt] at hd'; cases hd'
      have := h.gen n c hg
      simp only; omega
    · rw [List.getElem?_set_ne e] at hd'
      have := h.gen m d hd'; omega
/-- A free cell is used again; or a new one. -/
theorem RInv.layY {i : Nat} {p : Pool Int} {V free rest : List Int} (h : RInv i p V free) {n : Nat} {c : Cell Int} (hg : p.cells[n]? = some c) (hf : free = (n : Int) :: rest) (v : Int) :
    c.live = false ∧ (∃ u, V[n]? = some u) ∧ p.free.getLast? = some (n : Int) ∧ RInv (i + 1) ⟨p.cells.set n ⟨v, c.gen + 1, true⟩, p.free.dropLast, p.cap, p.held + 1, p.vis⟩ (V.set n v) rest := by
  have hlt := (List.getElem?_eq_some_iff.1 hg).1
  have hrev : p.free = rest.reverse ++ [(n : Int)] := by
    have := h.fr
    rw [hf] at this
    have h2 := congrArg List.reverse this
    simpa using h2.symm
  have hdl : p.free.dropLast = rest.reverse := by rw [hrev]; simp
  have hm : (n : Int) ∈ p.free := by rw [hrev]; simp
  obtain ⟨d, hd, hdead⟩ := h.fre _ hm
  rw [Int.toNat_natCast, hg] at hd; cases hd
  have hnd := h.fnd
  rw [hrev] at hnd
  obtain ⟨n1, _, n3⟩ := List.nodup_append.1 hnd
  have hout : ∀ j ∈ rest.reverse, j ≠ (n : Int) := fun j hj => n3 j hj _ (by simp)
  have hsub : ∀ j ∈ rest.reverse, j ∈ p.free := fun j hj => by rw [hrev]; exact List.mem_append_left _ hj
  refine ⟨hdead, ⟨_, List.getElem?_eq_getElem (by rw [h.len]; exact hlt)⟩, by rw [hrev]; simp, ?_⟩
  rw [hdl]
  refine ⟨⟨by simpa using Nat.le_succ_of_le h.ok.cells, ?_, fun j hj => by simpa using h.ok.inn j (hsub j hj)⟩, by simpa using h.len, fun m e he hel => ?_, by simp, ?_, fun j hj => ?_, n1, fun m e he => ?_⟩
  · have := h.ok.free
    rw [hrev] at this; simp at this ⊢; omega
  · have he' : (p.cells.set n ⟨v, c.gen + 1, true⟩)[m]? = some e := he
    by_cases en : n = m
    · subst en
      rw [List.getElem?_set_self hlt] at he'; cases he'
      rw [List.getElem?_set_self (by rw [h.len]; exact hlt)]
    · rw [List.getElem?_set_ne en] at he' ⊢
      exact h.val m e he' hel
  · show p.held + 1 = ((liveN (p.cells.set n ⟨v, c.gen + 1, true⟩) : Nat) : Int)
    rw [h.held]
    have := liveN_set (c' := ⟨v, c.gen + 1, true⟩) hg
    simp [hdead] at this; omega
  · obtain ⟨e, he, hel⟩ := h.fre j (hsub j hj)
    have h0 := h.ok.inn j (hsub j hj)
    have en : n ≠ j.toNat := fun en => hout j hj (by omega)
    exact ⟨e, by show (p.cells.set n _)[j.toNat]? = _; rw [List.getElem?_set_ne en]; exact he, hel⟩
  · have he' : (p.cells.set n ⟨v, c.gen + 1, true⟩)[m]? = some e := he
    by_cases en : n = m
    · subst en
      rw [List.getElem?_set_self hlt] at he'; cases he'
      have := h.gen n c hg
      simp only; omega
    · rw [List.getElem?_set_ne en] at he'
      have := h.gen m e he'; omega
theorem RInv.newY {i : Nat} {p : Pool Int} {V free : List Int} (h : RInv i p V free) (hf : free = []) (v : Int) :
    p.free = [] ∧ RInv (i + 1) ⟨p.cells ++ [⟨v, 1, true⟩], [], p.cap, p.held + 1, p.vis⟩ (V ++ [v]) [] := by
  have hpf : p.free = [] := by
    have := h.fr
    rw [hf] at this
    simpa using this.symm
  refine ⟨hpf, ⟨by simpa using h.ok.cells, by simp, fun j hj => (by cases hj)⟩, by simp [h.len], fun m d hd hdl => ?_, rfl, ?_, fun j hj => (by cases hj), by simp, fun m d hd => ?_⟩
  · have hd' : (p.cells ++ [⟨v, 1, true⟩])[m]? = some d := hd
    rw [List.getElem?_append] at hd' ⊢
    split at hd'
    · rename_i hlt
      rw [if_pos (by rw [h.len]; exact hlt)]
      exact h.val m d hd' hdl
    · rename_i hge
      rw [if_neg (by rw [h.len]; exact hge), h.len]
      have := (List.getElem?_eq_some_iff.1 hd').1
      have e : m - p.cells.length = 0 := by simp at this; omega
      rw [e] at hd' ⊢
      simp at hd'; subst hd'; rfl
  · show p.held + 1 = ((liveN (p.cells ++ [⟨v, 1, true⟩]) : Nat) : Int)
    rw [h.held, liveN_append]; simp [liveN]
  · have hd' : (p.cells ++ [⟨v, 1, true⟩])[m]? = some d := hd
    rw [List.getElem?_append] at hd'
    split at hd'
    · have := h.gen m d hd'; omega
    · have := (List.getElem?_eq_some_iff.1 hd').1
      have e : m - p.cells.length = 0 := by simp at this; omega
      rw [e] at hd'
      simp at hd'; subst hd'
      simp only; omega
/-! ### acts -/
structure ActI where
  kind : Int
  v : Int
  told : Bool
  ri : Int
  rg : Int
def actE (x : ActI) : List Value := [.int .i64 x.kind, .int .i64 x.v, .bool x.told, .int .i64 x.ri, .int .i64 x.rg]
theorem actE_len : ∀ x : ActI, (actE x).length = 5 := fun _ => rfl
theorem actE_one : ∀ x : ActI, (actE x).all Value.oneCell' = true := fun _ => rfl
theorem actDec (cs : List Value) (h : okKinds [some .i64, some .i64, none, some .i64, some .i64] cs) : ∃ x, cs = actE x ∧ True := by
  obtain ⟨u1, r1, rfl, ⟨a, rfl, _⟩, h1⟩ := okKc h
  obtain ⟨u2, r2, rfl, ⟨b, rfl, _⟩, h2⟩ := okKc h1
  obtain ⟨u3, r3, rfl, ⟨c, rfl⟩, h3⟩ := okKc h2
  obtain ⟨u4, r4, rfl, ⟨d, rfl, _⟩, h4⟩ := okKc h3
  obtain ⟨u5, rfl, e, rfl, _⟩ := okK1 h4
  exact ⟨⟨a, b, c, d, e⟩, rfl, trivial⟩
/-- An act's handle. -/
def refOf (l : List Rf) (a : ActI) : Rf := if a.told = true ∧ l ≠ [] then l.getD (a.ri % (l.length : Int)).toNat (0, 0) else (a.ri, a.rg)
theorem refOf_told {l : List Rf} {a : ActI} {k : Nat} {r : Rf} (ht : a.told = true) (hk : a.ri % (l.length : Int) = k) (hr : l[k]? = some r) : refOf l a = r := by
  have hne : l ≠ [] := by intro e; subst e; simp at hr
  unfold refOf
  rw [if_pos ⟨ht, hne⟩, hk, Int.toNat_natCast]
  simp [List.getD, hr]
theorem refOf_raw {l : List Rf} {a : ActI} (h : a.told = false ∨ l = []) : refOf l a = (a.ri, a.rg) := by
  unfold refOf
  rw [if_neg]
  rintro ⟨h1, h2⟩
  rcases h with h | h
  · rw [h1] at h; cases h
  · exact h2 h
end Go.Proofs.Ytgogiehpenfdpaa.Sx

/- Trees of marks. -/
import Derived.Test.YthcehagablploaaTxa
import Derived.Test.YthcehagablploaaTk
namespace Go.Proofs.Ythcehagablploaa
open Go Go.Proofs.Ythcehagablploaa.Sx
set_option linter.unusedVariables false
set_option linter.unusedSimpArgs false

abbrev K1 : Nat := 1000001
abbrev ltM (a b : TMark) : Prop := a.op.time < b.op.time
theorem okM : OpsOk opsM K1 1000000 (fun _ => True) IsSwell ltM where
  cmp a b := by
    refine ⟨csgn a.op.time b.op.time, ?_, ?_⟩
    · show wave_Mark_Compare.f K1 a b = _
      unfold wave_Mark_Compare.f; rw [cmpCompare_eq]; rfl
    · unfold csgn ltM
      by_cases h1 : a.op.time < b.op.time
      · simp [h1]; omega
      · by_cases h2 : b.op.time < a.op.time
        · simp [h1, h2]
        · simp [h1, h2]
  sum e _ := markSum K1 (by decide) e
  plus h g _ hN := swellPlus K1 (by decide) h g hN
  zero := IsSwell.nil
  irrefl a := by simp
  trans := by intro a b c h1 h2; unfold ltM at *; omega
  left := by intro a b c h1 h2 h3; unfold ltM at *; omega
  right := by intro a b c h1 h2 h3; unfold ltM at *; omega
  big := by decide
abbrev GrM := Gr IsSwell ltM (fun _ : TMark => True)
theorem tm_inj {x y : TR08Mark} (h : tm x = tm y) : x = y := by
  cases x; cases y; simp [tm] at h; simp [h]
/-- A cut of the tree's list is one of the document's. -/
theorem cutR {e : TR08Mark} {l : List TR08Mark} {a m b : List TMark} (h : Cut ltM (tm e) (tms l) a m b) : ∃ A M B, l = A ++ (M ++ B) ∧ tms A = a ∧ tms M = m ∧ tms B = b ∧ (∀ x ∈ A, x.op.time < e.op.time) ∧ (∀ x ∈ B, e.op.time < x.op.time) ∧ (M = [] ∨ ∃ y, M = [y] ∧ y.op.time = e.op.time) := by
  obtain ⟨A, R, h1, h2, h3⟩ := List.map_eq_append_iff.1 h.eq
  obtain ⟨M, B, h4, h5, h6⟩ := List.map_eq_append_iff.1 h3
  refine ⟨A, M, B, by rw [h1, h4], h2, h5, h6, fun x hx => ?_, fun x hx => ?_, ?_⟩
  · exact h.la (tm x) (by rw [← h2]; exact List.mem_map.2 ⟨x, hx, rfl⟩)
  · exact h.lb (tm x) (by rw [← h6]; exact List.mem_map.2 ⟨x, hx, rfl⟩)
  · rcases h.lm with h7 | ⟨y, h7, h8, h9⟩
    · left; subst h7; exact List.map_eq_nil_iff.1 h5
    · right
      subst h7
      obtain ⟨z, hz, hzy⟩ := List.map_eq_singleton_iff.1 h5
      refine ⟨z, hz, ?_⟩
      subst hzy
      simp only [ltM, tm] at h8 h9; omega
theorem cut_atM {x e : TMark} {l a m b : List TMark} {i : Nat} (hx : l[i]? = some x) (hc : Cut ltM e l a m b) (he : e.op.time = x.op.time) : a.length = i ∧ m = [x] := by
  rw [hc.eq] at hx
  by_cases h1 : i < a.length
  · rw [List.getElem?_append_left h1] at hx
    have := hc.la x (List.mem_of_getElem? hx)
    unfold ltM at this; omega
  · rw [List.getElem?_append_right (by omega)] at hx
    by_cases h2 : i - a.length < m.length
    · rw [List.getElem?_append_left h2] at hx
      rcases hc.lm with h | ⟨y, h, _, _⟩
      · subst h; simp at h2
      · subst h
        simp only [List.length_cons, List.length_nil] at h2
        have h3 : i - a.length = 0 := by omega
        rw [h3] at hx
        simp at hx
        exact ⟨by omega, by rw [hx]⟩
    · rw [List.getElem?_append_right (by omega)] at hx
      have := hc.lb x (List.mem_of_getElem? hx)
      unfold ltM at this; omega
theorem nat_in {a n : Nat} (h : a ≤ n) : decide ((0 : Int) ≤ (a : Int) ∧ (a : Int) ≤ (n : Int)) = true := by simp; omega
end Go.Proofs.Ythcehagablploaa

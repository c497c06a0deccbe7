/- The laws of the shelf. -/
import Derived.KernelRfl
import Derived.Test.YtjokolmijhhinaaTb
import Derived.Test.YtjokolmijhhinaaTo
namespace Go.Proofs.Ytjokolmijhhinaa
open Go Go.Proofs.Ytjokolmijhhinaa.Sx
set_option linter.unusedVariables false
set_option linter.unusedSimpArgs false

abbrev K1 : Nat := 1000001
abbrev ltS (a b : TSlot) : Prop := ilt a.item b.item
abbrev lenS' (s : TSize) (l : List TSlot) : Prop := s = (l.length : Int)
theorem isgn_lt' {a b : TItem} : isgn a b < 0 ↔ ilt a b := by
  unfold isgn
  by_cases h : ilt a b
  · simp [h]
  · by_cases h2 : ilt b a <;> simp [h, h2]
theorem isgn_gt' {a b : TItem} : isgn a b > 0 ↔ ilt b a := by
  unfold isgn
  by_cases h : ilt a b
  · have : ¬ ilt b a := by unfold ilt at *; omega
    simp [h, this]
  · by_cases h2 : ilt b a <;> simp [h, h2]
theorem slotCompare_eq (a b : TSlot) : shelf_Slot_Compare.f K1 a b = some (isgn a.item b.item) := by
  unfold shelf_Slot_Compare.f; rw [itemCompare_eq K1 (by decide)]; rfl
theorem okS : OpsOk opsS K1 1000000 (fun _ => True) lenS' ltS where
  cmp a b := ⟨isgn a.item b.item, slotCompare_eq a b, isgn_lt', isgn_gt'⟩
  sum e _ := ⟨1, rfl, rfl⟩
  plus := by
    rintro a b l r rfl rfl _ hN
    refine ⟨_, rfl, ?_⟩
    show w64 ((l.length : Int) + (r.length : Int)) = _
    rw [List.length_append] at hN
    rw [w64_id (by omega) (by omega), List.length_append]; omega
  zero := rfl
  irrefl a := ilt_irrefl _
  trans := by intro a b c h1 h2; unfold ltS ilt at *; omega
  left := by intro a b c h1 h2 h3; unfold ltS ilt at *; omega
  right := by intro a b c h1 h2 h3; unfold ltS ilt at *; omega
  big := by decide
abbrev GrS := Gr lenS' ltS (fun _ : TSlot => True)
theorem awake09 : Lw09_awake.f K1 = some true := by kernel_rfl
theorem item_eq {a b : TItem} (h1 : ¬ ilt a b) (h2 : ¬ ilt b a) : a = b := by
  unfold ilt at *; exact item_ext (by omega) (by omega)
instance : DecidableEq TItem := fun a b => if h : a.key = b.key ∧ a.id = b.id then .isTrue (item_ext h.1 h.2) else .isFalse (fun e => h (by rw [e]; exact ⟨rfl, rfl⟩))
theorem itemB (a b : TItem) : ((a.key == b.key) && ((a.id == b.id) && true)) = decide (a = b) := by
  by_cases h : a = b
  · subst h; simp
  · have : ¬ (a.key = b.key ∧ a.id = b.id) := fun h' => h (item_ext h'.1 h'.2)
    by_cases h1 : a.key = b.key
    · have h2 : (a.id == b.id) = false := by simpa using fun h2 => this ⟨h1, h2⟩
      simp [h, h2]
    · have h2 : (a.key == b.key) = false := by simpa using h1
      simp [h, h2]
/-- What is there stands just where it is cut. -/
theorem cut_mem {x e : TSlot} {l a m b : List TSlot} (hx : x ∈ l) (hc : Cut ltS e l a m b) (he : e.item = x.item) : m = [x] := by
  rw [hc.eq] at hx
  rcases List.mem_append.1 hx with hx | hx
  · have := hc.la x hx; unfold ltS at this; rw [he] at this; exact absurd this (ilt_irrefl _)
  · rcases List.mem_append.1 hx with hx | hx
    · rcases hc.lm with h | ⟨y, h, _, _⟩
      · rw [h] at hx; cases hx
      · rw [h] at hx; simp at hx; rw [h, hx]
    · have := hc.lb x hx; unfold ltS at this; rw [he] at this; exact absurd this (ilt_irrefl _)
theorem ShelfTimes_pure (xs : TArr2TItem) (ats ns : TArr2Int) : Lw09_ShelfTimes.f K1 xs ats ns = some true := by
  unfold Lw09_ShelfTimes.f
  simp only [awake09, Option.bind_some, Bool.not_true, cond_false]
  have h0 : GrS (⟨[], [], capOf 2, 0, 0⟩ : PN TSlot TSize) zTRef [] 2 0 := Gr.new 2 0 (by decide)
  generalize hb : ((ats.i1.tmod 2) == 0) = eb
  obtain ⟨a1, m1, b1, c1, r1⟩ := h0.put okS (by decide) ⟨xs.i0, true, ats.i0⟩ trivial (by decide) (by simp)
  have e1 : a1 = [] ∧ m1 = [] ∧ b1 = [] := by have := c1.eq; simp at this; exact ⟨this.1, this.2.1, this.2.2⟩
  obtain ⟨rfl, rfl, rfl⟩ := e1
  rcases r1 with ⟨_, h, _⟩ | ⟨ra, pa, _, q1, g1⟩
  · simp at h
  · obtain ⟨a2, m2, b2, c2, r2⟩ := g1.put okS (by decide) ⟨xs.i1, eb, ats.i1⟩ trivial (by decide) (by simp)
    rcases r2 with ⟨_, h, _⟩ | ⟨rb, pb, _, q2, g2⟩
    · simp at h
    · have hl : (a2 ++ ⟨xs.i1, eb, ats.i1⟩ :: b2).length < 1000000 := by
        have := congrArg List.length c2.eq
        simp at this ⊢; omega
      obtain ⟨a3, m3, b3, c3, q3⟩ := g2.find okS (by decide) ⟨xs.i0, false, 0⟩ hl
      obtain ⟨a4, m4, b4, c4, q4⟩ := g2.find okS (by decide) ⟨xs.i1, false, 0⟩ hl
      have f4 := cut_mem (x := ⟨xs.i1, eb, ats.i1⟩) (by simp) c4 rfl
      subst f4
      have q1' : Tree_Put.f opsS K1 (⟨[], [], capOf 2, 0, 0⟩ : PN TSlot TSize) zTRef ⟨xs.i0, true, ats.i0⟩ = some (true, ra, pa) := q1
      have q3' : Tree_Find.f opsS K1 pb ⟨rb.index, rb.gen⟩ ⟨xs.i0, false, 0⟩ = _ := q3
      have q4' : Tree_Find.f opsS K1 pb ⟨rb.index, rb.gen⟩ ⟨xs.i1, false, 0⟩ = _ := q4
      have s1 : (decide (isgn xs.i0 xs.i1 < 0) == decide (ilt xs.i0 xs.i1)) = true := by simp [isgn_lt']
      have s2 : (decide (isgn xs.i0 xs.i1 > 0) == decide (ilt xs.i1 xs.i0)) = true := by
        have : decide (isgn xs.i0 xs.i1 > 0) = decide (ilt xs.i1 xs.i0) := by simp [isgn_gt']
        rw [this]; simp
      have hfin : m3 = [if xs.i0 = xs.i1 then ⟨xs.i1, eb, ats.i1⟩ else ⟨xs.i0, true, ats.i0⟩] := by
        by_cases he : xs.i0 = xs.i1
        · rw [if_pos he]; exact cut_mem (by simp) c3 he
        · rw [if_neg he]
          refine cut_mem ?_ c3 rfl
          have hm : (⟨xs.i0, true, ats.i0⟩ : TSlot) ∈ a2 ++ (m2 ++ b2) := by rw [← c2.eq]; simp
          rcases List.mem_append.1 hm with hm | hm
          · exact List.mem_append_left _ hm
          · rcases List.mem_append.1 hm with hm | hm
            · rcases c2.lm with h | ⟨y, h, h1, h2⟩
              · rw [h] at hm; cases hm
              · rw [h] at hm; simp at hm; subst hm
                exact absurd (item_eq h2 h1) he
            · exact List.mem_append_right _ (List.mem_cons_of_mem _ hm)
      subst hfin
      have b4 : ((xs.i1.key == xs.i1.key) && ((xs.i1.id == xs.i1.id) && ((eb == eb) && ((ats.i1 == ats.i1) && true)))) = true := by simp
      simp only [shelf_New.f, Tree_New.f, Option.bind_some, q1', Bool.not_true, cond_false, q2, Sum.elim_inr, shelf_Of.f, q3', q4', itemB, slotCompare_eq, Ahead_eq, s1, s2, cond_true, b4]
      by_cases he : xs.i0 = xs.i1
      · simp [he, shelf_Slot_Sum.f, shelf_Size_Plus.f]
      · simp [he, shelf_Slot_Sum.f, shelf_Size_Plus.f]
end Go.Proofs.Ytjokolmijhhinaa

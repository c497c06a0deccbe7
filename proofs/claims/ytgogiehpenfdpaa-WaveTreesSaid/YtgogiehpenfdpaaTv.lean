/- The law of trees of marks. -/
import Derived.Test.YtgogiehpenfdpaaTx
import Derived.Test.YtgogiehpenfdpaaTk
namespace Go.Proofs.Ytgogiehpenfdpaa
open Go Go.Proofs.Ytgogiehpenfdpaa.Sx
set_option linter.unusedVariables false
set_option linter.unusedSimpArgs false

abbrev K1 : Nat := 1000001
abbrev ltM (a b : TMark) : Prop := a.op.time < b.op.time
theorem okM : OpsOk opsM K1 1000000 (fun _ => True) IsSwell ltM where
  cmp a b := by
    refine ⟨csgn a.op.time b.op.time, ?_, ?_⟩
    · show wave_Mark_Compare.f K1 a b = _
      unfold wave_Mark_Compare.f; rw [cmpCompare_eq]; rfl
    · unfold csgn ltM
      by_cases h1 : a.op.time < b.op.time
      · simp [h1]; omega
      · by_cases h2 : b.op.time < a.op.time
        · simp [h1, h2]
        · simp [h1, h2]
  sum e _ := markSum K1 (by decide) e
  plus h g _ hN := swellPlus K1 (by decide) h g hN
  zero := IsSwell.nil
  irrefl a := by simp
  trans := by intro a b c h1 h2; unfold ltM at *; omega
  left := by intro a b c h1 h2 h3; unfold ltM at *; omega
  right := by intro a b c h1 h2 h3; unfold ltM at *; omega
  big := by decide
abbrev GrM := Gr IsSwell ltM (fun _ : TMark => True)
theorem tm_inj {x y : TR08Mark} (h : tm x = tm y) : x = y := by
  cases x; cases y; simp [tm] at h; simp [h]
/-- A cut of the tree's list is one of the document's. -/
theorem cutR {e : TR08Mark} {l : List TR08Mark} {a m b : List TMark} (h : Cut ltM (tm e) (tms l) a m b) : ∃ A M B, l = A ++ (M ++ B) ∧ tms A = a ∧ tms M = m ∧ tms B = b ∧ (∀ x ∈ A, x.op.time < e.op.time) ∧ (∀ x ∈ B, e.op.time < x.op.time) ∧ (M = [] ∨ ∃ y, M = [y] ∧ y.op.time = e.op.time) := by
  obtain ⟨A, R, h1, h2, h3⟩ := List.map_eq_append_iff.1 h.eq
  obtain ⟨M, B, h4, h5, h6⟩ := List.map_eq_append_iff.1 h3
  refine ⟨A, M, B, by rw [h1, h4], h2, h5, h6, fun x hx => ?_, fun x hx => ?_, ?_⟩
  · exact h.la (tm x) (by rw [← h2]; exact List.mem_map.2 ⟨x, hx, rfl⟩)
  · exact h.lb (tm x) (by rw [← h6]; exact List.mem_map.2 ⟨x, hx, rfl⟩)
  · rcases h.lm with h7 | ⟨y, h7, h8, h9⟩
    · left; subst h7; exact List.map_eq_nil_iff.1 h5
    · right
      subst h7
      obtain ⟨z, hz, hzy⟩ := List.map_eq_singleton_iff.1 h5
      refine ⟨z, hz, ?_⟩
      subst hzy
      simp only [ltM, tm] at h8 h9; omega
theorem tplace_loop (l : List TR08Mark) (w : List TR08Mark) {j : Nat} {e : TR08Mark} (he : l[j]? = some e) (a : Nat) (ha : a ≤ w.length) (hl : w.length < 1000000) (h1 : ∀ x ∈ w.take a, x.op.time < e.op.time) (h2 : ∀ x, w[a]? = some x → ¬ x.op.time < e.op.time) : ∀ (d i n : Nat), i + d = a → d < n → Lw08_WaveTrees.l1 K1 l w (j : Int) n (i : Int) = some (a : Int)
  | d, i, 0, _, h => by omega
  | 0, i, n + 1, hi, _ => by
    have : i = a := by omega
    subst this
    simp only [Lw08_WaveTrees.l1]
    by_cases h : i < w.length
    · obtain ⟨x, hx, _⟩ := drop_cons h
      have := h2 x hx
      rw [dec_lt h]
      simp only [cond_true, atL_nat hx, atL_nat he, Option.bind_some, this, decide_false, cond_false]
    · rw [dec_nlt (by omega)]; rfl
  | d + 1, i, n + 1, hi, hn => by
    obtain ⟨x, hx, _⟩ := drop_cons (l := w) (i := i) (by omega)
    have h3 : x.op.time < e.op.time := h1 x (List.mem_of_getElem? (i := i) (by rw [List.getElem?_take_of_lt (by omega)]; exact hx))
    simp only [Lw08_WaveTrees.l1]
    rw [dec_lt (by omega)]
    simp only [cond_true, atL_nat hx, atL_nat he, Option.bind_some, h3, decide_true, w64_succ (i := i) (by omega)]
    exact tplace_loop l w he a ha hl h1 h2 d (i + 1) n (by omega) (by omega)
theorem tplace (l A M B : List TR08Mark) {j : Nat} {e : TR08Mark} (he : l[j]? = some e) (hl : (A ++ (M ++ B)).length < 1000000) (h1 : ∀ x ∈ A, x.op.time < e.op.time) (h2 : ∀ x ∈ B, e.op.time < x.op.time) (h3 : M = [] ∨ ∃ y, M = [y] ∧ y.op.time = e.op.time) : Lw08_WaveTrees.l1 K1 l (A ++ (M ++ B)) (j : Int) K1 0 = some (A.length : Int) := by
  have hlt : A.length < K1 := by unfold K1; simp at hl; omega
  refine tplace_loop l (A ++ (M ++ B)) he A.length (by simp) hl (fun x hx => ?_) (fun x hx => ?_) A.length 0 K1 (Nat.zero_add _) hlt
  · rw [List.take_left' rfl] at hx; exact h1 x hx
  · rw [List.getElem?_append_right (Nat.le_refl _), Nat.sub_self] at hx
    have hx' := List.mem_of_getElem? hx
    rcases List.mem_append.1 hx' with hx' | hx'
    · rcases h3 with h3 | ⟨y, h3, h4⟩
      · rw [h3] at hx'; cases hx'
      · rw [h3] at hx'; simp at hx'; subst hx'; omega
    · have := h2 x hx'; omega
theorem nat_in {a n : Nat} (h : a ≤ n) : decide ((0 : Int) ≤ (a : Int) ∧ (a : Int) ≤ (n : Int)) = true := by simp; omega
theorem trees_loop (l : List TR08Mark) (hl : l.length ≤ 60) : ∀ (d i n : Nat) {p : PN TMark TSwell} {r : TRef} {w : List TR08Mark}, i + d = l.length → d < n → GrM p r (tms w) 60 i → w.length ≤ i →
    ∃ p' r' w', Lw08_WaveTrees.l0 K1 l n (p, r.index, r.gen, w, (i : Int)) = some (Sum.inr (p', r'.index, r'.gen, w')) ∧ GrM p' r' (tms w') 60 l.length ∧ w'.length ≤ l.length
  | d, i, 0, _, _, _, _, h, _, _ => by omega
  | 0, i, n + 1, p, r, w, hi, _, h, hw => by
    simp only [Lw08_WaveTrees.l0]
    rw [dec_nlt (by omega)]
    have : i = l.length := by omega
    exact ⟨p, r, w, rfl, this ▸ h, by omega⟩
  | d + 1, i, n + 1, p, r, w, hi, hn, h, hw => by
    obtain ⟨e, he, _⟩ := drop_cons (l := l) (i := i) (by omega)
    obtain ⟨a, m, b, hcut, hres⟩ := h.put okM (by decide) (tm e) trivial (by omega) (by simp; omega)
    obtain ⟨A, M, B, hA, rfl, rfl, rfl, c1, c2, c3⟩ := cutR hcut
    rcases hres with ⟨_, h2, _⟩ | ⟨r', p', _, q1, q2⟩
    · simp at h2; omega
    · subst hA
      have hlen : (A ++ (M ++ B)).length = A.length + (M.length + B.length) := by simp
      have q1' : Tree_Put.f opsM K1 p ⟨r.index, r.gen⟩ ⟨e.op, e.here, e.took⟩ = some (true, r', p') := q1
      have q3 := tplace l A M B he (by omega) c1 c2 c3
      have ta : (A ++ (M ++ B)).take A.length = A := List.take_left' rfl
      have key : ∀ w', w' = A ++ e :: B → (M.length ≤ 1) → ∃ p2 r2 w2, Lw08_WaveTrees.l0 K1 l n (p', r'.index, r'.gen, w', ((i + 1 : Nat) : Int)) = some (Sum.inr (p2, r2.index, r2.gen, w2)) ∧ GrM p2 r2 (tms w2) 60 l.length ∧ w2.length ≤ l.length := by
        rintro w' rfl hM
        refine trees_loop l hl d (i + 1) n (by omega) (by omega) ?_ ?_
        · have : tms (A ++ e :: B) = tms A ++ tm e :: tms B := by simp
          rw [this]; exact q2
        · simp at hw ⊢
          rcases c3 with c3 | ⟨y, c3, _⟩
          · subst c3; simp at hw; omega
          · subst c3; simp at hw; omega
      have e1 : A.length - 0 = A.length := Nat.sub_zero _
      simp only [Lw08_WaveTrees.l0]
      rw [dec_lt (by omega)]
      simp only [cond_true, atL_nat he, Option.bind_some, q1', Bool.not_true, cond_false, q3, Int.toNat_natCast, e1, List.drop_zero, ta, List.nil_append]
      rw [nat_in (by omega)]
      simp only [cond_true]
      rw [decide_eq_true (p := ([] : List TR08Mark).length + A.length < 4294967296) (by simp; omega), decide_eq_true (p := A.length + [e].length < 4294967296) (by simp; omega)]
      simp only [cond_true]
      rcases c3 with c3 | ⟨y, c3, c4⟩
      · subst c3
        have hdr : ((A ++ ([] ++ B)).drop A.length).take ((A ++ ([] ++ B)).length - A.length) = B := by
          rw [List.drop_left' rfl, List.take_of_length_le (by simp)]; rfl
        have hfin : (bif decide ((A ++ [e]).length + (((A ++ ([] ++ B)).drop A.length).take ((A ++ ([] ++ B)).length - A.length)).length < 4294967296) then (some (Sum.inr (p', r'.index, r'.gen, (A ++ [e]) ++ ((A ++ ([] ++ B)).drop A.length).take ((A ++ ([] ++ B)).length - A.length))) : Option (Sum Bool (PN TMark TSwell × Int × Int × List TR08Mark))) else none) = some (Sum.inr (p', r'.index, r'.gen, A ++ e :: B)) := by
          rw [hdr, decide_eq_true (by simp at hw ⊢; omega)]; simp
        cases B with
        | nil =>
          rw [dec_nlt (by simp)]
          simp only [cond_false, hfin, Option.bind_some, Sum.elim_inr, w64_succ (i := i) (by omega)]
          exact key _ rfl (by simp)
        | cons z B' =>
          have hz : (A ++ ([] ++ z :: B'))[A.length]? = some z := by rw [List.getElem?_append_right (Nat.le_refl _)]; simp
          have hk : (z.op.time == e.op.time) = false := by have := c2 z List.mem_cons_self; simp; omega
          rw [dec_lt (by simp)]
          simp only [cond_true, atL_nat hz, Option.bind_some, hk, cond_false, hfin, Sum.elim_inr, w64_succ (i := i) (by omega)]
          exact key _ rfl (by simp)
      · subst c3
        have hsu : w64 ((A.length : Int) + 1) = ((A.length + 1 : Nat) : Int) := w64_succ (by omega)
        have hz : (A ++ ([y] ++ B))[A.length]? = some y := by rw [List.getElem?_append_right (Nat.le_refl _)]; simp
        have hk : (y.op.time == e.op.time) = true := by simpa using c4
        have hdr : ((A ++ ([y] ++ B)).drop (A.length + 1)).take ((A ++ ([y] ++ B)).length - (A.length + 1)) = B := by
          rw [show A ++ ([y] ++ B) = (A ++ [y]) ++ B by simp, List.drop_left' (by simp), List.take_of_length_le (by simp; omega)]
        rw [dec_lt (by simp)]
        simp only [cond_true, atL_nat hz, Option.bind_some, hk, hsu, Int.toNat_natCast, hdr]
        rw [nat_in (by simp), decide_eq_true (by simp at hw ⊢; omega)]
        simp only [cond_true, Option.bind_some, Sum.elim_inr, w64_succ (i := i) (by omega)]
        exact key _ (by simp) (by simp)
theorem cut_atM {x e : TMark} {l a m b : List TMark} {i : Nat} (hx : l[i]? = some x) (hc : Cut ltM e l a m b) (he : e.op.time = x.op.time) : a.length = i ∧ m = [x] := by
  rw [hc.eq] at hx
  by_cases h1 : i < a.length
  · rw [List.getElem?_append_left h1] at hx
    have := hc.la x (List.mem_of_getElem? hx)
    unfold ltM at this; omega
  · rw [List.getElem?_append_right (by omega)] at hx
    by_cases h2 : i - a.length < m.length
    · rw [List.getElem?_append_left h2] at hx
      rcases hc.lm with h | ⟨y, h, _, _⟩
      · subst h; simp at h2
      · subst h
        simp only [List.length_cons, List.length_nil] at h2
        have h3 : i - a.length = 0 := by omega
        rw [h3] at hx
        simp at hx
        exact ⟨by omega, by rw [hx]⟩
    · rw [List.getElem?_append_right (by omega)] at hx
      have := hc.lb x (List.mem_of_getElem? hx)
      unfold ltM at this; omega
theorem marks_loop {p : PN TMark TSwell} {r : TRef} {w : List TR08Mark} {c : Int} {B : Nat} (h : GrM p r (tms w) c B) (hl : w.length < 1000000) : ∀ (d i n : Nat), i + d = w.length → d < n → Lw08_WaveTrees.l2 K1 (p, r.index, r.gen, w) n (i : Int) = some (Sum.inr ())
  | d, i, 0, _, h => by omega
  | 0, i, n + 1, hi, _ => by
    simp only [Lw08_WaveTrees.l2]
    rw [dec_nlt (by omega)]; rfl
  | d + 1, i, n + 1, hi, hn => by
    obtain ⟨x, hx, _⟩ := drop_cons (l := w) (i := i) (by omega)
    have hx' : (tms w)[i]? = some (tm x) := by rw [List.getElem?_map, hx]; rfl
    have hl' : (tms w).length < 1000000 := by simpa using hl
    obtain ⟨a, m, b', hc, q2⟩ := h.find okM (by decide) ⟨⟨x.op.time, false, zTItem⟩, false, zTTook⟩ hl'
    obtain ⟨_, rfl⟩ := cut_atM hx' hc rfl
    obtain ⟨a2, m2, b2, hc2, q3⟩ := h.rank okM (by decide) ⟨⟨x.op.time, false, zTItem⟩, false, zTTook⟩ hl'
    obtain ⟨h4, _⟩ := cut_atM hx' hc2 rfl
    have q2' : Tree_Find.f opsM K1 p ⟨r.index, r.gen⟩ ⟨⟨x.op.time, false, zTItem⟩, false, zTTook⟩ = _ := q2
    have q3' : Tree_Rank.f opsM K1 p ⟨r.index, r.gen⟩ ⟨⟨x.op.time, false, zTItem⟩, false, zTTook⟩ = _ := q3
    have e0 : ((i : Int) != (i : Int)) = false := by simp
    simp only [Lw08_WaveTrees.l2]
    rw [dec_lt (by omega)]
    simp only [cond_true, atL_nat hx, Option.bind_some, wave_Key.f, q2', q3', Bool.not_true, cond_false, tm, beq_self_eq_true, Bool.and_self, h4, e0, w64_succ (i := i) (by omega)]
    exact marks_loop h hl d (i + 1) n (by omega) (by omega)
theorem WaveTrees_pure (l : List TR08Mark) (i j : Int) : Lw08_WaveTrees.f 1000001 l i j = some true := by
  unfold Lw08_WaveTrees.f
  simp only [awake08 1000001 (by omega), Option.bind_some, Bool.not_true, cond_false]
  by_cases h : (l.length : Int) > 60
  · simp only [h, decide_true, cond_true, Option.bind_some, Sum.elim_inl]
  · have hl : l.length ≤ 60 := by omega
    have h0 : GrM (⟨[], [], capOf 60, 0, 0⟩ : PN TMark TSwell) zTRef (tms []) 60 0 := Gr.new 60 0 (by decide)
    have hlt : l.length < 1000001 := by omega
    obtain ⟨p, r, w, t1, t2, t3⟩ := trees_loop l hl l.length 0 1000001 (Nat.zero_add _) hlt h0 (by simp)
    replace t1 : Lw08_WaveTrees.l0 1000001 l 1000001 ((⟨[], [], capOf 60, 0, 0⟩ : PN TMark TSwell), zTRef.index, zTRef.gen, ([] : List TR08Mark), 0) = some (Sum.inr (p, r.index, r.gen, w)) := t1
    have hlw : (tms w).length < 1000000 := by simp; omega
    have t4 : Lw08_WaveTrees.l2 1000001 (p, r.index, r.gen, w) 1000001 0 = some (Sum.inr ()) := marks_loop t2 (by omega) w.length 0 K1 (Nat.zero_add _) (by unfold K1; omega)
    have t5 : Tree_Len.f opsM 1000001 p ⟨r.index, r.gen⟩ = some (w.length : Int) := by
      have := t2.len okM
      rw [List.length_map] at this; exact this
    have e0 : ((w.length : Int) != (w.length : Int)) = false := by simp
    simp only [h, decide_false, cond_false, Option.bind_some, Sum.elim_inr, wave_New.f, Tree_New.f, t1, t5, e0, t4]
    have hg : ∀ x : Int, gmin (gmax x 0) (w.length : Int) = min (max x 0) (w.length : Int) := fun x => by unfold gmin gmax; split <;> split <;> omega
    rw [hg, hg]
    obtain ⟨a, ha⟩ : ∃ a : Nat, min (max i 0) (w.length : Int) = a := ⟨(min (max i 0) (w.length : Int)).toNat, by omega⟩
    obtain ⟨b, hb⟩ : ∃ b : Nat, min (max j 0) (w.length : Int) = b := ⟨(min (max j 0) (w.length : Int)).toNat, by omega⟩
    rw [ha, hb]
    by_cases hab : (a : Int) > (b : Int)
    · simp only [hab, decide_true, cond_true]
    · obtain ⟨s, s1, s2⟩ := t2.between okM (by decide) (a : Int) (b : Int) hlw
      have s1' : Tree_Between.f opsM 1000001 p ⟨r.index, r.gen⟩ (a : Int) (b : Int) = some s := s1
      have e2 : seg (tms w) (a : Int) (b : Int) = tms ((w.drop a).take (b - a)) := by
        unfold seg
        rw [Int.toNat_natCast, Int.toNat_natCast, ← List.map_take, ← List.map_drop, List.drop_take]
      rw [e2] at s2
      have hc := comes_eq 1000001 s2 (by simp; omega) (Nat.le_refl _)
      have hle : (0 : Int) ≤ (a : Int) ∧ (a : Int) ≤ (b : Int) ∧ (b : Int) ≤ (w.length : Int) := by omega
      simp only [hab, decide_false, cond_false, s1', Option.bind_some, hle, and_self, decide_true, cond_true, Int.toNat_natCast, hc]
end Go.Proofs.Ytgogiehpenfdpaa

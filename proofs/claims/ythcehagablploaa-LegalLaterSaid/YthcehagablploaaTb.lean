/- Plain facts for the laws of mirrors: items in order. -/
import Derived.Test.YthcehagablploaaT0
namespace Go.Proofs.Ythcehagablploaa
open Go Go.Proofs.Ythcehagablploaa.Sx
set_option linter.unusedVariables false
set_option linter.unusedSimpArgs false

/-! ### items in order -/
def ilt (a b : TItem) : Prop := a.key < b.key ∨ (a.key = b.key ∧ a.id < b.id)
def ile (a b : TItem) : Prop := a.key < b.key ∨ (a.key = b.key ∧ a.id ≤ b.id)
instance (a b : TItem) : Decidable (ilt a b) := by unfold ilt; infer_instance
instance (a b : TItem) : Decidable (ile a b) := by unfold ile; infer_instance
theorem item_ext {a b : TItem} (h1 : a.key = b.key) (h2 : a.id = b.id) : a = b := by cases a; cases b; simp_all
theorem ile_refl (a : TItem) : ile a a := by unfold ile; omega
theorem ile_trans {a b c : TItem} (h : ile a b) (h' : ile b c) : ile a c := by unfold ile at *; omega
theorem ile_antisymm {a b : TItem} (h : ile a b) (h' : ile b a) : a = b := by unfold ile at *; exact item_ext (by omega) (by omega)
theorem not_ilt {a b : TItem} : ¬ ilt a b ↔ ile b a := by unfold ilt ile; omega
theorem ilt_ile {a b : TItem} (h : ilt a b) : ile a b := by unfold ilt at h; unfold ile; omega
theorem ile_total (a b : TItem) : ile a b ∨ ile b a := by unfold ile; omega
theorem ilt_iff {a b : TItem} : ilt a b ↔ ile a b ∧ a ≠ b := by
  constructor
  · intro h; exact ⟨ilt_ile h, fun e => by subst e; unfold ilt at h; omega⟩
  · rintro ⟨h, hn⟩
    rcases Classical.em (ilt a b) with h1 | h1
    · exact h1
    · exact absurd (ile_antisymm h (not_ilt.1 h1)) hn
theorem ilt_trans_le {a b c : TItem} (h : ilt a b) (h' : ile b c) : ilt a c := by unfold ilt ile at *; omega
theorem ile_trans_lt {a b c : TItem} (h : ile a b) (h' : ilt b c) : ilt a c := by unfold ilt ile at *; omega
theorem ilt_irrefl (a : TItem) : ¬ ilt a a := by unfold ilt; omega
/-- The sign of a comparison. -/
def isgn (a b : TItem) : Int := if ilt a b then -1 else if ilt b a then 1 else 0
def csgn (a b : Int) : Int := if a < b then -1 else if b < a then 1 else 0
theorem Ahead_eq (k : Nat) (a b : TItem) : R02_Ahead.f k a b = some (decide (ilt a b)) := by
  unfold R02_Ahead.f ilt
  by_cases h1 : a.key < b.key
  · simp [h1]
  · by_cases h2 : a.key = b.key
    · simp [h2]
    · have h3 : (a.key == b.key) = false := by simpa using h2
      simp [h1, h2, h3]
theorem cmpCompare_eq (k : Nat) (a b : Int) : cmp_Compare.f k a b = some (csgn a b) := by
  unfold cmp_Compare.f cmp_isNaN.f csgn
  by_cases h1 : a < b
  · simp [h1]
  · by_cases h2 : b < a
    · simp [h1, h2]
    · simp [h1, h2]
theorem cmpOr_eq (k : Nat) (hk : 3 ≤ k) (a b : Int) : cmp_Or.f k [a, b] = some (if a ≠ 0 then a else b) := by
  obtain ⟨m, rfl⟩ : ∃ m, k = m + 3 := ⟨k - 3, by omega⟩
  unfold cmp_Or.f
  have e1 : w64 (0 + 1) = 1 := by decide
  have e2 : w64 1 = 1 := by decide
  have e3 : w64 2 = 2 := by decide
  by_cases h1 : a = 0
  · subst h1
    by_cases h2 : b = 0
    · subst h2; simp [cmp_Or.l0, atL, e1, e2, e3]
    · have h3 : (b != 0) = true := by simpa using h2
      simp [cmp_Or.l0, atL, e1, e2, e3, h2, h3]
  · have h3 : (a != 0) = true := by simpa using h1
    simp [cmp_Or.l0, atL, e1, e2, e3, h1, h3]
theorem itemCompare_eq (k : Nat) (hk : 3 ≤ k) (a b : TItem) : item_Compare.f k a b = some (isgn a b) := by
  unfold item_Compare.f
  simp only [cmpCompare_eq, Option.bind_some, cmpOr_eq k hk]
  congr 1
  unfold csgn isgn ilt
  by_cases h1 : a.key < b.key
  · simp [h1]
  · by_cases h2 : b.key < a.key
    · have h3 : ¬ a.key = b.key := by omega
      have h4 : ¬ b.key = a.key := by omega
      simp [h1, h2, h3, h4]
    · have h3 : a.key = b.key := by omega
      simp [h3]

/-! ### sorted lists of items -/
abbrev Sorted (l : List TItem) : Prop := l.Pairwise ile
theorem sorted_perm_eq : ∀ {l l' : List TItem}, Sorted l → Sorted l' → l.Perm l' → l = l' := by
  intro l l' h h' hp
  exact hp.eq_of_pairwise (le := fun a b => ile a b) (fun a b _ _ h1 h2 => ile_antisymm h1 h2) h h'
/-- The document's sort: its inner loop finds the place behind all that are no greater. -/
theorem sorted_place {out : List TItem} {x : TItem} (k : Nat) (l0 : List TItem) (i : Nat) (hi : l0[i]? = some x) (hs : Sorted out) (hl : out.length < 4611686018427387904) : ∀ (j n : Nat), j < n → j ≤ out.length → (∀ y ∈ out.drop j, ilt x y) →
    ∃ m : Nat, m ≤ j ∧ R02_Sorted.l1 k l0 out (i : Int) n (j : Int) = some (m : Int) ∧ (∀ y ∈ out.drop m, ilt x y) ∧ (∀ y ∈ out.take m, ile y x)
  | j, 0, h, _, _ => by omega
  | 0, n + 1, _, _, hd => ⟨0, Nat.le_refl _, by simp [R02_Sorted.l1], hd, by simp⟩
  | j + 1, n + 1, hn, hj, hd => by
    obtain ⟨y, hy, hdr⟩ := drop_cons (l := out) (i := j) (by omega)
    have e0 : decide (((j + 1 : Nat) : Int) > 0) = true := by simp <;> omega
    simp only [R02_Sorted.l1, e0, cond_true, atL_nat hi, w64_pred (i := j) (by omega), atL_nat hy, Option.bind_some, Ahead_eq]
    by_cases h : ilt x y
    · simp only [h, decide_true, cond_true]
      obtain ⟨m, h1, h2, h3, h4⟩ := sorted_place k l0 i hi hs hl j n (by omega) (by omega) (by rw [hdr]; intro z hz; rcases List.mem_cons.1 hz with rfl | hz; exact h; exact hd z hz)
      exact ⟨m, by omega, h2, h3, h4⟩
    · simp only [h, decide_false, cond_false]
      refine ⟨j + 1, Nat.le_refl _, rfl, hd, fun z hz => ?_⟩
      have hyx := not_ilt.1 h
      have ht : out.take (j + 1) = out.take j ++ [y] := by rw [List.take_add_one, hy]; rfl
      rw [ht] at hz
      rcases List.mem_append.1 hz with hz | hz
      · refine ile_trans ?_ hyx
        have hs' : Sorted (out.take j ++ out.drop j) := by rw [List.take_append_drop]; exact hs
        exact (List.pairwise_append.1 hs').2.2 z hz y (by rw [hdr]; exact List.mem_cons_self)
      · simp at hz; subst hz; exact hyx
theorem sorted_loop (k : Nat) (l : List TItem) (hl : l.length < 1000000) (hk : 1000001 ≤ k) : ∀ (d i n : Nat) (out : List TItem), i + d = l.length → d < n → out.length = i → Sorted out → out.Perm (l.take i) →
    ∃ r, R02_Sorted.l0 k l n (out, (i : Int)) = some r ∧ Sorted r ∧ r.Perm l
  | d, i, 0, _, _, h, _, _, _ => by omega
  | 0, i, n + 1, out, hi, _, ho, hs, hp => by
    refine ⟨out, ?_, hs, ?_⟩
    · simp only [R02_Sorted.l0]; rw [dec_nlt (by omega)]; rfl
    · rw [List.take_of_length_le (by omega)] at hp; exact hp
  | d + 1, i, n + 1, out, hi, hn, ho, hs, hp => by
    obtain ⟨x, hx, hdr⟩ := drop_cons (l := l) (i := i) (by omega)
    obtain ⟨m, hm, h2, h3, h4⟩ := sorted_place k l i hx hs (by omega) out.length k (by omega) (Nat.le_refl _) (by simp)
    have g1 : (0 : Int) ≤ (m : Int) ∧ (m : Int) ≤ (out.length : Int) := by omega
    simp only [R02_Sorted.l0]
    rw [dec_lt (by omega)]
    simp only [cond_true, h2, Option.bind_some, g1, and_self, decide_true, List.drop_zero, Nat.sub_zero, Int.toNat_natCast, List.nil_append, List.length_nil, List.length_take, List.length_append, List.length_drop, List.length_singleton, atL_nat hx]
    rw [show decide (0 + min m out.length < 4294967296) = true by simp; omega, show decide (min m out.length + 1 < 4294967296) = true by simp; omega,
      show decide (min m out.length + 1 + min (out.length - m) (out.length - m) < 4294967296) = true by simp; omega]
    simp only [cond_true, Option.bind_some, w64_succ (i := i) (by omega)]
    have e : List.take (out.length - m) (out.drop m) = out.drop m := List.take_of_length_le (by simp)
    rw [e]
    refine sorted_loop k l hl hk d (i + 1) n _ (by omega) (by omega) (by simp; omega) ?_ ?_
    · have hs' : Sorted (out.take m ++ out.drop m) := by rw [List.take_append_drop]; exact hs
      obtain ⟨p1, p2, p3⟩ := List.pairwise_append.1 hs'
      refine List.pairwise_append.2 ⟨List.pairwise_append.2 ⟨p1, List.pairwise_singleton _ _, fun a ha b hb => ?_⟩, p2, fun a ha b hb => ?_⟩
      · simp at hb; subst hb; exact h4 a ha
      · rcases List.mem_append.1 ha with ha | ha
        · exact p3 a ha b hb
        · simp at ha; subst ha; exact ilt_ile (h3 b hb)
    · have ht : l.take (i + 1) = l.take i ++ [x] := by rw [List.take_add_one, hx]; rfl
      rw [ht]
      have h5 : (out.take m ++ [x] ++ out.drop m).Perm (x :: out) := by
        have := List.perm_middle (a := x) (l₁ := out.take m) (l₂ := out.drop m)
        rw [List.take_append_drop] at this
        simpa using this
      exact h5.trans ((List.Perm.cons x hp).trans (List.perm_append_comm (l₁ := [x]) (l₂ := l.take i)))
/-- The document's sort sorts. -/
theorem sorted_f (k : Nat) (l : List TItem) (hl : l.length < 1000000) (hk : 1000001 ≤ k) : ∃ r, R02_Sorted.f k l = some r ∧ Sorted r ∧ r.Perm l := by
  obtain ⟨r, h1, h2, h3⟩ := sorted_loop k l hl hk l.length 0 k [] (by omega) (by omega) rfl List.Pairwise.nil (by simp)
  have h1' : R02_Sorted.l0 k l k ([], 0) = some r := h1
  exact ⟨r, by unfold R02_Sorted.f; rw [h1']; rfl, h2, h3⟩
end Go.Proofs.Ythcehagablploaa

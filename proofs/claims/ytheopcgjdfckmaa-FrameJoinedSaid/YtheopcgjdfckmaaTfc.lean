/- Frames: what is read. -/
import Derived.Test.YtheopcgjdfckmaaTfb
namespace Go.Proofs.Ytheopcgjdfckmaa
open Go Go.Proofs.Ytheopcgjdfckmaa.Sx
set_option linter.unusedVariables false
set_option linter.unusedSimpArgs false

theorem take_l {α : Type} {a b : List α} {n : Nat} (h : a.length = n) : (a ++ b).take n = a := by subst h; simp
theorem drop_l {α : Type} {a b : List α} {n : Nat} (h : a.length = n) : (a ++ b).drop n = b := by subst h; simp
theorem clone_eq (l : List Int) (h : l.length < 4294967296) : slices_Clone.f K1 l = some l := by
  unfold slices_Clone.f
  rw [decide_eq_true (by simpa using h), cond_true, List.nil_append]
theorem get_nil (n : Nat) (acc : List (List Int)) : frame_Get.l0 K1 (n + 1) ([], acc) = some (Sum.inr acc) := by
  rw [frame_Get.l0]; rfl
theorem get_short (n : Nat) (b : List Int) (acc : List (List Int)) (h0 : 0 < b.length) (h8 : b.length < 8) : frame_Get.l0 K1 (n + 1) (b, acc) = some (Sum.inl ([], 40)) := by
  rw [frame_Get.l0, decide_eq_true (p := (b.length : Int) > 0) (by omega), cond_true, decide_eq_true (p := (b.length : Int) < 8) (by omega), cond_true]
theorem get_long (n : Nat) (b : List Int) (acc : List (List Int)) (ho : Oct b) (hb : b.length < 90000) (h8 : 8 ≤ b.length) (hv : b.length - 8 < val (b.take 4)) : frame_Get.l0 K1 (n + 1) (b, acc) = some (Sum.inl ([], 40)) := by
  have p1 : (b.drop 0).take ((4 : Int).toNat - 0) = b.take 4 := by rw [List.drop_zero]; rfl
  have o4 : Oct (b.take 4) := fun x hx => ho x (List.mem_of_mem_take hx)
  have e1 := value_eq (b.take 4) o4 (by rw [List.length_take]; omega)
  have e2 : IntKind.u64.wrap (w64 ((b.length : Int) - 8)) = (b.length : Int) - 8 := by rw [w64_id (by omega) (by omega), wrap64i (by omega) (by omega)]
  rw [frame_Get.l0, decide_eq_true (p := (b.length : Int) > 0) (by omega), cond_true, decide_eq_false (p := (b.length : Int) < 8) (by omega), cond_false, decide_eq_true (p := 0 ≤ (4 : Int) ∧ (4 : Int) ≤ (b.length : Int)) (by omega), cond_true, p1, e1, Option.bind_some, e2]
  rw [decide_eq_true (p := ((val (b.take 4) : Nat) : Int) > (b.length : Int) - 8) (by omega), cond_true]
theorem split_frame {b : List Int} (h8 : 8 ≤ b.length) (hv : val (b.take 4) ≤ b.length - 8) : ∃ hd t sm rest : List Int, b = hd ++ (t ++ (sm ++ rest)) ∧ hd.length = 4 ∧ sm.length = 4 ∧ t.length = val hd := by
  refine ⟨b.take 4, (b.drop 4).take (val (b.take 4)), ((b.drop 4).drop (val (b.take 4))).take 4, ((b.drop 4).drop (val (b.take 4))).drop 4, ?_, ?_, ?_, ?_⟩
  · rw [List.take_append_drop, List.take_append_drop, List.take_append_drop]
  · rw [List.length_take]; omega
  · rw [List.length_take, List.length_drop, List.length_drop]; omega
  · rw [List.length_take, List.length_drop]; omega
theorem get_frame (n : Nat) (hd t sm rest : List Int) (acc : List (List Int)) (h1 : hd.length = 4) (h2 : sm.length = 4) (h3 : t.length = val hd) (hb : t.length + rest.length < 80000) (o1 : Oct hd) (o2 : Oct sm) (ha : acc.length < 1000000) :
    frame_Get.l0 K1 (n + 1) (hd ++ (t ++ (sm ++ rest)), acc) = if crc (hd ++ t) = val sm then frame_Get.l0 K1 n (rest, acc ++ [t]) else some (Sum.inl ([], 41)) := by
  obtain ⟨B, hB⟩ : ∃ B, B = hd ++ (t ++ (sm ++ rest)) := ⟨_, rfl⟩
  have hL : B.length = 8 + t.length + rest.length := by rw [hB]; simp; omega
  have e1 := value_eq hd o1 (by omega)
  have e2 : IntKind.u64.wrap (w64 ((B.length : Int) - 8)) = (B.length : Int) - 8 := by rw [w64_id (by omega) (by omega), wrap64i (by omega) (by omega)]
  have e3 : w64 (4 + w64 ((val hd : Nat) : Int)) = ((4 + t.length : Nat) : Int) := by rw [w64_id (x := ((val hd : Nat) : Int)) (by omega) (by omega), w64_id (by omega) (by omega)]; omega
  have e4 : w64 (((4 + t.length : Nat) : Int) + 4) = ((8 + t.length : Nat) : Int) := by rw [w64_id (by omega) (by omega)]; omega
  have p1 : (B.drop 0).take ((4 : Int).toNat - 0) = hd := by rw [List.drop_zero, hB]; exact take_l h1
  have p2 : (B.drop 0).take ((((4 + t.length : Nat) : Int)).toNat - 0) = hd ++ t := by
    rw [List.drop_zero, hB, ← List.append_assoc]; exact take_l (by simp; omega)
  have p3 : (B.drop (((4 + t.length : Nat) : Int)).toNat).take ((((8 + t.length : Nat) : Int)).toNat - (((4 + t.length : Nat) : Int)).toNat) = sm := by
    rw [hB, ← List.append_assoc, drop_l (by simp; omega)]; exact take_l (by omega)
  have p4 : (B.drop (4 : Int).toNat).take ((((4 + t.length : Nat) : Int)).toNat - (4 : Int).toNat) = t := by
    rw [hB, drop_l (by omega)]; exact take_l (by omega)
  have p5 : (B.drop (((8 + t.length : Nat) : Int)).toNat).take (B.length - (((8 + t.length : Nat) : Int)).toNat) = rest := by
    rw [hL, hB, ← List.append_assoc, ← List.append_assoc, drop_l (by simp; omega), List.take_of_length_le (by omega)]
  have hc := crc_lt (hd ++ t)
  have e5 := crc_sum (hd ++ t) (by simp; omega)
  have e6 := value_eq sm o2 (by omega)
  have e7 : IntKind.u64.wrap ((crc (hd ++ t) : Nat) : Int) = ((crc (hd ++ t) : Nat) : Int) := wrap64 (by omega)
  rw [← hB, frame_Get.l0, decide_eq_true (p := (B.length : Int) > 0) (by omega), cond_true, decide_eq_false (p := (B.length : Int) < 8) (by omega), cond_false, decide_eq_true (p := 0 ≤ (4 : Int) ∧ (4 : Int) ≤ (B.length : Int)) (by omega), cond_true, p1, e1, Option.bind_some, e2]
  rw [decide_eq_false (p := ((val hd : Nat) : Int) > (B.length : Int) - 8) (by omega), cond_false, e3, e4, decide_eq_true (p := 0 ≤ (((4 + t.length : Nat) : Int)) ∧ (((4 + t.length : Nat) : Int)) ≤ (B.length : Int)) (by omega), cond_true, p2, e5, Option.bind_some]
  rw [decide_eq_true (p := 0 ≤ (((4 + t.length : Nat) : Int)) ∧ (((4 + t.length : Nat) : Int)) ≤ (((8 + t.length : Nat) : Int)) ∧ (((8 + t.length : Nat) : Int)) ≤ (B.length : Int)) (by omega), cond_true, p3, e6, Option.bind_some, e7]
  by_cases h : crc (hd ++ t) = val sm
  · rw [if_pos h, h, bne_self_eq_false, cond_false, decide_eq_true (p := 0 ≤ (4 : Int) ∧ (4 : Int) ≤ (((4 + t.length : Nat) : Int)) ∧ (((4 + t.length : Nat) : Int)) ≤ (B.length : Int)) (by omega), cond_true, p4, clone_eq t (by omega), Option.bind_some]
    rw [decide_eq_true (p := acc.length + 1 < 4294967296) (by omega), cond_true, decide_eq_true (p := 0 ≤ (((8 + t.length : Nat) : Int)) ∧ (((8 + t.length : Nat) : Int)) ≤ (B.length : Int)) (by omega), cond_true, p5]
  · have hne : (((crc (hd ++ t) : Nat) : Int) != ((val sm : Nat) : Int)) = true := by rw [bne_iff_ne]; omega
    rw [if_neg h, hne, cond_true]
/-- What Get comes to: the frames that are there. -/
theorem get_spec : ∀ (n : Nat) (b : List Int) (acc : List (List Int)), b.length < n → Oct b → b.length < 80000 → acc.length + b.length < 1000000 →
    (∃ ll, frame_Get.l0 K1 n (b, acc) = some (Sum.inr (acc ++ ll)) ∧ b = frs ll) ∨ ∃ e, frame_Get.l0 K1 n (b, acc) = some (Sum.inl ([], e)) ∧ (e = 40 ∨ e = 41)
  | 0, b, acc, h, _, _, _ => by omega
  | n + 1, b, acc, h, ho, hb, ha => by
    by_cases h0 : b.length = 0
    · have : b = [] := List.eq_nil_of_length_eq_zero h0
      subst this
      exact .inl ⟨[], by rw [get_nil, List.append_nil], rfl⟩
    · by_cases h8 : b.length < 8
      · exact .inr ⟨40, get_short n b acc (by omega) h8, .inl rfl⟩
      · by_cases hv : b.length - 8 < val (b.take 4)
        · exact .inr ⟨40, get_long n b acc ho (by omega) (by omega) hv, .inl rfl⟩
        · obtain ⟨hd, t, sm, rest, rfl, h1, h2, h3⟩ := split_frame (b := b) (by omega) (by omega)
          have o1 : Oct hd := fun x hx => ho x (by simp [hx])
          have o2 : Oct sm := fun x hx => ho x (by simp [hx])
          have o3 : Oct rest := fun x hx => ho x (by simp [hx])
          simp only [List.length_append] at h hb ha
          rw [get_frame n hd t sm rest acc h1 h2 h3 (by omega) o1 o2 (by omega)]
          by_cases hc : crc (hd ++ t) = val sm
          · rw [if_pos hc]
            have e1 : le t.length 4 = hd := by rw [h3, ← h1, le_val hd o1]
            have e2 : le (crc (hd ++ t)) 4 = sm := by rw [hc, ← h2, le_val sm o2]
            have e3 : fr t = hd ++ t ++ sm := by unfold fr; rw [e1, e2]
            rcases get_spec n rest (acc ++ [t]) (by omega) o3 (by omega) (by simp; omega) with ⟨ll, h5, h6⟩ | ⟨e, h5, h6⟩
            · refine .inl ⟨t :: ll, by rw [h5]; simp, ?_⟩
              rw [h6]; unfold frs
              rw [List.map_cons, List.flatten_cons, e3]; simp
            · exact .inr ⟨e, h5, h6⟩
          · rw [if_neg hc]
            exact .inr ⟨41, rfl, .inr rfl⟩
/-- What was put is read. -/
theorem get_put : ∀ (ll : List (List Int)) (n : Nat) (acc : List (List Int)), ll.length < n → (∀ b ∈ ll, Oct b) → (frs ll).length < 80000 → acc.length + ll.length < 1000000 →
    frame_Get.l0 K1 n (frs ll, acc) = some (Sum.inr (acc ++ ll))
  | _, 0, acc, h, _, _, _ => by omega
  | [], n + 1, acc, h, ho, hb, ha => by
    show frame_Get.l0 K1 (n + 1) ([], acc) = _
    rw [get_nil, List.append_nil]
  | t :: ll, n + 1, acc, h, ho, hb, ha => by
    have e0 : frs (t :: ll) = le t.length 4 ++ (t ++ (le (crc (le t.length 4 ++ t)) 4 ++ frs ll)) := by simp [frs, fr]
    rw [e0] at hb ⊢
    simp only [List.length_append, le_len, List.length_cons] at hb ha h
    have hc := crc_lt (le t.length 4 ++ t)
    rw [get_frame n _ t _ (frs ll) acc (le_len _ _) (le_len _ _) (by rw [val_le 4 _ (by omega)]) (by omega) (le_oct _ _) (le_oct _ _) (by omega), val_le 4 (crc _) (by omega), if_pos rfl, get_put ll n (acc ++ [t]) (by omega) (fun b hb => ho b (by simp [hb])) (by omega) (by simp; omega)]
    simp
end Go.Proofs.Ytheopcgjdfckmaa

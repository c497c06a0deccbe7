/- Frames: any octets, as the document reads them. -/
import Derived.Test.YtheopcgjdfckmaaTfd
namespace Go.Proofs.Ytheopcgjdfckmaa
open Go Go.Proofs.Ytheopcgjdfckmaa.Sx
set_option linter.unusedVariables false
set_option linter.unusedSimpArgs false

theorem Value_loop (l : List Int) (hl : Oct l) (h8 : l.length ≤ 8) : ∀ (i n : Nat), i ≤ l.length → i < n → R19_Value.l0 K1 (str l) n (((val (l.drop i) : Nat) : Int), (i : Int) - 1) = some ((val l : Nat) : Int)
  | i, 0, _, h => by omega
  | 0, n + 1, _, _ => by
    rw [R19_Value.l0, decide_eq_false (by omega), cond_false]; rfl
  | i + 1, n + 1, hi, hn => by
    obtain ⟨c, hc, hd⟩ := drop_cons (l := l) (i := i) (by omega)
    have hr := hl c (List.mem_of_getElem? hc)
    have e0 : (((i + 1 : Nat) : Int) - 1) = (i : Int) := by omega
    have hv := val_lt (l.drop (i + 1)) (fun x hx => hl x (List.mem_of_mem_drop hx))
    have hp : 256 ^ (l.drop (i + 1)).length ≤ 256 ^ 7 := Nat.pow_le_pow_right (by decide) (by rw [List.length_drop]; omega)
    have e1 : IntKind.u64.wrap (((val (l.drop (i + 1)) : Nat) : Int) * 256) = ((val (l.drop (i + 1)) : Nat) : Int) * 256 := wrap64i (by omega) (by omega)
    have e2 : IntKind.u64.wrap c = c := wrap64i (by omega) (by omega)
    have e3 : IntKind.u64.wrap (((val (l.drop (i + 1)) : Nat) : Int) * 256 + c) = ((val (l.drop i) : Nat) : Int) := by
      rw [wrap64i (by omega) (by omega), hd, val]; omega
    rw [R19_Value.l0, e0, decide_eq_true (by omega), cond_true, bAt_str hl hc, Option.bind_some, e1, e2, e3, w64_id (by omega) (by omega)]
    exact Value_loop l hl h8 i n (by omega) (by omega)
theorem Value_eq (l : List Int) (hl : Oct l) (h8 : l.length ≤ 8) : R19_Value.f K1 (str l) = some ((val l : Nat) : Int) := by
  have h := Value_loop l hl h8 l.length K1 (Nat.le_refl _) (by unfold K1; omega)
  rw [List.drop_length] at h
  replace h : R19_Value.l0 K1 (str l) K1 (0, (l.length : Int) - 1) = some ((val l : Nat) : Int) := h
  unfold R19_Value.f
  rw [strOfNums_size, w64_id (by omega) (by omega), h]; rfl
theorem rget_nil (n : Nat) (ts : List ByteArray) : R19_Get.l0 K1 (n + 1) (str [], ts) = some (Sum.inr ts) := by
  rw [R19_Get.l0]; rfl
theorem rget_short (n : Nat) (b : List Int) (ts : List ByteArray) (h0 : 0 < b.length) (h8 : b.length < 8) : R19_Get.l0 K1 (n + 1) (str b, ts) = some (Sum.inl ([], 40)) := by
  rw [R19_Get.l0, strOfNums_size, decide_eq_true (p := (b.length : Int) > 0) (by omega), cond_true, decide_eq_true (p := (b.length : Int) < 8) (by omega), cond_true]; rfl
theorem rget_long (n : Nat) (b : List Int) (ts : List ByteArray) (ho : Oct b) (hb : b.length < 90000) (h8 : 8 ≤ b.length) (hv : b.length - 8 < val (b.take 4)) : R19_Get.l0 K1 (n + 1) (str b, ts) = some (Sum.inl ([], 40)) := by
  have p1 : (str b).extract 0 (4 : Int).toNat = str (b.take 4) := by rw [str_extract, List.drop_zero]; rfl
  have o4 : Oct (b.take 4) := fun x hx => ho x (List.mem_of_mem_take hx)
  have e1 := Value_eq (b.take 4) o4 (by rw [List.length_take]; omega)
  have e2 : IntKind.u64.wrap (w64 ((b.length : Int) - 8)) = (b.length : Int) - 8 := by rw [w64_id (by omega) (by omega), wrap64i (by omega) (by omega)]
  rw [R19_Get.l0, strOfNums_size, decide_eq_true (p := (b.length : Int) > 0) (by omega), cond_true, decide_eq_false (p := (b.length : Int) < 8) (by omega), cond_false, decide_eq_true (p := 0 ≤ (4 : Int) ∧ (4 : Int) ≤ (b.length : Int)) (by omega), cond_true, p1, e1, Option.bind_some, e2]
  rw [decide_eq_true (p := ((val (b.take 4) : Nat) : Int) > (b.length : Int) - 8) (by omega), cond_true]; rfl
theorem rget_frame (n : Nat) (hd t sm rest : List Int) (ts : List ByteArray) (h1 : hd.length = 4) (h2 : sm.length = 4) (h3 : t.length = val hd) (hb : t.length + rest.length < 80000) (o1 : Oct hd) (o2 : Oct sm) (o3 : Oct t) (ha : ts.length < 1000000) :
    R19_Get.l0 K1 (n + 1) (str (hd ++ (t ++ (sm ++ rest))), ts) = if fr t = hd ++ (t ++ sm) then R19_Get.l0 K1 n (str rest, ts ++ [str t]) else some (Sum.inl ([], 41)) := by
  obtain ⟨B, hB⟩ : ∃ B, B = hd ++ (t ++ (sm ++ rest)) := ⟨_, rfl⟩
  have hL : B.length = 8 + t.length + rest.length := by rw [hB]; simp; omega
  have e1 := Value_eq hd o1 (by omega)
  have e2 : IntKind.u64.wrap (w64 ((B.length : Int) - 8)) = (B.length : Int) - 8 := by rw [w64_id (by omega) (by omega), wrap64i (by omega) (by omega)]
  have e3 : w64 (4 + w64 ((val hd : Nat) : Int)) = ((4 + t.length : Nat) : Int) := by rw [w64_id (x := ((val hd : Nat) : Int)) (by omega) (by omega), w64_id (by omega) (by omega)]; omega
  have e4 : w64 (8 + w64 ((val hd : Nat) : Int)) = ((8 + t.length : Nat) : Int) := by rw [w64_id (x := ((val hd : Nat) : Int)) (by omega) (by omega), w64_id (by omega) (by omega)]; omega
  have p1 : (str B).extract 0 (4 : Int).toNat = str hd := by rw [str_extract, List.drop_zero, hB]; congr 1; exact take_l h1
  have p2 : (str B).extract 0 (((8 + t.length : Nat) : Int)).toNat = str (hd ++ (t ++ sm)) := by
    rw [str_extract, List.drop_zero, hB, ← List.append_assoc t sm rest, ← List.append_assoc]; congr 1; exact take_l (by simp; omega)
  have p4 : (str B).extract (4 : Int).toNat (((4 + t.length : Nat) : Int)).toNat = str t := by
    rw [str_extract, hB, drop_l (by omega)]; congr 1; exact take_l (by omega)
  have p5 : (str B).extract (((8 + t.length : Nat) : Int)).toNat B.length = str rest := by
    rw [str_extract, hL, hB, ← List.append_assoc, ← List.append_assoc, drop_l (by simp; omega), List.take_of_length_le (by omega)]
  have oc : Oct (hd ++ (t ++ sm)) := by
    intro x hx
    rcases List.mem_append.1 hx with h | h
    · exact o1 x h
    · rcases List.mem_append.1 h with h | h
      · exact o3 x h
      · exact o2 x h
  have e5 := Frame_eq t o3 (by omega)
  have e6 := gseq_str (fr_oct o3) oc
  rw [← hB, R19_Get.l0, strOfNums_size, decide_eq_true (p := (B.length : Int) > 0) (by omega), cond_true, decide_eq_false (p := (B.length : Int) < 8) (by omega), cond_false, decide_eq_true (p := 0 ≤ (4 : Int) ∧ (4 : Int) ≤ (B.length : Int)) (by omega), cond_true, p1, e1, Option.bind_some, e2]
  rw [decide_eq_false (p := ((val hd : Nat) : Int) > (B.length : Int) - 8) (by omega), cond_false, Option.bind_some, Sum.elim_inr, cond_true, Option.bind_some, e3, e4]
  rw [decide_eq_true (p := 0 ≤ (4 : Int) ∧ (4 : Int) ≤ (((4 + t.length : Nat) : Int)) ∧ (((4 + t.length : Nat) : Int)) ≤ (B.length : Int)) (by omega), cond_true, p4, e5, Option.bind_some]
  rw [decide_eq_true (p := 0 ≤ (((8 + t.length : Nat) : Int)) ∧ (((8 + t.length : Nat) : Int)) ≤ (B.length : Int)) (by omega), cond_true, p2, e6]
  by_cases h : fr t = hd ++ (t ++ sm)
  · rw [if_pos h, decide_eq_true h, Bool.not_true, cond_false, decide_eq_true (p := ts.length + ([str t] : List ByteArray).length < 4294967296) (by show ts.length + 1 < 4294967296; omega), cond_true, cond_true, p5]
  · rw [if_neg h, decide_eq_false h, Bool.not_false, cond_true]
theorem gets_both : ∀ (n : Nat) (b : List Int) (acc : List (List Int)) (ts : List ByteArray), b.length < n → Oct b → b.length < 80000 → acc.length + b.length < 900000 → ts.length + b.length < 900000 →
    (∃ ll, frame_Get.l0 K1 n (b, acc) = some (Sum.inr (acc ++ ll)) ∧ R19_Get.l0 K1 n (str b, ts) = some (Sum.inr (ts ++ ll.map str)) ∧ Octs ll ∧ ll.length ≤ b.length) ∨ ∃ e, frame_Get.l0 K1 n (b, acc) = some (Sum.inl ([], e)) ∧ R19_Get.l0 K1 n (str b, ts) = some (Sum.inl ([], e))
  | 0, b, acc, ts, h, _, _, _, _ => by omega
  | n + 1, b, acc, ts, h, ho, hb, ha, ha' => by
    by_cases h0 : b.length = 0
    · have : b = [] := List.eq_nil_of_length_eq_zero h0
      subst this
      exact .inl ⟨[], by rw [get_nil, List.append_nil], by rw [rget_nil]; simp, fun b hb => (List.not_mem_nil hb).elim, by simp⟩
    · by_cases h8 : b.length < 8
      · exact .inr ⟨40, get_short n b acc (by omega) h8, rget_short n b ts (by omega) h8⟩
      · by_cases hv : b.length - 8 < val (b.take 4)
        · exact .inr ⟨40, get_long n b acc ho (by omega) (by omega) hv, rget_long n b ts ho (by omega) (by omega) hv⟩
        · obtain ⟨hd, t, sm, rest, rfl, h1, h2, h3⟩ := split_frame (b := b) (by omega) (by omega)
          have o1 : Oct hd := fun x hx => ho x (by simp [hx])
          have o2 : Oct sm := fun x hx => ho x (by simp [hx])
          have o3 : Oct rest := fun x hx => ho x (by simp [hx])
          have o4 : Oct t := fun x hx => ho x (by simp [hx])
          simp only [List.length_append] at h hb ha ha'
          rw [get_frame n hd t sm rest acc h1 h2 h3 (by omega) o1 o2 (by omega), rget_frame n hd t sm rest ts h1 h2 h3 (by omega) o1 o2 o4 (by omega)]
          have e1 : le t.length 4 = hd := by rw [h3, ← h1, le_val hd o1]
          have hiff : fr t = hd ++ (t ++ sm) ↔ crc (hd ++ t) = val sm := by
            unfold fr
            rw [e1, List.append_assoc]
            constructor
            · intro h
              have h5 := List.append_cancel_left (List.append_cancel_left h)
              rw [← h5, val_le 4 _ (by have := crc_lt (hd ++ t); omega)]
            · intro h
              rw [h]
              have : le (val sm) 4 = sm := by rw [← h2, le_val sm o2]
              rw [this]
          by_cases hc : crc (hd ++ t) = val sm
          · rw [if_pos hc, if_pos (hiff.2 hc)]
            rcases gets_both n rest (acc ++ [t]) (ts ++ [str t]) (by omega) o3 (by omega) (by simp; omega) (by simp; omega) with ⟨ll, h5, h6, h7, h9⟩ | ⟨e, h5, h6⟩
            · refine .inl ⟨t :: ll, by rw [h5]; simp, by rw [h6]; simp, ?_, ?_⟩
              · intro b hb
                rcases List.mem_cons.1 hb with rfl | hb
                · exact o4
                · exact h7 b hb
              · simp only [List.length_cons, List.length_append]; omega
            · exact .inr ⟨e, h5, h6⟩
          · rw [if_neg hc, if_neg (fun h => hc (hiff.1 h))]
            exact .inr ⟨41, rfl, rfl⟩
theorem FrameGets_pure (b : List Int) (ho : Oct b) : Lw19_FrameGets.f K1 b = some true := by
  unfold Lw19_FrameGets.f
  rw [awake19, Option.bind_some, Bool.not_true, cond_false]
  by_cases h : (b.length : Int) > 2000
  · rw [decide_eq_true h]; rfl
  · rw [decide_eq_false h, cond_false, Option.bind_some, Sum.elim_inr]
    rcases gets_both K1 b [] [] (by unfold K1; omega) ho (by omega) (by show 0 + b.length < 900000; omega) (by show 0 + b.length < 900000; omega) with ⟨ll, h1, h2, h3, h4⟩ | ⟨e, h1, h2⟩
    · have e1 : frame_Get.f K1 b = some (ll, 0) := by unfold frame_Get.f; rw [h1]; rfl
      have e2 : R19_Get.f K1 (str b) = some (ll.map str, 0) := by unfold R19_Get.f; replace h2 : R19_Get.l0 K1 K1 (str b, []) = some (Sum.inr (ll.map str)) := h2; rw [h2]; rfl
      rw [e1, Option.bind_some, e2, Option.bind_some]
      show (bif ((0 : Int) == 0) then ((Lw19_same.f K1 ll (ll.map str)).bind fun x7 => bif x7 then (some (gseq (strOfNums b) (strOfNums b))) else (some false)) else (some false)) = _
      rw [beq_self_eq_true, cond_true, same_eq ll ll h3 h3 (by omega), decide_eq_true rfl, Option.bind_some, cond_true, gseq_refl]
    · have e1 : frame_Get.f K1 b = some ([], e) := by unfold frame_Get.f; rw [h1]; rfl
      have e2 : R19_Get.f K1 (str b) = some ([], e) := by unfold R19_Get.f; rw [h2]; rfl
      rw [e1, Option.bind_some, e2, Option.bind_some]
      show (bif (e == e) then ((Lw19_same.f K1 [] ([].map str)).bind fun x7 => bif x7 then (some (gseq (strOfNums b) (strOfNums b))) else (some false)) else (some false)) = _
      rw [beq_self_eq_true, cond_true, same_eq [] [] (fun b hb => (List.not_mem_nil hb).elim) (fun b hb => (List.not_mem_nil hb).elim) (by decide), decide_eq_true rfl, Option.bind_some, cond_true, gseq_refl]
end Go.Proofs.Ytheopcgjdfckmaa

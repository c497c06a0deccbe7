/- Frames: the laws of rows that are put. -/
import Derived.Test.YtheopcgjdfckmaaTfc
namespace Go.Proofs.Ytheopcgjdfckmaa
open Go Go.Proofs.Ytheopcgjdfckmaa.Sx
set_option linter.unusedVariables false
set_option linter.unusedSimpArgs false

theorem awake19 : Lw19_awake.f K1 = some true := by kernel_rfl
abbrev Octs (ll : List (List Int)) : Prop := ∀ b ∈ ll, Oct b
theorem small_loop (ll : List (List Int)) (hl : ll.length < 1000) : ∀ (d i n : Nat), i + d = ll.length → d < n → Lw19_small.l0 K1 ll n (i : Int) = some (Sum.inl false) ∨ (Lw19_small.l0 K1 ll n (i : Int) = some (Sum.inr ()) ∧ ∀ b ∈ ll.drop i, b.length ≤ 300)
  | d, i, 0, _, h => by omega
  | 0, i, n + 1, hi, _ => by
    refine .inr ⟨?_, ?_⟩
    · rw [Lw19_small.l0, dec_nlt (by omega), cond_false]
    · rw [List.drop_eq_nil_of_le (by omega)]; simp
  | d + 1, i, n + 1, hi, hn => by
    obtain ⟨c, hc, hd⟩ := drop_cons (l := ll) (i := i) (by omega)
    rw [Lw19_small.l0, dec_lt (by omega), cond_true, atL_nat hc, Option.bind_some, w64_succ (by omega)]
    by_cases h : (c.length : Int) > 300
    · rw [decide_eq_true h, cond_true]; exact .inl rfl
    · rw [decide_eq_false h, cond_false]
      rcases small_loop ll hl d (i + 1) n (by omega) (by omega) with h1 | ⟨h1, h2⟩
      · exact .inl h1
      · refine .inr ⟨h1, ?_⟩
        rw [hd]
        intro b hb
        rcases List.mem_cons.1 hb with rfl | hb
        · omega
        · exact h2 b hb
theorem small_eq (ll : List (List Int)) : Lw19_small.f K1 ll = some false ∨ (Lw19_small.f K1 ll = some true ∧ ll.length ≤ 20 ∧ ∀ b ∈ ll, b.length ≤ 300) := by
  unfold Lw19_small.f
  by_cases h : (ll.length : Int) > 20
  · rw [decide_eq_true h]; exact .inl rfl
  · rw [decide_eq_false h, cond_false]
    rcases small_loop ll (by omega) ll.length 0 K1 (by omega) (by unfold K1; omega) with h1 | ⟨h1, h2⟩
    · replace h1 : Lw19_small.l0 K1 ll K1 0 = some (Sum.inl false) := h1
      rw [h1]; exact .inl rfl
    · replace h1 : Lw19_small.l0 K1 ll K1 0 = some (Sum.inr ()) := h1
      rw [h1]; exact .inr ⟨rfl, by omega, by simpa using h2⟩
theorem frs_len : ∀ (ll : List (List Int)), (∀ b ∈ ll, b.length ≤ 300) → (frs ll).length ≤ ll.length * 308
  | [], _ => by simp [frs]
  | b :: ll, h => by
    have h1 := h b (by simp)
    have h2 := frs_len ll (fun x hx => h x (by simp [hx]))
    have e0 : frs (b :: ll) = fr b ++ frs ll := by simp [frs]
    rw [e0, List.length_append, fr_len, List.length_cons]; omega
theorem same_loop (ll : List (List Int)) (ll' : List (List Int)) (h1 : Octs ll) (h2 : Octs ll') (hlen : ll.length = ll'.length) (hl : ll.length < 1000000) : ∀ (d i n : Nat), i + d = ll.length → d < n → Lw19_same.l0 K1 ll (ll'.map str) n (i : Int) = if ll.drop i = ll'.drop i then some (Sum.inr ()) else some (Sum.inl false)
  | d, i, 0, _, h => by omega
  | 0, i, n + 1, hi, _ => by
    rw [Lw19_same.l0, dec_nlt (by omega), cond_false, List.drop_eq_nil_of_le (by omega), List.drop_eq_nil_of_le (by omega), if_pos rfl]
  | d + 1, i, n + 1, hi, hn => by
    obtain ⟨c, hc, hd⟩ := drop_cons (l := ll) (i := i) (by omega)
    obtain ⟨c', hc', hd'⟩ := drop_cons (l := ll') (i := i) (by omega)
    have hm : (ll'.map str)[i]? = some (str c') := by rw [List.getElem?_map, hc']; rfl
    rw [Lw19_same.l0, dec_lt (by omega), cond_true, atL_nat hc, Option.bind_some, atL_nat hm, Option.bind_some, w64_succ (by omega), gseq_str (h1 c (List.mem_of_getElem? hc)) (h2 c' (List.mem_of_getElem? hc')), same_loop ll ll' h1 h2 hlen hl d (i + 1) n (by omega) (by omega), hd, hd']
    by_cases h : c = c'
    · subst h; simp
    · simp [h]
theorem same_eq (ll ll' : List (List Int)) (h1 : Octs ll) (h2 : Octs ll') (hl : ll.length < 1000000) : Lw19_same.f K1 ll (ll'.map str) = some (decide (ll = ll')) := by
  unfold Lw19_same.f
  by_cases h : ll.length = ll'.length
  · have e1 : (((ll.length : Int) != ((ll'.map str).length : Int)) : Bool) = false := by rw [List.length_map, h]; simp
    have e2 := same_loop ll ll' h1 h2 h hl ll.length 0 K1 (by omega) (by unfold K1; omega)
    replace e2 : Lw19_same.l0 K1 ll (ll'.map str) K1 0 = if ll = ll' then some (Sum.inr ()) else some (Sum.inl false) := e2
    rw [e1, cond_false, e2]
    by_cases h3 : ll = ll'
    · rw [if_pos h3, decide_eq_true h3]; rfl
    · rw [if_neg h3, decide_eq_false h3]; rfl
  · have e1 : (((ll.length : Int) != ((ll'.map str).length : Int)) : Bool) = true := by rw [List.length_map, bne_iff_ne]; omega
    rw [e1, cond_true, decide_eq_false (fun e => h (by rw [e]))]
theorem puts_loop (ll : List (List Int)) (h1 : Octs ll) (hl : ll.length ≤ 20) (h3 : ∀ b ∈ ll, b.length ≤ 300) : ∀ (d i n : Nat) (v : List Int) (ts : List ByteArray), i + d = ll.length → d < n → v.length ≤ i * 308 → ts.length = i → Lw19_FramePuts.l0 K1 ll n (str v, ts, (i : Int)) = some (str (v ++ frs (ll.drop i)), ts ++ (ll.drop i).map str)
  | d, i, 0, _, _, _, h, _, _ => by omega
  | 0, i, n + 1, v, ts, hi, _, _, _ => by
    rw [Lw19_FramePuts.l0, dec_nlt (by omega), cond_false, List.drop_eq_nil_of_le (by omega)]; simp [frs]
  | d + 1, i, n + 1, v, ts, hi, hn, hv, ht => by
    obtain ⟨c, hc, hd⟩ := drop_cons (l := ll) (i := i) (by omega)
    have hm := List.mem_of_getElem? hc
    have hcl := h3 c hm
    rw [Lw19_FramePuts.l0, dec_lt (by omega), cond_true, atL_nat hc, Option.bind_some, Frame_eq c (h1 c hm) (by omega), Option.bind_some, decide_eq_true (by rw [strOfNums_size, strOfNums_size, fr_len]; omega), cond_true, decide_eq_true (by simp only [List.length_cons, List.length_nil]; omega), cond_true, str_append, w64_succ (by omega), puts_loop ll h1 hl h3 d (i + 1) n _ _ (by omega) (by omega) (by rw [List.length_append, fr_len]; omega) (by simp [ht]), hd]
    simp [frs]
theorem FramePuts_pure (ll : List (List Int)) (ho : Octs ll) : Lw19_FramePuts.f K1 ll = some true := by
  unfold Lw19_FramePuts.f
  rw [awake19, Option.bind_some, Bool.not_true, cond_false]
  rcases small_eq ll with h | ⟨h, h1, h2⟩
  · rw [h]; rfl
  · rw [h]
    have hf := frs_len ll h2
    have e1 := puts_loop ll ho h1 h2 ll.length 0 K1 [] [] (by omega) (by unfold K1; omega) (by simp) rfl
    replace e1 : Lw19_FramePuts.l0 K1 ll K1 (ByteArray.mk #[], [], 0) = some (str (frs ll), ll.map str) := e1
    have e2 := put_eq ll (by omega) (fun b hb => by have := h2 b hb; omega) (by omega)
    have e3 := get_put ll K1 [] (by unfold K1; omega) ho (by omega) (by simp; omega)
    have e4 : frame_Get.f K1 (frs ll) = some (ll, 0) := by unfold frame_Get.f; rw [e3]; rfl
    show (Lw19_FramePuts.l0 K1 ll K1 (ByteArray.mk #[], [], 0)).bind _ = _
    rw [e1, Option.bind_some, e2, Option.bind_some, e4, Option.bind_some]
    show (bif gseq (str (frs ll)) (str (frs ll)) then (bif ((0 : Int) == 0) then ((Lw19_same.f K1 ll (ll.map str)).bind fun x11 => some x11) else (some false)) else (some false)) = _
    rw [gseq_refl, cond_true, same_eq ll ll ho ho (by omega), decide_eq_true rfl]; rfl
theorem texts_loop (ll : List (List Int)) (hl : ll.length < 1000000) : ∀ (d i n : Nat) (ts : List ByteArray), i + d = ll.length → d < n → ts.length = i → Lw19_FrameOctet.l0 K1 ll n (ts, (i : Int)) = some (ts ++ (ll.drop i).map str)
  | d, i, 0, _, _, h, _ => by omega
  | 0, i, n + 1, ts, hi, _, _ => by
    rw [Lw19_FrameOctet.l0, dec_nlt (by omega), cond_false, List.drop_eq_nil_of_le (by omega)]; simp
  | d + 1, i, n + 1, ts, hi, hn, ht => by
    obtain ⟨c, hc, hd⟩ := drop_cons (l := ll) (i := i) (by omega)
    rw [Lw19_FrameOctet.l0, dec_lt (by omega), cond_true, atL_nat hc, Option.bind_some, decide_eq_true (by simp only [List.length_cons, List.length_nil]; omega), cond_true, w64_succ (by omega), texts_loop ll hl d (i + 1) n _ (by omega) (by omega) (by simp [ht]), hd]
    simp
theorem gxor8 {a b : Int} (ha : 0 ≤ a ∧ a < 256) (hb : 0 ≤ b ∧ b < 256) (h0 : b ≠ 0) : (0 ≤ gxor .u8 a b ∧ gxor .u8 a b < 256) ∧ gxor .u8 a b ≠ a := by
  obtain ⟨a, rfl⟩ := Int.eq_ofNat_of_zero_le ha.1
  obtain ⟨b, rfl⟩ := Int.eq_ofNat_of_zero_le hb.1
  have e1 : (BitVec.ofInt IntKind.u8.bits (a : Int)).toNat = a := by simp [IntKind.bits]; omega
  have e2 : (BitVec.ofInt IntKind.u8.bits (b : Int)).toNat = b := by simp [IntKind.bits]; omega
  have hx : gxor .u8 (a : Int) (b : Int) = ((a ^^^ b : Nat) : Int) := by
    have hlt : a ^^^ b < 2 ^ 8 := Nat.xor_lt_two_pow (by omega) (by omega)
    unfold gxor
    rw [BitVec.toNat_xor, e1, e2, wrap8, Nat.mod_eq_of_lt (by omega)]
  have hlt : a ^^^ b < 2 ^ 8 := Nat.xor_lt_two_pow (by omega) (by omega)
  rw [hx]
  refine ⟨⟨by omega, by omega⟩, fun h => h0 ?_⟩
  have h1 : a ^^^ b = a := by omega
  have h2 : a ^^^ (a ^^^ b) = a ^^^ a := by rw [h1]
  rw [← Nat.xor_assoc, Nat.xor_self, Nat.zero_xor] at h2
  omega
theorem FrameOctet_pure (ll : List (List Int)) (at_ turn : Int) (ho : Octs ll) (ht : 0 ≤ turn ∧ turn < 256) : Lw19_FrameOctet.f K1 ll at_ turn = some true := by
  unfold Lw19_FrameOctet.f
  rw [awake19, Option.bind_some, Bool.not_true, cond_false]
  rcases small_eq ll with h | ⟨h, h1, h2⟩
  · rw [h]; rfl
  · rw [h, Option.bind_some, Bool.not_true, cond_false]
    by_cases hz : (ll.length : Int) = 0
    · rw [beq_iff_eq.2 hz]; rfl
    · have e0 : (((ll.length : Int) == 0) : Bool) = false := by rw [beq_eq_false_iff_ne]; exact hz
      rw [e0, cond_false]
      by_cases ht0 : turn = 0
      · rw [beq_iff_eq.2 ht0]; rfl
      · have e0 : ((turn == 0) : Bool) = false := by rw [beq_eq_false_iff_ne]; exact ht0
        rw [e0, cond_false]
        have hf := frs_len ll h2
        have e2 := put_eq ll (by omega) (fun b hb => by have := h2 b hb; omega) (by omega)
        have h8 : 8 ≤ (frs ll).length := by
          cases ll with
          | nil => simp at hz
          | cons b ll =>
            have e0 : frs (b :: ll) = fr b ++ frs ll := by simp [frs]
            rw [e0, List.length_append, fr_len]; omega
        show (frame_Put.f K1 ll).bind _ = _
        rw [e2, Option.bind_some, decide_eq_false (p := ((frs ll).length : Int) < 8) (by omega), cond_false, Rest_eq K1 (by omega) (by omega), Option.bind_some]
        have hk0 : 0 ≤ at_ % ((frs ll).length : Int) := Int.emod_nonneg _ (by omega)
        have hk1 : at_ % ((frs ll).length : Int) < ((frs ll).length : Int) := Int.emod_lt_of_pos _ (by omega)
        obtain ⟨p, hp⟩ := Int.eq_ofNat_of_zero_le hk0
        rw [hp] at hk1 ⊢
        have hx : (frs ll)[p]? = some (frs ll)[p] := List.getElem?_eq_getElem (by omega)
        rw [atL_nat hx, Option.bind_some, Int.toNat_natCast]
        have hfo := frs_oct ho
        obtain ⟨g1, g2⟩ := gxor8 (hfo (frs ll)[p] (List.getElem_mem _)) ht ht0
        generalize hy : gxor .u8 (frs ll)[p] turn = y at g1 g2 ⊢
        have hso : Oct ((frs ll).set p y) := by
          intro x hx
          rcases List.mem_or_eq_of_mem_set hx with h | rfl
          · exact hfo x h
          · exact g1
        have hsl : ((frs ll).set p y).length = (frs ll).length := List.length_set
        rcases get_spec K1 ((frs ll).set p y) [] (by unfold K1; omega) hso (by omega) (by simp; omega) with ⟨l2, e3, e4⟩ | ⟨e, e3, e4⟩
        · have e5 : frame_Get.f K1 ((frs ll).set p y) = some (l2, 0) := by unfold frame_Get.f; rw [e3]; rfl
          have e6 := texts_loop ll (by omega) ll.length 0 K1 [] (by omega) (by unfold K1; omega) rfl
          replace e6 : Lw19_FrameOctet.l0 K1 ll K1 ([], 0) = some (ll.map str) := e6
          rw [e5, Option.bind_some]
          show (bif ((0 : Int) != 0) then _ else ((Lw19_FrameOctet.l0 K1 ll K1 ([], 0)).bind fun x12 => (Lw19_same.f K1 l2 x12).bind fun x14 => some (!x14))) = _
          have hl2o : Octs l2 := by
            intro b hb x hx
            refine hso x ?_
            rw [e4]
            exact List.mem_flatten.2 ⟨fr b, List.mem_map_of_mem hb, by unfold fr; simp [hx]⟩
          have hl2n : l2.length ≤ ((frs ll).set p y).length := by
            rw [e4]
            clear e3 e4 e5 hl2o
            induction l2 with
            | nil => simp
            | cons b l2 ih =>
              have e0 : frs (b :: l2) = fr b ++ frs l2 := by simp [frs]
              rw [e0, List.length_append, fr_len, List.length_cons]; omega
          have hne : l2 ≠ ll := by
            rintro rfl
            have h5 : ((frs l2).set p y)[p]? = (frs l2)[p]? := by rw [e4]
            rw [List.getElem?_set_self (by omega), hx] at h5
            exact g2 (by simpa using h5)
          rw [bne_self_eq_false, cond_false, e6, Option.bind_some, same_eq l2 ll hl2o ho (by omega), Option.bind_some, decide_eq_false hne]; rfl
        · have e5 : frame_Get.f K1 ((frs ll).set p y) = some ([], e) := by unfold frame_Get.f; rw [e3]; rfl
          rw [e5, Option.bind_some]
          rcases e4 with rfl | rfl <;> rfl
end Go.Proofs.Ytheopcgjdfckmaa

/- The law of sums of octets: bit by bit. -/
import Derived.Test.YtheopcgjdfckmaaTcc
namespace Go.Proofs.Ytheopcgjdfckmaa
open Go Go.Proofs.Ytheopcgjdfckmaa.Sx
set_option linter.unusedVariables false
set_option linter.unusedSimpArgs false

theorem wf_u8 {n : Int} (h : (Lit.int .u8 n).wf = true) : 0 ≤ n ∧ n < 256 := by
  unfold Lit.wf at h
  obtain ⟨h1, h2⟩ := (Bool.and_eq_true _ _).mp h
  have h3 := of_decide_eq_true h1
  have h4 := of_decide_eq_true h2
  have e1 : IntKind.u8.min = 0 := by decide
  have e2 : IntKind.u8.max = 255 := by decide
  omega
theorem low_bit (y : BitVec 32) : (gand .u32 (y.toNat : Int) 1 == 1) = y.getLsbD 0 := by
  rw [gand_eq, ofInt_toNat]
  have h1 : BitVec.ofInt 32 1 = 1#32 := rfl
  rw [h1, BitVec.toNat_and, BitVec.getLsbD, Nat.testBit_zero]
  have h2 : (1#32).toNat = 1 := rfl
  rw [h2, Nat.and_one_is_mod]
  rcases Nat.mod_two_eq_zero_or_one y.toNat with h | h <;> rw [h] <;> rfl
theorem shr_one (y : BitVec 32) : gshr .u32 (y.toNat : Int) 1 = ((y >>> 1).toNat : Int) := by
  have h : gshr .u32 (y.toNat : Int) 1 = Int.fdiv (y.toNat : Int) 2 := rfl
  rw [h, BitVec.toNat_ushiftRight, Nat.shiftRight_eq_div_pow, Int.fdiv_eq_ediv_of_nonneg _ (by decide)]
  rfl
theorem bit_loop : ∀ (d n : Nat) (y : BitVec 32) (j : Nat), j + d = 8 → d < n → R18_Sum.l1 K1 n ((y.toNat : Int), (j : Int)) = some ((Lp d y).toNat : Int)
  | d, 0, _, _, _, h => by omega
  | 0, n + 1, y, j, hj, _ => by
    have : j = 8 := by omega
    subst this; rfl
  | d + 1, n + 1, y, j, hj, hn => by
    have ih := fun z => bit_loop d n z (j + 1) (by omega) (by omega)
    simp only [R18_Sum.l1]
    rw [decide_eq_true (by omega : (j : Int) < 8), cond_true, low_bit, shr_one, w64_succ (i := j) (by omega)]
    have e : gxor .u32 ((y >>> 1).toNat : Int) 3988292384 = (((y >>> 1) ^^^ 0xedb88320#32).toNat : Int) := by
      rw [gxor_eq, ofInt_toNat]; rfl
    cases hb : y.getLsbD 0 with
    | true =>
      rw [cond_true, e, ih, Lp]
      unfold Lb; rw [hb]; rfl
    | false =>
      rw [cond_false, ih, Lp]
      unfold Lb; rw [hb]; simp
theorem bAt_str {l : List Int} (hl : ∀ x ∈ l, 0 ≤ x ∧ x < 256) {i : Nat} {c : Int} (h : l[i]? = some c) : bAt (strOfNums l) (i : Int) = some c := by
  have hlt := (List.getElem?_eq_some_iff.1 h).1
  have hr := hl c (List.mem_of_getElem? h)
  unfold bAt
  rw [if_pos (by omega), Int.toNat_natCast]
  have hsz : (strOfNums l).size = l.length := strOfNums_size l
  have h1 : (strOfNums l)[i]? = some (UInt8.ofNat c.toNat) := by
    rw [ByteArray.getElem?_lt' _ _ (by omega)]
    congr 1
    have h2 : (strOfNums l).data.toList[i]? = some (UInt8.ofNat c.toNat) := by rw [strOfNums_data, List.getElem?_map, h]; rfl
    obtain ⟨h3, h4⟩ := List.getElem?_eq_some_iff.1 h2
    rw [← h4]; rfl
  rw [h1, Option.map_some, UInt8.toNat_ofNat']
  congr 1
  have : c.toNat % 2 ^ 8 = c.toNat := Nat.mod_eq_of_lt (by omega)
  rw [this]; omega
theorem byte_loop (l : List Int) (hl : ∀ x ∈ l, 0 ≤ x ∧ x < 256) (hs : l.length < 1000000) : ∀ (d i n : Nat) (v : BitVec 32), i + d = l.length → d < n → R18_Sum.l0 K1 (strOfNums l) n ((v.toNat : Int), (i : Int)) = some ((St v (l.drop i)).toNat : Int)
  | d, i, 0, _, _, h => by omega
  | 0, i, n + 1, v, hi, _ => by
    simp only [R18_Sum.l0, strOfNums_size]
    rw [dec_nlt (by omega), List.drop_eq_nil_of_le (by omega)]; rfl
  | d + 1, i, n + 1, v, hi, hn => by
    obtain ⟨c, hc, hd⟩ := drop_cons (l := l) (i := i) (by omega)
    have e : gxor .u32 (v.toNat : Int) (IntKind.u32.wrap c) = ((v ^^^ BitVec.ofInt 32 c).toNat : Int) := by rw [gxor_eq, ofInt_toNat, wrap_bv]
    have e2 := bit_loop 8 K1 (v ^^^ BitVec.ofInt 32 c) 0 rfl (by decide)
    replace e2 : R18_Sum.l1 K1 K1 (((v ^^^ BitVec.ofInt 32 c).toNat : Int), 0) = some ((Lp 8 (v ^^^ BitVec.ofInt 32 c)).toNat : Int) := e2
    simp only [R18_Sum.l0, strOfNums_size]
    rw [dec_lt (by omega)]
    simp only [cond_true, bAt_str hl hc, Option.bind_some, e, e2, w64_succ (i := i) (by omega)]
    rw [byte_loop l hl hs d (i + 1) n _ (by omega) (by omega), hd]; rfl
theorem gcom_x (a : Int) : gcom .u32 a = gxor .u32 a 4294967295 := by
  have h : gcom .u32 a = gxor .u32 4294967295 a := rfl
  rw [h, gxor_eq, gxor_eq, BitVec.xor_comm]
theorem refSum18 (l : List Int) (hl : ∀ x ∈ l, 0 ≤ x ∧ x < 256) (hs : l.length < 100000) : R18_Sum.f K1 (strOfNums l) = some (gxor .u32 ((St (BitVec.allOnes 32) l).toNat : Int) 4294967295) := by
  have e := byte_loop l hl (by omega) l.length 0 K1 (BitVec.allOnes 32) (Nat.zero_add _) (by unfold K1; omega)
  replace e : R18_Sum.l0 K1 (strOfNums l) K1 (4294967295, 0) = some ((St (BitVec.allOnes 32) l).toNat : Int) := e
  unfold R18_Sum.f
  rw [e]; rfl
theorem crcSum_St (l : List Int) (hs : l.length < 100000) : crc_Sum.f K1 l = some (gxor .u32 ((St (BitVec.allOnes 32) l).toNat : Int) 4294967295) := by
  obtain ⟨x, hx, ht⟩ := nibbles_tab
  have h0 : gcom .u32 0 = ((BitVec.allOnes 32).toNat : Int) := by rw [gcom_x]; decide
  rw [sum_eq hx l (by omega), gcom_x, h0, fold_St ht]
theorem gseq_refl (s : ByteArray) : gseq s s = true := by unfold gseq; simp
theorem CrcSums_pure (l : List Int) (hl : ∀ x ∈ l, 0 ≤ x ∧ x < 256) : Lw18_CrcSums.f K1 l = some true := by
  unfold Lw18_CrcSums.f
  simp only [awake18, Option.bind_some, Bool.not_true, cond_false]
  by_cases h : (l.length : Int) > 2000
  · rw [decide_eq_true h]; rfl
  · rw [decide_eq_false h]
    simp only [cond_false, Option.bind_some, Sum.elim_inr, crcSum_St l (by omega), refSum18 l hl (by omega), beq_self_eq_true, cond_true, gseq_refl]
end Go.Proofs.Ytheopcgjdfckmaa

/- The law of bursts. -/
import Derived.Test.YtheopcgjdfckmaaTcc
namespace Go.Proofs.Ytheopcgjdfckmaa
open Go Go.Proofs.Ytheopcgjdfckmaa.Sx
set_option linter.unusedVariables false
set_option linter.unusedSimpArgs false

/-- The lowest bits of a number, one by one. -/
def lowB (tn : Nat) : Nat → BitVec 32
  | 0 => 0#32
  | i + 1 => if tn.testBit i then lowB tn i ^^^ BitVec.ofNat 32 (2 ^ i) else lowB tn i
theorem lowB_bit (tn : Nat) : ∀ (i j : Nat), i ≤ 32 → (lowB tn i).getLsbD j = (decide (j < i) && tn.testBit j)
  | 0, j, _ => by simp [lowB]
  | i + 1, j, h => by
    have ih := lowB_bit tn i j (by omega)
    have e2 : (BitVec.ofNat 32 (2 ^ i)).getLsbD j = decide (i = j) := by
      rw [BitVec.getLsbD_ofNat, Nat.testBit_two_pow]
      by_cases hij : i = j
      · subst hij; simp; omega
      · simp [hij]
    rw [lowB]
    by_cases hb : tn.testBit i = true
    · rw [if_pos hb, BitVec.getLsbD_xor, ih, e2]
      by_cases hij : i = j
      · subst hij; simp [hb]
      · have : (decide (j < i + 1)) = decide (j < i) := by simp; omega
        simp [hij, this]
    · rw [if_neg hb, ih]
      by_cases hij : i = j
      · subst hij; simp at hb; simp [hb]
      · have : (decide (j < i + 1)) = decide (j < i) := by simp; omega
        rw [this]
theorem lowB_all {tn : Nat} (h : lowB tn 32 = 0#32) (hlt : tn < 4294967296) : tn = 0 := by
  apply Nat.eq_of_testBit_eq
  intro j
  rw [Nat.zero_testBit]
  by_cases hj : j < 32
  · have := lowB_bit tn 32 j (Nat.le_refl _)
    rw [h] at this
    simp [hj] at this
    exact this.symm ▸ rfl
  · exact Nat.testBit_lt_two_pow (Nat.lt_of_lt_of_le hlt (by
      have : (2:Nat) ^ 32 ≤ 2 ^ j := Nat.pow_le_pow_right (by decide) (by omega)
      exact this))
abbrev Octets (l : List Int) : Prop := ∀ x ∈ l, 0 ≤ x ∧ x < 256
theorem gshl8 (q : Nat) (h : q < 8) : gshl .u8 1 (q : Int) = ((2 ^ q : Nat) : Int) := by
  have : q = 0 ∨ q = 1 ∨ q = 2 ∨ q = 3 ∨ q = 4 ∨ q = 5 ∨ q = 6 ∨ q = 7 := by omega
  rcases this with rfl | rfl | rfl | rfl | rfl | rfl | rfl | rfl <;> decide
theorem gxor8 {a : Int} (h0 : 0 ≤ a) (h1 : a < 256) {b : Nat} (hb : b < 256) : 0 ≤ gxor .u8 a (b : Int) ∧ gxor .u8 a (b : Int) < 256 ∧ BitVec.ofInt 32 (gxor .u8 a (b : Int)) = BitVec.ofInt 32 a ^^^ BitVec.ofNat 32 b := by
  obtain ⟨n, rfl⟩ : ∃ n : Nat, a = n := ⟨a.toNat, by omega⟩
  have hn : n < 256 := by omega
  have hx : n ^^^ b < 256 := Nat.xor_lt_two_pow (n := 8) hn hb
  have e : gxor .u8 (n : Int) (b : Int) = ((n ^^^ b : Nat) : Int) := by
    unfold gxor
    have e1 : (BitVec.ofInt IntKind.u8.bits (n : Int) ^^^ BitVec.ofInt IntKind.u8.bits (b : Int)).toNat = n ^^^ b := by
      show (BitVec.ofInt 8 (n : Int) ^^^ BitVec.ofInt 8 (b : Int)).toNat = n ^^^ b
      rw [BitVec.toNat_xor, BitVec.toNat_ofInt, BitVec.toNat_ofInt]
      have a1 : ((n : Int) % ((2 ^ 8 : Nat) : Int)).toNat = n := by omega
      have a2 : ((b : Int) % ((2 ^ 8 : Nat) : Int)).toNat = b := by omega
      rw [a1, a2]
    rw [e1]
    simp only [IntKind.wrap_u8]
    omega
  rw [e]
  refine ⟨by omega, by omega, ?_⟩
  apply BitVec.eq_of_toNat_eq
  rw [BitVec.toNat_xor, BitVec.toNat_ofInt, BitVec.toNat_ofInt, BitVec.toNat_ofNat]
  have a1 : ((n : Int) % ((2 ^ 32 : Nat) : Int)).toNat = n := by omega
  have a2 : (((n ^^^ b : Nat) : Int) % ((2 ^ 32 : Nat) : Int)).toNat = n ^^^ b := by omega
  have a3 : b % 2 ^ 32 = b := by omega
  rw [a1, a2, a3]
theorem bit_test (tn i : Nat) (hi : i < 32) (ht : tn < 4294967296) : (gand .u32 (gshr .u32 (tn : Int) (i : Int)) 1 == 1) = tn.testBit i := by
  have h1 : gshr .u32 (tn : Int) (i : Int) = ((tn / 2 ^ i : Nat) : Int) := by
    have : gshr .u32 (tn : Int) (i : Int) = Int.fdiv (tn : Int) (2 ^ (min i 32)) := rfl
    rw [this, Nat.min_eq_left (by omega), Int.fdiv_eq_ediv_of_nonneg _ (by
      have : (0:Int) ≤ ((2 ^ i : Nat) : Int) := Int.natCast_nonneg _
      simpa using this)]
    have : ((2 ^ i : Nat) : Int) = (2:Int) ^ i := by simp
    rw [← this]; rfl
  have hq : tn / 2 ^ i < 4294967296 := Nat.lt_of_le_of_lt (Nat.div_le_self _ _) ht
  rw [h1, gand_eq, BitVec.toNat_and]
  have a1 : (BitVec.ofInt 32 ((tn / 2 ^ i : Nat) : Int)).toNat = tn / 2 ^ i := by
    rw [BitVec.toNat_ofInt]
    generalize tn / 2 ^ i = z at *
    omega
  have a2 : (BitVec.ofInt 32 1).toNat = 1 := rfl
  rw [a1, a2, Nat.and_one_is_mod, Nat.testBit, Nat.shiftRight_eq_div_pow]
  generalize tn / 2 ^ i = z
  have : z % 2 = 0 ∨ z % 2 = 1 := by omega
  rcases this with h | h
  · have h2 : (1 &&& z) = 0 := by rw [Nat.and_comm, Nat.and_one_is_mod, h]
    rw [h, h2]; rfl
  · have h2 : (1 &&& z) = 1 := by rw [Nat.and_comm, Nat.and_one_is_mod, h]
    rw [h, h2]; rfl
theorem burst_loop (v0 : BitVec 32) (b : List Int) (n t0 tn : Nat) (hn : b.length = n) (h500 : n ≤ 500) (ht0 : t0 + 32 ≤ 8 * n) (htn : tn < 4294967296) : ∀ (d i f : Nat) (l : List Int), i + d = 32 → d < f → l.length = n → Octets l → St v0 l = St v0 b ^^^ Lp (8 * n - t0) (lowB tn i) →
    ∃ c, Lw18_CrcBursts.l0 K1 (tn : Int) (t0 : Int) f (l, (i : Int)) = some c ∧ c.length = n ∧ St v0 c = St v0 b ^^^ Lp (8 * n - t0) (lowB tn 32)
  | d, i, 0, _, _, h, _, _, _ => by omega
  | 0, i, f + 1, l, hi, _, h1, h2, h3 => by
    have : i = 32 := by omega
    subst this
    simp only [Lw18_CrcBursts.l0]
    exact ⟨l, rfl, h1, h3⟩
  | d + 1, i, f + 1, l, hi, hf, h1, h2, h3 => by
    have hb := bit_test tn i (by omega) htn
    simp only [Lw18_CrcBursts.l0]
    rw [decide_eq_true (show ((i : Int) < 32) by omega), decide_eq_true (show (0 ≤ (i : Int)) by omega)]
    simp only [cond_true, hb, w64_succ (i := i) (by omega)]
    cases hbit : tn.testBit i
    · simp only [cond_false]
      refine burst_loop v0 b n t0 tn hn h500 ht0 htn d (i + 1) f l (by omega) (by omega) h1 h2 ?_
      rw [lowB, if_neg (by rw [hbit]; simp)]; exact h3
    · simp only [cond_true]
      have e1 : w64 ((t0 : Int) + (i : Int)) = ((t0 + i : Nat) : Int) := by rw [w64_id (by omega) (by omega)]; omega
      have e2 : w64 ((((t0 + i : Nat) : Int)).tdiv 8) = (((t0 + i) / 8 : Nat) : Int) := by
        have : (((t0 + i : Nat) : Int)).tdiv 8 = (((t0 + i) / 8 : Nat) : Int) := rfl
        rw [this, w64_id (by omega) (by omega)]
      have e3 : (((t0 + i : Nat) : Int)).tmod 8 = (((t0 + i) % 8 : Nat) : Int) := rfl
      have hp : (t0 + i) / 8 < l.length := by omega
      obtain ⟨x, hx, _⟩ := drop_cons hp
      have hxr := h2 x (List.mem_of_getElem? hx)
      have hq : (t0 + i) % 8 < 8 := Nat.mod_lt _ (by decide)
      have hpow : 2 ^ ((t0 + i) % 8) < 256 := by
        have : 2 ^ ((t0 + i) % 8) < 2 ^ 8 := Nat.pow_lt_pow_right (by decide) hq
        exact this
      obtain ⟨g1, g2, g3⟩ := gxor8 hxr.1 hxr.2 hpow
      rw [e1, e2, e3, atL_nat hx]
      simp only [Option.bind_some, Int.toNat_natCast]
      rw [decide_eq_true (show (0 : Int) ≤ (((t0 + i) % 8 : Nat) : Int) by omega), gshl8 _ hq]
      simp only [cond_true]
      refine burst_loop v0 b n t0 tn hn h500 ht0 htn d (i + 1) f _ (by omega) (by omega) (by simpa using h1) (fun y hy => ?_) ?_
      · rcases List.mem_or_eq_of_mem_set hy with hy | rfl
        · exact h2 y hy
        · exact ⟨g1, g2⟩
      · have hs := St_set l v0 ((t0 + i) / 8) x _ _ hx g3
        have k1 : Lp (8 * (l.length - (t0 + i) / 8)) (BitVec.ofNat 32 (2 ^ ((t0 + i) % 8))) = Lp (8 * n - (t0 + i)) 1#32 := by
          rw [show 8 * (l.length - (t0 + i) / 8) = (t0 + i) % 8 + (8 * n - (t0 + i)) by omega, Lp_add, Lp_two _ (by omega)]
        have k2 : Lp (8 * n - t0) (BitVec.ofNat 32 (2 ^ i)) = Lp (8 * n - (t0 + i)) 1#32 := by
          rw [show 8 * n - t0 = i + (8 * n - (t0 + i)) by omega, Lp_add, Lp_two _ (by omega)]
        rw [hs, h3, k1, ← k2, lowB, if_pos hbit, Lp_xor, BitVec.xor_assoc]
theorem CrcBursts_pure (b : List Int) (at_ turn : Int) (hb : Octets b) (h0 : 0 ≤ turn) (h1 : turn < 4294967296) : Lw18_CrcBursts.f K1 b at_ turn = some true := by
  unfold Lw18_CrcBursts.f
  simp only [awake18, Option.bind_some, Bool.not_true, cond_false]
  by_cases c1 : (b.length : Int) > 500
  · simp only [c1, decide_true, cond_true, Option.bind_some, Sum.elim_inl]
  · by_cases c2 : (b.length : Int) < 5
    · simp only [c1, c2, decide_true, decide_false, cond_true, cond_false, Option.bind_some, Sum.elim_inl]
    · by_cases c3 : turn = 0
      · subst c3
        simp only [c1, c2, decide_false, cond_false, beq_self_eq_true, cond_true, Option.bind_some, Sum.elim_inl]
      · have c3' : (turn == 0) = false := by simpa using c3
        obtain ⟨tn, rfl⟩ : ∃ tn : Nat, turn = tn := ⟨turn.toNat, by omega⟩
        have w1 : w64 (w64 (8 * (b.length : Int)) - 31) = 8 * (b.length : Int) - 31 := by
          rw [w64_id (x := 8 * (b.length : Int)) (by omega) (by omega), w64_id (by omega) (by omega)]
        have hm0 := Int.emod_nonneg at_ (show 8 * (b.length : Int) - 31 ≠ 0 by omega)
        have hm1 := Int.emod_lt_of_pos at_ (show (0 : Int) < 8 * (b.length : Int) - 31 by omega)
        simp only [c1, c2, c3', decide_false, cond_false, Option.bind_some, Sum.elim_inr, w1, Rest_eq K1 (show (0 : Int) < 8 * (b.length : Int) - 31 by omega) (by omega)]
        generalize at_ % (8 * (b.length : Int) - 31) = y at *
        obtain ⟨t0, rfl⟩ : ∃ t0 : Nat, y = t0 := ⟨y.toNat, by omega⟩
        obtain ⟨x, hx, htab⟩ := nibbles_tab
        have hg0 : gcom .u32 0 = (((4294967295#32 : BitVec 32).toNat : Nat) : Int) := by decide
        have hlt : 32 < K1 := by decide
        obtain ⟨c, r1, r2, r3⟩ := burst_loop 4294967295#32 b b.length t0 tn rfl (by omega) (by omega) (by omega) 32 0 K1 b (Nat.zero_add _) hlt rfl hb (by
          have : Lp (8 * b.length - t0) (lowB tn 0) = 0#32 := by
            have := Lp_xor (8 * b.length - t0) 0#32 0#32
            simp only [BitVec.xor_self] at this
            exact this
          rw [this, BitVec.xor_zero])
        replace r1 : Lw18_CrcBursts.l0 K1 (tn : Int) (t0 : Int) K1 (([] : List Int) ++ b, 0) = some c := r1
        rw [decide_eq_true (show ([] : List Int).length + b.length < 4294967296 by simp; omega)]
        simp only [cond_true, r1, Option.bind_some, sum_eq hx c (by omega), sum_eq hx b (by omega)]
        rw [hg0, fold_St htab, fold_St htab]
        congr 1
        rw [bne_iff_ne]
        intro he
        have k1 := (St 4294967295#32 c).isLt
        have k2 := (St 4294967295#32 b).isLt
        have he' := congrArg (gcom .u32) he
        rw [gcom_gcom (by omega) (by omega), gcom_gcom (by omega) (by omega)] at he'
        have he2 : St 4294967295#32 c = St 4294967295#32 b := BitVec.eq_of_toNat_eq (by omega)
        rw [r3] at he2
        have he3 : Lp (8 * b.length - t0) (lowB tn 32) = 0#32 := by
          have := congrArg (St 4294967295#32 b ^^^ ·) he2
          simp only [← BitVec.xor_assoc, BitVec.xor_self, BitVec.zero_xor] at this
          exact this
        have := lowB_all (Lp_inj0 _ he3) (by omega)
        omega
theorem wf_u32 {n : Int} (h : (Lit.int .u32 n).wf = true) : 0 ≤ n ∧ n < 4294967296 := by
  unfold Lit.wf at h
  obtain ⟨h1, h2⟩ := (Bool.and_eq_true _ _).mp h
  have h3 := of_decide_eq_true h1
  have h4 := of_decide_eq_true h2
  have e1 : IntKind.u32.min = 0 := by decide
  have e2 : IntKind.u32.max = 4294967295 := by decide
  omega
theorem wf_u8 {n : Int} (h : (Lit.int .u8 n).wf = true) : 0 ≤ n ∧ n < 256 := by
  unfold Lit.wf at h
  obtain ⟨h1, h2⟩ := (Bool.and_eq_true _ _).mp h
  have h3 := of_decide_eq_true h1
  have h4 := of_decide_eq_true h2
  have e1 : IntKind.u8.min = 0 := by decide
  have e2 : IntKind.u8.max = 255 := by decide
  omega
end Go.Proofs.Ytheopcgjdfckmaa

/- The sum bit by bit, over vectors of 32 bits: for the law of bursts (begun). -/
import Derived.Test.YtheopcgjdfckmaaTca
namespace Go.Proofs.Ytheopcgjdfckmaa
open Go Go.Proofs.Ytheopcgjdfckmaa.Sx
set_option linter.unusedVariables false
set_option linter.unusedSimpArgs false

/-- One bit of the sum. -/
def Lb (x : BitVec 32) : BitVec 32 := (x >>> 1) ^^^ (if x.getLsbD 0 then 0xedb88320#32 else 0#32)
theorem Lb_xor (x y : BitVec 32) : Lb (x ^^^ y) = Lb x ^^^ Lb y := by
  unfold Lb
  rw [BitVec.getLsbD_xor, BitVec.ushiftRight_xor_distrib]
  cases x.getLsbD 0 <;> cases y.getLsbD 0 <;> simp
  · ac_rfl
  · ac_rfl
  · rw [show x >>> 1 ^^^ 3988292384#32 ^^^ (y >>> 1 ^^^ 3988292384#32) = x >>> 1 ^^^ y >>> 1 ^^^ (3988292384#32 ^^^ 3988292384#32) by ac_rfl, BitVec.xor_self, BitVec.xor_zero]
theorem Lb_top (x : BitVec 32) : (Lb x).getLsbD 31 = x.getLsbD 0 := by
  unfold Lb
  rw [BitVec.getLsbD_xor, BitVec.getLsbD_ushiftRight]
  cases h : x.getLsbD 0 <;> simp
theorem Lb_even {x : BitVec 32} (h : x.getLsbD 0 = false) : (Lb x).toNat = x.toNat / 2 := by
  unfold Lb
  rw [h]
  simp [BitVec.toNat_ushiftRight, Nat.shiftRight_eq_div_pow]
theorem Lb_back {x : BitVec 32} (h : (Lb x).toNat < 2147483648) : x.toNat = 2 * (Lb x).toNat := by
  have h1 : (Lb x).getLsbD 31 = false := by
    rw [BitVec.getLsbD]
    exact Nat.testBit_lt_two_pow h
  rw [Lb_top] at h1
  have h2 := Lb_even h1
  have h3 : x.toNat % 2 = 0 := by
    rw [BitVec.getLsbD, Nat.testBit_zero] at h1
    simp at h1; omega
  omega
def Lp : Nat → BitVec 32 → BitVec 32
  | 0, x => x
  | n + 1, x => Lp n (Lb x)
theorem Lp_xor : ∀ (n : Nat) (x y : BitVec 32), Lp n (x ^^^ y) = Lp n x ^^^ Lp n y
  | 0, _, _ => rfl
  | n + 1, x, y => by rw [Lp, Lb_xor, Lp_xor n]; rfl
theorem Lp_back : ∀ (n : Nat) (x : BitVec 32), (Lp n x).toNat * 2 ^ n < 4294967296 → x.toNat = (Lp n x).toNat * 2 ^ n
  | 0, x, _ => by simp [Lp]
  | n + 1, x, h => by
    rw [Lp] at h ⊢
    have h1 : (Lp n (Lb x)).toNat * 2 ^ n < 2147483648 := by
      rw [Nat.pow_succ, ← Nat.mul_assoc] at h; omega
    have ih := Lp_back n (Lb x) (by omega)
    have hb := Lb_back (x := x) (by omega)
    rw [hb, ih, Nat.pow_succ, ← Nat.mul_assoc]
    generalize (Lp n (Lb x)).toNat = u
    rw [Nat.mul_comm 2 u, Nat.mul_assoc, Nat.mul_comm 2 (2 ^ n)]
theorem Lp_low : ∀ (n : Nat) (x : BitVec 32), 2 ^ n ∣ x.toNat → (Lp n x).toNat = x.toNat / 2 ^ n
  | 0, x, _ => by simp [Lp]
  | n + 1, x, h => by
    have h0 : x.getLsbD 0 = false := by
      rw [BitVec.getLsbD, Nat.testBit_zero]
      obtain ⟨q, hq⟩ := h
      rw [hq, Nat.pow_succ]
      have : 2 ^ n * 2 * q % 2 = 0 := by rw [Nat.mul_comm (2 ^ n) 2, Nat.mul_assoc]; exact Nat.mul_mod_right _ _
      simp [this]
    have h1 := Lb_even h0
    obtain ⟨q, hq⟩ := h
    have h2 : x.toNat / 2 = 2 ^ n * q := by rw [hq, Nat.pow_succ, Nat.mul_comm (2 ^ n) 2, Nat.mul_assoc, Nat.mul_div_cancel_left _ (by decide)]
    rw [Lp, Lp_low n (Lb x) (by rw [h1, h2]; exact Nat.dvd_mul_right _ _), h1, Nat.div_div_eq_div_mul, Nat.pow_succ, Nat.mul_comm 2]
end Go.Proofs.Ytheopcgjdfckmaa

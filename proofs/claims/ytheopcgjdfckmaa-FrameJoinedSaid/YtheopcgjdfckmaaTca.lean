/- The law of sums of octets, parted anywhere. -/
import Derived.KernelRfl
import Derived.Laws.BitsLemmas
import Derived.Test.YtheopcgjdfckmaaT0
import Derived.Test.YtheopcgjdfckmaaTr
namespace Go.Proofs.Ytheopcgjdfckmaa
open Go Go.Proofs.Ytheopcgjdfckmaa.Sx
set_option linter.unusedVariables false
set_option linter.unusedSimpArgs false

abbrev K1 : Nat := 1000001
theorem awake18 : Lw18_awake.f K1 = some true := by kernel_rfl
theorem wrap_nat {n : Nat} (h : n < 4294967296) : IntKind.u32.wrap (n : Int) = (n : Int) := by
  simp only [IntKind.wrap_u32]; omega
theorem gxor_eq (a b : Int) : gxor .u32 a b = ((BitVec.ofInt 32 a ^^^ BitVec.ofInt 32 b).toNat : Int) := by
  unfold gxor
  exact wrap_nat (BitVec.ofInt 32 a ^^^ BitVec.ofInt 32 b).isLt
theorem gand_eq (a b : Int) : gand .u32 a b = ((BitVec.ofInt 32 a &&& BitVec.ofInt 32 b).toNat : Int) := by
  unfold gand
  exact wrap_nat (BitVec.ofInt 32 a &&& BitVec.ofInt 32 b).isLt
theorem gxor_range (a b : Int) : 0 ≤ gxor .u32 a b ∧ gxor .u32 a b < 4294967296 := by
  rw [gxor_eq]
  have := (BitVec.ofInt 32 a ^^^ BitVec.ofInt 32 b).isLt
  omega
theorem ofInt_toNat (x : BitVec 32) : BitVec.ofInt 32 (x.toNat : Int) = x := by
  apply BitVec.eq_of_toNat_eq
  simp [BitVec.toNat_ofInt]
theorem gcom_gcom {x : Int} (h0 : 0 ≤ x) (h1 : x < 4294967296) : gcom .u32 (gcom .u32 x) = x := by
  unfold gcom
  rw [gxor_eq, gxor_eq, ofInt_toNat, ← BitVec.xor_assoc, BitVec.xor_self, BitVec.zero_xor, BitVec.toNat_ofInt]
  omega
theorem nib_range (a : Int) : 0 ≤ gand .u32 a 15 ∧ gand .u32 a 15 < 16 := by
  rw [gand_eq]
  have h : (BitVec.ofInt 32 a &&& BitVec.ofInt 32 15).toNat ≤ 15 := by
    rw [BitVec.toNat_and]
    exact Nat.and_le_right
  omega
def tabL (x : TArr16Int) : List Int := [x.i0, x.i1, x.i2, x.i3, x.i4, x.i5, x.i6, x.i7, x.i8, x.i9, x.i10, x.i11, x.i12, x.i13, x.i14, x.i15]
theorem tab_at (x : TArr16Int) (a : Int) : ∃ y, atL (tabL x) (gand .u32 a 15) = some y := by
  obtain ⟨h0, h1⟩ := nib_range a
  obtain ⟨n, hn⟩ : ∃ n : Nat, gand .u32 a 15 = n := ⟨(gand .u32 a 15).toNat, by omega⟩
  rw [hn] at h1 ⊢
  have hl : n < (tabL x).length := by simp [tabL]; omega
  exact ⟨(tabL x)[n], atL_nat (List.getElem?_eq_getElem hl)⟩
/-- An octet's step. -/
def stepO (x : TArr16Int) (v c : Int) : Option Int := (atL (tabL x) (gand .u32 (gxor .u32 v (IntKind.u32.wrap c)) 15)).bind fun x4 => (atL (tabL x) (gand .u32 (gxor .u32 (gshr .u32 (gxor .u32 v (IntKind.u32.wrap c)) 4) x4) 15)).bind fun x5 => some (gxor .u32 (gshr .u32 (gxor .u32 (gshr .u32 (gxor .u32 v (IntKind.u32.wrap c)) 4) x4) 4) x5)
theorem stepO_some (x : TArr16Int) (v c : Int) : ∃ y, stepO x v c = some y ∧ 0 ≤ y ∧ y < 4294967296 := by
  unfold stepO
  obtain ⟨x4, h4⟩ := tab_at x (gxor .u32 v (IntKind.u32.wrap c))
  rw [h4]
  simp only [Option.bind_some]
  obtain ⟨x5, h5⟩ := tab_at x (gxor .u32 (gshr .u32 (gxor .u32 v (IntKind.u32.wrap c)) 4) x4)
  rw [h5]
  exact ⟨_, rfl, gxor_range _ _⟩
def stepF (x : TArr16Int) (v c : Int) : Int := (stepO x v c).getD 0
theorem stepF_eq (x : TArr16Int) (v c : Int) : stepO x v c = some (stepF x v c) := by
  obtain ⟨y, h, _⟩ := stepO_some x v c
  unfold stepF; rw [h]; rfl
theorem stepF_range (x : TArr16Int) (v c : Int) : 0 ≤ stepF x v c ∧ stepF x v c < 4294967296 := by
  obtain ⟨y, h, h1⟩ := stepO_some x v c
  unfold stepF; rw [h]; exact h1
theorem more_loop (x : TArr16Int) (l : List Int) (hl : l.length < 1000000) : ∀ (d i n : Nat) (v : Int), i + d = l.length → d < n → crc_More.l0 K1 l x n (v, (i : Int)) = some ((l.drop i).foldl (stepF x) v)
  | d, i, 0, _, _, h => by omega
  | 0, i, n + 1, v, hi, _ => by
    simp only [crc_More.l0]
    rw [dec_nlt (by omega), List.drop_eq_nil_of_le (by omega)]; rfl
  | d + 1, i, n + 1, v, hi, hn => by
    obtain ⟨c, hc, hd⟩ := drop_cons (l := l) (i := i) (by omega)
    have hs := stepF_eq x v c
    have ih := more_loop x l hl d (i + 1) n (stepF x v c) (by omega) (by omega)
    unfold stepO at hs
    obtain ⟨x4, h4⟩ := tab_at x (gxor .u32 v (IntKind.u32.wrap c))
    rw [h4] at hs
    simp only [Option.bind_some] at hs
    obtain ⟨x5, h5⟩ := tab_at x (gxor .u32 (gshr .u32 (gxor .u32 v (IntKind.u32.wrap c)) 4) x4)
    rw [h5] at hs
    simp only [Option.bind_some] at hs
    have hs' := Option.some.inj hs
    unfold tabL at h4 h5
    simp only [crc_More.l0]
    rw [dec_lt (by omega)]
    simp only [cond_true, atL_nat hc, Option.bind_some, h4, h5, hs', w64_succ (i := i) (by omega)]
    rw [hd, List.foldl_cons]
    exact ih
theorem fold_range (x : TArr16Int) : ∀ (l : List Int) (v : Int), 0 ≤ v → v < 4294967296 → 0 ≤ l.foldl (stepF x) v ∧ l.foldl (stepF x) v < 4294967296
  | [], v, h0, h1 => ⟨h0, h1⟩
  | c :: l, v, _, _ => by
    obtain ⟨h2, h3⟩ := stepF_range x v c
    exact fold_range x l _ h2 h3
theorem nibbles_some : ∃ x, crc_nibbles.f K1 = some x := by
  have : (crc_nibbles.f K1).isSome = true := by kernel_rfl
  exact Option.isSome_iff_exists.1 this
theorem more_eq {x : TArr16Int} (hx : crc_nibbles.f K1 = some x) (s : Int) (l : List Int) (hl : l.length < 1000000) : crc_More.f K1 s l = some (gcom .u32 (l.foldl (stepF x) (gcom .u32 s))) := by
  have hlt : l.length < K1 := by unfold K1; omega
  have e := more_loop x l hl l.length 0 K1 (gcom .u32 s) (Nat.zero_add _) hlt
  rw [List.drop_zero] at e
  replace e : crc_More.l0 K1 l x K1 (gcom .u32 s, 0) = _ := e
  unfold crc_More.f
  rw [hx]
  simp only [Option.bind_some, e]
theorem sum_eq {x : TArr16Int} (hx : crc_nibbles.f K1 = some x) (l : List Int) (hl : l.length < 1000000) : crc_Sum.f K1 l = some (gcom .u32 (l.foldl (stepF x) (gcom .u32 0))) := by
  unfold crc_Sum.f; rw [more_eq hx 0 l hl]; rfl
theorem CrcMore_pure (l : List Int) (at_ : Int) : Lw18_CrcMore.f K1 l at_ = some true := by
  unfold Lw18_CrcMore.f
  simp only [awake18, Option.bind_some, Bool.not_true, cond_false]
  by_cases h : (l.length : Int) > 2000
  · simp only [h, decide_true, cond_true, Option.bind_some, Sum.elim_inl]
  · obtain ⟨x, hx⟩ := nibbles_some
    have hw : w64 ((l.length : Int) + 1) = (l.length : Int) + 1 := w64_id (by omega) (by omega)
    simp only [h, decide_false, cond_false, Option.bind_some, Sum.elim_inr, hw, Rest_eq K1 (show (0 : Int) < (l.length : Int) + 1 by omega) (by omega)]
    have a0 := Int.emod_nonneg at_ (show (l.length : Int) + 1 ≠ 0 by omega)
    have a1 := Int.emod_lt_of_pos at_ (show (0 : Int) < (l.length : Int) + 1 by omega)
    generalize at_ % ((l.length : Int) + 1) = y at *
    obtain ⟨i, rfl⟩ : ∃ i : Nat, y = i := ⟨y.toNat, by omega⟩
    have g1 : decide ((0 : Int) ≤ (i : Int) ∧ (i : Int) ≤ (l.length : Int)) = true := by simp; omega
    have hd : (l.drop i).take (l.length - i) = l.drop i := List.take_of_length_le (by simp)
    have r0 := gxor_range (if IntKind.u32.signed then -1 else IntKind.u32.max) 0
    have hr := fold_range x (l.take i) (gcom .u32 0) r0.1 r0.2
    have hsplit : (l.drop i).foldl (stepF x) ((l.take i).foldl (stepF x) (gcom .u32 0)) = l.foldl (stepF x) (gcom .u32 0) := by
      rw [← List.foldl_append, List.take_append_drop]
    simp only [g1, cond_true, Int.toNat_natCast, Nat.sub_zero, List.drop_zero, hd, sum_eq hx (l.take i) (by simp; omega), Option.bind_some, more_eq hx _ (l.drop i) (by simp; omega), gcom_gcom hr.1 hr.2, hsplit, sum_eq hx l (by omega), more_eq hx 0 l (by omega), beq_self_eq_true]
end Go.Proofs.Ytheopcgjdfckmaa

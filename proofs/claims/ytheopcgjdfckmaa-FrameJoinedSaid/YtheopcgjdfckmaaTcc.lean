/- The sum of octets, bit by bit: the table's step is eight bits' (for the law of bursts). -/
import Derived.Test.YtheopcgjdfckmaaTcb
namespace Go.Proofs.Ytheopcgjdfckmaa
open Go Go.Proofs.Ytheopcgjdfckmaa.Sx
set_option linter.unusedVariables false
set_option linter.unusedSimpArgs false

theorem Lp_add : ∀ (a b : Nat) (x : BitVec 32), Lp (a + b) x = Lp b (Lp a x)
  | 0, b, x => by rw [Nat.zero_add]; rfl
  | a + 1, b, x => by rw [show a + 1 + b = (a + b) + 1 by omega, Lp, Lp_add a b, Lp]
theorem Lp_inj0 (n : Nat) {x : BitVec 32} (h : Lp n x = 0#32) : x = 0#32 := by
  have := Lp_back n x (by rw [h]; simp)
  rw [h] at this
  apply BitVec.eq_of_toNat_eq
  simpa using this
def tabC : List Int := (List.range 16).map fun i => ((Lp 4 (BitVec.ofNat 32 i)).toNat : Int)
theorem nibbles_tab : ∃ x, crc_nibbles.f K1 = some x ∧ tabL x = tabC := by
  have h : (match crc_nibbles.f K1 with | some x => decide (tabL x = tabC) | none => false) = true := by kernel_rfl
  cases hx : crc_nibbles.f K1 with
  | none => rw [hx] at h; cases h
  | some x => rw [hx] at h; exact ⟨x, rfl, of_decide_eq_true h⟩
theorem tabC_at (y : BitVec 32) : atL tabC ((y &&& 15#32).toNat : Int) = some ((Lp 4 (y &&& 15#32)).toNat : Int) := by
  have hlt : (y &&& 15#32).toNat < 16 := by
    have : (y &&& 15#32).toNat ≤ 15 := by rw [BitVec.toNat_and]; exact Nat.and_le_right
    omega
  have he : BitVec.ofNat 32 (y &&& 15#32).toNat = y &&& 15#32 := BitVec.ofNat_toNat .. |>.trans (by simp)
  refine atL_nat ?_
  unfold tabC
  rw [List.getElem?_map, List.getElem?_range hlt]
  simp only [Option.map_some, he]
theorem nib_split (y : BitVec 32) : Lp 4 y = (y >>> 4) ^^^ Lp 4 (y &&& 15#32) := by
  have h1 : y = ((y >>> 4) <<< 4) ^^^ (y &&& 15#32) := by
    apply BitVec.eq_of_getLsbD_eq
    intro i hi
    simp only [BitVec.getLsbD_xor, BitVec.getLsbD_shiftLeft, BitVec.getLsbD_ushiftRight, BitVec.getLsbD_and]
    by_cases h4 : i < 4
    · have : i = 0 ∨ i = 1 ∨ i = 2 ∨ i = 3 := by omega
      rcases this with rfl | rfl | rfl | rfl <;> simp
    · have e : 4 + (i - 4) = i := by omega
      have h15 : (15#32).getLsbD i = false := by
        rw [BitVec.getLsbD, BitVec.toNat_ofNat]
        exact Nat.testBit_lt_two_pow (by
          have : (2:Nat) ^ 4 ≤ 2 ^ i := Nat.pow_le_pow_right (by decide) (by omega)
          have e2 : (2:Nat) ^ 4 = 16 := rfl
          have e3 : 15 % 2 ^ 32 = 15 := by decide
          omega)
      have h15' : (15#32)[i] = false := by rw [← BitVec.getLsbD_eq_getElem]; exact h15
      simp [h4, hi, e, h15']
  have h2 : Lp 4 ((y >>> 4) <<< 4) = y >>> 4 := by
    apply BitVec.eq_of_toNat_eq
    have hn : ((y >>> 4) <<< 4).toNat = (y >>> 4).toNat * 16 := by
      rw [BitVec.toNat_shiftLeft, Nat.shiftLeft_eq, BitVec.toNat_ushiftRight, Nat.shiftRight_eq_div_pow]
      have := y.isLt
      omega
    rw [Lp_low 4 _ (by rw [hn]; exact Nat.dvd_mul_left _ _), hn]
    omega
  conv => lhs; rw [h1, Lp_xor, h2]
theorem gxor_bv (a b : Int) : BitVec.ofInt 32 (gxor .u32 a b) = BitVec.ofInt 32 a ^^^ BitVec.ofInt 32 b := by rw [gxor_eq, ofInt_toNat]
theorem ofInt_shr (y : BitVec 32) : gshr .u32 (y.toNat : Int) 4 = ((y >>> 4).toNat : Int) := by
  have h : gshr .u32 (y.toNat : Int) 4 = Int.fdiv (y.toNat : Int) 16 := rfl
  rw [h, BitVec.toNat_ushiftRight, Nat.shiftRight_eq_div_pow, Int.fdiv_eq_ediv_of_nonneg _ (by decide)]
  rfl
theorem wrap_bv (c : Int) : BitVec.ofInt 32 (IntKind.u32.wrap c) = BitVec.ofInt 32 c := by
  rw [IntKind.wrap_u32]
  apply BitVec.eq_of_toNat_eq
  simp only [BitVec.toNat_ofInt]
  omega
/-- Half an octet's step. -/
theorem half (y : BitVec 32) {x : TArr16Int} (hx : tabL x = tabC) : ∃ z, atL (tabL x) (gand .u32 (y.toNat : Int) 15) = some z ∧ gxor .u32 (gshr .u32 (y.toNat : Int) 4) z = ((Lp 4 y).toNat : Int) := by
  have h15 : BitVec.ofInt 32 15 = 15#32 := rfl
  refine ⟨((Lp 4 (y &&& 15#32)).toNat : Int), ?_, ?_⟩
  · rw [hx, gand_eq, ofInt_toNat, h15]; exact tabC_at y
  · rw [ofInt_shr, gxor_eq, ofInt_toNat, ofInt_toNat, ← nib_split]
theorem stepB {x : TArr16Int} (hx : tabL x = tabC) (v c : Int) : stepF x v c = ((Lp 8 (BitVec.ofInt 32 v ^^^ BitVec.ofInt 32 c)).toNat : Int) := by
  have e0 : gxor .u32 v (IntKind.u32.wrap c) = ((BitVec.ofInt 32 v ^^^ BitVec.ofInt 32 c).toNat : Int) := by rw [gxor_eq, wrap_bv]
  unfold stepF stepO
  rw [e0]
  generalize BitVec.ofInt 32 v ^^^ BitVec.ofInt 32 c = y
  obtain ⟨z, h1, h2⟩ := half y hx
  rw [h1]
  simp only [Option.bind_some, h2]
  obtain ⟨z', h3, h4⟩ := half (Lp 4 y) hx
  rw [h3]
  simp only [Option.bind_some, h4, Option.getD_some]
  rw [show (8 : Nat) = 4 + 4 from rfl, Lp_add]
/-- The state behind octets. -/
def St (v : BitVec 32) (l : List Int) : BitVec 32 := l.foldl (fun s c => Lp 8 (s ^^^ BitVec.ofInt 32 c)) v
theorem fold_St {x : TArr16Int} (hx : tabL x = tabC) : ∀ (l : List Int) (v : BitVec 32), l.foldl (stepF x) (v.toNat : Int) = ((St v l).toNat : Int)
  | [], v => rfl
  | c :: l, v => by
    rw [List.foldl_cons, stepB hx, ofInt_toNat, fold_St hx l]; rfl
theorem St_xor : ∀ (l : List Int) (v d : BitVec 32), St (v ^^^ d) l = St v l ^^^ Lp (8 * l.length) d
  | [], v, d => rfl
  | c :: l, v, d => by
    have h1 : St (v ^^^ d) (c :: l) = St (Lp 8 (v ^^^ d ^^^ BitVec.ofInt 32 c)) l := rfl
    have h2 : St v (c :: l) = St (Lp 8 (v ^^^ BitVec.ofInt 32 c)) l := rfl
    have h3 : v ^^^ d ^^^ BitVec.ofInt 32 c = (v ^^^ BitVec.ofInt 32 c) ^^^ d := by ac_rfl
    rw [h1, h2, h3, Lp_xor, St_xor l, List.length_cons, show 8 * (l.length + 1) = 8 + 8 * l.length by omega, Lp_add]
/-- One octet changed. -/
theorem St_set : ∀ (l : List Int) (v : BitVec 32) (p : Nat) (a a' : Int) (e : BitVec 32), l[p]? = some a → BitVec.ofInt 32 a' = BitVec.ofInt 32 a ^^^ e → St v (l.set p a') = St v l ^^^ Lp (8 * (l.length - p)) e
  | [], _, p, _, _, _, h, _ => by simp at h
  | c :: l, v, 0, a, a', e, h, he => by
    simp at h; subst h
    have h1 : St v ((c :: l).set 0 a') = St (Lp 8 (v ^^^ BitVec.ofInt 32 a')) l := rfl
    have h2 : St v (c :: l) = St (Lp 8 (v ^^^ BitVec.ofInt 32 c)) l := rfl
    rw [h1, h2, he, ← BitVec.xor_assoc, Lp_xor, St_xor, List.length_cons, show 8 * (l.length + 1 - 0) = 8 + 8 * l.length by omega, Lp_add]
  | c :: l, v, p + 1, a, a', e, h, he => by
    have h1 : St v ((c :: l).set (p + 1) a') = St (Lp 8 (v ^^^ BitVec.ofInt 32 c)) (l.set p a') := rfl
    have h2 : St v (c :: l) = St (Lp 8 (v ^^^ BitVec.ofInt 32 c)) l := rfl
    rw [h1, h2, St_set l _ p a a' e (by simpa using h) he, List.length_cons, show l.length + 1 - (p + 1) = l.length - p by omega]
theorem Lp_two (q : Nat) (h : q < 32) : Lp q (BitVec.ofNat 32 (2 ^ q)) = 1#32 := by
  have hlt : 2 ^ q < 4294967296 := by
    have : (2:Nat) ^ q < 2 ^ 32 := Nat.pow_lt_pow_right (by decide) h
    exact this
  have hn : (BitVec.ofNat 32 (2 ^ q)).toNat = 2 ^ q := by rw [BitVec.toNat_ofNat]; exact Nat.mod_eq_of_lt hlt
  apply BitVec.eq_of_toNat_eq
  rw [Lp_low q _ (by rw [hn]; exact Nat.dvd_refl _), hn, Nat.div_self (Nat.two_pow_pos q)]; rfl
end Go.Proofs.Ytheopcgjdfckmaa

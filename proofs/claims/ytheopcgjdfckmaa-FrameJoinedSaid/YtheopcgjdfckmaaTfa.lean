/- Frames: octets of numbers, strings of octets. -/
import Derived.Test.YtheopcgjdfckmaaTcs
namespace Go.Proofs.Ytheopcgjdfckmaa
open Go Go.Proofs.Ytheopcgjdfckmaa.Sx
set_option linter.unusedVariables false
set_option linter.unusedSimpArgs false

abbrev Oct (l : List Int) : Prop := ∀ x ∈ l, 0 ≤ x ∧ x < 256
def le (n : Nat) : Nat → List Int
  | 0 => []
  | c + 1 => ((n % 256 : Nat) : Int) :: le (n / 256) c
def val : List Int → Nat
  | [] => 0
  | x :: l => x.toNat + 256 * val l
theorem le_len : ∀ (c n : Nat), (le n c).length = c
  | 0, _ => rfl
  | c + 1, n => by rw [le, List.length_cons, le_len c]
theorem le_oct : ∀ (c n : Nat), Oct (le n c)
  | 0, _ => fun x hx => by simp [le] at hx
  | c + 1, n => by
    intro x hx
    rw [le] at hx
    rcases List.mem_cons.1 hx with rfl | h
    · omega
    · exact le_oct c _ x h
theorem val_le : ∀ (c n : Nat), n < 256 ^ c → val (le n c) = n
  | 0, n, h => by simp at h; subst h; rfl
  | c + 1, n, h => by
    rw [Nat.pow_succ] at h
    rw [le, val, val_le c (n / 256) (by omega)]
    omega
theorem le_val : ∀ (l : List Int), Oct l → le (val l) l.length = l
  | [], _ => rfl
  | x :: l, h => by
    have h1 := h x (by simp)
    rw [List.length_cons, le, val]
    have e1 : (x.toNat + 256 * val l) % 256 = x.toNat := by omega
    have e2 : (x.toNat + 256 * val l) / 256 = val l := by omega
    rw [e1, e2, le_val l (fun y hy => h y (by simp [hy]))]
    congr 1; omega
theorem val_lt : ∀ (l : List Int), Oct l → val l < 256 ^ l.length
  | [], _ => by simp [val]
  | x :: l, h => by
    have h1 := h x (by simp)
    have h2 := val_lt l (fun y hy => h y (by simp [hy]))
    rw [List.length_cons, val, Nat.pow_succ]; omega
theorem val_snoc : ∀ (l : List Int) (x : Int), val (l ++ [x]) = val l + 256 ^ l.length * x.toNat
  | [], x => by simp [val]
  | y :: l, x => by
    rw [List.cons_append, val, val_snoc l x, val, List.length_cons, Nat.pow_succ, Nat.mul_add, ← Nat.mul_assoc, Nat.mul_comm (256 ^ l.length) 256]; omega
theorem val_inj {a b : List Int} (ha : Oct a) (hb : Oct b) (hl : a.length = b.length) (h : val a = val b) : a = b := by rw [← le_val a ha, ← le_val b hb, h, hl]
theorem wrap64 {n : Nat} (h : n < 18446744073709551616) : IntKind.u64.wrap (n : Int) = (n : Int) := by
  simp [IntKind.wrap, IntKind.signed, IntKind.bits]; omega
theorem wrap64i {x : Int} (h0 : 0 ≤ x) (h : x < 18446744073709551616) : IntKind.u64.wrap x = x := by
  obtain ⟨n, rfl⟩ := Int.eq_ofNat_of_zero_le h0
  exact wrap64 (by omega)
theorem wrap8 (n : Nat) : IntKind.u8.wrap (n : Int) = ((n % 256 : Nat) : Int) := by
  simp [IntKind.wrap, IntKind.signed, IntKind.bits]
theorem gor64 {a b : Nat} (ha : a < 18446744073709551616) (hb : b < 18446744073709551616) : gor .u64 (a : Int) (b : Int) = ((a ||| b : Nat) : Int) := by
  have h : (a ||| b) < 2 ^ 64 := Nat.or_lt_two_pow (by omega) (by omega)
  unfold gor
  rw [BitVec.toNat_or]
  have e1 : (BitVec.ofInt IntKind.u64.bits (a : Int)).toNat = a := by simp [IntKind.bits]; omega
  have e2 : (BitVec.ofInt IntKind.u64.bits (b : Int)).toNat = b := by simp [IntKind.bits]; omega
  rw [e1, e2, wrap64 (by omega)]
theorem or_add {a i c : Nat} (h : a < 2 ^ i) : (a ||| (c * 2 ^ i)) = a + 2 ^ i * c := by
  have := Nat.two_pow_add_eq_or_of_lt h c
  rw [Nat.or_comm, Nat.mul_comm c, ← this, Nat.add_comm]
theorem gshl64 {c i : Nat} (hc : c < 256) (hi : i ≤ 7) : gshl .u64 (c : Int) (8 * (i : Int)) = ((c * 2 ^ (8 * i) : Nat) : Int) := by
  have h : c * 2 ^ (8 * i) < 18446744073709551616 := by
    have h1 : 2 ^ (8 * i) ≤ 2 ^ 56 := Nat.pow_le_pow_right (by decide) (by omega)
    have := Nat.mul_lt_mul_of_lt_of_le hc h1 (by decide)
    omega
  unfold gshl
  have e : min (8 * (i : Int)).toNat IntKind.u64.bits = 8 * i := by
    have : (8 * (i : Int)).toNat = 8 * i := by omega
    rw [this]; simp [IntKind.bits]; omega
  rw [e, ← wrap64 h]
  congr 1
theorem pow_256 (i : Nat) : 2 ^ (8 * i) = 256 ^ i := by rw [Nat.pow_mul]
theorem val_loop (l : List Int) (hl : Oct l) (h8 : l.length ≤ 8) : ∀ (d i n : Nat), i + d = l.length → d < n → frame_value.l0 K1 l n (((val (l.take i) : Nat) : Int), (i : Int)) = some ((val l : Nat) : Int)
  | d, i, 0, _, h => by omega
  | 0, i, n + 1, hi, _ => by
    simp only [frame_value.l0]
    rw [dec_nlt (by omega), List.take_of_length_le (by omega)]; rfl
  | d + 1, i, n + 1, hi, hn => by
    obtain ⟨c, hc, hd⟩ := drop_cons (l := l) (i := i) (by omega)
    have hr := hl c (List.mem_of_getElem? hc)
    have ht : l.take (i + 1) = l.take i ++ [c] := by rw [List.take_add_one, hc]; rfl
    have hv := val_lt (l.take i) (fun x hx => hl x (List.mem_of_mem_take hx))
    have hti : (l.take i).length = i := by rw [List.length_take]; omega
    rw [hti, ← pow_256] at hv
    have hp : 2 ^ (8 * i) ≤ 2 ^ 56 := Nat.pow_le_pow_right (by decide) (by omega)
    have hc' : ((c.toNat : Nat) : Int) = c := by omega
    have hb : c.toNat * 2 ^ (8 * i) < 18446744073709551616 := by
      have : c.toNat * 2 ^ (8 * i) ≤ 255 * 2 ^ 56 := Nat.mul_le_mul (by omega) hp
      omega
    simp only [frame_value.l0]
    rw [dec_lt (by omega), w64_id (x := 8 * (i : Int)) (by omega) (by omega), decide_eq_true (by omega : (0 : Int) ≤ 8 * (i : Int))]
    simp only [cond_true, atL_nat hc, Option.bind_some]
    rw [wrap64i (x := c) (by omega) (by omega), w64_succ (by omega)]
    have e1 := gshl64 (c := c.toNat) (i := i) (by omega) (by omega)
    rw [hc'] at e1
    rw [e1, gor64 (by omega) hb, or_add hv, pow_256]
    have e2 := val_snoc (l.take i) c
    rw [hti, ← ht] at e2
    rw [← e2]
    exact val_loop l hl h8 d (i + 1) n (by omega) (by omega)
theorem value_eq (l : List Int) (hl : Oct l) (h8 : l.length ≤ 8) : frame_value.f K1 l = some ((val l : Nat) : Int) := by
  have := val_loop l hl h8 l.length 0 K1 (by omega) (by unfold K1; omega)
  unfold frame_value.f
  replace this : frame_value.l0 K1 l K1 (0, 0) = some ((val l : Nat) : Int) := this
  rw [this]; rfl
/-! strings -/
abbrev str (l : List Int) : ByteArray := strOfNums l
theorem ba_ext {a b : ByteArray} (h : a.data.toList = b.data.toList) : a = b := by
  cases a; cases b
  congr 1
  exact Array.ext' h
theorem str_append (a b : List Int) : str a ++ str b = str (a ++ b) := by
  apply ba_ext
  rw [strOfNums_data, List.map_append, ← strOfNums_data, ← strOfNums_data]
  simp
theorem str_nil : (ByteArray.mk #[]) = str [] := rfl
theorem str_inj {a b : List Int} (ha : Oct a) (hb : Oct b) (h : str a = str b) : a = b := by
  have h1 : (str a).data.toList = (str b).data.toList := by rw [h]
  rw [strOfNums_data, strOfNums_data] at h1
  have hl : a.length = b.length := by have := congrArg List.length h1; simpa using this
  apply List.ext_getElem hl
  intro i h2 h3
  have h4 : (a.map fun n => UInt8.ofNat n.toNat)[i]? = (b.map fun n => UInt8.ofNat n.toNat)[i]? := by rw [h1]
  simp only [List.getElem?_map, List.getElem?_eq_getElem h2, List.getElem?_eq_getElem h3, Option.map_some, Option.some.injEq] at h4
  have h5 := congrArg UInt8.toNat h4
  have ra := ha a[i] (List.getElem_mem h2)
  have rb := hb b[i] (List.getElem_mem h3)
  simp only [UInt8.toNat_ofNat'] at h5
  omega
theorem gseq_iff (a b : ByteArray) : gseq a b = true ↔ a = b := by
  unfold gseq
  rw [beq_iff_eq]
  constructor
  · intro h
    rw [ByteArray.toList_eq, ByteArray.toList_eq] at h
    exact ba_ext h
  · rintro rfl; rfl
theorem gseq_str {a b : List Int} (ha : Oct a) (hb : Oct b) : gseq (str a) (str b) = decide (a = b) := by
  by_cases h : a = b
  · subst h; rw [decide_eq_true rfl]; exact (gseq_iff _ _).2 rfl
  · rw [decide_eq_false h]
    cases hg : gseq (str a) (str b) with
    | false => rfl
    | true => exact absurd (str_inj ha hb ((gseq_iff _ _).1 hg)) h
theorem str_extract (l : List Int) (i j : Nat) : (str l).extract i j = str ((l.drop i).take (j - i)) := by
  apply ba_ext
  rw [strOfNums_data, List.map_take, List.map_drop, ← strOfNums_data]
  simp [ByteArray.data_extract, Array.toList_extract, List.extract_eq_take_drop]
end Go.Proofs.Ytheopcgjdfckmaa

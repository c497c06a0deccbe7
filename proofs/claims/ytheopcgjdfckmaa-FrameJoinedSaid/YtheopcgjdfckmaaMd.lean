/- Layer 6: types, mirrors. Printed by a program of mine. -/
import Derived.KernelRfl
import Derived.Test.YtheopcgjdfckmaaBase
namespace Go.Proofs.Ytheopcgjdfckmaa
open Go Go.Proofs.Ytheopcgjdfckmaa.Sx
set_option linter.unusedVariables false
set_option linter.unusedSimpArgs false
structure TArr16Int where
  i0 : Int
  i1 : Int
  i2 : Int
  i3 : Int
  i4 : Int
  i5 : Int
  i6 : Int
  i7 : Int
  i8 : Int
  i9 : Int
  i10 : Int
  i11 : Int
  i12 : Int
  i13 : Int
  i14 : Int
  i15 : Int
def TArr16Int.st (a : TArr16Int) (o : Nat) (v : Int) : TArr16Int := ⟨if o = 0 then v else a.i0, if o = 1 then v else a.i1, if o = 2 then v else a.i2, if o = 3 then v else a.i3, if o = 4 then v else a.i4, if o = 5 then v else a.i5, if o = 6 then v else a.i6, if o = 7 then v else a.i7, if o = 8 then v else a.i8, if o = 9 then v else a.i9, if o = 10 then v else a.i10, if o = 11 then v else a.i11, if o = 12 then v else a.i12, if o = 13 then v else a.i13, if o = 14 then v else a.i14, if o = 15 then v else a.i15⟩
theorem TArr16Int_st_u32 (a : TArr16Int) (v : Int) (o : Nat) (h : o < 16) : setAt [.v (.int .u32 a.i0), .v (.int .u32 a.i1), .v (.int .u32 a.i2), .v (.int .u32 a.i3), .v (.int .u32 a.i4), .v (.int .u32 a.i5), .v (.int .u32 a.i6), .v (.int .u32 a.i7), .v (.int .u32 a.i8), .v (.int .u32 a.i9), .v (.int .u32 a.i10), .v (.int .u32 a.i11), .v (.int .u32 a.i12), .v (.int .u32 a.i13), .v (.int .u32 a.i14), .v (.int .u32 a.i15)] o [.v (.int .u32 v)] = [.v (.int .u32 (a.st o v).i0), .v (.int .u32 (a.st o v).i1), .v (.int .u32 (a.st o v).i2), .v (.int .u32 (a.st o v).i3), .v (.int .u32 (a.st o v).i4), .v (.int .u32 (a.st o v).i5), .v (.int .u32 (a.st o v).i6), .v (.int .u32 (a.st o v).i7), .v (.int .u32 (a.st o v).i8), .v (.int .u32 (a.st o v).i9), .v (.int .u32 (a.st o v).i10), .v (.int .u32 (a.st o v).i11), .v (.int .u32 (a.st o v).i12), .v (.int .u32 (a.st o v).i13), .v (.int .u32 (a.st o v).i14), .v (.int .u32 (a.st o v).i15)] := by
  have h' : o = 0 ∨ o = 1 ∨ o = 2 ∨ o = 3 ∨ o = 4 ∨ o = 5 ∨ o = 6 ∨ o = 7 ∨ o = 8 ∨ o = 9 ∨ o = 10 ∨ o = 11 ∨ o = 12 ∨ o = 13 ∨ o = 14 ∨ o = 15 := by omega
  rcases h' with rfl | rfl | rfl | rfl | rfl | rfl | rfl | rfl | rfl | rfl | rfl | rfl | rfl | rfl | rfl | rfl <;> rfl
def eTArr16Int (x : TArr16Int) : List Value := [.int .u32 x.i0, .int .u32 x.i1, .int .u32 x.i2, .int .u32 x.i3, .int .u32 x.i4, .int .u32 x.i5, .int .u32 x.i6, .int .u32 x.i7, .int .u32 x.i8, .int .u32 x.i9, .int .u32 x.i10, .int .u32 x.i11, .int .u32 x.i12, .int .u32 x.i13, .int .u32 x.i14, .int .u32 x.i15]
theorem eTArr16Int_len : ∀ x, (eTArr16Int x).length = 16 := fun _ => rfl
theorem eTArr16Int_one : ∀ x, (eTArr16Int x).all Value.oneCell' = true := fun _ => rfl
def crc_nibbles.l1 (k : Nat) : Nat → (Int × Int) → Option (Int)
  | 0, _ => none
  | n + 1, (v101, v102) => bif (decide (v102 < 4)) then (crc_nibbles.l1 k n ((gxor .u32 (gshr .u32 v101 1) (gand .u32 3988292384 (IntKind.u32.wrap (0 - (gand .u32 v101 1))))), (w64 (v102 + 1)))) else (some v101)
def crc_nibbles.l0 (k : Nat) : Nat → (TArr16Int × Int) → Option (TArr16Int)
  | 0, _ => none
  | n + 1, (v1, v2) => bif (decide (v2 < 16)) then (((crc_nibbles.l1 k k ((IntKind.u32.wrap v2), 0)).bind fun x3 => (atL ([v1.i0, v1.i1, v1.i2, v1.i3, v1.i4, v1.i5, v1.i6, v1.i7, v1.i8, v1.i9, v1.i10, v1.i11, v1.i12, v1.i13, v1.i14, v1.i15] : List Int) v2).bind fun x4 => some (TArr16Int.st v1 v2.toNat x3)).bind fun x2 => crc_nibbles.l0 k n (x2, (w64 (v2 + 1)))) else (some v1)
def crc_nibbles.f (k : Nat) : Option (TArr16Int) := (crc_nibbles.l0 k k ((TArr16Int.mk 0 0 0 0 0 0 0 0 0 0 0 0 0 0 0 0), 0)).bind fun x1 => some x1
def crc_More.l0 (k : Nat) (l1 : List Int) (x1 : TArr16Int) : Nat → (Int × Int) → Option (Int)
  | 0, _ => none
  | n + 1, (v1, v2) => bif (decide (v2 < (l1.length : Int))) then ((atL l1 v2).bind fun x3 => (atL ([x1.i0, x1.i1, x1.i2, x1.i3, x1.i4, x1.i5, x1.i6, x1.i7, x1.i8, x1.i9, x1.i10, x1.i11, x1.i12, x1.i13, x1.i14, x1.i15] : List Int) (gand .u32 (gxor .u32 v1 (IntKind.u32.wrap x3)) 15)).bind fun x4 => (atL ([x1.i0, x1.i1, x1.i2, x1.i3, x1.i4, x1.i5, x1.i6, x1.i7, x1.i8, x1.i9, x1.i10, x1.i11, x1.i12, x1.i13, x1.i14, x1.i15] : List Int) (gand .u32 (gxor .u32 (gshr .u32 (gxor .u32 v1 (IntKind.u32.wrap x3)) 4) x4) 15)).bind fun x5 => crc_More.l0 k l1 x1 n ((gxor .u32 (gshr .u32 (gxor .u32 (gshr .u32 (gxor .u32 v1 (IntKind.u32.wrap x3)) 4) x4) 4) x5), (w64 (v2 + 1)))) else (some v1)
def crc_More.f (k : Nat) (a0 : Int) (l1 : List Int) : Option (Int) := (crc_nibbles.f k).bind fun x1 => (crc_More.l0 k l1 x1 k ((gcom .u32 a0), 0)).bind fun x2 => some (gcom .u32 x2)
def crc_Sum.f (k : Nat) (l0 : List Int) : Option (Int) := (crc_More.f k 0 l0).bind fun x1 => some x1
def Lw18_awake.f (k : Nat) : Option (Bool) := (crc_Sum.f k ([49, 50, 51, 52, 53, 54, 55, 56, 57] : List Int)).bind fun x1 => some (x1 == 3421780262)
def R01_Rest.f (k : Nat) (a0 : Int) (a1 : Int) : Option (Int) := bif decide (a1 ≠ 0) then (bif decide (a1 ≠ 0) then (some ((w64 ((a0.tmod a1) + a1)).tmod a1)) else none) else none
def Lw18_CrcMore.f (k : Nat) (l0 : List Int) (a1 : Int) : Option (Bool) := ((Lw18_awake.f k).bind fun x2 => bif (!x2) then ((Lw18_awake.f k).bind fun x3 => some (Sum.inl x3)) else (bif (decide ((l0.length : Int) > 2000)) then ((Lw18_awake.f k).bind fun x4 => some (Sum.inl x4)) else (some (Sum.inr ())))).bind (Sum.elim (fun r => some r) (fun w1 => (R01_Rest.f k a1 (w64 ((l0.length : Int) + 1))).bind fun x5 => bif decide (0 ≤ x5 ∧ x5 ≤ (l0.length : Int)) then ((crc_Sum.f k ((l0.drop 0).take (((x5).toNat) - 0))).bind fun x6 => bif decide (0 ≤ x5 ∧ x5 ≤ (l0.length : Int)) then ((crc_More.f k x6 ((l0.drop ((x5).toNat)).take (l0.length - ((x5).toNat)))).bind fun x7 => (crc_Sum.f k l0).bind fun x8 => bif (x7 == x8) then ((crc_More.f k 0 l0).bind fun x9 => (crc_Sum.f k l0).bind fun x10 => some (x9 == x10)) else (some false)) else none) else none))
def R18_Sum.l1 (k : Nat) : Nat → (Int × Int) → Option (Int)
  | 0, _ => none
  | n + 1, (v101, v102) => bif (decide (v102 < 8)) then (bif ((gand .u32 v101 1) == 1) then (R18_Sum.l1 k n ((gxor .u32 (gshr .u32 v101 1) 3988292384), (w64 (v102 + 1)))) else (R18_Sum.l1 k n ((gshr .u32 v101 1), (w64 (v102 + 1))))) else (some v101)
def R18_Sum.l0 (k : Nat) (a0 : ByteArray) : Nat → (Int × Int) → Option (Int)
  | 0, _ => none
  | n + 1, (v1, v2) => bif (decide (v2 < (a0.size : Int))) then (((bAt a0 v2).bind fun x3 => R18_Sum.l1 k k ((gxor .u32 v1 (IntKind.u32.wrap x3)), 0)).bind fun x2 => R18_Sum.l0 k a0 n (x2, (w64 (v2 + 1)))) else (some v1)
def R18_Sum.f (k : Nat) (a0 : ByteArray) : Option (Int) := (R18_Sum.l0 k a0 k (4294967295, 0)).bind fun x1 => some (gxor .u32 x1 4294967295)
def Lw18_CrcSums.f (k : Nat) (l0 : List Int) : Option (Bool) := ((Lw18_awake.f k).bind fun x2 => bif (!x2) then ((Lw18_awake.f k).bind fun x3 => some (Sum.inl x3)) else (bif (decide ((l0.length : Int) > 2000)) then ((Lw18_awake.f k).bind fun x4 => some (Sum.inl x4)) else (some (Sum.inr ())))).bind (Sum.elim (fun r => some r) (fun w1 => (crc_Sum.f k l0).bind fun x5 => (R18_Sum.f k (strOfNums l0)).bind fun x6 => bif (x5 == x6) then (some (gseq (strOfNums l0) (strOfNums l0))) else (some false)))
def frame_little.l0 (k : Nat) (a0 : Int) (a1 : Int) : Nat → (List Int × Int) → Option (List Int)
  | 0, _ => none
  | n + 1, (v1, v2) => bif (decide (v2 < ((List.replicate (a1).toNat (0 : Int)).length : Int))) then (bif decide (0 ≤ (w64 (8 * v2))) then ((atL v1 v2).bind fun x2 => frame_little.l0 k a0 a1 n ((v1.set ((v2).toNat) (IntKind.u8.wrap (gshr .u64 a0 (w64 (8 * v2))))), (w64 (v2 + 1)))) else none) else (some v1)
def frame_little.f (k : Nat) (a0 : Int) (a1 : Int) : Option (List Int) := bif decide (0 ≤ a1 ∧ a1 < 4294967296) then ((frame_little.l0 k a0 a1 k ((List.replicate (a1).toNat (0 : Int)), 0)).bind fun x1 => some x1) else none
def slices_Grow.f (k : Nat) (l0 : List Int) (a1 : Int) : Option (List Int) := (bif (decide (a1 < 0)) then (none) else (some ())).bind fun x1 => bif (decide ((w64 (a1 - (w64 (0 - 0)))) > 0)) then (bif decide (0 < (w64 (a1 - (w64 (0 - 0)))) ∧ (w64 (a1 - (w64 (0 - 0)))) < 4294967296) then (some ((List.replicate ((w64 (a1 - (w64 (0 - 0))))).toNat (0 : Int)).take 0)) else none) else (some ([] : List Int))
def slices_Concat.l0 (k : Nat) (l0 : List (List Int)) : Nat → (Int × Int) → Option (Int)
  | 0, _ => none
  | n + 1, (v1, v2) => bif (decide (v2 < (l0.length : Int))) then ((atL l0 v2).bind fun x2 => bif (decide ((w64 (v1 + (x2.length : Int))) < 0)) then (none) else (slices_Concat.l0 k l0 n ((w64 (v1 + (x2.length : Int))), (w64 (v2 + 1))))) else (some v1)
def slices_Concat.l1 (k : Nat) (l0 : List (List Int)) : Nat → (List Int × Int) → Option (List Int)
  | 0, _ => none
  | n + 1, (v101, v102) => bif (decide (v102 < (l0.length : Int))) then ((atL l0 v102).bind fun x5 => bif decide (v101.length + x5.length < 4294967296) then (slices_Concat.l1 k l0 n ((v101 ++ x5), (w64 (v102 + 1)))) else none) else (some v101)
def slices_Concat.f (k : Nat) (l0 : List (List Int)) : Option (List Int) := (slices_Concat.l0 k l0 k (0, 0)).bind fun x1 => (slices_Grow.f k ([] : List Int) x1).bind fun x3 => (slices_Concat.l1 k l0 k (x3, 0)).bind fun x4 => some x4
def frame_Put.l0 (k : Nat) (l0 : List (List Int)) : Nat → (List Int × Int) → Option (List Int)
  | 0, _ => none
  | n + 1, (v1, v2) => bif (decide (v2 < (l0.length : Int))) then ((atL l0 v2).bind fun x2 => (frame_little.f k (IntKind.u64.wrap (x2.length : Int)) 4).bind fun x3 => (crc_Sum.f k x3).bind fun x4 => (crc_More.f k x4 x2).bind fun x5 => (frame_little.f k (IntKind.u64.wrap x5) 4).bind fun x6 => (slices_Concat.f k ([v1, x3, x2, x6])).bind fun x7 => frame_Put.l0 k l0 n (x7, (w64 (v2 + 1)))) else (some v1)
def frame_Put.f (k : Nat) (l0 : List (List Int)) : Option (List Int) := (frame_Put.l0 k l0 k (([] : List Int), 0)).bind fun x1 => some x1
def Lw19_awake.f (k : Nat) : Option (Bool) := (frame_Put.f k ([([] : List Int)])).bind fun x1 => some (gseq (strOfNums x1) (ByteArray.mk #[0, 0, 0, 0, 28, 223, 68, 33]))
def Lw19_small.l0 (k : Nat) (l0 : List (List Int)) : Nat → Int → Option (Sum (Bool) (Unit))
  | 0, _ => none
  | n + 1, v1 => bif (decide (v1 < (l0.length : Int))) then ((atL l0 v1).bind fun x2 => bif (decide ((x2.length : Int) > 300)) then (some (Sum.inl false)) else (Lw19_small.l0 k l0 n (w64 (v1 + 1)))) else (some (Sum.inr ()))
def Lw19_small.f (k : Nat) (l0 : List (List Int)) : Option (Bool) := bif (decide ((l0.length : Int) > 20)) then (some false) else ((Lw19_small.l0 k l0 k 0).bind (Sum.elim (fun r => some r) (fun w1 => some true)))
def R19_Little.l0 (k : Nat) (a1 : Int) : Nat → (Int × ByteArray × Int) → Option (ByteArray)
  | 0, _ => none
  | n + 1, (v1, v2, v3) => bif (decide (v3 < a1)) then (bif decide (v2.size + (strOfNums ([(IntKind.u8.wrap (v1.tmod 256))] : List Int)).size < 9223372036854775808) then (R19_Little.l0 k a1 n ((IntKind.u64.wrap (v1.tdiv 256)), (v2 ++ (strOfNums ([(IntKind.u8.wrap (v1.tmod 256))] : List Int))), (w64 (v3 + 1)))) else none) else (some v2)
def R19_Little.f (k : Nat) (a0 : Int) (a1 : Int) : Option (ByteArray) := (R19_Little.l0 k a1 k (a0, (ByteArray.mk #[]), 0)).bind fun x1 => some x1
def R19_Frame.f (k : Nat) (a0 : ByteArray) : Option (ByteArray) := (R19_Little.f k (IntKind.u64.wrap (a0.size : Int)) 4).bind fun x1 => bif decide (x1.size + a0.size < 9223372036854775808) then ((R18_Sum.f k (x1 ++ a0)).bind fun x2 => (R19_Little.f k (IntKind.u64.wrap x2) 4).bind fun x3 => bif decide ((x1 ++ a0).size + x3.size < 9223372036854775808) then (some ((x1 ++ a0) ++ x3)) else none) else none
def frame_value.l0 (k : Nat) (l0 : List Int) : Nat → (Int × Int) → Option (Int)
  | 0, _ => none
  | n + 1, (v1, v2) => bif (decide (v2 < (l0.length : Int))) then ((atL l0 v2).bind fun x2 => bif decide (0 ≤ (w64 (8 * v2))) then (frame_value.l0 k l0 n ((gor .u64 v1 (gshl .u64 (IntKind.u64.wrap x2) (w64 (8 * v2)))), (w64 (v2 + 1)))) else none) else (some v1)
def frame_value.f (k : Nat) (l0 : List Int) : Option (Int) := (frame_value.l0 k l0 k (0, 0)).bind fun x1 => some x1
def slices_Clone.f (k : Nat) (l0 : List Int) : Option (List Int) := bif decide (([] : List Int).length + l0.length < 4294967296) then (some (([] : List Int) ++ l0)) else none
def frame_Get.l0 (k : Nat) : Nat → (List Int × List (List Int)) → Option (Sum (List (List Int) × Int) (List (List Int)))
  | 0, _ => none
  | n + 1, (v1, v2) => bif (decide ((v1.length : Int) > 0)) then (bif (decide ((v1.length : Int) < 8)) then (some (Sum.inl (([] : List (List Int)), 40))) else (bif decide (0 ≤ (4 : Int) ∧ (4 : Int) ≤ (v1.length : Int)) then ((frame_value.f k ((v1.drop 0).take (((4 : Int).toNat) - 0))).bind fun x2 => bif (decide (x2 > (IntKind.u64.wrap (w64 ((v1.length : Int) - 8))))) then (some (Sum.inl (([] : List (List Int)), 40))) else (bif decide (0 ≤ (w64 (4 + (w64 x2))) ∧ (w64 (4 + (w64 x2))) ≤ (v1.length : Int)) then ((crc_Sum.f k ((v1.drop 0).take ((((w64 (4 + (w64 x2)))).toNat) - 0))).bind fun x3 => bif decide (0 ≤ (w64 (4 + (w64 x2))) ∧ (w64 (4 + (w64 x2))) ≤ (w64 ((w64 (4 + (w64 x2))) + 4)) ∧ (w64 ((w64 (4 + (w64 x2))) + 4)) ≤ (v1.length : Int)) then ((frame_value.f k ((v1.drop (((w64 (4 + (w64 x2)))).toNat)).take ((((w64 ((w64 (4 + (w64 x2))) + 4))).toNat) - (((w64 (4 + (w64 x2)))).toNat)))).bind fun x4 => bif ((IntKind.u64.wrap x3) != x4) then (some (Sum.inl (([] : List (List Int)), 41))) else (bif decide (0 ≤ (4 : Int) ∧ (4 : Int) ≤ (w64 (4 + (w64 x2))) ∧ (w64 (4 + (w64 x2))) ≤ (v1.length : Int)) then ((slices_Clone.f k ((v1.drop ((4 : Int).toNat)).take ((((w64 (4 + (w64 x2)))).toNat) - ((4 : Int).toNat)))).bind fun x5 => bif decide (v2.length + 1 < 4294967296) then (bif decide (0 ≤ (w64 ((w64 (4 + (w64 x2))) + 4)) ∧ (w64 ((w64 (4 + (w64 x2))) + 4)) ≤ (v1.length : Int)) then (frame_Get.l0 k n (((v1.drop (((w64 ((w64 (4 + (w64 x2))) + 4))).toNat)).take (v1.length - (((w64 ((w64 (4 + (w64 x2))) + 4))).toNat))), (v2 ++ [x5]))) else none) else none) else none)) else none) else none)) else none)) else (some (Sum.inr v2))
def frame_Get.f (k : Nat) (l0 : List Int) : Option (List (List Int) × Int) := (frame_Get.l0 k k (l0, ([] : List (List Int)))).bind (Sum.elim (fun r => some r) (fun w1 => some (w1, 0)))
def Lw19_same.l0 (k : Nat) (l0 : List (List Int)) (l1 : List ByteArray) : Nat → Int → Option (Sum (Bool) (Unit))
  | 0, _ => none
  | n + 1, v1 => bif (decide (v1 < (l0.length : Int))) then ((atL l0 v1).bind fun x2 => (atL l1 v1).bind fun x3 => bif (!(gseq (strOfNums x2) x3)) then (some (Sum.inl false)) else (Lw19_same.l0 k l0 l1 n (w64 (v1 + 1)))) else (some (Sum.inr ()))
def Lw19_same.f (k : Nat) (l0 : List (List Int)) (l1 : List ByteArray) : Option (Bool) := bif ((l0.length : Int) != (l1.length : Int)) then (some false) else ((Lw19_same.l0 k l0 l1 k 0).bind (Sum.elim (fun r => some r) (fun w1 => some true)))
def Lw19_FramePuts.l0 (k : Nat) (l0 : List (List Int)) : Nat → (ByteArray × List ByteArray × Int) → Option (ByteArray × List ByteArray)
  | 0, _ => none
  | n + 1, (v1, v2, v3) => bif (decide (v3 < (l0.length : Int))) then ((atL l0 v3).bind fun x7 => (R19_Frame.f k (strOfNums x7)).bind fun x8 => bif decide (v1.size + x8.size < 9223372036854775808) then (bif decide (v2.length + ([(strOfNums x7)] : List ByteArray).length < 4294967296) then (Lw19_FramePuts.l0 k l0 n ((v1 ++ x8), (v2 ++ ([(strOfNums x7)] : List ByteArray)), (w64 (v3 + 1)))) else none) else none) else (some (v1, v2))
def Lw19_FramePuts.f (k : Nat) (l0 : List (List Int)) : Option (Bool) := ((Lw19_awake.f k).bind fun x2 => bif (!x2) then ((Lw19_awake.f k).bind fun x3 => some (Sum.inl x3)) else ((Lw19_small.f k l0).bind fun x4 => bif (!x4) then ((Lw19_awake.f k).bind fun x5 => some (Sum.inl x5)) else (some (Sum.inr ())))).bind (Sum.elim (fun r => some r) (fun w1 => (Lw19_FramePuts.l0 k l0 k ((ByteArray.mk #[]), ([] : List ByteArray), 0)).bind fun x6 => (frame_Put.f k l0).bind fun x9 => (frame_Get.f k x9).bind fun x10 => bif (gseq (strOfNums x9) x6.1) then (bif (x10.2 == 0) then ((Lw19_same.f k x10.1 x6.2).bind fun x11 => some x11) else (some false)) else (some false)))
def R19_Value.l0 (k : Nat) (a0 : ByteArray) : Nat → (Int × Int) → Option (Int)
  | 0, _ => none
  | n + 1, (v1, v2) => bif (decide (v2 ≥ 0)) then ((bAt a0 v2).bind fun x2 => R19_Value.l0 k a0 n ((IntKind.u64.wrap ((IntKind.u64.wrap (v1 * 256)) + (IntKind.u64.wrap x2))), (w64 (v2 - 1)))) else (some v1)
def R19_Value.f (k : Nat) (a0 : ByteArray) : Option (Int) := (R19_Value.l0 k a0 k (0, (w64 ((a0.size : Int) - 1)))).bind fun x1 => some x1
def R19_Get.l0 (k : Nat) : Nat → (ByteArray × List ByteArray) → Option (Sum (List ByteArray × Int) (List ByteArray))
  | 0, _ => none
  | n + 1, (v1, v2) => bif (decide ((v1.size : Int) > 0)) then ((bif (decide ((v1.size : Int) < 8)) then (some (Sum.inl (([] : List ByteArray), 40))) else (bif decide (0 ≤ (4 : Int) ∧ (4 : Int) ≤ (v1.size : Int)) then ((R19_Value.f k (v1.extract 0 ((4 : Int).toNat))).bind fun x3 => bif (decide (x3 > (IntKind.u64.wrap (w64 ((v1.size : Int) - 8))))) then (some (Sum.inl (([] : List ByteArray), 40))) else (some (Sum.inr (x3, (w64 ((v1.size : Int) - 8)), (IntKind.u64.wrap (w64 ((v1.size : Int) - 8))), (decide (x3 > (IntKind.u64.wrap (w64 ((v1.size : Int) - 8))))))))) else none)).bind (Sum.elim (fun r => some (Sum.inl r)) (fun w2 => bif decide (0 ≤ (4 : Int) ∧ (4 : Int) ≤ (v1.size : Int)) then ((R19_Value.f k (v1.extract 0 ((4 : Int).toNat))).bind fun x4 => bif decide (0 ≤ (4 : Int) ∧ (4 : Int) ≤ (w64 (4 + (w64 x4))) ∧ (w64 (4 + (w64 x4))) ≤ (v1.size : Int)) then ((R19_Frame.f k (v1.extract ((4 : Int).toNat) (((w64 (4 + (w64 x4)))).toNat))).bind fun x5 => bif decide (0 ≤ (w64 (8 + (w64 x4))) ∧ (w64 (8 + (w64 x4))) ≤ (v1.size : Int)) then (bif (!(gseq x5 (v1.extract 0 (((w64 (8 + (w64 x4)))).toNat)))) then (some (Sum.inl (([] : List ByteArray), 41))) else (bif decide (v2.length + ([(v1.extract ((4 : Int).toNat) (((w64 (4 + (w64 x4)))).toNat))] : List ByteArray).length < 4294967296) then (bif decide (0 ≤ (w64 (8 + (w64 x4))) ∧ (w64 (8 + (w64 x4))) ≤ (v1.size : Int)) then (R19_Get.l0 k n ((v1.extract (((w64 (8 + (w64 x4)))).toNat) v1.size), (v2 ++ ([(v1.extract ((4 : Int).toNat) (((w64 (4 + (w64 x4)))).toNat))] : List ByteArray)))) else none) else none)) else none) else none) else none))) else (some (Sum.inr v2))
def R19_Get.f (k : Nat) (a0 : ByteArray) : Option (List ByteArray × Int) := (R19_Get.l0 k k (a0, ([] : List ByteArray))).bind (Sum.elim (fun r => some r) (fun w1 => some (w1, 0)))
def Lw19_FrameGets.f (k : Nat) (l0 : List Int) : Option (Bool) := ((Lw19_awake.f k).bind fun x2 => bif (!x2) then ((Lw19_awake.f k).bind fun x3 => some (Sum.inl x3)) else (bif (decide ((l0.length : Int) > 2000)) then ((Lw19_awake.f k).bind fun x4 => some (Sum.inl x4)) else (some (Sum.inr ())))).bind (Sum.elim (fun r => some r) (fun w1 => (frame_Get.f k l0).bind fun x5 => (R19_Get.f k (strOfNums l0)).bind fun x6 => bif (x5.2 == x6.2) then ((Lw19_same.f k x5.1 x6.1).bind fun x7 => bif x7 then (some (gseq (strOfNums l0) (strOfNums l0))) else (some false)) else (some false)))
def Lw19_FrameOctet.l0 (k : Nat) (l0 : List (List Int)) : Nat → (List ByteArray × Int) → Option (List ByteArray)
  | 0, _ => none
  | n + 1, (v1, v2) => bif (decide (v2 < (l0.length : Int))) then ((atL l0 v2).bind fun x13 => bif decide (v1.length + ([(strOfNums x13)] : List ByteArray).length < 4294967296) then (Lw19_FrameOctet.l0 k l0 n ((v1 ++ ([(strOfNums x13)] : List ByteArray)), (w64 (v2 + 1)))) else none) else (some v1)
def Lw19_FrameOctet.f (k : Nat) (l0 : List (List Int)) (a1 : Int) (a2 : Int) : Option (Bool) := ((Lw19_awake.f k).bind fun x2 => bif (!x2) then ((Lw19_awake.f k).bind fun x3 => some (Sum.inl x3)) else ((Lw19_small.f k l0).bind fun x4 => bif (!x4) then ((Lw19_awake.f k).bind fun x5 => some (Sum.inl x5)) else (bif ((l0.length : Int) == 0) then ((Lw19_awake.f k).bind fun x6 => some (Sum.inl x6)) else (bif (a2 == 0) then ((Lw19_awake.f k).bind fun x7 => some (Sum.inl x7)) else (some (Sum.inr ())))))).bind (Sum.elim (fun r => some r) (fun w1 => (frame_Put.f k l0).bind fun x8 => bif (decide ((x8.length : Int) < 8)) then (some false) else ((R01_Rest.f k a1 (x8.length : Int)).bind fun x9 => (atL x8 x9).bind fun x10 => (frame_Get.f k (x8.set ((x9).toNat) (gxor .u8 x10 a2))).bind fun x11 => bif (x11.2 != 0) then (bif ((x11.1.length : Int) == 0) then (bif (x11.2 == 40) then (some true) else (some (x11.2 == 41))) else (some false)) else ((Lw19_FrameOctet.l0 k l0 k (([] : List ByteArray), 0)).bind fun x12 => (Lw19_same.f k x11.1 x12).bind fun x14 => some (!x14)))))
def Lw19_FrameJoined.l0 (k : Nat) (l0 : List (List Int)) (l1 : List (List Int)) : Nat → (List ByteArray × Int) → Option (List ByteArray)
  | 0, _ => none
  | n + 1, (v1, v2) => bif (decide (v2 < (((([] : List (List Int)) ++ l0) ++ l1).length : Int))) then ((atL ((([] : List (List Int)) ++ l0) ++ l1) v2).bind fun x12 => bif decide (v1.length + ([(strOfNums x12)] : List ByteArray).length < 4294967296) then (Lw19_FrameJoined.l0 k l0 l1 n ((v1 ++ ([(strOfNums x12)] : List ByteArray)), (w64 (v2 + 1)))) else none) else (some v1)
def Lw19_FrameJoined.f (k : Nat) (l0 : List (List Int)) (l1 : List (List Int)) : Option (Bool) := ((Lw19_awake.f k).bind fun x2 => bif (!x2) then ((Lw19_awake.f k).bind fun x3 => some (Sum.inl x3)) else ((Lw19_small.f k l0).bind fun x4 => bif (!x4) then ((Lw19_awake.f k).bind fun x5 => some (Sum.inl x5)) else ((Lw19_small.f k l1).bind fun x6 => bif (!x6) then ((Lw19_awake.f k).bind fun x7 => some (Sum.inl x7)) else (some (Sum.inr ()))))).bind (Sum.elim (fun r => some r) (fun w1 => bif decide (([] : List (List Int)).length + l0.length < 4294967296) then (bif decide ((([] : List (List Int)) ++ l0).length + l1.length < 4294967296) then ((frame_Put.f k l0).bind fun x8 => (frame_Put.f k l1).bind fun x9 => bif decide (x8.length + x9.length < 4294967296) then ((frame_Get.f k (x8 ++ x9)).bind fun x10 => (Lw19_FrameJoined.l0 k l0 l1 k (([] : List ByteArray), 0)).bind fun x11 => (frame_Put.f k ((([] : List (List Int)) ++ l0) ++ l1)).bind fun x13 => bif (gseq (strOfNums (x8 ++ x9)) (strOfNums x13)) then (bif (x10.2 == 0) then ((Lw19_same.f k x10.1 x11).bind fun x14 => some x14) else (some false)) else (some false)) else none) else none) else none))
end Go.Proofs.Ytheopcgjdfckmaa


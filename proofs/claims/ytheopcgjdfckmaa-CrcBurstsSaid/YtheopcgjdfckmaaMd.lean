/- Layer 6: types, mirrors. Printed by a program of mine. -/
import Derived.KernelRfl
import Derived.Test.YtheopcgjdfckmaaBase
namespace Go.Proofs.Ytheopcgjdfckmaa
open Go Go.Proofs.Ytheopcgjdfckmaa.Sx
set_option linter.unusedVariables false
set_option linter.unusedSimpArgs false
structure TArr16Int where
  i0 : Int
  i1 : Int
  i2 : Int
  i3 : Int
  i4 : Int
  i5 : Int
  i6 : Int
  i7 : Int
  i8 : Int
  i9 : Int
  i10 : Int
  i11 : Int
  i12 : Int
  i13 : Int
  i14 : Int
  i15 : Int
def TArr16Int.st (a : TArr16Int) (o : Nat) (v : Int) : TArr16Int := ⟨if o = 0 then v else a.i0, if o = 1 then v else a.i1, if o = 2 then v else a.i2, if o = 3 then v else a.i3, if o = 4 then v else a.i4, if o = 5 then v else a.i5, if o = 6 then v else a.i6, if o = 7 then v else a.i7, if o = 8 then v else a.i8, if o = 9 then v else a.i9, if o = 10 then v else a.i10, if o = 11 then v else a.i11, if o = 12 then v else a.i12, if o = 13 then v else a.i13, if o = 14 then v else a.i14, if o = 15 then v else a.i15⟩
theorem TArr16Int_st_u32 (a : TArr16Int) (v : Int) (o : Nat) (h : o < 16) : setAt [.v (.int .u32 a.i0), .v (.int .u32 a.i1), .v (.int .u32 a.i2), .v (.int .u32 a.i3), .v (.int .u32 a.i4), .v (.int .u32 a.i5), .v (.int .u32 a.i6), .v (.int .u32 a.i7), .v (.int .u32 a.i8), .v (.int .u32 a.i9), .v (.int .u32 a.i10), .v (.int .u32 a.i11), .v (.int .u32 a.i12), .v (.int .u32 a.i13), .v (.int .u32 a.i14), .v (.int .u32 a.i15)] o [.v (.int .u32 v)] = [.v (.int .u32 (a.st o v).i0), .v (.int .u32 (a.st o v).i1), .v (.int .u32 (a.st o v).i2), .v (.int .u32 (a.st o v).i3), .v (.int .u32 (a.st o v).i4), .v (.int .u32 (a.st o v).i5), .v (.int .u32 (a.st o v).i6), .v (.int .u32 (a.st o v).i7), .v (.int .u32 (a.st o v).i8), .v (.int .u32 (a.st o v).i9), .v (.int .u32 (a.st o v).i10), .v (.int .u32 (a.st o v).i11), .v (.int .u32 (a.st o v).i12), .v (.int .u32 (a.st o v).i13), .v (.int .u32 (a.st o v).i14), .v (.int .u32 (a.st o v).i15)] := by
  have h' : o = 0 ∨ o = 1 ∨ o = 2 ∨ o = 3 ∨ o = 4 ∨ o = 5 ∨ o = 6 ∨ o = 7 ∨ o = 8 ∨ o = 9 ∨ o = 10 ∨ o = 11 ∨ o = 12 ∨ o = 13 ∨ o = 14 ∨ o = 15 := by omega
  rcases h' with rfl | rfl | rfl | rfl | rfl | rfl | rfl | rfl | rfl | rfl | rfl | rfl | rfl | rfl | rfl | rfl <;> rfl
def eTArr16Int (x : TArr16Int) : List Value := [.int .u32 x.i0, .int .u32 x.i1, .int .u32 x.i2, .int .u32 x.i3, .int .u32 x.i4, .int .u32 x.i5, .int .u32 x.i6, .int .u32 x.i7, .int .u32 x.i8, .int .u32 x.i9, .int .u32 x.i10, .int .u32 x.i11, .int .u32 x.i12, .int .u32 x.i13, .int .u32 x.i14, .int .u32 x.i15]
theorem eTArr16Int_len : ∀ x, (eTArr16Int x).length = 16 := fun _ => rfl
theorem eTArr16Int_one : ∀ x, (eTArr16Int x).all Value.oneCell' = true := fun _ => rfl
def crc_nibbles.l1 (k : Nat) : Nat → (Int × Int) → Option (Int)
  | 0, _ => none
  | n + 1, (v101, v102) => bif (decide (v102 < 4)) then (crc_nibbles.l1 k n ((gxor .u32 (gshr .u32 v101 1) (gand .u32 3988292384 (IntKind.u32.wrap (0 - (gand .u32 v101 1))))), (w64 (v102 + 1)))) else (some v101)
def crc_nibbles.l0 (k : Nat) : Nat → (TArr16Int × Int) → Option (TArr16Int)
  | 0, _ => none
  | n + 1, (v1, v2) => bif (decide (v2 < 16)) then (((crc_nibbles.l1 k k ((IntKind.u32.wrap v2), 0)).bind fun x3 => (atL ([v1.i0, v1.i1, v1.i2, v1.i3, v1.i4, v1.i5, v1.i6, v1.i7, v1.i8, v1.i9, v1.i10, v1.i11, v1.i12, v1.i13, v1.i14, v1.i15] : List Int) v2).bind fun x4 => some (TArr16Int.st v1 v2.toNat x3)).bind fun x2 => crc_nibbles.l0 k n (x2, (w64 (v2 + 1)))) else (some v1)
def crc_nibbles.f (k : Nat) : Option (TArr16Int) := (crc_nibbles.l0 k k ((TArr16Int.mk 0 0 0 0 0 0 0 0 0 0 0 0 0 0 0 0), 0)).bind fun x1 => some x1
def crc_More.l0 (k : Nat) (l1 : List Int) (x1 : TArr16Int) : Nat → (Int × Int) → Option (Int)
  | 0, _ => none
  | n + 1, (v1, v2) => bif (decide (v2 < (l1.length : Int))) then ((atL l1 v2).bind fun x3 => (atL ([x1.i0, x1.i1, x1.i2, x1.i3, x1.i4, x1.i5, x1.i6, x1.i7, x1.i8, x1.i9, x1.i10, x1.i11, x1.i12, x1.i13, x1.i14, x1.i15] : List Int) (gand .u32 (gxor .u32 v1 (IntKind.u32.wrap x3)) 15)).bind fun x4 => (atL ([x1.i0, x1.i1, x1.i2, x1.i3, x1.i4, x1.i5, x1.i6, x1.i7, x1.i8, x1.i9, x1.i10, x1.i11, x1.i12, x1.i13, x1.i14, x1.i15] : List Int) (gand .u32 (gxor .u32 (gshr .u32 (gxor .u32 v1 (IntKind.u32.wrap x3)) 4) x4) 15)).bind fun x5 => crc_More.l0 k l1 x1 n ((gxor .u32 (gshr .u32 (gxor .u32 (gshr .u32 (gxor .u32 v1 (IntKind.u32.wrap x3)) 4) x4) 4) x5), (w64 (v2 + 1)))) else (some v1)
def crc_More.f (k : Nat) (a0 : Int) (l1 : List Int) : Option (Int) := (crc_nibbles.f k).bind fun x1 => (crc_More.l0 k l1 x1 k ((gcom .u32 a0), 0)).bind fun x2 => some (gcom .u32 x2)
def crc_Sum.f (k : Nat) (l0 : List Int) : Option (Int) := (crc_More.f k 0 l0).bind fun x1 => some x1
def Lw18_awake.f (k : Nat) : Option (Bool) := (crc_Sum.f k ([49, 50, 51, 52, 53, 54, 55, 56, 57] : List Int)).bind fun x1 => some (x1 == 3421780262)
def R01_Rest.f (k : Nat) (a0 : Int) (a1 : Int) : Option (Int) := bif decide (a1 ≠ 0) then (bif decide (a1 ≠ 0) then (some ((w64 ((a0.tmod a1) + a1)).tmod a1)) else none) else none
def Lw18_CrcMore.f (k : Nat) (l0 : List Int) (a1 : Int) : Option (Bool) := ((Lw18_awake.f k).bind fun x2 => bif (!x2) then ((Lw18_awake.f k).bind fun x3 => some (Sum.inl x3)) else (bif (decide ((l0.length : Int) > 2000)) then ((Lw18_awake.f k).bind fun x4 => some (Sum.inl x4)) else (some (Sum.inr ())))).bind (Sum.elim (fun r => some r) (fun v1 => (R01_Rest.f k a1 (w64 ((l0.length : Int) + 1))).bind fun x5 => bif decide (0 ≤ x5 ∧ x5 ≤ (l0.length : Int)) then ((crc_Sum.f k ((l0.drop 0).take (((x5).toNat) - 0))).bind fun x6 => bif decide (0 ≤ x5 ∧ x5 ≤ (l0.length : Int)) then ((crc_More.f k x6 ((l0.drop ((x5).toNat)).take (l0.length - ((x5).toNat)))).bind fun x7 => (crc_Sum.f k l0).bind fun x8 => bif (x7 == x8) then ((crc_More.f k 0 l0).bind fun x9 => (crc_Sum.f k l0).bind fun x10 => some (x9 == x10)) else (some false)) else none) else none))
def Lw18_CrcBursts.l0 (k : Nat) (a2 : Int) (x7 : Int) : Nat → (List Int × Int) → Option (List Int)
  | 0, _ => none
  | n + 1, (v1, v2) => bif (decide (v2 < 32)) then (bif decide (0 ≤ v2) then (bif ((gand .u32 (gshr .u32 a2 v2) 1) == 1) then ((atL v1 (w64 ((w64 (x7 + v2)).tdiv 8))).bind fun x9 => bif decide (0 ≤ ((w64 (x7 + v2)).tmod 8)) then (Lw18_CrcBursts.l0 k a2 x7 n ((v1.set (((w64 ((w64 (x7 + v2)).tdiv 8))).toNat) (gxor .u8 x9 (gshl .u8 1 ((w64 (x7 + v2)).tmod 8)))), (w64 (v2 + 1)))) else none) else (Lw18_CrcBursts.l0 k a2 x7 n (v1, (w64 (v2 + 1))))) else none) else (some v1)
def Lw18_CrcBursts.f (k : Nat) (l0 : List Int) (a1 : Int) (a2 : Int) : Option (Bool) := ((Lw18_awake.f k).bind fun x2 => bif (!x2) then ((Lw18_awake.f k).bind fun x3 => some (Sum.inl x3)) else (bif (decide ((l0.length : Int) > 500)) then ((Lw18_awake.f k).bind fun x4 => some (Sum.inl x4)) else (bif (decide ((l0.length : Int) < 5)) then ((Lw18_awake.f k).bind fun x5 => some (Sum.inl x5)) else (bif (a2 == 0) then ((Lw18_awake.f k).bind fun x6 => some (Sum.inl x6)) else (some (Sum.inr ())))))).bind (Sum.elim (fun r => some r) (fun v1 => (R01_Rest.f k a1 (w64 ((w64 (8 * (l0.length : Int))) - 31))).bind fun x7 => bif decide (([] : List Int).length + l0.length < 4294967296) then ((Lw18_CrcBursts.l0 k a2 x7 k ((([] : List Int) ++ l0), 0)).bind fun x8 => (crc_Sum.f k x8).bind fun x10 => (crc_Sum.f k l0).bind fun x11 => some (x10 != x11)) else none))
end Go.Proofs.Ytheopcgjdfckmaa


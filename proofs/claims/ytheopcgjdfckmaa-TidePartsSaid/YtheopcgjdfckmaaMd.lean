/- Layer 6: types, mirrors. Printed by a program of mine. -/
import Derived.KernelRfl
import Derived.Test.YtheopcgjdfckmaaBase
namespace Go.Proofs.Ytheopcgjdfckmaa
open Go Go.Proofs.Ytheopcgjdfckmaa.Sx
set_option linter.unusedVariables false
set_option linter.unusedSimpArgs false
structure TTide where
  n : Int
  sum : Int
  low : Int
abbrev zTTide : TTide := ⟨0, 0, 0⟩
def eTTide (x : TTide) : List Value := [.int .i64 x.n, .int .i64 x.sum, .int .i64 x.low]
theorem eTTide_len : ∀ x, (eTTide x).length = 3 := fun _ => rfl
theorem eTTide_one : ∀ x, (eTTide x).all Value.oneCell' = true := fun _ => rfl
def tide_Tide_Plus.f (k : Nat) (a0 : TTide) (a1 : TTide) : Option (TTide) := bif (a0.n == 0) then (some a1) else (bif (a1.n == 0) then (some a0) else (some (TTide.mk (w64 (a0.n + a1.n)) (w64 (a0.sum + a1.sum)) (gmin a0.low (w64 (a0.sum + a1.low))))))
def tide_Of.l0 (k : Nat) (l0 : List Int) : Nat → (TTide × Int) → Option (TTide)
  | 0, _ => none
  | n + 1, (v1, v2) => bif (decide (v2 < (l0.length : Int))) then ((atL l0 v2).bind fun x2 => (tide_Tide_Plus.f k v1 (TTide.mk 1 x2 x2)).bind fun x3 => tide_Of.l0 k l0 n (x3, (w64 (v2 + 1)))) else (some v1)
def tide_Of.f (k : Nat) (l0 : List Int) : Option (TTide) := (tide_Of.l0 k l0 k (zTTide, 0)).bind fun x1 => some x1
def Lw06_awake.f (k : Nat) : Option (Bool) := (tide_Of.f k ([1, (-2), 3] : List Int)).bind fun x1 => some ((x1.n == 3) && ((x1.sum == 2) && ((x1.low == (-1)) && true)))
def Lw06_small.l0 (k : Nat) (l0 : List Int) : Nat → Int → Option (Sum (Bool) (Unit))
  | 0, _ => none
  | n + 1, v1 => bif (decide (v1 < (l0.length : Int))) then ((atL l0 v1).bind fun x2 => bif (decide (x2 < (-1099511627776))) then (some (Sum.inl false)) else (bif (decide (x2 > 1099511627776)) then (some (Sum.inl false)) else (Lw06_small.l0 k l0 n (w64 (v1 + 1))))) else (some (Sum.inr ()))
def Lw06_small.f (k : Nat) (l0 : List Int) : Option (Bool) := bif (decide ((l0.length : Int) > 60)) then (some false) else ((Lw06_small.l0 k l0 k 0).bind (Sum.elim (fun r => some r) (fun v1 => some true)))
def R01_Rest.f (k : Nat) (a0 : Int) (a1 : Int) : Option (Int) := bif decide (a1 ≠ 0) then (bif decide (a1 ≠ 0) then (some ((w64 ((a0.tmod a1) + a1)).tmod a1)) else none) else none
def Lw06_TideParts.f (k : Nat) (l0 : List Int) (a1 : Int) (a2 : Int) : Option (Bool) := ((Lw06_awake.f k).bind fun x2 => bif (!x2) then ((Lw06_awake.f k).bind fun x3 => some (Sum.inl x3)) else ((Lw06_small.f k l0).bind fun x4 => bif (!x4) then ((Lw06_awake.f k).bind fun x5 => some (Sum.inl x5)) else (some (Sum.inr ())))).bind (Sum.elim (fun r => some r) (fun v1 => (R01_Rest.f k a1 (w64 ((l0.length : Int) + 1))).bind fun x6 => (R01_Rest.f k a2 (w64 ((l0.length : Int) + 1))).bind fun x7 => bif decide (0 ≤ (gmin x6 x7) ∧ (gmin x6 x7) ≤ (l0.length : Int)) then ((tide_Of.f k ((l0.drop 0).take ((((gmin x6 x7)).toNat) - 0))).bind fun x8 => bif decide (0 ≤ (gmin x6 x7) ∧ (gmin x6 x7) ≤ (gmax x6 x7) ∧ (gmax x6 x7) ≤ (l0.length : Int)) then ((tide_Of.f k ((l0.drop (((gmin x6 x7)).toNat)).take ((((gmax x6 x7)).toNat) - (((gmin x6 x7)).toNat)))).bind fun x9 => bif decide (0 ≤ (gmax x6 x7) ∧ (gmax x6 x7) ≤ (l0.length : Int)) then ((tide_Of.f k ((l0.drop (((gmax x6 x7)).toNat)).take (l0.length - (((gmax x6 x7)).toNat)))).bind fun x10 => (tide_Of.f k l0).bind fun x11 => (tide_Tide_Plus.f k x8 x9).bind fun x12 => (tide_Tide_Plus.f k x12 x10).bind fun x13 => bif ((x13.n == x11.n) && ((x13.sum == x11.sum) && ((x13.low == x11.low) && true))) then ((tide_Tide_Plus.f k x9 x10).bind fun x14 => (tide_Tide_Plus.f k x8 x14).bind fun x15 => some ((x15.n == x11.n) && ((x15.sum == x11.sum) && ((x15.low == x11.low) && true)))) else (some false)) else none) else none) else none))
end Go.Proofs.Ytheopcgjdfckmaa


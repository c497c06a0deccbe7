/- Types, mirrors. Printed by a program of mine. -/
import Derived.KernelRfl
import Derived.Test.YtjokolmijhhinaaBase
namespace Go.Proofs.Ytjokolmijhhinaa
open Go Go.Proofs.Ytjokolmijhhinaa.Sx
set_option linter.unusedVariables false
set_option linter.unusedSimpArgs false
abbrev TSize : Type := Int
abbrev zTSize : TSize := 0
structure TItem where
  key : Int
  id : Int
structure TSlot where
  item : TItem
  eaten : Bool
  time : Int
structure TRef where
  index : Int
  gen : Int
structure TNode (E A : Type) where
  e : E
  left : TRef
  right : TRef
  size : Int
  sum : A
def eTNode_TSlot_TSize (x : TNode TSlot TSize) : List Value := [.int .i64 x.e.item.key, .int .i64 x.e.item.id, .bool x.e.eaten, .int .i64 x.e.time, .int .i64 x.left.index, .int .i64 x.left.gen, .int .i64 x.right.index, .int .i64 x.right.gen, .int .i64 x.size, .int .i64 x.sum]
theorem eTNode_TSlot_TSize_len : ∀ x, (eTNode_TSlot_TSize x).length = 10 := fun _ => rfl
theorem eTNode_TSlot_TSize_one : ∀ x, (eTNode_TSlot_TSize x).all Value.oneCell' = true := fun _ => rfl
abbrev zTItem : TItem := ⟨0, 0⟩
abbrev zTSlot : TSlot := ⟨zTItem, false, 0⟩
abbrev zTRef : TRef := ⟨0, 0⟩
def eTItem (x : TItem) : List Value := [.int .i64 x.key, .int .i64 x.id]
theorem eTItem_len : ∀ x, (eTItem x).length = 2 := fun _ => rfl
theorem eTItem_one : ∀ x, (eTItem x).all Value.oneCell' = true := fun _ => rfl
def eTSlot (x : TSlot) : List Value := [.int .i64 x.item.key, .int .i64 x.item.id, .bool x.eaten, .int .i64 x.time]
theorem eTSlot_len : ∀ x, (eTSlot x).length = 4 := fun _ => rfl
theorem eTSlot_one : ∀ x, (eTSlot x).all Value.oneCell' = true := fun _ => rfl
def eTRef (x : TRef) : List Value := [.int .i64 x.index, .int .i64 x.gen]
theorem eTRef_len : ∀ x, (eTRef x).length = 2 := fun _ => rfl
theorem eTRef_one : ∀ x, (eTRef x).all Value.oneCell' = true := fun _ => rfl
structure TArr2TItem where
  i0 : TItem
  i1 : TItem
structure TArr2Int where
  i0 : Int
  i1 : Int
structure TL09Act where
  drop : Bool
  x : TItem
def eTL09Act (x : TL09Act) : List Value := [.bool x.drop, .int .i64 x.x.key, .int .i64 x.x.id]
theorem eTL09Act_len : ∀ x, (eTL09Act x).length = 3 := fun _ => rfl
theorem eTL09Act_one : ∀ x, (eTL09Act x).all Value.oneCell' = true := fun _ => rfl
def eTArr2TItem (x : TArr2TItem) : List Value := [.int .i64 x.i0.key, .int .i64 x.i0.id, .int .i64 x.i1.key, .int .i64 x.i1.id]
theorem eTArr2TItem_len : ∀ x, (eTArr2TItem x).length = 4 := fun _ => rfl
theorem eTArr2TItem_one : ∀ x, (eTArr2TItem x).all Value.oneCell' = true := fun _ => rfl
def eTArr2Int (x : TArr2Int) : List Value := [.int .i64 x.i0, .int .i64 x.i1]
theorem eTArr2Int_len : ∀ x, (eTArr2Int x).length = 2 := fun _ => rfl
theorem eTArr2Int_one : ∀ x, (eTArr2Int x).all Value.oneCell' = true := fun _ => rfl
structure Ops (E A : Type) where
  cmp : Nat → E → E → Option Int
  sum : Nat → E → Option A
  plus : Nat → A → A → Option A
  zE : E
  zA : A
abbrev zNode {E A : Type} (O : Ops E A) : TNode E A := ⟨O.zE, ⟨0, 0⟩, ⟨0, 0⟩, 0, O.zA⟩
def Tree_New.f {E A : Type} (O : Ops E A) (k : Nat) (a0 : Int) : Option (TRef × Pool (TNode E A)) := some (zTRef, (⟨[], [], capOf a0, 0, 0⟩ : Pool (TNode E A)))
def Tree_get.f {E A : Type} (O : Ops E A) (k : Nat) (p1 : Pool (TNode E A)) (a1 : TRef) : Option (TNode E A) := bif (a1.gen == 0) then (some (zNode O)) else ((pGet (zNode O) p1 a1.index a1.gen).bind fun x1 => some x1.1)
def Tree_weight.f {E A : Type} (O : Ops E A) (k : Nat) (p1 : Pool (TNode E A)) (a1 : TRef) : Option (Int) := (Tree_get.f O k p1 a1).bind fun x1 => some (w64 (x1.size + 1))
def Tree_lay.f {E A : Type} (O : Ops E A) (k : Nat) (p1 : Pool (TNode E A)) (a1 : TRef) (a2 : TRef) (a3 : TRef) : Option (TRef × Pool (TNode E A)) := (Tree_get.f O k p1 a1).bind fun x1 => (Tree_get.f O k p1 a2).bind fun x2 => (Tree_get.f O k p1 a3).bind fun x3 => (O.sum k x1.e).bind fun x4 => (O.plus k x2.sum x4).bind fun x5 => (O.plus k x5 x3.sum).bind fun x6 => (pSet p1 a1.index a1.gen (TNode.mk x1.e a2 a3 (w64 ((w64 (x2.size + 1)) + x3.size)) x6)).bind fun x7 => some (a1, x7.2)
def Tree_turnRight.f {E A : Type} (O : Ops E A) (k : Nat) (p1 : Pool (TNode E A)) (a1 : TRef) : Option (TRef × Pool (TNode E A)) := (Tree_get.f O k p1 a1).bind fun x1 => (Tree_get.f O k p1 x1.left).bind fun x2 => (Tree_lay.f O k p1 a1 x2.right x1.right).bind fun x3 => (Tree_lay.f O k x3.2 x1.left x2.left a1).bind fun x4 => some (x4.1, x4.2)
def Tree_turnLeft.f {E A : Type} (O : Ops E A) (k : Nat) (p1 : Pool (TNode E A)) (a1 : TRef) : Option (TRef × Pool (TNode E A)) := (Tree_get.f O k p1 a1).bind fun x1 => (Tree_get.f O k p1 x1.right).bind fun x2 => (Tree_lay.f O k p1 a1 x1.left x2.left).bind fun x3 => (Tree_lay.f O k x3.2 x1.right a1 x2.right).bind fun x4 => some (x4.1, x4.2)
def Tree_balance.f {E A : Type} (O : Ops E A) (k : Nat) (p1 : Pool (TNode E A)) (a1 : TRef) : Option (TRef × Pool (TNode E A)) := (Tree_get.f O k p1 a1).bind fun x1 => (Tree_weight.f O k p1 x1.left).bind fun x2 => (Tree_weight.f O k p1 x1.right).bind fun x3 => bif (decide (x3 > (w64 (3 * x2)))) then ((Tree_get.f O k p1 x1.right).bind fun x4 => (Tree_weight.f O k p1 x4.left).bind fun x5 => (Tree_weight.f O k p1 x4.right).bind fun x6 => bif (decide (x5 ≥ (w64 (2 * x6)))) then ((Tree_turnRight.f O k p1 x1.right).bind fun x7 => (Tree_lay.f O k x7.2 a1 x1.left x7.1).bind fun x8 => (Tree_turnLeft.f O k x8.2 a1).bind fun x9 => some (x9.1, x9.2)) else ((Tree_turnLeft.f O k p1 a1).bind fun x10 => some (x10.1, x10.2))) else (bif (decide (x2 > (w64 (3 * x3)))) then ((Tree_get.f O k p1 x1.left).bind fun x11 => (Tree_weight.f O k p1 x11.right).bind fun x12 => (Tree_weight.f O k p1 x11.left).bind fun x13 => bif (decide (x12 ≥ (w64 (2 * x13)))) then ((Tree_turnLeft.f O k p1 x1.left).bind fun x14 => (Tree_lay.f O k x14.2 a1 x14.1 x1.right).bind fun x15 => (Tree_turnRight.f O k x15.2 a1).bind fun x16 => some (x16.1, x16.2)) else ((Tree_turnRight.f O k p1 a1).bind fun x17 => some (x17.1, x17.2))) else (some (a1, p1)))
def Tree_link.r {E A : Type} (O : Ops E A) (k : Nat) : Nat → Pool (TNode E A) → TRef → TRef → TRef → Option (TRef × Pool (TNode E A))
  | 0, _, _, _, _ => none
  | n + 1, p1, a1, a2, a3 => (Tree_weight.f O k p1 a1).bind fun x1 => (Tree_weight.f O k p1 a3).bind fun x2 => bif (decide (x2 > (w64 (3 * x1)))) then ((Tree_get.f O k p1 a3).bind fun x3 => (Tree_link.r O k n p1 a1 a2 x3.left).bind fun x4 => (Tree_lay.f O k x4.2 a3 x4.1 x3.right).bind fun x5 => (Tree_balance.f O k x5.2 x5.1).bind fun x6 => some (x6.1, x6.2)) else (bif (decide (x1 > (w64 (3 * x2)))) then ((Tree_get.f O k p1 a1).bind fun x7 => (Tree_link.r O k n p1 x7.right a2 a3).bind fun x8 => (Tree_lay.f O k x8.2 a1 x7.left x8.1).bind fun x9 => (Tree_balance.f O k x9.2 x9.1).bind fun x10 => some (x10.1, x10.2)) else ((Tree_lay.f O k p1 a2 a1 a3).bind fun x11 => some (x11.1, x11.2)))
def Tree_link.f {E A : Type} (O : Ops E A) (k : Nat) (p1 : Pool (TNode E A)) (a1 : TRef) (a2 : TRef) (a3 : TRef) : Option (TRef × Pool (TNode E A)) := Tree_link.r O k k p1 a1 a2 a3
def Tree_put.r {E A : Type} (O : Ops E A) (k : Nat) : Nat → Pool (TNode E A) → TRef → E → Option (TRef × Bool × Pool (TNode E A))
  | 0, _, _, _ => none
  | n + 1, p1, a1, a2 => bif (a1.gen == 0) then ((O.sum k a2).bind fun x1 => (pPut (zNode O) p1 (TNode.mk a2 zTRef zTRef 1 x1)).bind fun x2 => some ((TRef.mk x2.1.1.1 x2.1.1.2), x2.1.2, x2.2)) else ((Tree_get.f O k p1 a1).bind fun x3 => (O.cmp k a2 x3.e).bind fun x4 => bif (decide (x4 < 0)) then ((Tree_put.r O k n p1 x3.left a2).bind fun x5 => bif (!x5.2.1) then (some (a1, false, x5.2.2)) else ((Tree_link.f O k x5.2.2 x5.1 a1 x3.right).bind fun x6 => some (x6.1, true, x6.2))) else (bif (decide (x4 > 0)) then ((Tree_put.r O k n p1 x3.right a2).bind fun x7 => bif (!x7.2.1) then (some (a1, false, x7.2.2)) else ((Tree_link.f O k x7.2.2 x3.left a1 x7.1).bind fun x8 => some (x8.1, true, x8.2))) else ((pSet p1 a1.index a1.gen (TNode.mk a2 x3.left x3.right x3.size x3.sum)).bind fun x9 => (Tree_lay.f O k x9.2 a1 x3.left x3.right).bind fun x10 => some (x10.1, true, x10.2))))
def Tree_put.f {E A : Type} (O : Ops E A) (k : Nat) (p1 : Pool (TNode E A)) (a1 : TRef) (a2 : E) : Option (TRef × Bool × Pool (TNode E A)) := Tree_put.r O k k p1 a1 a2
def Tree_Put.f {E A : Type} (O : Ops E A) (k : Nat) (p1 : Pool (TNode E A)) (rt0 : TRef) (a1 : E) : Option (Bool × TRef × Pool (TNode E A)) := (Tree_put.f O k p1 rt0 a1).bind fun x1 => bif x1.2.1 then (some (x1.2.1, x1.1, x1.2.2)) else (some (x1.2.1, rt0, x1.2.2))
def Tree_Len.f {E A : Type} (O : Ops E A) (k : Nat) (p1 : Pool (TNode E A)) (rt0 : TRef) : Option (Int) := (Tree_get.f O k p1 rt0).bind fun x1 => some x1.size
def Tree_Rank.l0 {E A : Type} (O : Ops E A) (k : Nat) (p1 : Pool (TNode E A)) (a1 : E) : Nat → (Int × TRef) → Option (Int)
  | 0, _ => none
  | n + 1, (v1, v2) => bif (v2.gen != 0) then ((Tree_get.f O k p1 v2).bind fun x2 => (O.cmp k a1 x2.e).bind fun x3 => bif (decide (x3 ≤ 0)) then (Tree_Rank.l0 O k p1 a1 n (v1, x2.left)) else ((Tree_weight.f O k p1 x2.left).bind fun x4 => Tree_Rank.l0 O k p1 a1 n ((w64 (v1 + x4)), x2.right))) else (some v1)
def Tree_Rank.f {E A : Type} (O : Ops E A) (k : Nat) (p1 : Pool (TNode E A)) (rt0 : TRef) (a1 : E) : Option (Int) := (Tree_Rank.l0 O k p1 a1 k (0, rt0)).bind fun x1 => some x1
def Tree_Find.l0 {E A : Type} (O : Ops E A) (k : Nat) (p1 : Pool (TNode E A)) (a1 : E) : Nat → TRef → Option (Sum (E × Bool) (Unit))
  | 0, _ => none
  | n + 1, v1 => bif (v1.gen != 0) then ((Tree_get.f O k p1 v1).bind fun x2 => (O.cmp k a1 x2.e).bind fun x3 => bif (x3 == 0) then (some (Sum.inl (x2.e, true))) else (bif (decide (x3 < 0)) then (Tree_Find.l0 O k p1 a1 n x2.left) else (Tree_Find.l0 O k p1 a1 n x2.right))) else (some (Sum.inr ()))
def Tree_Find.f {E A : Type} (O : Ops E A) (k : Nat) (p1 : Pool (TNode E A)) (rt0 : TRef) (a1 : E) : Option (E × Bool) := (Tree_Find.l0 O k p1 a1 k rt0).bind (Sum.elim (fun r => some r) (fun v1 => some (O.zE, false)))
def Tree_between.r {E A : Type} (O : Ops E A) (k : Nat) : Nat → Pool (TNode E A) → TRef → Int → Int → Option (A)
  | 0, _, _, _, _ => none
  | n + 1, p1, a1, a2, a3 => (Tree_get.f O k p1 a1).bind fun x1 => (bif (decide (a2 ≥ a3)) then (some (Sum.inl O.zA)) else (bif (decide (a2 ≥ x1.size)) then (some (Sum.inl O.zA)) else (bif (decide (a3 ≤ 0)) then (some (Sum.inl O.zA)) else (bif (x1.size == 0) then (some (Sum.inl O.zA)) else (some (Sum.inr ())))))).bind (Sum.elim (fun r => some r) (fun v2 => (bif (decide (a2 ≤ 0)) then (bif (decide (a3 ≥ x1.size)) then (some (Sum.inl x1.sum)) else (some (Sum.inr ()))) else (some (Sum.inr ()))).bind (Sum.elim (fun r => some r) (fun v3 => (Tree_get.f O k p1 x1.left).bind fun x4 => (Tree_between.r O k n p1 x1.left a2 a3).bind fun x5 => (bif (decide (a2 ≤ x4.size)) then (bif (decide (a3 > x4.size)) then ((O.sum k x1.e).bind fun x7 => (O.plus k x5 x7).bind fun x8 => some x8) else (some x5)) else (some x5)).bind fun x6 => (Tree_between.r O k n p1 x1.right (w64 ((w64 (a2 - x4.size)) - 1)) (w64 ((w64 (a3 - x4.size)) - 1))).bind fun x9 => (O.plus k x6 x9).bind fun x10 => some x10))))
def Tree_between.f {E A : Type} (O : Ops E A) (k : Nat) (p1 : Pool (TNode E A)) (a1 : TRef) (a2 : Int) (a3 : Int) : Option (A) := Tree_between.r O k k p1 a1 a2 a3
def Tree_Between.f {E A : Type} (O : Ops E A) (k : Nat) (p1 : Pool (TNode E A)) (rt0 : TRef) (a1 : Int) (a2 : Int) : Option (A) := (Tree_Len.f O k p1 rt0).bind fun x1 => (Tree_between.f O k p1 rt0 (gmin (gmax a1 0) x1) (gmin (gmax a2 0) x1)).bind fun x2 => some x2
def Tree_last.r {E A : Type} (O : Ops E A) (k : Nat) : Nat → Pool (TNode E A) → TRef → Option (TRef × TRef × Pool (TNode E A))
  | 0, _, _ => none
  | n + 1, p1, a1 => (Tree_get.f O k p1 a1).bind fun x1 => bif (x1.right.gen == 0) then (some (x1.left, a1, p1)) else ((Tree_last.r O k n p1 x1.right).bind fun x2 => (Tree_link.f O k x2.2.2 x1.left a1 x2.1).bind fun x3 => some (x3.1, x2.2.1, x3.2))
def Tree_last.f {E A : Type} (O : Ops E A) (k : Nat) (p1 : Pool (TNode E A)) (a1 : TRef) : Option (TRef × TRef × Pool (TNode E A)) := Tree_last.r O k k p1 a1
def Tree_merge.f {E A : Type} (O : Ops E A) (k : Nat) (p1 : Pool (TNode E A)) (a1 : TRef) (a2 : TRef) : Option (TRef × Pool (TNode E A)) := bif (a1.gen == 0) then (some (a2, p1)) else (bif (a2.gen == 0) then (some (a1, p1)) else ((Tree_last.f O k p1 a1).bind fun x1 => (Tree_link.f O k x1.2.2 x1.1 x1.2.1 a2).bind fun x2 => some (x2.1, x2.2)))
def Tree_drop.r {E A : Type} (O : Ops E A) (k : Nat) : Nat → Pool (TNode E A) → TRef → E → Option (TRef × E × Bool × Pool (TNode E A))
  | 0, _, _, _ => none
  | n + 1, p1, a1, a2 => bif (a1.gen == 0) then (some (a1, O.zE, false, p1)) else ((Tree_get.f O k p1 a1).bind fun x1 => (O.cmp k a2 x1.e).bind fun x2 => bif (decide (x2 < 0)) then ((Tree_drop.r O k n p1 x1.left a2).bind fun x3 => bif (!x3.2.2.1) then (some (a1, x3.2.1, false, x3.2.2.2)) else ((Tree_link.f O k x3.2.2.2 x3.1 a1 x1.right).bind fun x4 => some (x4.1, x3.2.1, true, x4.2))) else (bif (decide (x2 > 0)) then ((Tree_drop.r O k n p1 x1.right a2).bind fun x5 => bif (!x5.2.2.1) then (some (a1, x5.2.1, false, x5.2.2.2)) else ((Tree_link.f O k x5.2.2.2 x1.left a1 x5.1).bind fun x6 => some (x6.1, x5.2.1, true, x6.2))) else ((pDrop (zNode O) p1 a1.index a1.gen).bind fun x7 => (Tree_merge.f O k x7.2 x1.left x1.right).bind fun x8 => some (x8.1, x1.e, true, x8.2))))
def Tree_drop.f {E A : Type} (O : Ops E A) (k : Nat) (p1 : Pool (TNode E A)) (a1 : TRef) (a2 : E) : Option (TRef × E × Bool × Pool (TNode E A)) := Tree_drop.r O k k p1 a1 a2
def Tree_Drop.f {E A : Type} (O : Ops E A) (k : Nat) (p1 : Pool (TNode E A)) (rt0 : TRef) (a1 : E) : Option (E × Bool × TRef × Pool (TNode E A)) := (Tree_drop.f O k p1 rt0 a1).bind fun x1 => some (x1.2.1, x1.2.2.1, x1.1, x1.2.2.2)
def Tree_all.r {E A : Type} (O : Ops E A) (k : Nat) : Nat → Pool (TNode E A) → TRef → List E → Option (List E)
  | 0, _, _, _ => none
  | n + 1, p1, a1, l2 => bif (a1.gen == 0) then (some l2) else ((Tree_get.f O k p1 a1).bind fun x1 => (Tree_all.r O k n p1 x1.left l2).bind fun x2 => bif decide (x2.length + ([x1.e] : List E).length < 4294967296) then ((Tree_all.r O k n p1 x1.right (x2 ++ ([x1.e] : List E))).bind fun x3 => some x3) else none)
def Tree_all.f {E A : Type} (O : Ops E A) (k : Nat) (p1 : Pool (TNode E A)) (a1 : TRef) (l2 : List E) : Option (List E) := Tree_all.r O k k p1 a1 l2

def Tree_All.f {E A : Type} (O : Ops E A) (k : Nat) (p1 : Pool (TNode E A)) (rt0 : TRef) : Option (List E) := (Tree_all.f O k p1 rt0 ([] : List E)).bind fun x1 => some x1
def shelf_Slot_Sum.f (k : Nat) (a0 : TSlot) : Option (TSize) := some 1
def cmp_isNaN.f (k : Nat) (a0 : Int) : Option (Bool) := some (a0 != a0)
def cmp_Compare.f (k : Nat) (a0 : Int) (a1 : Int) : Option (Int) := (cmp_isNaN.f k a0).bind fun x1 => (cmp_isNaN.f k a1).bind fun x2 => bif x1 then (bif x2 then (some 0) else (some (-1))) else (bif x2 then (some 1) else (bif (decide (a0 < a1)) then (some (-1)) else (bif (decide (a0 > a1)) then (some 1) else (some 0))))
def cmp_Or.l0 (k : Nat) (l0 : List Int) : Nat → Int → Option (Sum (Int) (Unit))
  | 0, _ => none
  | n + 1, v1 => bif (decide (v1 < (l0.length : Int))) then ((atL l0 v1).bind fun x2 => bif (x2 != 0) then (some (Sum.inl x2)) else (cmp_Or.l0 k l0 n (w64 (v1 + 1)))) else (some (Sum.inr ()))
def cmp_Or.f (k : Nat) (l0 : List Int) : Option (Int) := (cmp_Or.l0 k l0 k 0).bind (Sum.elim (fun r => some r) (fun v1 => some 0))
def item_Compare.f (k : Nat) (a0 : TItem) (a1 : TItem) : Option (Int) := (cmp_Compare.f k a0.key a1.key).bind fun x1 => (cmp_Compare.f k a0.id a1.id).bind fun x2 => (cmp_Or.f k ([x1, x2] : List Int)).bind fun x3 => some x3
def shelf_Slot_Compare.f (k : Nat) (a0 : TSlot) (a1 : TSlot) : Option (Int) := (item_Compare.f k a0.item a1.item).bind fun x1 => some x1
def shelf_Size_Plus.f (k : Nat) (a0 : TSize) (a1 : TSize) : Option (TSize) := some (w64 (a0 + a1))
abbrev opsS : Ops TSlot TSize := ⟨shelf_Slot_Compare.f, shelf_Slot_Sum.f, shelf_Size_Plus.f, zTSlot, zTSize⟩
abbrev zNodeS : TNode TSlot TSize := zNode opsS
def shelf_New.f (k : Nat) (a0 : Int) : Option (TRef × Pool (TNode TSlot TSize)) := (Tree_New.f opsS k a0).bind fun x1 => some (x1.1, x1.2)
def shelf_Of.f (k : Nat) (a0 : TItem) : Option (TSlot) := some (TSlot.mk a0 false 0)
def shelf_Above.f (k : Nat) (p1 : Pool (TNode TSlot TSize)) (rt0 : TRef) (a1 : TItem) : Option (Int) := (Tree_Len.f opsS k p1 rt0).bind fun x1 => (shelf_Of.f k a1).bind fun x2 => (Tree_Rank.f opsS k p1 rt0 x2).bind fun x3 => (shelf_Of.f k a1).bind fun x4 => (Tree_Find.f opsS k p1 rt0 x4).bind fun x5 => bif x5.2 then (some (w64 ((w64 (x1 - x3)) - 1))) else (some (w64 (x1 - x3)))
def Lw09_awake.f (k : Nat) : Option (Bool) := (shelf_New.f k 9).bind fun x1 => ((shelf_Of.f k (TItem.mk 9 0)).bind fun x3 => (Tree_Put.f opsS k x1.2 x1.1 x3).bind fun x4 => bif (!x4.1) then (some (Sum.inl false)) else ((shelf_Of.f k (TItem.mk 2 0)).bind fun x5 => (Tree_Put.f opsS k x4.2.2 x4.2.1 x5).bind fun x6 => bif (!x6.1) then (some (Sum.inl false)) else ((shelf_Of.f k (TItem.mk 5 0)).bind fun x7 => (Tree_Put.f opsS k x6.2.2 x6.2.1 x7).bind fun x8 => bif (!x8.1) then (some (Sum.inl false)) else (some (Sum.inr (x8.2.2, x8.2.1.index, x8.2.1.gen)))))).bind (Sum.elim (fun r => some r) (fun v2 => (shelf_Above.f k v2.1 (TRef.mk v2.2.1 v2.2.2) (TItem.mk 4 0)).bind fun x9 => bif (x9 == 2) then ((shelf_Above.f k v2.1 (TRef.mk v2.2.1 v2.2.2) (TItem.mk 5 0)).bind fun x10 => bif (x10 == 1) then ((Tree_Between.f opsS k v2.1 (TRef.mk v2.2.1 v2.2.2) 0 3).bind fun x11 => some (x11 == 3)) else (some false)) else (some false)))
def R02_Ahead.f (k : Nat) (a0 : TItem) (a1 : TItem) : Option (Bool) := bif (decide (a0.key < a1.key)) then (some true) else (bif (a0.key == a1.key) then (some (decide (a0.id < a1.id))) else (some false))
def Lw09_ShelfTimes.f (k : Nat) (a0 : TArr2TItem) (a1 : TArr2Int) (a2 : TArr2Int) : Option (Bool) := (Lw09_awake.f k).bind fun x1 => bif (!x1) then (some false) else ((shelf_New.f k 2).bind fun x2 => ((Tree_Put.f opsS k x2.2 x2.1 (TSlot.mk a0.i0 true a1.i0)).bind fun x4 => bif (!x4.1) then (some (Sum.inl false)) else ((Tree_Put.f opsS k x4.2.2 x4.2.1 (TSlot.mk a0.i1 ((a1.i1.tmod 2) == 0) a1.i1)).bind fun x5 => bif (!x5.1) then (some (Sum.inl false)) else (some (Sum.inr (x5.2.2, x5.2.1.index, x5.2.1.gen))))).bind (Sum.elim (fun r => some r) (fun v3 => (shelf_Of.f k a0.i0).bind fun x6 => (Tree_Find.f opsS k v3.1 (TRef.mk v3.2.1 v3.2.2) x6).bind fun x7 => (shelf_Of.f k a0.i1).bind fun x8 => (Tree_Find.f opsS k v3.1 (TRef.mk v3.2.1 v3.2.2) x8).bind fun x9 => (bif ((a0.i0.key == a0.i1.key) && ((a0.i0.id == a0.i1.id) && true)) then (some (TSlot.mk a0.i1 ((a1.i1.tmod 2) == 0) a1.i1)) else (some (TSlot.mk a0.i0 true a1.i0))).bind fun x10 => (shelf_Slot_Compare.f k (TSlot.mk a0.i0 true a1.i0) (TSlot.mk a0.i1 ((a1.i1.tmod 2) == 0) a1.i1)).bind fun x11 => bif x7.2 then (bif x9.2 then (bif ((x7.1.item.key == x10.item.key) && ((x7.1.item.id == x10.item.id) && ((x7.1.eaten == x10.eaten) && ((x7.1.time == x10.time) && true)))) then (bif ((x9.1.item.key == a0.i1.key) && ((x9.1.item.id == a0.i1.id) && ((x9.1.eaten == ((a1.i1.tmod 2) == 0)) && ((x9.1.time == a1.i1) && true)))) then ((R02_Ahead.f k a0.i0 a0.i1).bind fun x12 => bif ((decide (x11 < 0)) == x12) then ((R02_Ahead.f k a0.i1 a0.i0).bind fun x13 => bif ((decide (x11 > 0)) == x13) then ((shelf_Slot_Sum.f k (TSlot.mk a0.i0 true a1.i0)).bind fun x14 => bif (x14 == 1) then ((shelf_Size_Plus.f k a2.i0 a2.i1).bind fun x15 => some (x15 == (w64 (a2.i0 + a2.i1)))) else (some false)) else (some false)) else (some false)) else (some false)) else (some false)) else (some false)) else (some false))))
def R09_At.l0 (k : Nat) (l0 : List TItem) (a1 : TItem) : Nat → Int → Option (Sum (Int) (Unit))
  | 0, _ => none
  | n + 1, v1 => bif (decide (v1 < (l0.length : Int))) then ((atL l0 v1).bind fun x2 => bif ((x2.key == a1.key) && ((x2.id == a1.id) && true)) then (some (Sum.inl v1)) else (R09_At.l0 k l0 a1 n (w64 (v1 + 1)))) else (some (Sum.inr ()))
def R09_At.f (k : Nat) (l0 : List TItem) (a1 : TItem) : Option (Int) := (R09_At.l0 k l0 a1 k 0).bind (Sum.elim (fun r => some r) (fun v1 => some (-1)))
def R09_Drop.f (k : Nat) (l0 : List TItem) (a1 : TItem) : Option (List TItem) := (R09_At.f k l0 a1).bind fun x1 => bif (decide (x1 < 0)) then (some l0) else (bif decide (0 ≤ x1 ∧ x1 ≤ (l0.length : Int)) then (bif decide (([] : List TItem).length + ((l0.drop 0).take (((x1).toNat) - 0)).length < 4294967296) then (bif decide (0 ≤ (w64 (x1 + 1)) ∧ (w64 (x1 + 1)) ≤ (l0.length : Int)) then (bif decide ((([] : List TItem) ++ ((l0.drop 0).take (((x1).toNat) - 0))).length + ((l0.drop (((w64 (x1 + 1))).toNat)).take (l0.length - (((w64 (x1 + 1))).toNat))).length < 4294967296) then (some ((([] : List TItem) ++ ((l0.drop 0).take (((x1).toNat) - 0))) ++ ((l0.drop (((w64 (x1 + 1))).toNat)).take (l0.length - (((w64 (x1 + 1))).toNat))))) else none) else none) else none) else none)
def R02_Sorted.l1 (k : Nat) (l0 : List TItem) (v1 : List TItem) (v2 : Int) : Nat → Int → Option (Int)
  | 0, _ => none
  | n + 1, v101 => bif (decide (v101 > 0)) then ((atL l0 v2).bind fun x4 => (atL v1 (w64 (v101 - 1))).bind fun x5 => (R02_Ahead.f k x4 x5).bind fun x6 => bif x6 then (R02_Sorted.l1 k l0 v1 v2 n (w64 (v101 - 1))) else (some v101)) else (some v101)
def R02_Sorted.l0 (k : Nat) (l0 : List TItem) : Nat → (List TItem × Int) → Option (List TItem)
  | 0, _ => none
  | n + 1, (v1, v2) => bif (decide (v2 < (l0.length : Int))) then (((R02_Sorted.l1 k l0 v1 v2 k (v1.length : Int)).bind fun x3 => bif decide (0 ≤ x3 ∧ x3 ≤ (v1.length : Int)) then (bif decide (([] : List TItem).length + ((v1.drop 0).take (((x3).toNat) - 0)).length < 4294967296) then ((atL l0 v2).bind fun x7 => bif decide ((([] : List TItem) ++ ((v1.drop 0).take (((x3).toNat) - 0))).length + ([x7] : List TItem).length < 4294967296) then (bif decide (0 ≤ x3 ∧ x3 ≤ (v1.length : Int)) then (bif decide (((([] : List TItem) ++ ((v1.drop 0).take (((x3).toNat) - 0))) ++ ([x7] : List TItem)).length + ((v1.drop ((x3).toNat)).take (v1.length - ((x3).toNat))).length < 4294967296) then (some (((([] : List TItem) ++ ((v1.drop 0).take (((x3).toNat) - 0))) ++ ([x7] : List TItem)) ++ ((v1.drop ((x3).toNat)).take (v1.length - ((x3).toNat))))) else none) else none) else none) else none) else none).bind fun x2 => R02_Sorted.l0 k l0 n (x2, (w64 (v2 + 1)))) else (some v1)
def R02_Sorted.f (k : Nat) (l0 : List TItem) : Option (List TItem) := (R02_Sorted.l0 k l0 k (([] : List TItem), 0)).bind fun x1 => some x1
def R09_Put.f (k : Nat) (l0 : List TItem) (a1 : TItem) : Option (List TItem) := (R09_At.f k l0 a1).bind fun x1 => bif (decide (x1 ≥ 0)) then (some l0) else (bif decide (([] : List TItem).length + l0.length < 4294967296) then (bif decide ((([] : List TItem) ++ l0).length + ([a1] : List TItem).length < 4294967296) then ((R02_Sorted.f k ((([] : List TItem) ++ l0) ++ ([a1] : List TItem))).bind fun x2 => some x2) else none) else none)
def shelf_Items.l0 (k : Nat) (x2 : List TSlot) : Nat → (List TItem × Int) → Option (List TItem)
  | 0, _ => none
  | n + 1, (v1, v2) => bif (decide (v2 < (x2.length : Int))) then ((atL x2 v2).bind fun x3 => bif decide (v1.length + ([x3.item] : List TItem).length < 4294967296) then (shelf_Items.l0 k x2 n ((v1 ++ ([x3.item] : List TItem)), (w64 (v2 + 1)))) else none) else (some v1)
def shelf_Items.f (k : Nat) (p1 : Pool (TNode TSlot TSize)) (rt0 : TRef) : Option (List TItem) := ((Tree_All.f opsS k p1 rt0).bind fun x2 => shelf_Items.l0 k x2 k (([] : List TItem), 0)).bind fun x1 => some x1
def R02_Same.l0 (k : Nat) (l0 : List TItem) (l1 : List TItem) : Nat → Int → Option (Sum (Bool) (Unit))
  | 0, _ => none
  | n + 1, v1 => bif (decide (v1 < (l0.length : Int))) then ((atL l0 v1).bind fun x2 => (atL l1 v1).bind fun x3 => bif (!((x2.key == x3.key) && ((x2.id == x3.id) && true))) then (some (Sum.inl false)) else (R02_Same.l0 k l0 l1 n (w64 (v1 + 1)))) else (some (Sum.inr ()))
def R02_Same.f (k : Nat) (l0 : List TItem) (l1 : List TItem) : Option (Bool) := bif ((l0.length : Int) != (l1.length : Int)) then (some false) else ((R02_Same.l0 k l0 l1 k 0).bind (Sum.elim (fun r => some r) (fun v1 => some true)))
def R09_Above.l0 (k : Nat) (l0 : List TItem) (a1 : TItem) : Nat → (Int × Int) → Option (Int)
  | 0, _ => none
  | n + 1, (v1, v2) => bif (decide (v2 < (l0.length : Int))) then ((atL l0 v2).bind fun x2 => (R02_Ahead.f k a1 x2).bind fun x3 => bif x3 then (R09_Above.l0 k l0 a1 n ((w64 (v1 + 1)), (w64 (v2 + 1)))) else (R09_Above.l0 k l0 a1 n (v1, (w64 (v2 + 1))))) else (some v1)
def R09_Above.f (k : Nat) (l0 : List TItem) (a1 : TItem) : Option (Int) := (R09_Above.l0 k l0 a1 k (0, 0)).bind fun x1 => some x1
def shelf_Items_z.f (k : Nat) : Option (List TItem) := some ([] : List TItem)
def shelf_Above_z.f (k : Nat) (a1 : TItem) : Option (Int) := some 0
def Lw09_ShelfActs.l0 (k : Nat) (l0 : List TL09Act) (a1 : TItem) : Nat → (Pool (TNode TSlot TSize) × Int × Int × List TItem × Int) → Option (Sum (Bool) (Unit))
  | 0, _ => none
  | n + 1, (v1, v2, v3, v4, v5) => bif (decide (v5 < (l0.length : Int))) then (((atL l0 v5).bind fun x8 => bif x8.drop then ((shelf_Of.f k x8.x).bind fun x9 => (Tree_Drop.f opsS k v1 (TRef.mk v2 v3) x9).bind fun x10 => (R09_At.f k v4 x8.x).bind fun x11 => bif (!(x10.2.1 == (decide (x11 ≥ 0)))) then (some (Sum.inl false)) else (bif x10.2.1 then ((shelf_Of.f k x8.x).bind fun x12 => bif (!((x10.1.item.key == x12.item.key) && ((x10.1.item.id == x12.item.id) && ((x10.1.eaten == x12.eaten) && ((x10.1.time == x12.time) && true))))) then (some (Sum.inl false)) else ((R09_Drop.f k v4 x8.x).bind fun x13 => some (Sum.inr (x10.2.2.2, x10.2.2.1.index, x10.2.2.1.gen, x13)))) else ((R09_Drop.f k v4 x8.x).bind fun x14 => some (Sum.inr (x10.2.2.2, x10.2.2.1.index, x10.2.2.1.gen, x14))))) else ((shelf_Of.f k x8.x).bind fun x15 => (Tree_Put.f opsS k v1 (TRef.mk v2 v3) x15).bind fun x16 => bif (!x16.1) then (some (Sum.inl false)) else ((R09_Put.f k v4 x8.x).bind fun x17 => some (Sum.inr (x16.2.2, x16.2.1.index, x16.2.1.gen, x17))))).bind (Sum.elim (fun r => some (Sum.inl r)) (fun v7 => (shelf_Items.f k v7.1 (TRef.mk v7.2.1 v7.2.2.1)).bind fun x18 => (R02_Same.f k x18 v7.2.2.2).bind fun x19 => bif (!x19) then (some (Sum.inl false)) else ((Tree_Len.f opsS k v7.1 (TRef.mk v7.2.1 v7.2.2.1)).bind fun x20 => (Tree_Between.f opsS k v7.1 (TRef.mk v7.2.1 v7.2.2.1) 0 x20).bind fun x21 => bif (x21 != (v7.2.2.2.length : Int)) then (some (Sum.inl false)) else ((shelf_Above.f k v7.1 (TRef.mk v7.2.1 v7.2.2.1) a1).bind fun x22 => (R09_Above.f k v7.2.2.2 a1).bind fun x23 => bif (x22 != x23) then (some (Sum.inl false)) else (Lw09_ShelfActs.l0 k l0 a1 n (v7.1, v7.2.1, v7.2.2.1, v7.2.2.2, (w64 (v5 + 1))))))))) else (some (Sum.inr ()))
def Lw09_ShelfActs.f (k : Nat) (l0 : List TL09Act) (a1 : TItem) : Option (Bool) := ((Lw09_awake.f k).bind fun x2 => bif (!x2) then ((Lw09_awake.f k).bind fun x3 => some (Sum.inl x3)) else (bif (decide ((l0.length : Int) > 60)) then ((Lw09_awake.f k).bind fun x4 => some (Sum.inl x4)) else (some (Sum.inr ())))).bind (Sum.elim (fun r => some r) (fun v1 => (shelf_New.f k 60).bind fun x5 => (Lw09_ShelfActs.l0 k l0 a1 k (x5.2, x5.1.index, x5.1.gen, ([] : List TItem), 0)).bind (Sum.elim (fun r => some r) (fun v6 => (shelf_Items_z.f k).bind fun x24 => bif ((x24.length : Int) == 0) then ((shelf_Above_z.f k a1).bind fun x25 => some (x25 == 0)) else (some false)))))
end Go.Proofs.Ytjokolmijhhinaa


/- Types, mirrors. Printed by a program of mine. -/
import Derived.KernelRfl
import Derived.Test.YthcehagablploaaBase
namespace Go.Proofs.Ythcehagablploaa
open Go Go.Proofs.Ythcehagablploaa.Sx
set_option linter.unusedVariables false
set_option linter.unusedSimpArgs false
structure TItem where
  key : Int
  id : Int
structure TOp where
  time : Int
  insert : Bool
  item : TItem
structure TTook where
  found : Bool
  item : TItem
structure TMark where
  op : TOp
  here : Bool
  took : TTook
structure TTide where
  n : Int
  sum : Int
  low : Int
structure TSwell where
  count : TTide
  weight : TTide
  deletes : Int
  free : Int
  most : TItem
  gone : TTook
  least : TTook
structure TRef where
  index : Int
  gen : Int
structure TNode (E A : Type) where
  e : E
  left : TRef
  right : TRef
  size : Int
  sum : A
def eTNode_TMark_TSwell (x : TNode TMark TSwell) : List Value := [.int .i64 x.e.op.time, .bool x.e.op.insert, .int .i64 x.e.op.item.key, .int .i64 x.e.op.item.id, .bool x.e.here, .bool x.e.took.found, .int .i64 x.e.took.item.key, .int .i64 x.e.took.item.id, .int .i64 x.left.index, .int .i64 x.left.gen, .int .i64 x.right.index, .int .i64 x.right.gen, .int .i64 x.size, .int .i64 x.sum.count.n, .int .i64 x.sum.count.sum, .int .i64 x.sum.count.low, .int .i64 x.sum.weight.n, .int .i64 x.sum.weight.sum, .int .i64 x.sum.weight.low, .int .i64 x.sum.deletes, .int .i64 x.sum.free, .int .i64 x.sum.most.key, .int .i64 x.sum.most.id, .bool x.sum.gone.found, .int .i64 x.sum.gone.item.key, .int .i64 x.sum.gone.item.id, .bool x.sum.least.found, .int .i64 x.sum.least.item.key, .int .i64 x.sum.least.item.id]
theorem eTNode_TMark_TSwell_len : ∀ x, (eTNode_TMark_TSwell x).length = 29 := fun _ => rfl
theorem eTNode_TMark_TSwell_one : ∀ x, (eTNode_TMark_TSwell x).all Value.oneCell' = true := fun _ => rfl
abbrev zTItem : TItem := ⟨0, 0⟩
abbrev zTOp : TOp := ⟨0, false, zTItem⟩
abbrev zTTook : TTook := ⟨false, zTItem⟩
abbrev zTMark : TMark := ⟨zTOp, false, zTTook⟩
abbrev zTTide : TTide := ⟨0, 0, 0⟩
abbrev zTSwell : TSwell := ⟨zTTide, zTTide, 0, 0, zTItem, zTTook, zTTook⟩
structure TR08Mark where
  op : TOp
  here : Bool
  took : TTook
def eTR08Mark (x : TR08Mark) : List Value := [.int .i64 x.op.time, .bool x.op.insert, .int .i64 x.op.item.key, .int .i64 x.op.item.id, .bool x.here, .bool x.took.found, .int .i64 x.took.item.key, .int .i64 x.took.item.id]
theorem eTR08Mark_len : ∀ x, (eTR08Mark x).length = 8 := fun _ => rfl
theorem eTR08Mark_one : ∀ x, (eTR08Mark x).all Value.oneCell' = true := fun _ => rfl
abbrev zTR08Mark : TR08Mark := ⟨zTOp, false, zTTook⟩
abbrev zTRef : TRef := ⟨0, 0⟩
def eTTide (x : TTide) : List Value := [.int .i64 x.n, .int .i64 x.sum, .int .i64 x.low]
theorem eTTide_len : ∀ x, (eTTide x).length = 3 := fun _ => rfl
theorem eTTide_one : ∀ x, (eTTide x).all Value.oneCell' = true := fun _ => rfl
def eTMark (x : TMark) : List Value := [.int .i64 x.op.time, .bool x.op.insert, .int .i64 x.op.item.key, .int .i64 x.op.item.id, .bool x.here, .bool x.took.found, .int .i64 x.took.item.key, .int .i64 x.took.item.id]
theorem eTMark_len : ∀ x, (eTMark x).length = 8 := fun _ => rfl
theorem eTMark_one : ∀ x, (eTMark x).all Value.oneCell' = true := fun _ => rfl
def eTRef (x : TRef) : List Value := [.int .i64 x.index, .int .i64 x.gen]
theorem eTRef_len : ∀ x, (eTRef x).length = 2 := fun _ => rfl
theorem eTRef_one : ∀ x, (eTRef x).all Value.oneCell' = true := fun _ => rfl
def eTSwell (x : TSwell) : List Value := [.int .i64 x.count.n, .int .i64 x.count.sum, .int .i64 x.count.low, .int .i64 x.weight.n, .int .i64 x.weight.sum, .int .i64 x.weight.low, .int .i64 x.deletes, .int .i64 x.free, .int .i64 x.most.key, .int .i64 x.most.id, .bool x.gone.found, .int .i64 x.gone.item.key, .int .i64 x.gone.item.id, .bool x.least.found, .int .i64 x.least.item.key, .int .i64 x.least.item.id]
theorem eTSwell_len : ∀ x, (eTSwell x).length = 16 := fun _ => rfl
theorem eTSwell_one : ∀ x, (eTSwell x).all Value.oneCell' = true := fun _ => rfl
def eTItem (x : TItem) : List Value := [.int .i64 x.key, .int .i64 x.id]
theorem eTItem_len : ∀ x, (eTItem x).length = 2 := fun _ => rfl
theorem eTItem_one : ∀ x, (eTItem x).all Value.oneCell' = true := fun _ => rfl
def eTTook (x : TTook) : List Value := [.bool x.found, .int .i64 x.item.key, .int .i64 x.item.id]
theorem eTTook_len : ∀ x, (eTTook x).length = 3 := fun _ => rfl
theorem eTTook_one : ∀ x, (eTTook x).all Value.oneCell' = true := fun _ => rfl
structure Ops (E A : Type) where
  cmp : Nat → E → E → Option Int
  sum : Nat → E → Option A
  plus : Nat → A → A → Option A
  zE : E
  zA : A
abbrev zNode {E A : Type} (O : Ops E A) : TNode E A := ⟨O.zE, ⟨0, 0⟩, ⟨0, 0⟩, 0, O.zA⟩
def Tree_New.f {E A : Type} (O : Ops E A) (k : Nat) (a0 : Int) : Option (TRef × Pool (TNode E A)) := some (zTRef, (⟨[], [], capOf a0, 0, 0⟩ : Pool (TNode E A)))
def Tree_get.f {E A : Type} (O : Ops E A) (k : Nat) (p1 : Pool (TNode E A)) (a1 : TRef) : Option (TNode E A) := bif (a1.gen == 0) then (some (zNode O)) else ((pGet (zNode O) p1 a1.index a1.gen).bind fun x1 => some x1.1)
def Tree_weight.f {E A : Type} (O : Ops E A) (k : Nat) (p1 : Pool (TNode E A)) (a1 : TRef) : Option (Int) := (Tree_get.f O k p1 a1).bind fun x1 => some (w64 (x1.size + 1))
def Tree_lay.f {E A : Type} (O : Ops E A) (k : Nat) (p1 : Pool (TNode E A)) (a1 : TRef) (a2 : TRef) (a3 : TRef) : Option (TRef × Pool (TNode E A)) := (Tree_get.f O k p1 a1).bind fun x1 => (Tree_get.f O k p1 a2).bind fun x2 => (Tree_get.f O k p1 a3).bind fun x3 => (O.sum k x1.e).bind fun x4 => (O.plus k x2.sum x4).bind fun x5 => (O.plus k x5 x3.sum).bind fun x6 => (pSet p1 a1.index a1.gen (TNode.mk x1.e a2 a3 (w64 ((w64 (x2.size + 1)) + x3.size)) x6)).bind fun x7 => some (a1, x7.2)
def Tree_turnRight.f {E A : Type} (O : Ops E A) (k : Nat) (p1 : Pool (TNode E A)) (a1 : TRef) : Option (TRef × Pool (TNode E A)) := (Tree_get.f O k p1 a1).bind fun x1 => (Tree_get.f O k p1 x1.left).bind fun x2 => (Tree_lay.f O k p1 a1 x2.right x1.right).bind fun x3 => (Tree_lay.f O k x3.2 x1.left x2.left a1).bind fun x4 => some (x4.1, x4.2)
def Tree_turnLeft.f {E A : Type} (O : Ops E A) (k : Nat) (p1 : Pool (TNode E A)) (a1 : TRef) : Option (TRef × Pool (TNode E A)) := (Tree_get.f O k p1 a1).bind fun x1 => (Tree_get.f O k p1 x1.right).bind fun x2 => (Tree_lay.f O k p1 a1 x1.left x2.left).bind fun x3 => (Tree_lay.f O k x3.2 x1.right a1 x2.right).bind fun x4 => some (x4.1, x4.2)
def Tree_balance.f {E A : Type} (O : Ops E A) (k : Nat) (p1 : Pool (TNode E A)) (a1 : TRef) : Option (TRef × Pool (TNode E A)) := (Tree_get.f O k p1 a1).bind fun x1 => (Tree_weight.f O k p1 x1.left).bind fun x2 => (Tree_weight.f O k p1 x1.right).bind fun x3 => bif (decide (x3 > (w64 (3 * x2)))) then ((Tree_get.f O k p1 x1.right).bind fun x4 => (Tree_weight.f O k p1 x4.left).bind fun x5 => (Tree_weight.f O k p1 x4.right).bind fun x6 => bif (decide (x5 ≥ (w64 (2 * x6)))) then ((Tree_turnRight.f O k p1 x1.right).bind fun x7 => (Tree_lay.f O k x7.2 a1 x1.left x7.1).bind fun x8 => (Tree_turnLeft.f O k x8.2 a1).bind fun x9 => some (x9.1, x9.2)) else ((Tree_turnLeft.f O k p1 a1).bind fun x10 => some (x10.1, x10.2))) else (bif (decide (x2 > (w64 (3 * x3)))) then ((Tree_get.f O k p1 x1.left).bind fun x11 => (Tree_weight.f O k p1 x11.right).bind fun x12 => (Tree_weight.f O k p1 x11.left).bind fun x13 => bif (decide (x12 ≥ (w64 (2 * x13)))) then ((Tree_turnLeft.f O k p1 x1.left).bind fun x14 => (Tree_lay.f O k x14.2 a1 x14.1 x1.right).bind fun x15 => (Tree_turnRight.f O k x15.2 a1).bind fun x16 => some (x16.1, x16.2)) else ((Tree_turnRight.f O k p1 a1).bind fun x17 => some (x17.1, x17.2))) else (some (a1, p1)))
def Tree_link.r {E A : Type} (O : Ops E A) (k : Nat) : Nat → Pool (TNode E A) → TRef → TRef → TRef → Option (TRef × Pool (TNode E A))
  | 0, _, _, _, _ => none
  | n + 1, p1, a1, a2, a3 => (Tree_weight.f O k p1 a1).bind fun x1 => (Tree_weight.f O k p1 a3).bind fun x2 => bif (decide (x2 > (w64 (3 * x1)))) then ((Tree_get.f O k p1 a3).bind fun x3 => (Tree_link.r O k n p1 a1 a2 x3.left).bind fun x4 => (Tree_lay.f O k x4.2 a3 x4.1 x3.right).bind fun x5 => (Tree_balance.f O k x5.2 x5.1).bind fun x6 => some (x6.1, x6.2)) else (bif (decide (x1 > (w64 (3 * x2)))) then ((Tree_get.f O k p1 a1).bind fun x7 => (Tree_link.r O k n p1 x7.right a2 a3).bind fun x8 => (Tree_lay.f O k x8.2 a1 x7.left x8.1).bind fun x9 => (Tree_balance.f O k x9.2 x9.1).bind fun x10 => some (x10.1, x10.2)) else ((Tree_lay.f O k p1 a2 a1 a3).bind fun x11 => some (x11.1, x11.2)))
def Tree_link.f {E A : Type} (O : Ops E A) (k : Nat) (p1 : Pool (TNode E A)) (a1 : TRef) (a2 : TRef) (a3 : TRef) : Option (TRef × Pool (TNode E A)) := Tree_link.r O k k p1 a1 a2 a3
def Tree_put.r {E A : Type} (O : Ops E A) (k : Nat) : Nat → Pool (TNode E A) → TRef → E → Option (TRef × Bool × Pool (TNode E A))
  | 0, _, _, _ => none
  | n + 1, p1, a1, a2 => bif (a1.gen == 0) then ((O.sum k a2).bind fun x1 => (pPut (zNode O) p1 (TNode.mk a2 zTRef zTRef 1 x1)).bind fun x2 => some ((TRef.mk x2.1.1.1 x2.1.1.2), x2.1.2, x2.2)) else ((Tree_get.f O k p1 a1).bind fun x3 => (O.cmp k a2 x3.e).bind fun x4 => bif (decide (x4 < 0)) then ((Tree_put.r O k n p1 x3.left a2).bind fun x5 => bif (!x5.2.1) then (some (a1, false, x5.2.2)) else ((Tree_link.f O k x5.2.2 x5.1 a1 x3.right).bind fun x6 => some (x6.1, true, x6.2))) else (bif (decide (x4 > 0)) then ((Tree_put.r O k n p1 x3.right a2).bind fun x7 => bif (!x7.2.1) then (some (a1, false, x7.2.2)) else ((Tree_link.f O k x7.2.2 x3.left a1 x7.1).bind fun x8 => some (x8.1, true, x8.2))) else ((pSet p1 a1.index a1.gen (TNode.mk a2 x3.left x3.right x3.size x3.sum)).bind fun x9 => (Tree_lay.f O k x9.2 a1 x3.left x3.right).bind fun x10 => some (x10.1, true, x10.2))))
def Tree_put.f {E A : Type} (O : Ops E A) (k : Nat) (p1 : Pool (TNode E A)) (a1 : TRef) (a2 : E) : Option (TRef × Bool × Pool (TNode E A)) := Tree_put.r O k k p1 a1 a2
def Tree_Put.f {E A : Type} (O : Ops E A) (k : Nat) (p1 : Pool (TNode E A)) (rt0 : TRef) (a1 : E) : Option (Bool × TRef × Pool (TNode E A)) := (Tree_put.f O k p1 rt0 a1).bind fun x1 => bif x1.2.1 then (some (x1.2.1, x1.1, x1.2.2)) else (some (x1.2.1, rt0, x1.2.2))
def Tree_Len.f {E A : Type} (O : Ops E A) (k : Nat) (p1 : Pool (TNode E A)) (rt0 : TRef) : Option (Int) := (Tree_get.f O k p1 rt0).bind fun x1 => some x1.size
def Tree_between.r {E A : Type} (O : Ops E A) (k : Nat) : Nat → Pool (TNode E A) → TRef → Int → Int → Option (A)
  | 0, _, _, _, _ => none
  | n + 1, p1, a1, a2, a3 => (Tree_get.f O k p1 a1).bind fun x1 => (bif (decide (a2 ≥ a3)) then (some (Sum.inl O.zA)) else (bif (decide (a2 ≥ x1.size)) then (some (Sum.inl O.zA)) else (bif (decide (a3 ≤ 0)) then (some (Sum.inl O.zA)) else (bif (x1.size == 0) then (some (Sum.inl O.zA)) else (some (Sum.inr ())))))).bind (Sum.elim (fun r => some r) (fun v2 => (bif (decide (a2 ≤ 0)) then (bif (decide (a3 ≥ x1.size)) then (some (Sum.inl x1.sum)) else (some (Sum.inr ()))) else (some (Sum.inr ()))).bind (Sum.elim (fun r => some r) (fun v3 => (Tree_get.f O k p1 x1.left).bind fun x4 => (Tree_between.r O k n p1 x1.left a2 a3).bind fun x5 => (bif (decide (a2 ≤ x4.size)) then (bif (decide (a3 > x4.size)) then ((O.sum k x1.e).bind fun x7 => (O.plus k x5 x7).bind fun x8 => some x8) else (some x5)) else (some x5)).bind fun x6 => (Tree_between.r O k n p1 x1.right (w64 ((w64 (a2 - x4.size)) - 1)) (w64 ((w64 (a3 - x4.size)) - 1))).bind fun x9 => (O.plus k x6 x9).bind fun x10 => some x10))))
def Tree_between.f {E A : Type} (O : Ops E A) (k : Nat) (p1 : Pool (TNode E A)) (a1 : TRef) (a2 : Int) (a3 : Int) : Option (A) := Tree_between.r O k k p1 a1 a2 a3
def Tree_Between.f {E A : Type} (O : Ops E A) (k : Nat) (p1 : Pool (TNode E A)) (rt0 : TRef) (a1 : Int) (a2 : Int) : Option (A) := (Tree_Len.f O k p1 rt0).bind fun x1 => (Tree_between.f O k p1 rt0 (gmin (gmax a1 0) x1) (gmin (gmax a2 0) x1)).bind fun x2 => some x2
def Tree_first.r {E A : Type} (O : Ops E A) (k : Nat) : Nat → Pool (TNode E A) → TRef → Int → A → (A → A → Option Bool) → Option (Int × A)
  | 0, _, _, _, _, _ => none
  | n + 1, p1, a1, a2, a3, fn4 => (Tree_get.f O k p1 a1).bind fun x1 => (bif (x1.size == 0) then ((O.plus k a3 x1.sum).bind fun x3 => some (Sum.inl ((-1), x3))) else (bif (decide (a2 ≥ x1.size)) then ((O.plus k a3 x1.sum).bind fun x4 => some (Sum.inl ((-1), x4))) else (bif (decide (a2 ≤ 0)) then ((fn4 a3 x1.sum).bind fun x5 => bif (!x5) then ((O.plus k a3 x1.sum).bind fun x6 => some (Sum.inl ((-1), x6))) else (some (Sum.inr ()))) else (some (Sum.inr ()))))).bind (Sum.elim (fun r => some r) (fun v2 => (Tree_get.f O k p1 x1.left).bind fun x7 => (Tree_first.r O k n p1 x1.left a2 a3 fn4).bind fun x8 => bif (decide (x8.1 ≥ 0)) then (some (x8.1, x8.2)) else ((O.sum k x1.e).bind fun x9 => (bif (decide (a2 ≤ x7.size)) then ((fn4 x8.2 x9).bind fun x11 => bif x11 then (some (Sum.inl (x7.size, x8.2))) else (some (Sum.inr ()))) else (some (Sum.inr ()))).bind (Sum.elim (fun r => some r) (fun v10 => (O.plus k x8.2 x9).bind fun x12 => (Tree_first.r O k n p1 x1.right (w64 ((w64 (a2 - x7.size)) - 1)) x12 fn4).bind fun x13 => bif (decide (x13.1 ≥ 0)) then (some ((w64 (x13.1 + (w64 (x7.size + 1)))), x13.2)) else (some (x13.1, x13.2)))))))
def Tree_first.f {E A : Type} (O : Ops E A) (k : Nat) (p1 : Pool (TNode E A)) (a1 : TRef) (a2 : Int) (a3 : A) (fn4 : A → A → Option Bool) : Option (Int × A) := Tree_first.r O k k p1 a1 a2 a3 fn4
def Tree_First.f {E A : Type} (O : Ops E A) (k : Nat) (p1 : Pool (TNode E A)) (rt0 : TRef) (a1 : Int) (fn2 : A → A → Option Bool) : Option (Int) := (Tree_Len.f O k p1 rt0).bind fun x1 => (Tree_first.f O k p1 rt0 (gmin (gmax a1 0) x1) O.zA fn2).bind fun x2 => some x2.1
def Tree_lastOf.r {E A : Type} (O : Ops E A) (k : Nat) : Nat → Pool (TNode E A) → TRef → Int → A → (A → A → Option Bool) → Option (Int)
  | 0, _, _, _, _, _ => none
  | n + 1, p1, a1, a2, a3, fn4 => (Tree_get.f O k p1 a1).bind fun x1 => (bif (x1.size == 0) then (some (Sum.inl (-1))) else (bif (decide (a2 ≤ 0)) then (some (Sum.inl (-1))) else (bif (decide (a2 ≥ x1.size)) then ((fn4 a3 x1.sum).bind fun x3 => bif (!x3) then (some (Sum.inl (-1))) else (some (Sum.inr ()))) else (some (Sum.inr ()))))).bind (Sum.elim (fun r => some r) (fun v2 => (Tree_get.f O k p1 x1.left).bind fun x4 => (O.plus k a3 x4.sum).bind fun x5 => (O.sum k x1.e).bind fun x6 => (O.plus k x5 x6).bind fun x7 => (Tree_lastOf.r O k n p1 x1.right (w64 ((w64 (a2 - x4.size)) - 1)) x7 fn4).bind fun x8 => bif (decide (x8 ≥ 0)) then (some (w64 ((w64 (x8 + x4.size)) + 1))) else (bif (decide (a2 > x4.size)) then ((fn4 x5 x6).bind fun x9 => bif x9 then (some x4.size) else ((Tree_lastOf.r O k n p1 x1.left a2 a3 fn4).bind fun x10 => some x10)) else ((Tree_lastOf.r O k n p1 x1.left a2 a3 fn4).bind fun x11 => some x11))))
def Tree_lastOf.f {E A : Type} (O : Ops E A) (k : Nat) (p1 : Pool (TNode E A)) (a1 : TRef) (a2 : Int) (a3 : A) (fn4 : A → A → Option Bool) : Option (Int) := Tree_lastOf.r O k k p1 a1 a2 a3 fn4
def Tree_Last.f {E A : Type} (O : Ops E A) (k : Nat) (p1 : Pool (TNode E A)) (rt0 : TRef) (a1 : Int) (fn2 : A → A → Option Bool) : Option (Int) := (Tree_Len.f O k p1 rt0).bind fun x1 => (Tree_lastOf.f O k p1 rt0 (gmin (gmax a1 0) x1) O.zA fn2).bind fun x2 => some x2
def Tree_Find.l0 {E A : Type} (O : Ops E A) (k : Nat) (p1 : Pool (TNode E A)) (a1 : E) : Nat → TRef → Option (Sum (E × Bool) (Unit))
  | 0, _ => none
  | n + 1, v1 => bif (v1.gen != 0) then ((Tree_get.f O k p1 v1).bind fun x2 => (O.cmp k a1 x2.e).bind fun x3 => bif (x3 == 0) then (some (Sum.inl (x2.e, true))) else (bif (decide (x3 < 0)) then (Tree_Find.l0 O k p1 a1 n x2.left) else (Tree_Find.l0 O k p1 a1 n x2.right))) else (some (Sum.inr ()))
def Tree_Find.f {E A : Type} (O : Ops E A) (k : Nat) (p1 : Pool (TNode E A)) (rt0 : TRef) (a1 : E) : Option (E × Bool) := (Tree_Find.l0 O k p1 a1 k rt0).bind (Sum.elim (fun r => some r) (fun v1 => some (O.zE, false)))
def Tree_Rank.l0 {E A : Type} (O : Ops E A) (k : Nat) (p1 : Pool (TNode E A)) (a1 : E) : Nat → (Int × TRef) → Option (Int)
  | 0, _ => none
  | n + 1, (v1, v2) => bif (v2.gen != 0) then ((Tree_get.f O k p1 v2).bind fun x2 => (O.cmp k a1 x2.e).bind fun x3 => bif (decide (x3 ≤ 0)) then (Tree_Rank.l0 O k p1 a1 n (v1, x2.left)) else ((Tree_weight.f O k p1 x2.left).bind fun x4 => Tree_Rank.l0 O k p1 a1 n ((w64 (v1 + x4)), x2.right))) else (some v1)
def Tree_Rank.f {E A : Type} (O : Ops E A) (k : Nat) (p1 : Pool (TNode E A)) (rt0 : TRef) (a1 : E) : Option (Int) := (Tree_Rank.l0 O k p1 a1 k (0, rt0)).bind fun x1 => some x1
def tide_Tide_Plus.f (k : Nat) (a0 : TTide) (a1 : TTide) : Option (TTide) := bif (a0.n == 0) then (some a1) else (bif (a1.n == 0) then (some a0) else (some (TTide.mk (w64 (a0.n + a1.n)) (w64 (a0.sum + a1.sum)) (gmin a0.low (w64 (a0.sum + a1.low))))))
def tide_Of.l0 (k : Nat) (l0 : List Int) : Nat → (TTide × Int) → Option (TTide)
  | 0, _ => none
  | n + 1, (v1, v2) => bif (decide (v2 < (l0.length : Int))) then ((atL l0 v2).bind fun x2 => (tide_Tide_Plus.f k v1 (TTide.mk 1 x2 x2)).bind fun x3 => tide_Of.l0 k l0 n (x3, (w64 (v2 + 1)))) else (some v1)
def tide_Of.f (k : Nat) (l0 : List Int) : Option (TTide) := (tide_Of.l0 k l0 k (zTTide, 0)).bind fun x1 => some x1
def wave_Mark_Sum.f (k : Nat) (a0 : TMark) : Option (TSwell) := ((bif a0.op.insert then (some a0.here) else (some false)).bind fun x2 => bif x2 then ((tide_Of.f k ([1] : List Int)).bind fun x3 => (tide_Of.f k ([0] : List Int)).bind fun x4 => some (Sum.inl (TSwell.mk x3 x4 0 0 zTItem zTTook (TTook.mk true a0.op.item)))) else (bif a0.op.insert then ((tide_Of.f k ([1] : List Int)).bind fun x5 => (tide_Of.f k ([1] : List Int)).bind fun x6 => some (Sum.inl (TSwell.mk x5 x6 0 0 zTItem (TTook.mk true a0.op.item) zTTook))) else (some (Sum.inr ())))).bind (Sum.elim (fun r => some r) (fun v1 => (tide_Of.f k ([(-1)] : List Int)).bind fun x7 => (tide_Of.f k ([(-1)] : List Int)).bind fun x8 => bif a0.took.found then (some (TSwell.mk x7 x8 1 0 a0.took.item zTTook zTTook)) else (some (TSwell.mk x7 x8 1 1 zTItem zTTook zTTook))))
def cmp_isNaN.f (k : Nat) (a0 : Int) : Option (Bool) := some (a0 != a0)
def cmp_Compare.f (k : Nat) (a0 : Int) (a1 : Int) : Option (Int) := (cmp_isNaN.f k a0).bind fun x1 => (cmp_isNaN.f k a1).bind fun x2 => bif x1 then (bif x2 then (some 0) else (some (-1))) else (bif x2 then (some 1) else (bif (decide (a0 < a1)) then (some (-1)) else (bif (decide (a0 > a1)) then (some 1) else (some 0))))
def wave_Mark_Compare.f (k : Nat) (a0 : TMark) (a1 : TMark) : Option (Int) := (cmp_Compare.f k a0.op.time a1.op.time).bind fun x1 => some x1
def wave_Swell_taken.f (k : Nat) (a0 : TSwell) : Option (TTook) := bif (a0.deletes == a0.free) then (some zTTook) else (some (TTook.mk true a0.most))
def cmp_Or.l0 (k : Nat) (l0 : List Int) : Nat → Int → Option (Sum (Int) (Unit))
  | 0, _ => none
  | n + 1, v1 => bif (decide (v1 < (l0.length : Int))) then ((atL l0 v1).bind fun x2 => bif (x2 != 0) then (some (Sum.inl x2)) else (cmp_Or.l0 k l0 n (w64 (v1 + 1)))) else (some (Sum.inr ()))
def cmp_Or.f (k : Nat) (l0 : List Int) : Option (Int) := (cmp_Or.l0 k l0 k 0).bind (Sum.elim (fun r => some r) (fun v1 => some 0))
def item_Compare.f (k : Nat) (a0 : TItem) (a1 : TItem) : Option (Int) := (cmp_Compare.f k a0.key a1.key).bind fun x1 => (cmp_Compare.f k a0.id a1.id).bind fun x2 => (cmp_Or.f k ([x1, x2] : List Int)).bind fun x3 => some x3
def wave_better.f (k : Nat) (a0 : Int) (a1 : TTook) (a2 : TTook) : Option (TTook) := bif (!a1.found) then (some a2) else (bif a2.found then ((item_Compare.f k a2.item a1.item).bind fun x1 => bif (decide ((w64 (a0 * x1)) < 0)) then (some a2) else (some a1)) else (some a1))
def wave_Swell_Plus.f (k : Nat) (a0 : TSwell) (a1 : TSwell) : Option (TSwell) := (tide_Tide_Plus.f k a0.count a1.count).bind fun x1 => (tide_Tide_Plus.f k a0.weight a1.weight).bind fun x2 => (wave_Swell_taken.f k a0).bind fun x3 => (wave_Swell_taken.f k a1).bind fun x4 => (wave_better.f k (-1) x3 x4).bind fun x5 => (wave_better.f k (-1) a0.gone a1.gone).bind fun x6 => (wave_better.f k 1 a0.least a1.least).bind fun x7 => some (TSwell.mk x1 x2 (w64 (a0.deletes + a1.deletes)) (w64 (a0.free + a1.free)) x5.item x6 x7)
abbrev opsM : Ops TMark TSwell := ⟨wave_Mark_Compare.f, wave_Mark_Sum.f, wave_Swell_Plus.f, zTMark, zTSwell⟩
abbrev zNodeM : TNode TMark TSwell := zNode opsM
def wave_New.f (k : Nat) (a0 : Int) : Option (TRef × Pool (TNode TMark TSwell)) := (Tree_New.f opsM k a0).bind fun x1 => some (x1.1, x1.2)
def Lw10_Tree.l0 (k : Nat) (l0 : List TR08Mark) : Nat → (Pool (TNode TMark TSwell) × Int × Int × Int) → Option (Pool (TNode TMark TSwell) × Int × Int)
  | 0, _ => none
  | n + 1, (v1, v2, v3, v4) => bif (decide (v4 < (l0.length : Int))) then ((atL l0 v4).bind fun x3 => (Tree_Put.f opsM k v1 (TRef.mk v2 v3) (TMark.mk x3.op x3.here x3.took)).bind fun x4 => Lw10_Tree.l0 k l0 n (x4.2.2, x4.2.1.index, x4.2.1.gen, (w64 (v4 + 1)))) else (some (v1, v2, v3))
def Lw10_Tree.f (k : Nat) (l0 : List TR08Mark) : Option (TRef × Pool (TNode TMark TSwell)) := (wave_New.f k (l0.length : Int)).bind fun x1 => (Lw10_Tree.l0 k l0 k (x1.2, x1.1.index, x1.1.gen, 0)).bind fun x2 => some ((TRef.mk x2.2.1 x2.2.2), x2.1)
def bridge_clamp.f (k : Nat) (p1 : Pool (TNode TMark TSwell)) (rt0 : TRef) (a1 : Int) : Option (Int) := (Tree_Len.f opsM k p1 rt0).bind fun x1 => some (gmin (gmax a1 0) x1)
def bridge_Height.f (k : Nat) (p1 : Pool (TNode TMark TSwell)) (rt0 : TRef) (a1 : Int) (a2 : Int) : Option (Int) := (Tree_Between.f opsM k p1 rt0 0 a1).bind fun x1 => some (w64 (a2 + x1.weight.sum))
def bridge_low.f (k : Nat) (a0 : Int) : Option (Int) := some a0
def bridge_low_1.f (k : Nat) (a0 : TSwell) (a1 : TSwell) (c0 : Int) : Option (Bool) := bif (decide (a1.weight.n > 0)) then (some (decide ((w64 ((w64 (c0 + a0.weight.sum)) + a1.weight.low)) ≤ 0))) else (some false)
def bridge_Next.f (k : Nat) (p1 : Pool (TNode TMark TSwell)) (rt0 : TRef) (a1 : Int) (a2 : Int) : Option (Int) := (bridge_clamp.f k p1 rt0 a1).bind fun x1 => (bridge_Height.f k p1 rt0 x1 a2).bind fun x2 => bif (decide (x2 ≤ 0)) then (some x1) else ((bridge_low.f k a2).bind fun x3 => (Tree_First.f opsM k p1 rt0 x1 (fun z0 z1 => bridge_low_1.f k z0 z1 x3)).bind fun x4 => bif (decide (x4 ≥ 0)) then (some (w64 (x4 + 1))) else (some (-1)))
def bridge_Prior.f (k : Nat) (p1 : Pool (TNode TMark TSwell)) (rt0 : TRef) (a1 : Int) (a2 : Int) : Option (Int) := (bridge_clamp.f k p1 rt0 a1).bind fun x1 => (bridge_low.f k a2).bind fun x2 => (Tree_Last.f opsM k p1 rt0 x1 (fun z0 z1 => bridge_low_1.f k z0 z1 x2)).bind fun x3 => bif (decide (x3 ≥ 0)) then (some (w64 (x3 + 1))) else (bif (decide (a2 ≤ 0)) then (some 0) else (some (-1)))
def Lw10_awake.f (k : Nat) : Option (Bool) := (Lw10_Tree.f k ([(TR08Mark.mk (TOp.mk 1 true zTItem) false zTTook), (TR08Mark.mk (TOp.mk 2 false zTItem) false zTTook)] : List TR08Mark)).bind fun x1 => (bridge_Next.f k x1.2 x1.1 0 0).bind fun x2 => bif (x2 == 0) then ((bridge_Next.f k x1.2 x1.1 1 0).bind fun x3 => bif (x3 == 2) then ((bridge_Prior.f k x1.2 x1.1 1 0).bind fun x4 => bif (x4 == 0) then ((bridge_Prior.f k x1.2 x1.1 2 0).bind fun x5 => bif (x5 == 2) then ((bridge_Height.f k x1.2 x1.1 1 0).bind fun x6 => some (x6 == 1)) else (some false)) else (some false)) else (some false)) else (some false)
def Lw10_small.f (k : Nat) (l0 : List TR08Mark) (a1 : Int) : Option (Bool) := bif (decide ((l0.length : Int) ≤ 60)) then (bif (decide (a1 ≥ (-1099511627776))) then (some (decide (a1 ≤ 1099511627776))) else (some false)) else (some false)
def R10_Timed.l1 (k : Nat) (l0 : List TR08Mark) (v1 : List TR08Mark) (v2 : Int) : Nat → Int → Option (Int)
  | 0, _ => none
  | n + 1, v101 => bif (decide (v101 < (v1.length : Int))) then ((atL v1 v101).bind fun x4 => (atL l0 v2).bind fun x5 => bif (decide (x4.op.time < x5.op.time)) then (R10_Timed.l1 k l0 v1 v2 n (w64 (v101 + 1))) else (some v101)) else (some v101)
def R10_Timed.l0 (k : Nat) (l0 : List TR08Mark) : Nat → (List TR08Mark × Int) → Option (List TR08Mark)
  | 0, _ => none
  | n + 1, (v1, v2) => bif (decide (v2 < (l0.length : Int))) then (((R10_Timed.l1 k l0 v1 v2 k 0).bind fun x3 => bif decide (0 ≤ x3 ∧ x3 ≤ (v1.length : Int)) then (bif decide (([] : List TR08Mark).length + ((v1.drop 0).take (((x3).toNat) - 0)).length < 4294967296) then ((atL l0 v2).bind fun x6 => bif decide ((([] : List TR08Mark) ++ ((v1.drop 0).take (((x3).toNat) - 0))).length + ([x6] : List TR08Mark).length < 4294967296) then (bif (decide (x3 < (v1.length : Int))) then ((atL v1 x3).bind fun x7 => bif (x7.op.time == x6.op.time) then (bif decide (0 ≤ (w64 (x3 + 1)) ∧ (w64 (x3 + 1)) ≤ (v1.length : Int)) then (bif decide (((([] : List TR08Mark) ++ ((v1.drop 0).take (((x3).toNat) - 0))) ++ ([x6] : List TR08Mark)).length + ((v1.drop (((w64 (x3 + 1))).toNat)).take (v1.length - (((w64 (x3 + 1))).toNat))).length < 4294967296) then (some (((([] : List TR08Mark) ++ ((v1.drop 0).take (((x3).toNat) - 0))) ++ ([x6] : List TR08Mark)) ++ ((v1.drop (((w64 (x3 + 1))).toNat)).take (v1.length - (((w64 (x3 + 1))).toNat))))) else none) else none) else (bif decide (0 ≤ x3 ∧ x3 ≤ (v1.length : Int)) then (bif decide (((([] : List TR08Mark) ++ ((v1.drop 0).take (((x3).toNat) - 0))) ++ ([x6] : List TR08Mark)).length + ((v1.drop ((x3).toNat)).take (v1.length - ((x3).toNat))).length < 4294967296) then (some (((([] : List TR08Mark) ++ ((v1.drop 0).take (((x3).toNat) - 0))) ++ ([x6] : List TR08Mark)) ++ ((v1.drop ((x3).toNat)).take (v1.length - ((x3).toNat))))) else none) else none)) else (bif decide (0 ≤ x3 ∧ x3 ≤ (v1.length : Int)) then (bif decide (((([] : List TR08Mark) ++ ((v1.drop 0).take (((x3).toNat) - 0))) ++ ([x6] : List TR08Mark)).length + ((v1.drop ((x3).toNat)).take (v1.length - ((x3).toNat))).length < 4294967296) then (some (((([] : List TR08Mark) ++ ((v1.drop 0).take (((x3).toNat) - 0))) ++ ([x6] : List TR08Mark)) ++ ((v1.drop ((x3).toNat)).take (v1.length - ((x3).toNat))))) else none) else none)) else none) else none) else none).bind fun x2 => R10_Timed.l0 k l0 n (x2, (w64 (v2 + 1)))) else (some v1)
def R10_Timed.f (k : Nat) (l0 : List TR08Mark) : Option (List TR08Mark) := (R10_Timed.l0 k l0 k (([] : List TR08Mark), 0)).bind fun x1 => some x1
def R08_Counts.l0 (k : Nat) (l0 : List TR08Mark) : Nat → (List Int × Int) → Option (List Int)
  | 0, _ => none
  | n + 1, (v1, v2) => bif (decide (v2 < (l0.length : Int))) then ((atL l0 v2).bind fun x2 => bif x2.op.insert then (bif decide (v1.length + ([1] : List Int).length < 4294967296) then (R08_Counts.l0 k l0 n ((v1 ++ ([1] : List Int)), (w64 (v2 + 1)))) else none) else (bif decide (v1.length + ([(-1)] : List Int).length < 4294967296) then (R08_Counts.l0 k l0 n ((v1 ++ ([(-1)] : List Int)), (w64 (v2 + 1)))) else none)) else (some v1)
def R08_Counts.f (k : Nat) (l0 : List TR08Mark) : Option (List Int) := (R08_Counts.l0 k l0 k (([] : List Int), 0)).bind fun x1 => some x1
def R08_Weights.l0 (k : Nat) (l0 : List TR08Mark) : Nat → (List Int × Int) → Option (List Int)
  | 0, _ => none
  | n + 1, (v1, v2) => bif (decide (v2 < (l0.length : Int))) then ((atL l0 v2).bind fun x3 => bif x3.op.insert then (bif x3.here then ((atL v1 v2).bind fun x4 => R08_Weights.l0 k l0 n ((v1.set ((v2).toNat) 0), (w64 (v2 + 1)))) else (R08_Weights.l0 k l0 n (v1, (w64 (v2 + 1))))) else (R08_Weights.l0 k l0 n (v1, (w64 (v2 + 1))))) else (some v1)
def R08_Weights.f (k : Nat) (l0 : List TR08Mark) : Option (List Int) := (R08_Counts.f k l0).bind fun x1 => (R08_Weights.l0 k l0 k (x1, 0)).bind fun x2 => some x2
def R10_Clamp.f (k : Nat) (l0 : List TR08Mark) (a1 : Int) : Option (Int) := bif (decide (a1 < 0)) then (some 0) else (bif (decide (a1 > (l0.length : Int))) then (some (l0.length : Int)) else (some a1))
def R06_Sum.l0 (k : Nat) (l0 : List Int) (a1 : Int) : Nat → (Int × Int) → Option (Int)
  | 0, _ => none
  | n + 1, (v1, v2) => bif (decide (v2 < a1)) then ((atL l0 v2).bind fun x2 => R06_Sum.l0 k l0 a1 n ((w64 (v1 + x2)), (w64 (v2 + 1)))) else (some v1)
def R06_Sum.f (k : Nat) (l0 : List Int) (a1 : Int) : Option (Int) := (R06_Sum.l0 k l0 a1 k (0, 0)).bind fun x1 => some x1
def R10_Height.f (k : Nat) (l0 : List TR08Mark) (a1 : Int) (a2 : Int) : Option (Int) := (R08_Weights.f k l0).bind fun x1 => (R10_Clamp.f k l0 a1).bind fun x2 => (R06_Sum.f k x1 x2).bind fun x3 => some (w64 (a2 + x3))
def Lw10_BridgeHeights.f (k : Nat) (l0 : List TR08Mark) (a1 : Int) (a2 : Int) : Option (Bool) := (Lw10_awake.f k).bind fun x1 => bif (!x1) then ((Lw10_awake.f k).bind fun x2 => some x2) else ((Lw10_small.f k l0 a2).bind fun x3 => bif (!x3) then ((Lw10_awake.f k).bind fun x4 => some x4) else ((Lw10_Tree.f k l0).bind fun x5 => (bridge_Height.f k x5.2 x5.1 a1 a2).bind fun x6 => (R10_Timed.f k l0).bind fun x7 => (R10_Height.f k x7 a1 a2).bind fun x8 => some (x6 == x8)))
def bridge_Best.f (k : Nat) (p1 : Pool (TNode TMark TSwell)) (rt0 : TRef) (a1 : Int) : Option (TTook) := (bridge_clamp.f k p1 rt0 a1).bind fun x1 => (Tree_Len.f opsM k p1 rt0).bind fun x2 => (Tree_Between.f opsM k p1 rt0 x1 x2).bind fun x3 => some x3.gone
def R02_Ahead.f (k : Nat) (a0 : TItem) (a1 : TItem) : Option (Bool) := bif (decide (a0.key < a1.key)) then (some true) else (bif (a0.key == a1.key) then (some (decide (a0.id < a1.id))) else (some false))
def R02_Sorted.l1 (k : Nat) (l0 : List TItem) (v1 : List TItem) (v2 : Int) : Nat → Int → Option (Int)
  | 0, _ => none
  | n + 1, v101 => bif (decide (v101 > 0)) then ((atL l0 v2).bind fun x4 => (atL v1 (w64 (v101 - 1))).bind fun x5 => (R02_Ahead.f k x4 x5).bind fun x6 => bif x6 then (R02_Sorted.l1 k l0 v1 v2 n (w64 (v101 - 1))) else (some v101)) else (some v101)
def R02_Sorted.l0 (k : Nat) (l0 : List TItem) : Nat → (List TItem × Int) → Option (List TItem)
  | 0, _ => none
  | n + 1, (v1, v2) => bif (decide (v2 < (l0.length : Int))) then (((R02_Sorted.l1 k l0 v1 v2 k (v1.length : Int)).bind fun x3 => bif decide (0 ≤ x3 ∧ x3 ≤ (v1.length : Int)) then (bif decide (([] : List TItem).length + ((v1.drop 0).take (((x3).toNat) - 0)).length < 4294967296) then ((atL l0 v2).bind fun x7 => bif decide ((([] : List TItem) ++ ((v1.drop 0).take (((x3).toNat) - 0))).length + ([x7] : List TItem).length < 4294967296) then (bif decide (0 ≤ x3 ∧ x3 ≤ (v1.length : Int)) then (bif decide (((([] : List TItem) ++ ((v1.drop 0).take (((x3).toNat) - 0))) ++ ([x7] : List TItem)).length + ((v1.drop ((x3).toNat)).take (v1.length - ((x3).toNat))).length < 4294967296) then (some (((([] : List TItem) ++ ((v1.drop 0).take (((x3).toNat) - 0))) ++ ([x7] : List TItem)) ++ ((v1.drop ((x3).toNat)).take (v1.length - ((x3).toNat))))) else none) else none) else none) else none) else none).bind fun x2 => R02_Sorted.l0 k l0 n (x2, (w64 (v2 + 1)))) else (some v1)
def R02_Sorted.f (k : Nat) (l0 : List TItem) : Option (List TItem) := (R02_Sorted.l0 k l0 k (([] : List TItem), 0)).bind fun x1 => some x1
def R08_Items.l0 (k : Nat) (l0 : List TR08Mark) (a1 : Bool) : Nat → (List TItem × Int) → Option (List TItem)
  | 0, _ => none
  | n + 1, (v1, v2) => bif (decide (v2 < (l0.length : Int))) then ((atL l0 v2).bind fun x2 => bif x2.op.insert then (bif (x2.here == a1) then (bif decide (v1.length + ([x2.op.item] : List TItem).length < 4294967296) then (R08_Items.l0 k l0 a1 n ((v1 ++ ([x2.op.item] : List TItem)), (w64 (v2 + 1)))) else none) else (R08_Items.l0 k l0 a1 n (v1, (w64 (v2 + 1))))) else (R08_Items.l0 k l0 a1 n (v1, (w64 (v2 + 1))))) else (some v1)
def R08_Items.f (k : Nat) (l0 : List TR08Mark) (a1 : Bool) : Option (List TItem) := (R08_Items.l0 k l0 a1 k (([] : List TItem), 0)).bind fun x1 => (R02_Sorted.f k x1).bind fun x3 => some x3
def R10_Best.f (k : Nat) (l0 : List TR08Mark) (a1 : Int) : Option (TTook) := (R10_Clamp.f k l0 a1).bind fun x1 => bif decide (0 ≤ x1 ∧ x1 ≤ (l0.length : Int)) then ((R08_Items.f k ((l0.drop ((x1).toNat)).take (l0.length - ((x1).toNat))) false).bind fun x2 => bif ((x2.length : Int) == 0) then (some zTTook) else ((atL x2 (w64 ((x2.length : Int) - 1))).bind fun x3 => some (TTook.mk true x3))) else none
def bridge_Least.f (k : Nat) (p1 : Pool (TNode TMark TSwell)) (rt0 : TRef) (a1 : Int) : Option (TTook) := (bridge_clamp.f k p1 rt0 a1).bind fun x1 => (Tree_Between.f opsM k p1 rt0 0 x1).bind fun x2 => some x2.least
def R10_Least.f (k : Nat) (l0 : List TR08Mark) (a1 : Int) : Option (TTook) := (R10_Clamp.f k l0 a1).bind fun x1 => bif decide (0 ≤ x1 ∧ x1 ≤ (l0.length : Int)) then ((R08_Items.f k ((l0.drop 0).take (((x1).toNat) - 0)) true).bind fun x2 => bif ((x2.length : Int) == 0) then (some zTTook) else ((atL x2 0).bind fun x3 => some (TTook.mk true x3))) else none
def Lw10_BridgeItems.f (k : Nat) (l0 : List TR08Mark) (a1 : Int) : Option (Bool) := ((Lw10_awake.f k).bind fun x2 => bif (!x2) then ((Lw10_awake.f k).bind fun x3 => some (Sum.inl x3)) else ((Lw10_small.f k l0 0).bind fun x4 => bif (!x4) then ((Lw10_awake.f k).bind fun x5 => some (Sum.inl x5)) else (some (Sum.inr ())))).bind (Sum.elim (fun r => some r) (fun v1 => (Lw10_Tree.f k l0).bind fun x6 => (R10_Timed.f k l0).bind fun x7 => (bridge_Best.f k x6.2 x6.1 a1).bind fun x8 => (R10_Best.f k x7 a1).bind fun x9 => bif ((x8.found == x9.found) && ((x8.item.key == x9.item.key) && ((x8.item.id == x9.item.id) && true))) then ((bridge_Least.f k x6.2 x6.1 a1).bind fun x10 => (R10_Least.f k x7 a1).bind fun x11 => some ((x10.found == x11.found) && ((x10.item.key == x11.item.key) && ((x10.item.id == x11.item.id) && true)))) else (some false)))
def R10_Next.l0 (k : Nat) (l0 : List TR08Mark) (a2 : Int) : Nat → Int → Option (Sum (Int) (Unit))
  | 0, _ => none
  | n + 1, v1 => bif (decide (v1 ≤ (l0.length : Int))) then ((R10_Height.f k l0 v1 a2).bind fun x3 => bif (decide (x3 ≤ 0)) then (some (Sum.inl v1)) else (R10_Next.l0 k l0 a2 n (w64 (v1 + 1)))) else (some (Sum.inr ()))
def R10_Next.f (k : Nat) (l0 : List TR08Mark) (a1 : Int) (a2 : Int) : Option (Int) := ((R10_Clamp.f k l0 a1).bind fun x2 => R10_Next.l0 k l0 a2 k x2).bind (Sum.elim (fun r => some r) (fun v1 => some (-1)))
def R10_Prior.l0 (k : Nat) (l0 : List TR08Mark) (a2 : Int) : Nat → Int → Option (Sum (Int) (Unit))
  | 0, _ => none
  | n + 1, v1 => bif (decide (v1 ≥ 0)) then ((R10_Height.f k l0 v1 a2).bind fun x3 => bif (decide (x3 ≤ 0)) then (some (Sum.inl v1)) else (R10_Prior.l0 k l0 a2 n (w64 (v1 - 1)))) else (some (Sum.inr ()))
def R10_Prior.f (k : Nat) (l0 : List TR08Mark) (a1 : Int) (a2 : Int) : Option (Int) := ((R10_Clamp.f k l0 a1).bind fun x2 => R10_Prior.l0 k l0 a2 k x2).bind (Sum.elim (fun r => some r) (fun v1 => some (-1)))
def Lw10_BridgeFinds.f (k : Nat) (l0 : List TR08Mark) (a1 : Int) (a2 : Int) : Option (Bool) := ((Lw10_awake.f k).bind fun x2 => bif (!x2) then ((Lw10_awake.f k).bind fun x3 => some (Sum.inl x3)) else ((Lw10_small.f k l0 a2).bind fun x4 => bif (!x4) then ((Lw10_awake.f k).bind fun x5 => some (Sum.inl x5)) else (some (Sum.inr ())))).bind (Sum.elim (fun r => some r) (fun v1 => (Lw10_Tree.f k l0).bind fun x6 => (R10_Timed.f k l0).bind fun x7 => (bridge_Next.f k x6.2 x6.1 a1 a2).bind fun x8 => (R10_Next.f k x7 a1 a2).bind fun x9 => bif (x8 == x9) then ((bridge_Prior.f k x6.2 x6.1 a1 a2).bind fun x10 => (R10_Prior.f k x7 a1 a2).bind fun x11 => some (x10 == x11)) else (some false)))
def Lw10_BridgeBetween.l0 (k : Nat) (a2 : Int) (x6 : TRef × Pool (TNode TMark TSwell)) (x17 : Int) : Nat → Int → Option (Sum (Bool) (Unit))
  | 0, _ => none
  | n + 1, v1 => bif (decide (v1 < x17)) then ((bridge_Height.f k x6.2 x6.1 v1 a2).bind fun x19 => bif (decide (x19 ≤ 0)) then (some (Sum.inl false)) else (Lw10_BridgeBetween.l0 k a2 x6 x17 n (w64 (v1 + 1)))) else (some (Sum.inr ()))
def Lw10_BridgeBetween.f (k : Nat) (l0 : List TR08Mark) (a1 : Int) (a2 : Int) : Option (Bool) := ((Lw10_awake.f k).bind fun x2 => bif (!x2) then ((Lw10_awake.f k).bind fun x3 => some (Sum.inl x3)) else ((Lw10_small.f k l0 a2).bind fun x4 => bif (!x4) then ((Lw10_awake.f k).bind fun x5 => some (Sum.inl x5)) else (some (Sum.inr ())))).bind (Sum.elim (fun r => some r) (fun v1 => (Lw10_Tree.f k l0).bind fun x6 => (Tree_Len.f opsM k x6.2 x6.1).bind fun x7 => (R10_Timed.f k l0).bind fun x8 => (R10_Clamp.f k x8 a1).bind fun x9 => (bridge_Prior.f k x6.2 x6.1 x9 a2).bind fun x10 => (bridge_Next.f k x6.2 x6.1 x9 a2).bind fun x11 => (bif (decide (x10 > x9)) then (some (Sum.inl false)) else (bif (decide (x11 ≥ 0)) then (bif (decide (x11 < x9)) then (some (Sum.inl false)) else (bif (decide (x10 > x7)) then (some (Sum.inl false)) else (bif (decide (x11 > x7)) then (some (Sum.inl false)) else (bif (decide (x10 ≥ 0)) then ((bridge_Height.f k x6.2 x6.1 x10 a2).bind fun x13 => bif (decide (x13 > 0)) then (some (Sum.inl false)) else ((bridge_Height.f k x6.2 x6.1 x11 a2).bind fun x14 => bif (decide (x14 > 0)) then (some (Sum.inl false)) else (some (Sum.inr ())))) else ((bridge_Height.f k x6.2 x6.1 x11 a2).bind fun x15 => bif (decide (x15 > 0)) then (some (Sum.inl false)) else (some (Sum.inr ()))))))) else (bif (decide (x10 > x7)) then (some (Sum.inl false)) else (bif (decide (x11 > x7)) then (some (Sum.inl false)) else (bif (decide (x10 ≥ 0)) then ((bridge_Height.f k x6.2 x6.1 x10 a2).bind fun x16 => bif (decide (x16 > 0)) then (some (Sum.inl false)) else (some (Sum.inr ()))) else (some (Sum.inr ()))))))).bind (Sum.elim (fun r => some r) (fun v12 => (bif (decide (x11 < 0)) then (some (w64 (x7 + 1))) else (some x11)).bind fun x17 => (Lw10_BridgeBetween.l0 k a2 x6 x17 k (w64 (x10 + 1))).bind (Sum.elim (fun r => some r) (fun v18 => some true))))))
def tide_Tide_Least.f (k : Nat) (a0 : TTide) (a1 : Int) : Option (Int) := bif (a0.n == 0) then (some a1) else (some (gmin a1 (w64 (a1 + a0.low))))
def legal_Low.f (k : Nat) (p1 : Pool (TNode TMark TSwell)) (rt0 : TRef) (a1 : Int) (a2 : Int) : Option (Int) := (Tree_Len.f opsM k p1 rt0).bind fun x1 => (Tree_Between.f opsM k p1 rt0 0 (gmin (gmax a1 0) x1)).bind fun x2 => (Tree_Between.f opsM k p1 rt0 (gmin (gmax a1 0) x1) (gmax (gmin (gmax a1 0) x1) (gmin (gmax a2 0) x1))).bind fun x3 => (tide_Tide_Least.f k x3.count x2.count.sum).bind fun x4 => some x4
def legal_Right.f (k : Nat) (p1 : Pool (TNode TMark TSwell)) (rt0 : TRef) : Option (Bool) := (Tree_Len.f opsM k p1 rt0).bind fun x1 => (legal_Low.f k p1 rt0 0 x1).bind fun x2 => some (decide (x2 ≥ 0))
def wave_Key.f (k : Nat) (a0 : Int) : Option (TMark) := some (TMark.mk (TOp.mk a0 false zTItem) false zTTook)
def legal_spare.f (k : Nat) (p1 : Pool (TNode TMark TSwell)) (rt0 : TRef) (a1 : Int) (a2 : Int) : Option (Bool) := (legal_Low.f k p1 rt0 a1 a2).bind fun x1 => some (decide (x1 > 0))
def legal_MayDelete.f (k : Nat) (p1 : Pool (TNode TMark TSwell)) (rt0 : TRef) (a1 : Int) : Option (Bool) := (wave_Key.f k a1).bind fun x1 => (Tree_Find.f opsM k p1 rt0 x1).bind fun x2 => bif x2.2 then (some false) else ((wave_Key.f k a1).bind fun x3 => (Tree_Rank.f opsM k p1 rt0 x3).bind fun x4 => (Tree_Len.f opsM k p1 rt0).bind fun x5 => (legal_spare.f k p1 rt0 x4 x5).bind fun x6 => some x6)
def legal_MayRevoke.f (k : Nat) (p1 : Pool (TNode TMark TSwell)) (rt0 : TRef) (a1 : Int) : Option (Bool) := (wave_Key.f k a1).bind fun x1 => (Tree_Find.f opsM k p1 rt0 x1).bind fun x2 => bif (!x2.2) then (some x2.2) else (bif (!x2.1.op.insert) then (some x2.2) else ((wave_Key.f k a1).bind fun x3 => (Tree_Rank.f opsM k p1 rt0 x3).bind fun x4 => (Tree_Len.f opsM k p1 rt0).bind fun x5 => (legal_spare.f k p1 rt0 (w64 (x4 + 1)) x5).bind fun x6 => some x6))
def Lw11_awake.f (k : Nat) : Option (Bool) := (Lw10_Tree.f k ([(TR08Mark.mk (TOp.mk 5 true zTItem) false zTTook)] : List TR08Mark)).bind fun x1 => (legal_Right.f k x1.2 x1.1).bind fun x2 => bif x2 then ((legal_MayDelete.f k x1.2 x1.1 6).bind fun x3 => bif x3 then ((legal_MayDelete.f k x1.2 x1.1 4).bind fun x4 => bif (!x4) then ((legal_MayRevoke.f k x1.2 x1.1 5).bind fun x5 => bif x5 then ((legal_Low.f k x1.2 x1.1 0 1).bind fun x6 => bif (x6 == 0) then ((legal_Low.f k x1.2 x1.1 1 1).bind fun x7 => some (x7 == 1)) else (some false)) else (some false)) else (some false)) else (some false)) else (some false)
def R11_Low.l0 (k : Nat) (l0 : List TR08Mark) (a2 : Int) (x1 : List Int) : Nat → (Int × Int) → Option (Int)
  | 0, _ => none
  | n + 1, (v1, v2) => bif (decide (v2 ≤ (gmin (gmax a2 0) (l0.length : Int)))) then ((R06_Sum.f k x1 v2).bind fun x4 => R11_Low.l0 k l0 a2 x1 n ((gmin v1 x4), (w64 (v2 + 1)))) else (some v1)
def R11_Low.f (k : Nat) (l0 : List TR08Mark) (a1 : Int) (a2 : Int) : Option (Int) := (R08_Counts.f k l0).bind fun x1 => (R06_Sum.f k x1 (gmin (gmax a1 0) (l0.length : Int))).bind fun x2 => (R11_Low.l0 k l0 a2 x1 k (x2, (gmin (gmax a1 0) (l0.length : Int)))).bind fun x3 => some x3
def R11_Legal.l0 (k : Nat) (l0 : List TR08Mark) : Nat → (Int × Int) → Option (Sum (Bool) (Unit))
  | 0, _ => none
  | n + 1, (v1, v2) => bif (decide (v2 < (l0.length : Int))) then ((atL l0 v2).bind fun x2 => bif x2.op.insert then (bif (decide ((w64 (v1 + 1)) < 0)) then (some (Sum.inl false)) else (R11_Legal.l0 k l0 n ((w64 (v1 + 1)), (w64 (v2 + 1))))) else (bif (decide ((w64 (v1 - 1)) < 0)) then (some (Sum.inl false)) else (R11_Legal.l0 k l0 n ((w64 (v1 - 1)), (w64 (v2 + 1)))))) else (some (Sum.inr ()))
def R11_Legal.f (k : Nat) (l0 : List TR08Mark) : Option (Bool) := (R11_Legal.l0 k l0 k (0, 0)).bind (Sum.elim (fun r => some r) (fun v1 => some true))
def Lw11_LegalLows.f (k : Nat) (l0 : List TR08Mark) (a1 : Int) (a2 : Int) : Option (Bool) := ((Lw11_awake.f k).bind fun x2 => bif (!x2) then ((Lw11_awake.f k).bind fun x3 => some (Sum.inl x3)) else (bif (decide ((l0.length : Int) > 60)) then ((Lw11_awake.f k).bind fun x4 => some (Sum.inl x4)) else (some (Sum.inr ())))).bind (Sum.elim (fun r => some r) (fun v1 => (Lw10_Tree.f k l0).bind fun x5 => (R10_Timed.f k l0).bind fun x6 => (legal_Low.f k x5.2 x5.1 a1 a2).bind fun x7 => (R11_Low.f k x6 a1 a2).bind fun x8 => bif (x7 == x8) then ((legal_Right.f k x5.2 x5.1).bind fun x9 => (R11_Legal.f k x6).bind fun x10 => some (x9 == x10)) else (some false)))
def R11_With.l0 (k : Nat) (l0 : List TR08Mark) (a1 : TR08Mark) : Nat → Int → Option (Int)
  | 0, _ => none
  | n + 1, v1 => bif (decide (v1 < (l0.length : Int))) then ((atL l0 v1).bind fun x2 => bif (decide (x2.op.time < a1.op.time)) then (R11_With.l0 k l0 a1 n (w64 (v1 + 1))) else (some v1)) else (some v1)
def R11_With.f (k : Nat) (l0 : List TR08Mark) (a1 : TR08Mark) : Option (List TR08Mark) := (R11_With.l0 k l0 a1 k 0).bind fun x1 => bif decide (0 ≤ x1 ∧ x1 ≤ (l0.length : Int)) then (bif decide (([] : List TR08Mark).length + ((l0.drop 0).take (((x1).toNat) - 0)).length < 4294967296) then (bif decide ((([] : List TR08Mark) ++ ((l0.drop 0).take (((x1).toNat) - 0))).length + ([a1] : List TR08Mark).length < 4294967296) then (bif decide (0 ≤ x1 ∧ x1 ≤ (l0.length : Int)) then (bif decide (((([] : List TR08Mark) ++ ((l0.drop 0).take (((x1).toNat) - 0))) ++ ([a1] : List TR08Mark)).length + ((l0.drop ((x1).toNat)).take (l0.length - ((x1).toNat))).length < 4294967296) then (some (((([] : List TR08Mark) ++ ((l0.drop 0).take (((x1).toNat) - 0))) ++ ([a1] : List TR08Mark)) ++ ((l0.drop ((x1).toNat)).take (l0.length - ((x1).toNat))))) else none) else none) else none) else none) else none
def R11_At.l0 (k : Nat) (l0 : List TR08Mark) (a1 : Int) : Nat → Int → Option (Sum (Int) (Unit))
  | 0, _ => none
  | n + 1, v1 => bif (decide (v1 < (l0.length : Int))) then ((atL l0 v1).bind fun x2 => bif (x2.op.time == a1) then (some (Sum.inl v1)) else (R11_At.l0 k l0 a1 n (w64 (v1 + 1)))) else (some (Sum.inr ()))
def R11_At.f (k : Nat) (l0 : List TR08Mark) (a1 : Int) : Option (Int) := (R11_At.l0 k l0 a1 k 0).bind (Sum.elim (fun r => some r) (fun v1 => some (-1)))
def R11_Of.l0 (k : Nat) (l0 : List TR08Mark) : Nat → (List TR08Mark × Int) → Option (List TR08Mark)
  | 0, _ => none
  | n + 1, (v1, v2) => bif (decide (v2 < (l0.length : Int))) then ((atL l0 v2).bind fun x2 => (R11_With.f k v1 x2).bind fun x3 => (R11_At.f k v1 x2.op.time).bind fun x4 => bif (decide (x4 < 0)) then ((R11_Legal.f k x3).bind fun x5 => bif x5 then (R11_Of.l0 k l0 n (x3, (w64 (v2 + 1)))) else (R11_Of.l0 k l0 n (v1, (w64 (v2 + 1))))) else (R11_Of.l0 k l0 n (v1, (w64 (v2 + 1))))) else (some v1)
def R11_Of.f (k : Nat) (l0 : List TR08Mark) : Option (List TR08Mark) := (R11_Of.l0 k l0 k (([] : List TR08Mark), 0)).bind fun x1 => some x1
def R11_Delete.f (k : Nat) (a0 : Int) : Option (TR08Mark) := some (TR08Mark.mk (TOp.mk a0 false zTItem) false zTTook)
def R11_Without.f (k : Nat) (l0 : List TR08Mark) (a1 : Int) : Option (List TR08Mark) := bif decide (0 ≤ a1 ∧ a1 ≤ (l0.length : Int)) then (bif decide (([] : List TR08Mark).length + ((l0.drop 0).take (((a1).toNat) - 0)).length < 4294967296) then (bif decide (0 ≤ (w64 (a1 + 1)) ∧ (w64 (a1 + 1)) ≤ (l0.length : Int)) then (bif decide ((([] : List TR08Mark) ++ ((l0.drop 0).take (((a1).toNat) - 0))).length + ((l0.drop (((w64 (a1 + 1))).toNat)).take (l0.length - (((w64 (a1 + 1))).toNat))).length < 4294967296) then (some ((([] : List TR08Mark) ++ ((l0.drop 0).take (((a1).toNat) - 0))) ++ ((l0.drop (((w64 (a1 + 1))).toNat)).take (l0.length - (((w64 (a1 + 1))).toNat))))) else none) else none) else none) else none
def Lw11_LegalEdits.l0 (k : Nat) (x5 : List TR08Mark) (x6 : TRef × Pool (TNode TMark TSwell)) : Nat → Int → Option (Sum (Bool) (Unit))
  | 0, _ => none
  | n + 1, v1 => bif (decide (v1 < (x5.length : Int))) then ((atL x5 v1).bind fun x16 => (legal_MayRevoke.f k x6.2 x6.1 x16.op.time).bind fun x17 => (R11_Without.f k x5 v1).bind fun x18 => (R11_Legal.f k x18).bind fun x19 => bif (!(x17 == x19)) then (some (Sum.inl false)) else (Lw11_LegalEdits.l0 k x5 x6 n (w64 (v1 + 1)))) else (some (Sum.inr ()))
def Lw11_LegalEdits.f (k : Nat) (l0 : List TR08Mark) (a1 : Int) : Option (Bool) := ((Lw11_awake.f k).bind fun x2 => bif (!x2) then ((Lw11_awake.f k).bind fun x3 => some (Sum.inl x3)) else (bif (decide ((l0.length : Int) > 60)) then ((Lw11_awake.f k).bind fun x4 => some (Sum.inl x4)) else (some (Sum.inr ())))).bind (Sum.elim (fun r => some r) (fun v1 => (R11_Of.f k l0).bind fun x5 => (Lw10_Tree.f k x5).bind fun x6 => (R11_At.f k x5 a1).bind fun x7 => (bif (decide (x7 < 0)) then ((legal_MayDelete.f k x6.2 x6.1 a1).bind fun x9 => (R11_Delete.f k a1).bind fun x10 => (R11_With.f k x5 x10).bind fun x11 => (R11_Legal.f k x11).bind fun x12 => bif (!(x9 == x12)) then (some (Sum.inl false)) else ((legal_MayRevoke.f k x6.2 x6.1 a1).bind fun x13 => bif x13 then (some (Sum.inl false)) else (some (Sum.inr ())))) else ((legal_MayDelete.f k x6.2 x6.1 a1).bind fun x14 => bif x14 then (some (Sum.inl false)) else (some (Sum.inr ())))).bind (Sum.elim (fun r => some r) (fun v8 => (Lw11_LegalEdits.l0 k x5 x6 k 0).bind (Sum.elim (fun r => some r) (fun v15 => (legal_Right.f k x6.2 x6.1).bind fun x20 => bif x20 then ((Tree_Len.f opsM k x6.2 x6.1).bind fun x21 => some (x21 == (x5.length : Int))) else (some false)))))))
def Lw11_LegalLater.f (k : Nat) (l0 : List TR08Mark) (a1 : Int) (a2 : Int) : Option (Bool) := ((Lw11_awake.f k).bind fun x2 => bif (!x2) then ((Lw11_awake.f k).bind fun x3 => some (Sum.inl x3)) else (bif (decide ((l0.length : Int) > 50)) then ((Lw11_awake.f k).bind fun x4 => some (Sum.inl x4)) else (bif (decide (a1 > 2305843009213693952)) then ((Lw11_awake.f k).bind fun x5 => some (Sum.inl x5)) else (bif (decide (a1 < (-2305843009213693952))) then ((Lw11_awake.f k).bind fun x6 => some (Sum.inl x6)) else (some (Sum.inr ())))))).bind (Sum.elim (fun r => some r) (fun v1 => (R11_Of.f k l0).bind fun x7 => (Lw10_Tree.f k x7).bind fun x8 => ((legal_MayDelete.f k x8.2 x8.1 a1).bind fun x10 => bif (!x10) then (some (Sum.inl true)) else ((R11_At.f k x7 (w64 (a1 + (w64 a2)))).bind fun x11 => bif (decide (x11 ≥ 0)) then (some (Sum.inl true)) else (some (Sum.inr (w64 (a1 + (w64 a2))))))).bind (Sum.elim (fun r => some r) (fun v9 => ((legal_MayDelete.f k x8.2 x8.1 v9).bind fun x13 => bif (!x13) then ((legal_MayDelete.f k x8.2 x8.1 v9).bind fun x14 => some (Sum.inl x14)) else ((R11_At.f k x7 (w64 (a1 - 1))).bind fun x15 => bif (decide (x15 ≥ 0)) then ((legal_MayDelete.f k x8.2 x8.1 v9).bind fun x16 => some (Sum.inl x16)) else (some (Sum.inr ())))).bind (Sum.elim (fun r => some r) (fun v12 => (R11_With.f k x7 (TR08Mark.mk (TOp.mk (w64 (a1 - 1)) true zTItem) false zTTook)).bind fun x17 => (Lw10_Tree.f k x17).bind fun x18 => (legal_Right.f k x18.2 x18.1).bind fun x19 => bif x19 then ((legal_MayDelete.f k x18.2 x18.1 a1).bind fun x20 => bif x20 then ((legal_MayDelete.f k x18.2 x18.1 v9).bind fun x21 => some x21) else (some false)) else (some false)))))))
end Go.Proofs.Ythcehagablploaa


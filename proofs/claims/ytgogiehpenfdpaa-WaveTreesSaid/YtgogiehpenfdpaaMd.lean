/- Types, mirrors. Printed by a program of mine. -/
import Derived.KernelRfl
import Derived.Test.YtgogiehpenfdpaaBase
namespace Go.Proofs.Ytgogiehpenfdpaa
open Go Go.Proofs.Ytgogiehpenfdpaa.Sx
set_option linter.unusedVariables false
set_option linter.unusedSimpArgs false
structure TItem where
  key : Int
  id : Int
structure TOp where
  time : Int
  insert : Bool
  item : TItem
structure TTook where
  found : Bool
  item : TItem
structure TMark where
  op : TOp
  here : Bool
  took : TTook
structure TTide where
  n : Int
  sum : Int
  low : Int
structure TSwell where
  count : TTide
  weight : TTide
  deletes : Int
  free : Int
  most : TItem
  gone : TTook
  least : TTook
structure TRef where
  index : Int
  gen : Int
structure TNode (E A : Type) where
  e : E
  left : TRef
  right : TRef
  size : Int
  sum : A
def eTNode_TMark_TSwell (x : TNode TMark TSwell) : List Value := [.int .i64 x.e.op.time, .bool x.e.op.insert, .int .i64 x.e.op.item.key, .int .i64 x.e.op.item.id, .bool x.e.here, .bool x.e.took.found, .int .i64 x.e.took.item.key, .int .i64 x.e.took.item.id, .int .i64 x.left.index, .int .i64 x.left.gen, .int .i64 x.right.index, .int .i64 x.right.gen, .int .i64 x.size, .int .i64 x.sum.count.n, .int .i64 x.sum.count.sum, .int .i64 x.sum.count.low, .int .i64 x.sum.weight.n, .int .i64 x.sum.weight.sum, .int .i64 x.sum.weight.low, .int .i64 x.sum.deletes, .int .i64 x.sum.free, .int .i64 x.sum.most.key, .int .i64 x.sum.most.id, .bool x.sum.gone.found, .int .i64 x.sum.gone.item.key, .int .i64 x.sum.gone.item.id, .bool x.sum.least.found, .int .i64 x.sum.least.item.key, .int .i64 x.sum.least.item.id]
theorem eTNode_TMark_TSwell_len : ∀ x, (eTNode_TMark_TSwell x).length = 29 := fun _ => rfl
theorem eTNode_TMark_TSwell_one : ∀ x, (eTNode_TMark_TSwell x).all Value.oneCell' = true := fun _ => rfl
abbrev zTItem : TItem := ⟨0, 0⟩
abbrev zTOp : TOp := ⟨0, false, zTItem⟩
abbrev zTTook : TTook := ⟨false, zTItem⟩
abbrev zTMark : TMark := ⟨zTOp, false, zTTook⟩
abbrev zTTide : TTide := ⟨0, 0, 0⟩
abbrev zTSwell : TSwell := ⟨zTTide, zTTide, 0, 0, zTItem, zTTook, zTTook⟩
def eTTide (x : TTide) : List Value := [.int .i64 x.n, .int .i64 x.sum, .int .i64 x.low]
theorem eTTide_len : ∀ x, (eTTide x).length = 3 := fun _ => rfl
theorem eTTide_one : ∀ x, (eTTide x).all Value.oneCell' = true := fun _ => rfl
def eTMark (x : TMark) : List Value := [.int .i64 x.op.time, .bool x.op.insert, .int .i64 x.op.item.key, .int .i64 x.op.item.id, .bool x.here, .bool x.took.found, .int .i64 x.took.item.key, .int .i64 x.took.item.id]
theorem eTMark_len : ∀ x, (eTMark x).length = 8 := fun _ => rfl
theorem eTMark_one : ∀ x, (eTMark x).all Value.oneCell' = true := fun _ => rfl
structure TR08Mark where
  op : TOp
  here : Bool
  took : TTook
def eTR08Mark (x : TR08Mark) : List Value := [.int .i64 x.op.time, .bool x.op.insert, .int .i64 x.op.item.key, .int .i64 x.op.item.id, .bool x.here, .bool x.took.found, .int .i64 x.took.item.key, .int .i64 x.took.item.id]
theorem eTR08Mark_len : ∀ x, (eTR08Mark x).length = 8 := fun _ => rfl
theorem eTR08Mark_one : ∀ x, (eTR08Mark x).all Value.oneCell' = true := fun _ => rfl
def eTSwell (x : TSwell) : List Value := [.int .i64 x.count.n, .int .i64 x.count.sum, .int .i64 x.count.low, .int .i64 x.weight.n, .int .i64 x.weight.sum, .int .i64 x.weight.low, .int .i64 x.deletes, .int .i64 x.free, .int .i64 x.most.key, .int .i64 x.most.id, .bool x.gone.found, .int .i64 x.gone.item.key, .int .i64 x.gone.item.id, .bool x.least.found, .int .i64 x.least.item.key, .int .i64 x.least.item.id]
theorem eTSwell_len : ∀ x, (eTSwell x).length = 16 := fun _ => rfl
theorem eTSwell_one : ∀ x, (eTSwell x).all Value.oneCell' = true := fun _ => rfl
def eTItem (x : TItem) : List Value := [.int .i64 x.key, .int .i64 x.id]
theorem eTItem_len : ∀ x, (eTItem x).length = 2 := fun _ => rfl
theorem eTItem_one : ∀ x, (eTItem x).all Value.oneCell' = true := fun _ => rfl
def eTTook (x : TTook) : List Value := [.bool x.found, .int .i64 x.item.key, .int .i64 x.item.id]
theorem eTTook_len : ∀ x, (eTTook x).length = 3 := fun _ => rfl
theorem eTTook_one : ∀ x, (eTTook x).all Value.oneCell' = true := fun _ => rfl
structure TArr3Int where
  i0 : Int
  i1 : Int
  i2 : Int
abbrev zTRef : TRef := ⟨0, 0⟩
def eTRef (x : TRef) : List Value := [.int .i64 x.index, .int .i64 x.gen]
theorem eTRef_len : ∀ x, (eTRef x).length = 2 := fun _ => rfl
theorem eTRef_one : ∀ x, (eTRef x).all Value.oneCell' = true := fun _ => rfl
abbrev zTR08Mark : TR08Mark := ⟨zTOp, false, zTTook⟩
def eTArr3Int (x : TArr3Int) : List Value := [.int .i64 x.i0, .int .i64 x.i1, .int .i64 x.i2]
theorem eTArr3Int_len : ∀ x, (eTArr3Int x).length = 3 := fun _ => rfl
theorem eTArr3Int_one : ∀ x, (eTArr3Int x).all Value.oneCell' = true := fun _ => rfl
structure Ops (E A : Type) where
  cmp : Nat → E → E → Option Int
  sum : Nat → E → Option A
  plus : Nat → A → A → Option A
  zE : E
  zA : A
abbrev zNode {E A : Type} (O : Ops E A) : TNode E A := ⟨O.zE, ⟨0, 0⟩, ⟨0, 0⟩, 0, O.zA⟩
def Tree_New.f {E A : Type} (O : Ops E A) (k : Nat) (a0 : Int) : Option (TRef × Pool (TNode E A)) := some (zTRef, (⟨[], [], capOf a0, 0, 0⟩ : Pool (TNode E A)))
def Tree_get.f {E A : Type} (O : Ops E A) (k : Nat) (p1 : Pool (TNode E A)) (a1 : TRef) : Option (TNode E A) := bif (a1.gen == 0) then (some (zNode O)) else ((pGet (zNode O) p1 a1.index a1.gen).bind fun x1 => some x1.1)
def Tree_weight.f {E A : Type} (O : Ops E A) (k : Nat) (p1 : Pool (TNode E A)) (a1 : TRef) : Option (Int) := (Tree_get.f O k p1 a1).bind fun x1 => some (w64 (x1.size + 1))
def Tree_lay.f {E A : Type} (O : Ops E A) (k : Nat) (p1 : Pool (TNode E A)) (a1 : TRef) (a2 : TRef) (a3 : TRef) : Option (TRef × Pool (TNode E A)) := (Tree_get.f O k p1 a1).bind fun x1 => (Tree_get.f O k p1 a2).bind fun x2 => (Tree_get.f O k p1 a3).bind fun x3 => (O.sum k x1.e).bind fun x4 => (O.plus k x2.sum x4).bind fun x5 => (O.plus k x5 x3.sum).bind fun x6 => (pSet p1 a1.index a1.gen (TNode.mk x1.e a2 a3 (w64 ((w64 (x2.size + 1)) + x3.size)) x6)).bind fun x7 => some (a1, x7.2)
def Tree_turnRight.f {E A : Type} (O : Ops E A) (k : Nat) (p1 : Pool (TNode E A)) (a1 : TRef) : Option (TRef × Pool (TNode E A)) := (Tree_get.f O k p1 a1).bind fun x1 => (Tree_get.f O k p1 x1.left).bind fun x2 => (Tree_lay.f O k p1 a1 x2.right x1.right).bind fun x3 => (Tree_lay.f O k x3.2 x1.left x2.left a1).bind fun x4 => some (x4.1, x4.2)
def Tree_turnLeft.f {E A : Type} (O : Ops E A) (k : Nat) (p1 : Pool (TNode E A)) (a1 : TRef) : Option (TRef × Pool (TNode E A)) := (Tree_get.f O k p1 a1).bind fun x1 => (Tree_get.f O k p1 x1.right).bind fun x2 => (Tree_lay.f O k p1 a1 x1.left x2.left).bind fun x3 => (Tree_lay.f O k x3.2 x1.right a1 x2.right).bind fun x4 => some (x4.1, x4.2)
def Tree_balance.f {E A : Type} (O : Ops E A) (k : Nat) (p1 : Pool (TNode E A)) (a1 : TRef) : Option (TRef × Pool (TNode E A)) := (Tree_get.f O k p1 a1).bind fun x1 => (Tree_weight.f O k p1 x1.left).bind fun x2 => (Tree_weight.f O k p1 x1.right).bind fun x3 => bif (decide (x3 > (w64 (3 * x2)))) then ((Tree_get.f O k p1 x1.right).bind fun x4 => (Tree_weight.f O k p1 x4.left).bind fun x5 => (Tree_weight.f O k p1 x4.right).bind fun x6 => bif (decide (x5 ≥ (w64 (2 * x6)))) then ((Tree_turnRight.f O k p1 x1.right).bind fun x7 => (Tree_lay.f O k x7.2 a1 x1.left x7.1).bind fun x8 => (Tree_turnLeft.f O k x8.2 a1).bind fun x9 => some (x9.1, x9.2)) else ((Tree_turnLeft.f O k p1 a1).bind fun x10 => some (x10.1, x10.2))) else (bif (decide (x2 > (w64 (3 * x3)))) then ((Tree_get.f O k p1 x1.left).bind fun x11 => (Tree_weight.f O k p1 x11.right).bind fun x12 => (Tree_weight.f O k p1 x11.left).bind fun x13 => bif (decide (x12 ≥ (w64 (2 * x13)))) then ((Tree_turnLeft.f O k p1 x1.left).bind fun x14 => (Tree_lay.f O k x14.2 a1 x14.1 x1.right).bind fun x15 => (Tree_turnRight.f O k x15.2 a1).bind fun x16 => some (x16.1, x16.2)) else ((Tree_turnRight.f O k p1 a1).bind fun x17 => some (x17.1, x17.2))) else (some (a1, p1)))
def Tree_link.r {E A : Type} (O : Ops E A) (k : Nat) : Nat → Pool (TNode E A) → TRef → TRef → TRef → Option (TRef × Pool (TNode E A))
  | 0, _, _, _, _ => none
  | n + 1, p1, a1, a2, a3 => (Tree_weight.f O k p1 a1).bind fun x1 => (Tree_weight.f O k p1 a3).bind fun x2 => bif (decide (x2 > (w64 (3 * x1)))) then ((Tree_get.f O k p1 a3).bind fun x3 => (Tree_link.r O k n p1 a1 a2 x3.left).bind fun x4 => (Tree_lay.f O k x4.2 a3 x4.1 x3.right).bind fun x5 => (Tree_balance.f O k x5.2 x5.1).bind fun x6 => some (x6.1, x6.2)) else (bif (decide (x1 > (w64 (3 * x2)))) then ((Tree_get.f O k p1 a1).bind fun x7 => (Tree_link.r O k n p1 x7.right a2 a3).bind fun x8 => (Tree_lay.f O k x8.2 a1 x7.left x8.1).bind fun x9 => (Tree_balance.f O k x9.2 x9.1).bind fun x10 => some (x10.1, x10.2)) else ((Tree_lay.f O k p1 a2 a1 a3).bind fun x11 => some (x11.1, x11.2)))
def Tree_link.f {E A : Type} (O : Ops E A) (k : Nat) (p1 : Pool (TNode E A)) (a1 : TRef) (a2 : TRef) (a3 : TRef) : Option (TRef × Pool (TNode E A)) := Tree_link.r O k k p1 a1 a2 a3
def Tree_put.r {E A : Type} (O : Ops E A) (k : Nat) : Nat → Pool (TNode E A) → TRef → E → Option (TRef × Bool × Pool (TNode E A))
  | 0, _, _, _ => none
  | n + 1, p1, a1, a2 => bif (a1.gen == 0) then ((O.sum k a2).bind fun x1 => (pPut (zNode O) p1 (TNode.mk a2 zTRef zTRef 1 x1)).bind fun x2 => some ((TRef.mk x2.1.1.1 x2.1.1.2), x2.1.2, x2.2)) else ((Tree_get.f O k p1 a1).bind fun x3 => (O.cmp k a2 x3.e).bind fun x4 => bif (decide (x4 < 0)) then ((Tree_put.r O k n p1 x3.left a2).bind fun x5 => bif (!x5.2.1) then (some (a1, false, x5.2.2)) else ((Tree_link.f O k x5.2.2 x5.1 a1 x3.right).bind fun x6 => some (x6.1, true, x6.2))) else (bif (decide (x4 > 0)) then ((Tree_put.r O k n p1 x3.right a2).bind fun x7 => bif (!x7.2.1) then (some (a1, false, x7.2.2)) else ((Tree_link.f O k x7.2.2 x3.left a1 x7.1).bind fun x8 => some (x8.1, true, x8.2))) else ((pSet p1 a1.index a1.gen (TNode.mk a2 x3.left x3.right x3.size x3.sum)).bind fun x9 => (Tree_lay.f O k x9.2 a1 x3.left x3.right).bind fun x10 => some (x10.1, true, x10.2))))
def Tree_put.f {E A : Type} (O : Ops E A) (k : Nat) (p1 : Pool (TNode E A)) (a1 : TRef) (a2 : E) : Option (TRef × Bool × Pool (TNode E A)) := Tree_put.r O k k p1 a1 a2
def Tree_Put.f {E A : Type} (O : Ops E A) (k : Nat) (p1 : Pool (TNode E A)) (rt0 : TRef) (a1 : E) : Option (Bool × TRef × Pool (TNode E A)) := (Tree_put.f O k p1 rt0 a1).bind fun x1 => bif x1.2.1 then (some (x1.2.1, x1.1, x1.2.2)) else (some (x1.2.1, rt0, x1.2.2))
def Tree_Len.f {E A : Type} (O : Ops E A) (k : Nat) (p1 : Pool (TNode E A)) (rt0 : TRef) : Option (Int) := (Tree_get.f O k p1 rt0).bind fun x1 => some x1.size
def Tree_Find.l0 {E A : Type} (O : Ops E A) (k : Nat) (p1 : Pool (TNode E A)) (a1 : E) : Nat → TRef → Option (Sum (E × Bool) (Unit))
  | 0, _ => none
  | n + 1, v1 => bif (v1.gen != 0) then ((Tree_get.f O k p1 v1).bind fun x2 => (O.cmp k a1 x2.e).bind fun x3 => bif (x3 == 0) then (some (Sum.inl (x2.e, true))) else (bif (decide (x3 < 0)) then (Tree_Find.l0 O k p1 a1 n x2.left) else (Tree_Find.l0 O k p1 a1 n x2.right))) else (some (Sum.inr ()))
def Tree_Find.f {E A : Type} (O : Ops E A) (k : Nat) (p1 : Pool (TNode E A)) (rt0 : TRef) (a1 : E) : Option (E × Bool) := (Tree_Find.l0 O k p1 a1 k rt0).bind (Sum.elim (fun r => some r) (fun v1 => some (O.zE, false)))
def Tree_Rank.l0 {E A : Type} (O : Ops E A) (k : Nat) (p1 : Pool (TNode E A)) (a1 : E) : Nat → (Int × TRef) → Option (Int)
  | 0, _ => none
  | n + 1, (v1, v2) => bif (v2.gen != 0) then ((Tree_get.f O k p1 v2).bind fun x2 => (O.cmp k a1 x2.e).bind fun x3 => bif (decide (x3 ≤ 0)) then (Tree_Rank.l0 O k p1 a1 n (v1, x2.left)) else ((Tree_weight.f O k p1 x2.left).bind fun x4 => Tree_Rank.l0 O k p1 a1 n ((w64 (v1 + x4)), x2.right))) else (some v1)
def Tree_Rank.f {E A : Type} (O : Ops E A) (k : Nat) (p1 : Pool (TNode E A)) (rt0 : TRef) (a1 : E) : Option (Int) := (Tree_Rank.l0 O k p1 a1 k (0, rt0)).bind fun x1 => some x1
def Tree_between.r {E A : Type} (O : Ops E A) (k : Nat) : Nat → Pool (TNode E A) → TRef → Int → Int → Option (A)
  | 0, _, _, _, _ => none
  | n + 1, p1, a1, a2, a3 => (Tree_get.f O k p1 a1).bind fun x1 => (bif (decide (a2 ≥ a3)) then (some (Sum.inl O.zA)) else (bif (decide (a2 ≥ x1.size)) then (some (Sum.inl O.zA)) else (bif (decide (a3 ≤ 0)) then (some (Sum.inl O.zA)) else (bif (x1.size == 0) then (some (Sum.inl O.zA)) else (some (Sum.inr ())))))).bind (Sum.elim (fun r => some r) (fun v2 => (bif (decide (a2 ≤ 0)) then (bif (decide (a3 ≥ x1.size)) then (some (Sum.inl x1.sum)) else (some (Sum.inr ()))) else (some (Sum.inr ()))).bind (Sum.elim (fun r => some r) (fun v3 => (Tree_get.f O k p1 x1.left).bind fun x4 => (Tree_between.r O k n p1 x1.left a2 a3).bind fun x5 => (bif (decide (a2 ≤ x4.size)) then (bif (decide (a3 > x4.size)) then ((O.sum k x1.e).bind fun x7 => (O.plus k x5 x7).bind fun x8 => some x8) else (some x5)) else (some x5)).bind fun x6 => (Tree_between.r O k n p1 x1.right (w64 ((w64 (a2 - x4.size)) - 1)) (w64 ((w64 (a3 - x4.size)) - 1))).bind fun x9 => (O.plus k x6 x9).bind fun x10 => some x10))))
def Tree_between.f {E A : Type} (O : Ops E A) (k : Nat) (p1 : Pool (TNode E A)) (a1 : TRef) (a2 : Int) (a3 : Int) : Option (A) := Tree_between.r O k k p1 a1 a2 a3
def Tree_Between.f {E A : Type} (O : Ops E A) (k : Nat) (p1 : Pool (TNode E A)) (rt0 : TRef) (a1 : Int) (a2 : Int) : Option (A) := (Tree_Len.f O k p1 rt0).bind fun x1 => (Tree_between.f O k p1 rt0 (gmin (gmax a1 0) x1) (gmin (gmax a2 0) x1)).bind fun x2 => some x2
def tide_Tide_Plus.f (k : Nat) (a0 : TTide) (a1 : TTide) : Option (TTide) := bif (a0.n == 0) then (some a1) else (bif (a1.n == 0) then (some a0) else (some (TTide.mk (w64 (a0.n + a1.n)) (w64 (a0.sum + a1.sum)) (gmin a0.low (w64 (a0.sum + a1.low))))))
def tide_Of.l0 (k : Nat) (l0 : List Int) : Nat → (TTide × Int) → Option (TTide)
  | 0, _ => none
  | n + 1, (v1, v2) => bif (decide (v2 < (l0.length : Int))) then ((atL l0 v2).bind fun x2 => (tide_Tide_Plus.f k v1 (TTide.mk 1 x2 x2)).bind fun x3 => tide_Of.l0 k l0 n (x3, (w64 (v2 + 1)))) else (some v1)
def tide_Of.f (k : Nat) (l0 : List Int) : Option (TTide) := (tide_Of.l0 k l0 k (zTTide, 0)).bind fun x1 => some x1
def wave_Mark_Sum.f (k : Nat) (a0 : TMark) : Option (TSwell) := ((bif a0.op.insert then (some a0.here) else (some false)).bind fun x2 => bif x2 then ((tide_Of.f k ([1] : List Int)).bind fun x3 => (tide_Of.f k ([0] : List Int)).bind fun x4 => some (Sum.inl (TSwell.mk x3 x4 0 0 zTItem zTTook (TTook.mk true a0.op.item)))) else (bif a0.op.insert then ((tide_Of.f k ([1] : List Int)).bind fun x5 => (tide_Of.f k ([1] : List Int)).bind fun x6 => some (Sum.inl (TSwell.mk x5 x6 0 0 zTItem (TTook.mk true a0.op.item) zTTook))) else (some (Sum.inr ())))).bind (Sum.elim (fun r => some r) (fun v1 => (tide_Of.f k ([(-1)] : List Int)).bind fun x7 => (tide_Of.f k ([(-1)] : List Int)).bind fun x8 => bif a0.took.found then (some (TSwell.mk x7 x8 1 0 a0.took.item zTTook zTTook)) else (some (TSwell.mk x7 x8 1 1 zTItem zTTook zTTook))))
def wave_Key.f (k : Nat) (a0 : Int) : Option (TMark) := some (TMark.mk (TOp.mk a0 false zTItem) false zTTook)
def cmp_isNaN.f (k : Nat) (a0 : Int) : Option (Bool) := some (a0 != a0)
def cmp_Compare.f (k : Nat) (a0 : Int) (a1 : Int) : Option (Int) := (cmp_isNaN.f k a0).bind fun x1 => (cmp_isNaN.f k a1).bind fun x2 => bif x1 then (bif x2 then (some 0) else (some (-1))) else (bif x2 then (some 1) else (bif (decide (a0 < a1)) then (some (-1)) else (bif (decide (a0 > a1)) then (some 1) else (some 0))))
def wave_Mark_Compare.f (k : Nat) (a0 : TMark) (a1 : TMark) : Option (Int) := (cmp_Compare.f k a0.op.time a1.op.time).bind fun x1 => some x1
def Lw08_awake.f (k : Nat) : Option (Bool) := (wave_Mark_Sum.f k (TMark.mk (TOp.mk 3 true (TItem.mk 5 1)) true zTTook)).bind fun x1 => bif ((x1.count.n == 1) && ((x1.count.sum == 1) && ((x1.count.low == 1) && true))) then (bif (x1.weight.n == 1) then (bif (x1.weight.sum == 0) then (bif ((x1.least.found == true) && ((x1.least.item.key == 5) && ((x1.least.item.id == 1) && true))) then ((wave_Key.f k 3).bind fun x2 => (wave_Mark_Compare.f k x2 (TMark.mk (TOp.mk 3 true (TItem.mk 5 1)) true zTTook)).bind fun x3 => some (x3 == 0)) else (some false)) else (some false)) else (some false)) else (some false)
def wave_Swell_taken.f (k : Nat) (a0 : TSwell) : Option (TTook) := bif (a0.deletes == a0.free) then (some zTTook) else (some (TTook.mk true a0.most))
def cmp_Or.l0 (k : Nat) (l0 : List Int) : Nat → Int → Option (Sum (Int) (Unit))
  | 0, _ => none
  | n + 1, v1 => bif (decide (v1 < (l0.length : Int))) then ((atL l0 v1).bind fun x2 => bif (x2 != 0) then (some (Sum.inl x2)) else (cmp_Or.l0 k l0 n (w64 (v1 + 1)))) else (some (Sum.inr ()))
def cmp_Or.f (k : Nat) (l0 : List Int) : Option (Int) := (cmp_Or.l0 k l0 k 0).bind (Sum.elim (fun r => some r) (fun v1 => some 0))
def item_Compare.f (k : Nat) (a0 : TItem) (a1 : TItem) : Option (Int) := (cmp_Compare.f k a0.key a1.key).bind fun x1 => (cmp_Compare.f k a0.id a1.id).bind fun x2 => (cmp_Or.f k ([x1, x2] : List Int)).bind fun x3 => some x3
def wave_better.f (k : Nat) (a0 : Int) (a1 : TTook) (a2 : TTook) : Option (TTook) := bif (!a1.found) then (some a2) else (bif a2.found then ((item_Compare.f k a2.item a1.item).bind fun x1 => bif (decide ((w64 (a0 * x1)) < 0)) then (some a2) else (some a1)) else (some a1))
def wave_Swell_Plus.f (k : Nat) (a0 : TSwell) (a1 : TSwell) : Option (TSwell) := (tide_Tide_Plus.f k a0.count a1.count).bind fun x1 => (tide_Tide_Plus.f k a0.weight a1.weight).bind fun x2 => (wave_Swell_taken.f k a0).bind fun x3 => (wave_Swell_taken.f k a1).bind fun x4 => (wave_better.f k (-1) x3 x4).bind fun x5 => (wave_better.f k (-1) a0.gone a1.gone).bind fun x6 => (wave_better.f k 1 a0.least a1.least).bind fun x7 => some (TSwell.mk x1 x2 (w64 (a0.deletes + a1.deletes)) (w64 (a0.free + a1.free)) x5.item x6 x7)
def Lw08_sums.l0 (k : Nat) (l0 : List TR08Mark) : Nat → (TSwell × Int) → Option (TSwell)
  | 0, _ => none
  | n + 1, (v1, v2) => bif (decide (v2 < (l0.length : Int))) then ((atL l0 v2).bind fun x2 => (wave_Mark_Sum.f k (TMark.mk x2.op x2.here x2.took)).bind fun x3 => (wave_Swell_Plus.f k v1 x3).bind fun x4 => Lw08_sums.l0 k l0 n (x4, (w64 (v2 + 1)))) else (some v1)
def Lw08_sums.f (k : Nat) (l0 : List TR08Mark) : Option (TSwell) := (Lw08_sums.l0 k l0 k (zTSwell, 0)).bind fun x1 => some x1
def R08_Counts.l0 (k : Nat) (l0 : List TR08Mark) : Nat → (List Int × Int) → Option (List Int)
  | 0, _ => none
  | n + 1, (v1, v2) => bif (decide (v2 < (l0.length : Int))) then ((atL l0 v2).bind fun x2 => bif x2.op.insert then (bif decide (v1.length + ([1] : List Int).length < 4294967296) then (R08_Counts.l0 k l0 n ((v1 ++ ([1] : List Int)), (w64 (v2 + 1)))) else none) else (bif decide (v1.length + ([(-1)] : List Int).length < 4294967296) then (R08_Counts.l0 k l0 n ((v1 ++ ([(-1)] : List Int)), (w64 (v2 + 1)))) else none)) else (some v1)
def R08_Counts.f (k : Nat) (l0 : List TR08Mark) : Option (List Int) := (R08_Counts.l0 k l0 k (([] : List Int), 0)).bind fun x1 => some x1
def R06_Sum.l0 (k : Nat) (l0 : List Int) (a1 : Int) : Nat → (Int × Int) → Option (Int)
  | 0, _ => none
  | n + 1, (v1, v2) => bif (decide (v2 < a1)) then ((atL l0 v2).bind fun x2 => R06_Sum.l0 k l0 a1 n ((w64 (v1 + x2)), (w64 (v2 + 1)))) else (some v1)
def R06_Sum.f (k : Nat) (l0 : List Int) (a1 : Int) : Option (Int) := (R06_Sum.l0 k l0 a1 k (0, 0)).bind fun x1 => some x1
def R06_Low.l0 (k : Nat) (l0 : List Int) : Nat → (Int × Int) → Option (Int)
  | 0, _ => none
  | n + 1, (v1, v2) => bif (decide (v2 ≤ (l0.length : Int))) then ((R06_Sum.f k l0 v2).bind fun x3 => bif (decide (x3 < v1)) then (R06_Low.l0 k l0 n (x3, (w64 (v2 + 1)))) else (R06_Low.l0 k l0 n (v1, (w64 (v2 + 1))))) else (some v1)
def R06_Low.f (k : Nat) (l0 : List Int) : Option (Int) := bif ((l0.length : Int) == 0) then (some 0) else ((atL l0 0).bind fun x1 => (R06_Low.l0 k l0 k (x1, 2)).bind fun x2 => some x2)
def R08_Tide.f (k : Nat) (l0 : List Int) : Option (TArr3Int) := (R06_Sum.f k l0 (l0.length : Int)).bind fun x1 => (R06_Low.f k l0).bind fun x2 => some (TArr3Int.mk (l0.length : Int) x1 x2)
def R08_Weights.l0 (k : Nat) (l0 : List TR08Mark) : Nat → (List Int × Int) → Option (List Int)
  | 0, _ => none
  | n + 1, (v1, v2) => bif (decide (v2 < (l0.length : Int))) then ((atL l0 v2).bind fun x3 => bif x3.op.insert then (bif x3.here then ((atL v1 v2).bind fun x4 => R08_Weights.l0 k l0 n ((v1.set ((v2).toNat) 0), (w64 (v2 + 1)))) else (R08_Weights.l0 k l0 n (v1, (w64 (v2 + 1))))) else (R08_Weights.l0 k l0 n (v1, (w64 (v2 + 1))))) else (some v1)
def R08_Weights.f (k : Nat) (l0 : List TR08Mark) : Option (List Int) := (R08_Counts.f k l0).bind fun x1 => (R08_Weights.l0 k l0 k (x1, 0)).bind fun x2 => some x2
def R02_Ahead.f (k : Nat) (a0 : TItem) (a1 : TItem) : Option (Bool) := bif (decide (a0.key < a1.key)) then (some true) else (bif (a0.key == a1.key) then (some (decide (a0.id < a1.id))) else (some false))
def R02_Sorted.l1 (k : Nat) (l0 : List TItem) (v1 : List TItem) (v2 : Int) : Nat → Int → Option (Int)
  | 0, _ => none
  | n + 1, v101 => bif (decide (v101 > 0)) then ((atL l0 v2).bind fun x4 => (atL v1 (w64 (v101 - 1))).bind fun x5 => (R02_Ahead.f k x4 x5).bind fun x6 => bif x6 then (R02_Sorted.l1 k l0 v1 v2 n (w64 (v101 - 1))) else (some v101)) else (some v101)
def R02_Sorted.l0 (k : Nat) (l0 : List TItem) : Nat → (List TItem × Int) → Option (List TItem)
  | 0, _ => none
  | n + 1, (v1, v2) => bif (decide (v2 < (l0.length : Int))) then (((R02_Sorted.l1 k l0 v1 v2 k (v1.length : Int)).bind fun x3 => bif decide (0 ≤ x3 ∧ x3 ≤ (v1.length : Int)) then (bif decide (([] : List TItem).length + ((v1.drop 0).take (((x3).toNat) - 0)).length < 4294967296) then ((atL l0 v2).bind fun x7 => bif decide ((([] : List TItem) ++ ((v1.drop 0).take (((x3).toNat) - 0))).length + ([x7] : List TItem).length < 4294967296) then (bif decide (0 ≤ x3 ∧ x3 ≤ (v1.length : Int)) then (bif decide (((([] : List TItem) ++ ((v1.drop 0).take (((x3).toNat) - 0))) ++ ([x7] : List TItem)).length + ((v1.drop ((x3).toNat)).take (v1.length - ((x3).toNat))).length < 4294967296) then (some (((([] : List TItem) ++ ((v1.drop 0).take (((x3).toNat) - 0))) ++ ([x7] : List TItem)) ++ ((v1.drop ((x3).toNat)).take (v1.length - ((x3).toNat))))) else none) else none) else none) else none) else none).bind fun x2 => R02_Sorted.l0 k l0 n (x2, (w64 (v2 + 1)))) else (some v1)
def R02_Sorted.f (k : Nat) (l0 : List TItem) : Option (List TItem) := (R02_Sorted.l0 k l0 k (([] : List TItem), 0)).bind fun x1 => some x1
def R08_Deletes.l0 (k : Nat) (l0 : List TR08Mark) : Nat → (Int × Int × List TItem × Int) → Option (Int × Int × List TItem)
  | 0, _ => none
  | n + 1, (v1, v2, v3, v4) => bif (decide (v4 < (l0.length : Int))) then ((atL l0 v4).bind fun x2 => bif x2.op.insert then (R08_Deletes.l0 k l0 n (v1, v2, v3, (w64 (v4 + 1)))) else (bif x2.took.found then (bif decide (v3.length + ([x2.took.item] : List TItem).length < 4294967296) then (R08_Deletes.l0 k l0 n ((w64 (v1 + 1)), v2, (v3 ++ ([x2.took.item] : List TItem)), (w64 (v4 + 1)))) else none) else (R08_Deletes.l0 k l0 n ((w64 (v1 + 1)), (w64 (v2 + 1)), v3, (w64 (v4 + 1)))))) else (some (v1, v2, v3))
def R08_Deletes.f (k : Nat) (l0 : List TR08Mark) : Option (Int × Int × TItem) := (R08_Deletes.l0 k l0 k (0, 0, ([] : List TItem), 0)).bind fun x1 => (R02_Sorted.f k x1.2.2).bind fun x3 => bif ((x3.length : Int) == 0) then (some (x1.1, x1.2.1, zTItem)) else ((atL x3 (w64 ((x3.length : Int) - 1))).bind fun x4 => some (x1.1, x1.2.1, x4))
def R08_Items.l0 (k : Nat) (l0 : List TR08Mark) (a1 : Bool) : Nat → (List TItem × Int) → Option (List TItem)
  | 0, _ => none
  | n + 1, (v1, v2) => bif (decide (v2 < (l0.length : Int))) then ((atL l0 v2).bind fun x2 => bif x2.op.insert then (bif (x2.here == a1) then (bif decide (v1.length + ([x2.op.item] : List TItem).length < 4294967296) then (R08_Items.l0 k l0 a1 n ((v1 ++ ([x2.op.item] : List TItem)), (w64 (v2 + 1)))) else none) else (R08_Items.l0 k l0 a1 n (v1, (w64 (v2 + 1))))) else (R08_Items.l0 k l0 a1 n (v1, (w64 (v2 + 1))))) else (some v1)
def R08_Items.f (k : Nat) (l0 : List TR08Mark) (a1 : Bool) : Option (List TItem) := (R08_Items.l0 k l0 a1 k (([] : List TItem), 0)).bind fun x1 => (R02_Sorted.f k x1).bind fun x3 => some x3
def Lw08_Comes.f (k : Nat) (a0 : TSwell) (l1 : List TR08Mark) : Option (Bool) := (R08_Counts.f k l1).bind fun x1 => (R08_Tide.f k x1).bind fun x2 => (R08_Weights.f k l1).bind fun x3 => (R08_Tide.f k x3).bind fun x4 => (R08_Deletes.f k l1).bind fun x5 => (R08_Items.f k l1 false).bind fun x6 => (R08_Items.f k l1 true).bind fun x7 => bif (decide ((x6.length : Int) > 0)) then ((atL x6 (w64 ((x6.length : Int) - 1))).bind fun x8 => bif (decide ((x7.length : Int) > 0)) then ((atL x7 0).bind fun x9 => some ((a0.count.n == x2.i0) && ((a0.count.sum == x2.i1) && ((a0.count.low == x2.i2) && ((a0.weight.n == x4.i0) && ((a0.weight.sum == x4.i1) && ((a0.weight.low == x4.i2) && ((a0.deletes == x5.1) && ((a0.free == x5.2.1) && ((a0.most.key == x5.2.2.key) && ((a0.most.id == x5.2.2.id) && ((a0.gone.found == true) && ((a0.gone.item.key == x8.key) && ((a0.gone.item.id == x8.id) && ((a0.least.found == true) && ((a0.least.item.key == x9.key) && ((a0.least.item.id == x9.id) && true))))))))))))))))) else (some ((a0.count.n == x2.i0) && ((a0.count.sum == x2.i1) && ((a0.count.low == x2.i2) && ((a0.weight.n == x4.i0) && ((a0.weight.sum == x4.i1) && ((a0.weight.low == x4.i2) && ((a0.deletes == x5.1) && ((a0.free == x5.2.1) && ((a0.most.key == x5.2.2.key) && ((a0.most.id == x5.2.2.id) && ((a0.gone.found == true) && ((a0.gone.item.key == x8.key) && ((a0.gone.item.id == x8.id) && ((a0.least.found == false) && ((a0.least.item.key == 0) && ((a0.least.item.id == 0) && true)))))))))))))))))) else (bif (decide ((x7.length : Int) > 0)) then ((atL x7 0).bind fun x10 => some ((a0.count.n == x2.i0) && ((a0.count.sum == x2.i1) && ((a0.count.low == x2.i2) && ((a0.weight.n == x4.i0) && ((a0.weight.sum == x4.i1) && ((a0.weight.low == x4.i2) && ((a0.deletes == x5.1) && ((a0.free == x5.2.1) && ((a0.most.key == x5.2.2.key) && ((a0.most.id == x5.2.2.id) && ((a0.gone.found == false) && ((a0.gone.item.key == 0) && ((a0.gone.item.id == 0) && ((a0.least.found == true) && ((a0.least.item.key == x10.key) && ((a0.least.item.id == x10.id) && true))))))))))))))))) else (some ((a0.count.n == x2.i0) && ((a0.count.sum == x2.i1) && ((a0.count.low == x2.i2) && ((a0.weight.n == x4.i0) && ((a0.weight.sum == x4.i1) && ((a0.weight.low == x4.i2) && ((a0.deletes == x5.1) && ((a0.free == x5.2.1) && ((a0.most.key == x5.2.2.key) && ((a0.most.id == x5.2.2.id) && ((a0.gone.found == false) && ((a0.gone.item.key == 0) && ((a0.gone.item.id == 0) && ((a0.least.found == false) && ((a0.least.item.key == 0) && ((a0.least.item.id == 0) && true))))))))))))))))))
def Lw08_WaveSums.f (k : Nat) (l0 : List TR08Mark) : Option (Bool) := (Lw08_awake.f k).bind fun x1 => bif (!x1) then ((Lw08_awake.f k).bind fun x2 => some x2) else (bif (decide ((l0.length : Int) > 60)) then ((Lw08_awake.f k).bind fun x3 => some x3) else ((Lw08_sums.f k l0).bind fun x4 => (Lw08_Comes.f k x4 l0).bind fun x5 => some x5))
def R01_Rest.f (k : Nat) (a0 : Int) (a1 : Int) : Option (Int) := bif decide (a1 ≠ 0) then (bif decide (a1 ≠ 0) then (some ((w64 ((a0.tmod a1) + a1)).tmod a1)) else none) else none
def Lw08_WaveParts.f (k : Nat) (l0 : List TR08Mark) (a1 : Int) (a2 : Int) : Option (Bool) := ((Lw08_awake.f k).bind fun x2 => bif (!x2) then ((Lw08_awake.f k).bind fun x3 => some (Sum.inl x3)) else (bif (decide ((l0.length : Int) > 60)) then ((Lw08_awake.f k).bind fun x4 => some (Sum.inl x4)) else (some (Sum.inr ())))).bind (Sum.elim (fun r => some r) (fun v1 => (R01_Rest.f k a1 (w64 ((l0.length : Int) + 1))).bind fun x5 => (R01_Rest.f k a2 (w64 ((l0.length : Int) + 1))).bind fun x6 => bif decide (0 ≤ (gmin x5 x6) ∧ (gmin x5 x6) ≤ (l0.length : Int)) then ((Lw08_sums.f k ((l0.drop 0).take ((((gmin x5 x6)).toNat) - 0))).bind fun x7 => bif decide (0 ≤ (gmin x5 x6) ∧ (gmin x5 x6) ≤ (gmax x5 x6) ∧ (gmax x5 x6) ≤ (l0.length : Int)) then ((Lw08_sums.f k ((l0.drop (((gmin x5 x6)).toNat)).take ((((gmax x5 x6)).toNat) - (((gmin x5 x6)).toNat)))).bind fun x8 => bif decide (0 ≤ (gmax x5 x6) ∧ (gmax x5 x6) ≤ (l0.length : Int)) then ((Lw08_sums.f k ((l0.drop (((gmax x5 x6)).toNat)).take (l0.length - (((gmax x5 x6)).toNat)))).bind fun x9 => (wave_Swell_Plus.f k x7 x8).bind fun x10 => (wave_Swell_Plus.f k x10 x9).bind fun x11 => (wave_Swell_Plus.f k x8 x9).bind fun x12 => (wave_Swell_Plus.f k x7 x12).bind fun x13 => bif ((x11.count.n == x13.count.n) && ((x11.count.sum == x13.count.sum) && ((x11.count.low == x13.count.low) && ((x11.weight.n == x13.weight.n) && ((x11.weight.sum == x13.weight.sum) && ((x11.weight.low == x13.weight.low) && ((x11.deletes == x13.deletes) && ((x11.free == x13.free) && ((x11.most.key == x13.most.key) && ((x11.most.id == x13.most.id) && ((x11.gone.found == x13.gone.found) && ((x11.gone.item.key == x13.gone.item.key) && ((x11.gone.item.id == x13.gone.item.id) && ((x11.least.found == x13.least.found) && ((x11.least.item.key == x13.least.item.key) && ((x11.least.item.id == x13.least.item.id) && true)))))))))))))))) then ((wave_Swell_Plus.f k x8 x9).bind fun x14 => (wave_Swell_Plus.f k x7 x14).bind fun x15 => (Lw08_Comes.f k x15 l0).bind fun x16 => some x16) else (some false)) else none) else none) else none))
def wave_Swell_Above.f (k : Nat) (a0 : TSwell) (a1 : TItem) : Option (Bool) := (wave_Swell_taken.f k a0).bind fun x1 => bif (decide (a0.free > 0)) then (some true) else (bif x1.found then ((item_Compare.f k x1.item a1).bind fun x2 => some (decide (x2 > 0))) else (some false))
def Lw08_WaveAbove.l0 (k : Nat) (l0 : List TR08Mark) (a1 : TItem) : Nat → (Bool × Int) → Option (Bool)
  | 0, _ => none
  | n + 1, (v1, v2) => bif (decide (v2 < (l0.length : Int))) then (bif v1 then (Lw08_WaveAbove.l0 k l0 a1 n (true, (w64 (v2 + 1)))) else ((atL l0 v2).bind fun x6 => bif (!x6.op.insert) then (bif (!x6.took.found) then (Lw08_WaveAbove.l0 k l0 a1 n (true, (w64 (v2 + 1)))) else ((R02_Ahead.f k a1 x6.took.item).bind fun x7 => Lw08_WaveAbove.l0 k l0 a1 n (x7, (w64 (v2 + 1))))) else (Lw08_WaveAbove.l0 k l0 a1 n (false, (w64 (v2 + 1)))))) else (some v1)
def Lw08_WaveAbove.f (k : Nat) (l0 : List TR08Mark) (a1 : TItem) : Option (Bool) := ((Lw08_awake.f k).bind fun x2 => bif (!x2) then ((Lw08_awake.f k).bind fun x3 => some (Sum.inl x3)) else (bif (decide ((l0.length : Int) > 60)) then ((Lw08_awake.f k).bind fun x4 => some (Sum.inl x4)) else (some (Sum.inr ())))).bind (Sum.elim (fun r => some r) (fun v1 => (Lw08_WaveAbove.l0 k l0 a1 k (false, 0)).bind fun x5 => (Lw08_sums.f k l0).bind fun x8 => (wave_Swell_Above.f k x8 a1).bind fun x9 => some (x9 == x5)))
abbrev opsM : Ops TMark TSwell := ⟨wave_Mark_Compare.f, wave_Mark_Sum.f, wave_Swell_Plus.f, zTMark, zTSwell⟩
abbrev zNodeM : TNode TMark TSwell := zNode opsM
def wave_New.f (k : Nat) (a0 : Int) : Option (TRef × Pool (TNode TMark TSwell)) := (Tree_New.f opsM k a0).bind fun x1 => some (x1.1, x1.2)
def Lw08_WaveTrees.l1 (k : Nat) (l0 : List TR08Mark) (v4 : List TR08Mark) (v5 : Int) : Nat → Int → Option (Int)
  | 0, _ => none
  | n + 1, v101 => bif (decide (v101 < (v4.length : Int))) then ((atL v4 v101).bind fun x11 => (atL l0 v5).bind fun x12 => bif (decide (x11.op.time < x12.op.time)) then (Lw08_WaveTrees.l1 k l0 v4 v5 n (w64 (v101 + 1))) else (some v101)) else (some v101)
def Lw08_WaveTrees.l0 (k : Nat) (l0 : List TR08Mark) : Nat → (Pool (TNode TMark TSwell) × Int × Int × List TR08Mark × Int) → Option (Sum (Bool) (Pool (TNode TMark TSwell) × Int × Int × List TR08Mark))
  | 0, _ => none
  | n + 1, (v1, v2, v3, v4, v5) => bif (decide (v5 < (l0.length : Int))) then (((atL l0 v5).bind fun x8 => (Tree_Put.f opsM k v1 (TRef.mk v2 v3) (TMark.mk x8.op x8.here x8.took)).bind fun x9 => bif (!x9.1) then (some (Sum.inl false)) else ((Lw08_WaveTrees.l1 k l0 v4 v5 k 0).bind fun x10 => bif decide (0 ≤ x10 ∧ x10 ≤ (v4.length : Int)) then (bif decide (([] : List TR08Mark).length + ((v4.drop 0).take (((x10).toNat) - 0)).length < 4294967296) then ((atL l0 v5).bind fun x13 => bif decide ((([] : List TR08Mark) ++ ((v4.drop 0).take (((x10).toNat) - 0))).length + ([x13] : List TR08Mark).length < 4294967296) then (bif (decide (x10 < (v4.length : Int))) then ((atL v4 x10).bind fun x14 => bif (x14.op.time == x13.op.time) then (bif decide (0 ≤ (w64 (x10 + 1)) ∧ (w64 (x10 + 1)) ≤ (v4.length : Int)) then (bif decide (((([] : List TR08Mark) ++ ((v4.drop 0).take (((x10).toNat) - 0))) ++ ([x13] : List TR08Mark)).length + ((v4.drop (((w64 (x10 + 1))).toNat)).take (v4.length - (((w64 (x10 + 1))).toNat))).length < 4294967296) then (some (Sum.inr (x9.2.2, x9.2.1.index, x9.2.1.gen, (((([] : List TR08Mark) ++ ((v4.drop 0).take (((x10).toNat) - 0))) ++ ([x13] : List TR08Mark)) ++ ((v4.drop (((w64 (x10 + 1))).toNat)).take (v4.length - (((w64 (x10 + 1))).toNat))))))) else none) else none) else (bif decide (0 ≤ x10 ∧ x10 ≤ (v4.length : Int)) then (bif decide (((([] : List TR08Mark) ++ ((v4.drop 0).take (((x10).toNat) - 0))) ++ ([x13] : List TR08Mark)).length + ((v4.drop ((x10).toNat)).take (v4.length - ((x10).toNat))).length < 4294967296) then (some (Sum.inr (x9.2.2, x9.2.1.index, x9.2.1.gen, (((([] : List TR08Mark) ++ ((v4.drop 0).take (((x10).toNat) - 0))) ++ ([x13] : List TR08Mark)) ++ ((v4.drop ((x10).toNat)).take (v4.length - ((x10).toNat))))))) else none) else none)) else (bif decide (0 ≤ x10 ∧ x10 ≤ (v4.length : Int)) then (bif decide (((([] : List TR08Mark) ++ ((v4.drop 0).take (((x10).toNat) - 0))) ++ ([x13] : List TR08Mark)).length + ((v4.drop ((x10).toNat)).take (v4.length - ((x10).toNat))).length < 4294967296) then (some (Sum.inr (x9.2.2, x9.2.1.index, x9.2.1.gen, (((([] : List TR08Mark) ++ ((v4.drop 0).take (((x10).toNat) - 0))) ++ ([x13] : List TR08Mark)) ++ ((v4.drop ((x10).toNat)).take (v4.length - ((x10).toNat))))))) else none) else none)) else none) else none) else none)).bind (Sum.elim (fun r => some (Sum.inl r)) (fun v7 => Lw08_WaveTrees.l0 k l0 n (v7.1, v7.2.1, v7.2.2.1, v7.2.2.2, (w64 (v5 + 1)))))) else (some (Sum.inr (v1, v2, v3, v4)))
def Lw08_WaveTrees.l2 (k : Nat) (v6 : Pool (TNode TMark TSwell) × Int × Int × List TR08Mark) : Nat → Int → Option (Sum (Bool) (Unit))
  | 0, _ => none
  | n + 1, v201 => bif (decide (v201 < (v6.2.2.2.length : Int))) then ((atL v6.2.2.2 v201).bind fun x17 => (wave_Key.f k x17.op.time).bind fun x18 => (Tree_Find.f opsM k v6.1 (TRef.mk v6.2.1 v6.2.2.1) x18).bind fun x19 => bif (!x19.2) then (some (Sum.inl false)) else (bif (!((x19.1.op.time == x17.op.time) && ((x19.1.op.insert == x17.op.insert) && ((x19.1.op.item.key == x17.op.item.key) && ((x19.1.op.item.id == x17.op.item.id) && true))))) then (some (Sum.inl false)) else (bif (!(x19.1.here == x17.here)) then (some (Sum.inl false)) else (bif (!((x19.1.took.found == x17.took.found) && ((x19.1.took.item.key == x17.took.item.key) && ((x19.1.took.item.id == x17.took.item.id) && true)))) then (some (Sum.inl false)) else ((wave_Key.f k x17.op.time).bind fun x20 => (Tree_Rank.f opsM k v6.1 (TRef.mk v6.2.1 v6.2.2.1) x20).bind fun x21 => bif (x21 != v201) then (some (Sum.inl false)) else (Lw08_WaveTrees.l2 k v6 n (w64 (v201 + 1)))))))) else (some (Sum.inr ()))
def Lw08_WaveTrees.f (k : Nat) (l0 : List TR08Mark) (a1 : Int) (a2 : Int) : Option (Bool) := ((Lw08_awake.f k).bind fun x2 => bif (!x2) then ((Lw08_awake.f k).bind fun x3 => some (Sum.inl x3)) else (bif (decide ((l0.length : Int) > 60)) then ((Lw08_awake.f k).bind fun x4 => some (Sum.inl x4)) else (some (Sum.inr ())))).bind (Sum.elim (fun r => some r) (fun v1 => (wave_New.f k 60).bind fun x5 => (Lw08_WaveTrees.l0 k l0 k (x5.2, x5.1.index, x5.1.gen, ([] : List TR08Mark), 0)).bind (Sum.elim (fun r => some r) (fun v6 => (Tree_Len.f opsM k v6.1 (TRef.mk v6.2.1 v6.2.2.1)).bind fun x15 => bif (x15 != (v6.2.2.2.length : Int)) then (some false) else ((Lw08_WaveTrees.l2 k v6 k 0).bind (Sum.elim (fun r => some r) (fun v16 => bif (decide ((gmin (gmax a1 0) (v6.2.2.2.length : Int)) > (gmin (gmax a2 0) (v6.2.2.2.length : Int)))) then (some true) else ((Tree_Between.f opsM k v6.1 (TRef.mk v6.2.1 v6.2.2.1) (gmin (gmax a1 0) (v6.2.2.2.length : Int)) (gmin (gmax a2 0) (v6.2.2.2.length : Int))).bind fun x22 => bif decide (0 ≤ (gmin (gmax a1 0) (v6.2.2.2.length : Int)) ∧ (gmin (gmax a1 0) (v6.2.2.2.length : Int)) ≤ (gmin (gmax a2 0) (v6.2.2.2.length : Int)) ∧ (gmin (gmax a2 0) (v6.2.2.2.length : Int)) ≤ (v6.2.2.2.length : Int)) then ((Lw08_Comes.f k x22 ((v6.2.2.2.drop (((gmin (gmax a1 0) (v6.2.2.2.length : Int))).toNat)).take ((((gmin (gmax a2 0) (v6.2.2.2.length : Int))).toNat) - (((gmin (gmax a1 0) (v6.2.2.2.length : Int))).toNat)))).bind fun x23 => some x23) else none))))))))
end Go.Proofs.Ytgogiehpenfdpaa


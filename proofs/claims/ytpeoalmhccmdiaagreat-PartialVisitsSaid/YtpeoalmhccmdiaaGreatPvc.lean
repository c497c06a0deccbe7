/- My texts that the proof of PartialVisits rests on, part 3: a calculus of walks, the walks, and the plain law. -/
import Derived.KernelRfl
import Derived.Test.YtpeoalmhccmdiaaGreatPvb
set_option linter.unusedVariables false
set_option linter.unusedSimpArgs false
namespace Go.Proofs.YtpeoalmhccmdiaaGreat
open Go Go.Proofs.YtpeoalmhccmdiaaGreat.Sx
def vGet {α : Type} (z : α) (p : Pool α) (i g : Int) : Option ((α × Bool) × Pool α) := bif decide (pOk p) then some (p.get z i g) else none
def VTree_New.f {E A : Type} (O : Ops E A) (k : Nat) (a0 : Int) : Option (TRef × Pool (TNode E A)) := some (zTRef, (⟨[], [], capOf a0, 0, 0⟩ : Pool (TNode E A)))
def Vwave_New.f (k : Nat) (a0 : Int) : Option (TRef × Pool (TNode TMark TSwell)) := (VTree_New.f opsM k a0).bind fun x1 => some (x1.1, x1.2)
def Vshelf_New.f (k : Nat) (a0 : Int) : Option (TRef × Pool (TNode TSlot TSize)) := (VTree_New.f opsS k a0).bind fun x1 => some (x1.1, x1.2)
def Vpartial_New.f (k : Nat) (a0 : Int) : Option (TQueue) := (Vwave_New.f k (gmin (gmax a0 0) 65536)).bind fun x1 => (Vshelf_New.f k (gmin (gmax a0 0) 65536)).bind fun x2 => (Vshelf_New.f k (gmin (gmax a0 0) 65536)).bind fun x3 => (Vshelf_New.f k (gmin (gmax a0 0) 65536)).bind fun x4 => some (TQueue.mk (gmin (gmax a0 0) 65536) (TS.mk x1.2 x1.1) (TS.mk x2.2 x2.1) (TS.mk x3.2 x3.1) (TS.mk x4.2 x4.1) 0)
def VTree_get.f {E A : Type} (O : Ops E A) (k : Nat) (p1 : Pool (TNode E A)) (a1 : TRef) : Option (TNode E A × Pool (TNode E A)) := bif (a1.gen == 0) then (some ((zNode O), p1)) else ((vGet (zNode O) p1 a1.index a1.gen).bind fun x1 => some (x1.1.1, x1.2))
def VTree_Len.f {E A : Type} (O : Ops E A) (k : Nat) (p1 : Pool (TNode E A)) (rt0 : TRef) : Option (Int × Pool (TNode E A)) := (VTree_get.f O k p1 rt0).bind fun x1 => some (x1.1.size, x1.2)
def VTree_Find.l0 {E A : Type} (O : Ops E A) (k : Nat) (a1 : E) : Nat → (Pool (TNode E A) × TRef) → Option (Sum (E × Bool × Pool (TNode E A)) (Pool (TNode E A)))
  | 0, _ => none
  | n + 1, (v1, v2) => bif (v2.gen != 0) then ((VTree_get.f O k v1 v2).bind fun x2 => (O.cmp k a1 x2.1.e).bind fun x3 => bif (x3 == 0) then (some (Sum.inl (x2.1.e, true, x2.2))) else (bif (decide (x3 < 0)) then (VTree_Find.l0 O k a1 n (x2.2, x2.1.left)) else (VTree_Find.l0 O k a1 n (x2.2, x2.1.right)))) else (some (Sum.inr v1))
def VTree_Find.f {E A : Type} (O : Ops E A) (k : Nat) (p1 : Pool (TNode E A)) (rt0 : TRef) (a1 : E) : Option (E × Bool × Pool (TNode E A)) := (VTree_Find.l0 O k a1 k (p1, rt0)).bind (Sum.elim (fun r => some r) (fun w1 => some (O.zE, false, w1)))
def Vpartial_Queue_may.f (k : Nat) (q0 : TQueue) (a1 : Int) : Option (Int × TQueue) := (VTree_Len.f opsM k q0.marks.p q0.marks.r).bind fun x1 => bif (x1.1 == q0.capacity) then (some (10, (TQueue.mk q0.capacity (TS.mk x1.2 q0.marks.r) q0.present q0.gone q0.times q0.excess))) else ((wave_Key.f k a1).bind fun x2 => (VTree_Find.f opsM k x1.2 q0.marks.r x2).bind fun x3 => bif x3.2.1 then (some (11, (TQueue.mk q0.capacity (TS.mk x3.2.2 q0.marks.r) q0.present q0.gone q0.times q0.excess))) else (some (0, (TQueue.mk q0.capacity (TS.mk x3.2.2 q0.marks.r) q0.present q0.gone q0.times q0.excess))))
def VTree_weight.f {E A : Type} (O : Ops E A) (k : Nat) (p1 : Pool (TNode E A)) (a1 : TRef) : Option (Int × Pool (TNode E A)) := (VTree_get.f O k p1 a1).bind fun x1 => some ((w64 (x1.1.size + 1)), x1.2)
def VTree_Rank.l0 {E A : Type} (O : Ops E A) (k : Nat) (a1 : E) : Nat → (Pool (TNode E A) × Int × TRef) → Option (Int × Pool (TNode E A))
  | 0, _ => none
  | n + 1, (v1, v2, v3) => bif (v3.gen != 0) then ((VTree_get.f O k v1 v3).bind fun x2 => (O.cmp k a1 x2.1.e).bind fun x3 => bif (decide (x3 ≤ 0)) then (VTree_Rank.l0 O k a1 n (x2.2, v2, x2.1.left)) else ((VTree_weight.f O k x2.2 x2.1.left).bind fun x4 => VTree_Rank.l0 O k a1 n (x4.2, (w64 (v2 + x4.1)), x2.1.right))) else (some (v2, v1))
def VTree_Rank.f {E A : Type} (O : Ops E A) (k : Nat) (p1 : Pool (TNode E A)) (rt0 : TRef) (a1 : E) : Option (Int × Pool (TNode E A)) := (VTree_Rank.l0 O k a1 k (p1, 0, rt0)).bind fun x1 => some (x1.1, x1.2)
def Vbridge_clamp.f (k : Nat) (p1 : Pool (TNode TMark TSwell)) (rt0 : TRef) (a1 : Int) : Option (Int × Pool (TNode TMark TSwell)) := (VTree_Len.f opsM k p1 rt0).bind fun x1 => some ((gmin (gmax a1 0) x1.1), x1.2)
def VTree_lastOf.r {E A : Type} (O : Ops E A) (k : Nat) : Nat → Pool (TNode E A) → TRef → Int → A → (A → A → Option Bool) → Option (Int × Pool (TNode E A))
  | 0, _, _, _, _, _ => none
  | n + 1, p1, a1, a2, a3, fn4 => (VTree_get.f O k p1 a1).bind fun x1 => (bif (x1.1.size == 0) then (some (Sum.inl ((-1), x1.2))) else (bif (decide (a2 ≤ 0)) then (some (Sum.inl ((-1), x1.2))) else (bif (decide (a2 ≥ x1.1.size)) then ((fn4 a3 x1.1.sum).bind fun x3 => bif (!x3) then (some (Sum.inl ((-1), x1.2))) else (some (Sum.inr ()))) else (some (Sum.inr ()))))).bind (Sum.elim (fun r => some r) (fun w2 => (VTree_get.f O k x1.2 x1.1.left).bind fun x4 => (O.plus k a3 x4.1.sum).bind fun x5 => (O.sum k x1.1.e).bind fun x6 => (O.plus k x5 x6).bind fun x7 => (VTree_lastOf.r O k n x4.2 x1.1.right (w64 ((w64 (a2 - x4.1.size)) - 1)) x7 fn4).bind fun x8 => bif (decide (x8.1 ≥ 0)) then (some ((w64 ((w64 (x8.1 + x4.1.size)) + 1)), x8.2)) else (bif (decide (a2 > x4.1.size)) then ((fn4 x5 x6).bind fun x9 => bif x9 then (some (x4.1.size, x8.2)) else ((VTree_lastOf.r O k n x8.2 x1.1.left a2 a3 fn4).bind fun x10 => some (x10.1, x10.2))) else ((VTree_lastOf.r O k n x8.2 x1.1.left a2 a3 fn4).bind fun x11 => some (x11.1, x11.2)))))
def VTree_lastOf.f {E A : Type} (O : Ops E A) (k : Nat) (p1 : Pool (TNode E A)) (a1 : TRef) (a2 : Int) (a3 : A) (fn4 : A → A → Option Bool) : Option (Int × Pool (TNode E A)) := VTree_lastOf.r O k k p1 a1 a2 a3 fn4
def VTree_Last.f {E A : Type} (O : Ops E A) (k : Nat) (p1 : Pool (TNode E A)) (rt0 : TRef) (a1 : Int) (fn2 : A → A → Option Bool) : Option (Int × Pool (TNode E A)) := (VTree_Len.f O k p1 rt0).bind fun x1 => (VTree_lastOf.f O k x1.2 rt0 (gmin (gmax a1 0) x1.1) O.zA fn2).bind fun x2 => some (x2.1, x2.2)
def Vbridge_Prior.f (k : Nat) (p1 : Pool (TNode TMark TSwell)) (rt0 : TRef) (a1 : Int) (a2 : Int) : Option (Int × Pool (TNode TMark TSwell)) := (Vbridge_clamp.f k p1 rt0 a1).bind fun x1 => (bridge_low.f k a2).bind fun x2 => (VTree_Last.f opsM k x1.2 rt0 x1.1 (fun z0 z1 => bridge_low_1.f k z0 z1 x2)).bind fun x3 => bif (decide (x3.1 ≥ 0)) then (some ((w64 (x3.1 + 1)), x3.2)) else (bif (decide (a2 ≤ 0)) then (some (0, x3.2)) else (some ((-1), x3.2)))
def VTree_lay.f {E A : Type} (O : Ops E A) (k : Nat) (p1 : Pool (TNode E A)) (a1 : TRef) (a2 : TRef) (a3 : TRef) : Option (TRef × Pool (TNode E A)) := (VTree_get.f O k p1 a1).bind fun x1 => (VTree_get.f O k x1.2 a2).bind fun x2 => (VTree_get.f O k x2.2 a3).bind fun x3 => (O.sum k x1.1.e).bind fun x4 => (O.plus k x2.1.sum x4).bind fun x5 => (O.plus k x5 x3.1.sum).bind fun x6 => (pSet x3.2 a1.index a1.gen (TNode.mk x1.1.e a2 a3 (w64 ((w64 (x2.1.size + 1)) + x3.1.size)) x6)).bind fun x7 => some (a1, x7.2)
def VTree_turnRight.f {E A : Type} (O : Ops E A) (k : Nat) (p1 : Pool (TNode E A)) (a1 : TRef) : Option (TRef × Pool (TNode E A)) := (VTree_get.f O k p1 a1).bind fun x1 => (VTree_get.f O k x1.2 x1.1.left).bind fun x2 => (VTree_lay.f O k x2.2 a1 x2.1.right x1.1.right).bind fun x3 => (VTree_lay.f O k x3.2 x1.1.left x2.1.left a1).bind fun x4 => some (x4.1, x4.2)
def VTree_turnLeft.f {E A : Type} (O : Ops E A) (k : Nat) (p1 : Pool (TNode E A)) (a1 : TRef) : Option (TRef × Pool (TNode E A)) := (VTree_get.f O k p1 a1).bind fun x1 => (VTree_get.f O k x1.2 x1.1.right).bind fun x2 => (VTree_lay.f O k x2.2 a1 x1.1.left x2.1.left).bind fun x3 => (VTree_lay.f O k x3.2 x1.1.right a1 x2.1.right).bind fun x4 => some (x4.1, x4.2)
def VTree_balance.f {E A : Type} (O : Ops E A) (k : Nat) (p1 : Pool (TNode E A)) (a1 : TRef) : Option (TRef × Pool (TNode E A)) := (VTree_get.f O k p1 a1).bind fun x1 => (VTree_weight.f O k x1.2 x1.1.left).bind fun x2 => (VTree_weight.f O k x2.2 x1.1.right).bind fun x3 => bif (decide (x3.1 > (w64 (3 * x2.1)))) then ((VTree_get.f O k x3.2 x1.1.right).bind fun x4 => (VTree_weight.f O k x4.2 x4.1.left).bind fun x5 => (VTree_weight.f O k x5.2 x4.1.right).bind fun x6 => bif (decide (x5.1 ≥ (w64 (2 * x6.1)))) then ((VTree_turnRight.f O k x6.2 x1.1.right).bind fun x7 => (VTree_lay.f O k x7.2 a1 x1.1.left x7.1).bind fun x8 => (VTree_turnLeft.f O k x8.2 a1).bind fun x9 => some (x9.1, x9.2)) else ((VTree_turnLeft.f O k x6.2 a1).bind fun x10 => some (x10.1, x10.2))) else (bif (decide (x2.1 > (w64 (3 * x3.1)))) then ((VTree_get.f O k x3.2 x1.1.left).bind fun x11 => (VTree_weight.f O k x11.2 x11.1.right).bind fun x12 => (VTree_weight.f O k x12.2 x11.1.left).bind fun x13 => bif (decide (x12.1 ≥ (w64 (2 * x13.1)))) then ((VTree_turnLeft.f O k x13.2 x1.1.left).bind fun x14 => (VTree_lay.f O k x14.2 a1 x14.1 x1.1.right).bind fun x15 => (VTree_turnRight.f O k x15.2 a1).bind fun x16 => some (x16.1, x16.2)) else ((VTree_turnRight.f O k x13.2 a1).bind fun x17 => some (x17.1, x17.2))) else (some (a1, x3.2)))
def VTree_link.r {E A : Type} (O : Ops E A) (k : Nat) : Nat → Pool (TNode E A) → TRef → TRef → TRef → Option (TRef × Pool (TNode E A))
  | 0, _, _, _, _ => none
  | n + 1, p1, a1, a2, a3 => (VTree_weight.f O k p1 a1).bind fun x1 => (VTree_weight.f O k x1.2 a3).bind fun x2 => bif (decide (x2.1 > (w64 (3 * x1.1)))) then ((VTree_get.f O k x2.2 a3).bind fun x3 => (VTree_link.r O k n x3.2 a1 a2 x3.1.left).bind fun x4 => (VTree_lay.f O k x4.2 a3 x4.1 x3.1.right).bind fun x5 => (VTree_balance.f O k x5.2 x5.1).bind fun x6 => some (x6.1, x6.2)) else (bif (decide (x1.1 > (w64 (3 * x2.1)))) then ((VTree_get.f O k x2.2 a1).bind fun x7 => (VTree_link.r O k n x7.2 x7.1.right a2 a3).bind fun x8 => (VTree_lay.f O k x8.2 a1 x7.1.left x8.1).bind fun x9 => (VTree_balance.f O k x9.2 x9.1).bind fun x10 => some (x10.1, x10.2)) else ((VTree_lay.f O k x2.2 a2 a1 a3).bind fun x11 => some (x11.1, x11.2)))
def VTree_link.f {E A : Type} (O : Ops E A) (k : Nat) (p1 : Pool (TNode E A)) (a1 : TRef) (a2 : TRef) (a3 : TRef) : Option (TRef × Pool (TNode E A)) := VTree_link.r O k k p1 a1 a2 a3
def VTree_put.r {E A : Type} (O : Ops E A) (k : Nat) : Nat → Pool (TNode E A) → TRef → E → Option (TRef × Bool × Pool (TNode E A))
  | 0, _, _, _ => none
  | n + 1, p1, a1, a2 => bif (a1.gen == 0) then ((O.sum k a2).bind fun x1 => (pPut (zNode O) p1 (TNode.mk a2 zTRef zTRef 1 x1)).bind fun x2 => some ((TRef.mk x2.1.1.1 x2.1.1.2), x2.1.2, x2.2)) else ((VTree_get.f O k p1 a1).bind fun x3 => (O.cmp k a2 x3.1.e).bind fun x4 => bif (decide (x4 < 0)) then ((VTree_put.r O k n x3.2 x3.1.left a2).bind fun x5 => bif (!x5.2.1) then (some (a1, false, x5.2.2)) else ((VTree_link.f O k x5.2.2 x5.1 a1 x3.1.right).bind fun x6 => some (x6.1, true, x6.2))) else (bif (decide (x4 > 0)) then ((VTree_put.r O k n x3.2 x3.1.right a2).bind fun x7 => bif (!x7.2.1) then (some (a1, false, x7.2.2)) else ((VTree_link.f O k x7.2.2 x3.1.left a1 x7.1).bind fun x8 => some (x8.1, true, x8.2))) else ((pSet x3.2 a1.index a1.gen (TNode.mk a2 x3.1.left x3.1.right x3.1.size x3.1.sum)).bind fun x9 => (VTree_lay.f O k x9.2 a1 x3.1.left x3.1.right).bind fun x10 => some (x10.1, true, x10.2))))
def VTree_put.f {E A : Type} (O : Ops E A) (k : Nat) (p1 : Pool (TNode E A)) (a1 : TRef) (a2 : E) : Option (TRef × Bool × Pool (TNode E A)) := VTree_put.r O k k p1 a1 a2
def VTree_Put.f {E A : Type} (O : Ops E A) (k : Nat) (p1 : Pool (TNode E A)) (rt0 : TRef) (a1 : E) : Option (Bool × TRef × Pool (TNode E A)) := (VTree_put.f O k p1 rt0 a1).bind fun x1 => bif x1.2.1 then (some (x1.2.1, x1.1, x1.2.2)) else (some (x1.2.1, rt0, x1.2.2))
def VTree_between.r {E A : Type} (O : Ops E A) (k : Nat) : Nat → Pool (TNode E A) → TRef → Int → Int → Option (A × Pool (TNode E A))
  | 0, _, _, _, _ => none
  | n + 1, p1, a1, a2, a3 => (VTree_get.f O k p1 a1).bind fun x1 => (bif (decide (a2 ≥ a3)) then (some (Sum.inl (O.zA, x1.2))) else (bif (decide (a2 ≥ x1.1.size)) then (some (Sum.inl (O.zA, x1.2))) else (bif (decide (a3 ≤ 0)) then (some (Sum.inl (O.zA, x1.2))) else (bif (x1.1.size == 0) then (some (Sum.inl (O.zA, x1.2))) else (some (Sum.inr ())))))).bind (Sum.elim (fun r => some r) (fun w2 => (bif (decide (a2 ≤ 0)) then (bif (decide (a3 ≥ x1.1.size)) then (some (Sum.inl (x1.1.sum, x1.2))) else (some (Sum.inr ()))) else (some (Sum.inr ()))).bind (Sum.elim (fun r => some r) (fun w3 => (VTree_get.f O k x1.2 x1.1.left).bind fun x4 => (VTree_between.r O k n x4.2 x1.1.left a2 a3).bind fun x5 => (bif (decide (a2 ≤ x4.1.size)) then (bif (decide (a3 > x4.1.size)) then ((O.sum k x1.1.e).bind fun x7 => (O.plus k x5.1 x7).bind fun x8 => some x8) else (some x5.1)) else (some x5.1)).bind fun x6 => (VTree_between.r O k n x5.2 x1.1.right (w64 ((w64 (a2 - x4.1.size)) - 1)) (w64 ((w64 (a3 - x4.1.size)) - 1))).bind fun x9 => (O.plus k x6 x9.1).bind fun x10 => some (x10, x9.2)))))
def VTree_between.f {E A : Type} (O : Ops E A) (k : Nat) (p1 : Pool (TNode E A)) (a1 : TRef) (a2 : Int) (a3 : Int) : Option (A × Pool (TNode E A)) := VTree_between.r O k k p1 a1 a2 a3
def VTree_Between.f {E A : Type} (O : Ops E A) (k : Nat) (p1 : Pool (TNode E A)) (rt0 : TRef) (a1 : Int) (a2 : Int) : Option (A × Pool (TNode E A)) := (VTree_Len.f O k p1 rt0).bind fun x1 => (VTree_between.f O k x1.2 rt0 (gmin (gmax a1 0) x1.1) (gmin (gmax a2 0) x1.1)).bind fun x2 => some (x2.1, x2.2)
def Vbridge_Best.f (k : Nat) (p1 : Pool (TNode TMark TSwell)) (rt0 : TRef) (a1 : Int) : Option (TTook × Pool (TNode TMark TSwell)) := (Vbridge_clamp.f k p1 rt0 a1).bind fun x1 => (VTree_Len.f opsM k x1.2 rt0).bind fun x2 => (VTree_Between.f opsM k x2.2 rt0 x1.1 x2.1).bind fun x3 => some (x3.1.gone, x3.2)
def VTree_last.r {E A : Type} (O : Ops E A) (k : Nat) : Nat → Pool (TNode E A) → TRef → Option (TRef × TRef × Pool (TNode E A))
  | 0, _, _ => none
  | n + 1, p1, a1 => (VTree_get.f O k p1 a1).bind fun x1 => bif (x1.1.right.gen == 0) then (some (x1.1.left, a1, x1.2)) else ((VTree_last.r O k n x1.2 x1.1.right).bind fun x2 => (VTree_link.f O k x2.2.2 x1.1.left a1 x2.1).bind fun x3 => some (x3.1, x2.2.1, x3.2))
def VTree_last.f {E A : Type} (O : Ops E A) (k : Nat) (p1 : Pool (TNode E A)) (a1 : TRef) : Option (TRef × TRef × Pool (TNode E A)) := VTree_last.r O k k p1 a1
def VTree_merge.f {E A : Type} (O : Ops E A) (k : Nat) (p1 : Pool (TNode E A)) (a1 : TRef) (a2 : TRef) : Option (TRef × Pool (TNode E A)) := bif (a1.gen == 0) then (some (a2, p1)) else (bif (a2.gen == 0) then (some (a1, p1)) else ((VTree_last.f O k p1 a1).bind fun x1 => (VTree_link.f O k x1.2.2 x1.1 x1.2.1 a2).bind fun x2 => some (x2.1, x2.2)))
def VTree_drop.r {E A : Type} (O : Ops E A) (k : Nat) : Nat → Pool (TNode E A) → TRef → E → Option (TRef × E × Bool × Pool (TNode E A))
  | 0, _, _, _ => none
  | n + 1, p1, a1, a2 => bif (a1.gen == 0) then (some (a1, O.zE, false, p1)) else ((VTree_get.f O k p1 a1).bind fun x1 => (O.cmp k a2 x1.1.e).bind fun x2 => bif (decide (x2 < 0)) then ((VTree_drop.r O k n x1.2 x1.1.left a2).bind fun x3 => bif (!x3.2.2.1) then (some (a1, x3.2.1, false, x3.2.2.2)) else ((VTree_link.f O k x3.2.2.2 x3.1 a1 x1.1.right).bind fun x4 => some (x4.1, x3.2.1, true, x4.2))) else (bif (decide (x2 > 0)) then ((VTree_drop.r O k n x1.2 x1.1.right a2).bind fun x5 => bif (!x5.2.2.1) then (some (a1, x5.2.1, false, x5.2.2.2)) else ((VTree_link.f O k x5.2.2.2 x1.1.left a1 x5.1).bind fun x6 => some (x6.1, x5.2.1, true, x6.2))) else ((pDrop (zNode O) x1.2 a1.index a1.gen).bind fun x7 => (VTree_merge.f O k x7.2 x1.1.left x1.1.right).bind fun x8 => some (x8.1, x1.1.e, true, x8.2))))
def VTree_drop.f {E A : Type} (O : Ops E A) (k : Nat) (p1 : Pool (TNode E A)) (a1 : TRef) (a2 : E) : Option (TRef × E × Bool × Pool (TNode E A)) := VTree_drop.r O k k p1 a1 a2
def VTree_Drop.f {E A : Type} (O : Ops E A) (k : Nat) (p1 : Pool (TNode E A)) (rt0 : TRef) (a1 : E) : Option (E × Bool × TRef × Pool (TNode E A)) := (VTree_drop.f O k p1 rt0 a1).bind fun x1 => some (x1.2.1, x1.2.2.1, x1.1, x1.2.2.2)
def Vpartial_Queue_turn.f (k : Nat) (q0 : TQueue) (a1 : TItem) (a2 : Bool) : Option (TQueue) := (shelf_Of.f k a1).bind fun x1 => (VTree_Find.f opsS k q0.times.p q0.times.r x1).bind fun x2 => (wave_Key.f k x2.1.time).bind fun x3 => (VTree_Find.f opsM k q0.marks.p q0.marks.r x3).bind fun x4 => (VTree_Put.f opsM k x4.2.2 q0.marks.r (TMark.mk x4.1.op a2 x4.1.took)).bind fun x5 => bif a2 then ((shelf_Of.f k a1).bind fun x6 => (VTree_Drop.f opsS k q0.gone.p q0.gone.r x6).bind fun x7 => (shelf_Of.f k a1).bind fun x8 => (VTree_Put.f opsS k q0.present.p q0.present.r x8).bind fun x9 => some (TQueue.mk q0.capacity (TS.mk x5.2.2 x5.2.1) (TS.mk x9.2.2 x9.2.1) (TS.mk x7.2.2.2 x7.2.2.1) (TS.mk x2.2.2 q0.times.r) q0.excess)) else ((shelf_Of.f k a1).bind fun x10 => (VTree_Drop.f opsS k q0.present.p q0.present.r x10).bind fun x11 => (shelf_Of.f k a1).bind fun x12 => (VTree_Put.f opsS k q0.gone.p q0.gone.r x12).bind fun x13 => some (TQueue.mk q0.capacity (TS.mk x5.2.2 x5.2.1) (TS.mk x11.2.2.2 x11.2.2.1) (TS.mk x13.2.2 x13.2.1) (TS.mk x2.2.2 q0.times.r) q0.excess))
def Vpartial_Queue_Insert.f (k : Nat) (q0 : TQueue) (a1 : Int) (a2 : TItem) : Option (TChange × Int × TQueue) := (Vpartial_Queue_may.f k q0 a1).bind fun x1 => bif (x1.1 != 0) then (some ((TChange.mk ([] : List TItem) ([] : List TItem)), x1.1, x1.2)) else ((shelf_Of.f k a2).bind fun x2 => (VTree_Find.f opsS k x1.2.times.p x1.2.times.r x2).bind fun x3 => bif x3.2.1 then (some ((TChange.mk ([] : List TItem) ([] : List TItem)), 2, (TQueue.mk x1.2.capacity x1.2.marks x1.2.present x1.2.gone (TS.mk x3.2.2 x1.2.times.r) x1.2.excess))) else ((wave_Key.f k a1).bind fun x4 => (VTree_Rank.f opsM k x1.2.marks.p x1.2.marks.r x4).bind fun x5 => (Vbridge_Prior.f k x5.2 x1.2.marks.r x5.1 x1.2.excess).bind fun x6 => (VTree_Put.f opsS k x3.2.2 x1.2.times.r (TSlot.mk a2 true a1)).bind fun x7 => (VTree_Put.f opsM k x6.2 x1.2.marks.r (TMark.mk (TOp.mk a1 true a2) false zTTook)).bind fun x8 => (shelf_Of.f k a2).bind fun x9 => (VTree_Put.f opsS k x1.2.gone.p x1.2.gone.r x9).bind fun x10 => bif (decide (x6.1 < 0)) then (some ((TChange.mk ([] : List TItem) ([] : List TItem)), 0, (TQueue.mk x1.2.capacity (TS.mk x8.2.2 x8.2.1) x1.2.present (TS.mk x10.2.2 x10.2.1) (TS.mk x7.2.2 x7.2.1) (w64 (x1.2.excess - 1))))) else ((Vbridge_Best.f k x8.2.2 x8.2.1 x6.1).bind fun x11 => (Vpartial_Queue_turn.f k (TQueue.mk x1.2.capacity (TS.mk x11.2 x8.2.1) x1.2.present (TS.mk x10.2.2 x10.2.1) (TS.mk x7.2.2 x7.2.1) x1.2.excess) x11.1.item true).bind fun x12 => some ((TChange.mk ([x11.1.item] : List TItem) ([] : List TItem)), 0, x12))))
def Vbridge_Height.f (k : Nat) (p1 : Pool (TNode TMark TSwell)) (rt0 : TRef) (a1 : Int) (a2 : Int) : Option (Int × Pool (TNode TMark TSwell)) := (VTree_Between.f opsM k p1 rt0 0 a1).bind fun x1 => some ((w64 (a2 + x1.1.weight.sum)), x1.2)
def VTree_first.r {E A : Type} (O : Ops E A) (k : Nat) : Nat → Pool (TNode E A) → TRef → Int → A → (A → A → Option Bool) → Option (Int × A × Pool (TNode E A))
  | 0, _, _, _, _, _ => none
  | n + 1, p1, a1, a2, a3, fn4 => (VTree_get.f O k p1 a1).bind fun x1 => (bif (x1.1.size == 0) then ((O.plus k a3 x1.1.sum).bind fun x3 => some (Sum.inl ((-1), x3, x1.2))) else (bif (decide (a2 ≥ x1.1.size)) then ((O.plus k a3 x1.1.sum).bind fun x4 => some (Sum.inl ((-1), x4, x1.2))) else (bif (decide (a2 ≤ 0)) then ((fn4 a3 x1.1.sum).bind fun x5 => bif (!x5) then ((O.plus k a3 x1.1.sum).bind fun x6 => some (Sum.inl ((-1), x6, x1.2))) else (some (Sum.inr ()))) else (some (Sum.inr ()))))).bind (Sum.elim (fun r => some r) (fun w2 => (VTree_get.f O k x1.2 x1.1.left).bind fun x7 => (VTree_first.r O k n x7.2 x1.1.left a2 a3 fn4).bind fun x8 => bif (decide (x8.1 ≥ 0)) then (some (x8.1, x8.2.1, x8.2.2)) else ((O.sum k x1.1.e).bind fun x9 => (bif (decide (a2 ≤ x7.1.size)) then ((fn4 x8.2.1 x9).bind fun x11 => bif x11 then (some (Sum.inl (x7.1.size, x8.2.1, x8.2.2))) else (some (Sum.inr ()))) else (some (Sum.inr ()))).bind (Sum.elim (fun r => some r) (fun w10 => (O.plus k x8.2.1 x9).bind fun x12 => (VTree_first.r O k n x8.2.2 x1.1.right (w64 ((w64 (a2 - x7.1.size)) - 1)) x12 fn4).bind fun x13 => bif (decide (x13.1 ≥ 0)) then (some ((w64 (x13.1 + (w64 (x7.1.size + 1)))), x13.2.1, x13.2.2)) else (some (x13.1, x13.2.1, x13.2.2)))))))
def VTree_first.f {E A : Type} (O : Ops E A) (k : Nat) (p1 : Pool (TNode E A)) (a1 : TRef) (a2 : Int) (a3 : A) (fn4 : A → A → Option Bool) : Option (Int × A × Pool (TNode E A)) := VTree_first.r O k k p1 a1 a2 a3 fn4
def VTree_First.f {E A : Type} (O : Ops E A) (k : Nat) (p1 : Pool (TNode E A)) (rt0 : TRef) (a1 : Int) (fn2 : A → A → Option Bool) : Option (Int × Pool (TNode E A)) := (VTree_Len.f O k p1 rt0).bind fun x1 => (VTree_first.f O k x1.2 rt0 (gmin (gmax a1 0) x1.1) O.zA fn2).bind fun x2 => some (x2.1, x2.2.2)
def Vbridge_Next.f (k : Nat) (p1 : Pool (TNode TMark TSwell)) (rt0 : TRef) (a1 : Int) (a2 : Int) : Option (Int × Pool (TNode TMark TSwell)) := (Vbridge_clamp.f k p1 rt0 a1).bind fun x1 => (Vbridge_Height.f k x1.2 rt0 x1.1 a2).bind fun x2 => bif (decide (x2.1 ≤ 0)) then (some (x1.1, x2.2)) else ((bridge_low.f k a2).bind fun x3 => (VTree_First.f opsM k x2.2 rt0 x1.1 (fun z0 z1 => bridge_low_1.f k z0 z1 x3)).bind fun x4 => bif (decide (x4.1 ≥ 0)) then (some ((w64 (x4.1 + 1)), x4.2)) else (some ((-1), x4.2)))
def Vbridge_Least.f (k : Nat) (p1 : Pool (TNode TMark TSwell)) (rt0 : TRef) (a1 : Int) : Option (TTook × Pool (TNode TMark TSwell)) := (Vbridge_clamp.f k p1 rt0 a1).bind fun x1 => (VTree_Between.f opsM k x1.2 rt0 0 x1.1).bind fun x2 => some (x2.1.least, x2.2)
def Vpartial_Queue_leave.f (k : Nat) (q0 : TQueue) (a1 : Int) : Option (TChange × TQueue) := (Vbridge_Next.f k q0.marks.p q0.marks.r a1 q0.excess).bind fun x1 => (Vbridge_Least.f k x1.2 q0.marks.r x1.1).bind fun x2 => bif (!x2.1.found) then (some ((TChange.mk ([] : List TItem) ([] : List TItem)), (TQueue.mk q0.capacity (TS.mk x2.2 q0.marks.r) q0.present q0.gone q0.times (w64 (q0.excess + 1))))) else ((Vpartial_Queue_turn.f k (TQueue.mk q0.capacity (TS.mk x2.2 q0.marks.r) q0.present q0.gone q0.times q0.excess) x2.1.item false).bind fun x3 => some ((TChange.mk ([] : List TItem) ([x2.1.item] : List TItem)), x3))
def Vpartial_Queue_Delete.f (k : Nat) (q0 : TQueue) (a1 : Int) : Option (TChange × Int × TQueue) := (Vpartial_Queue_may.f k q0 a1).bind fun x1 => bif (x1.1 != 0) then (some ((TChange.mk ([] : List TItem) ([] : List TItem)), x1.1, x1.2)) else ((wave_Key.f k a1).bind fun x2 => (VTree_Rank.f opsM k x1.2.marks.p x1.2.marks.r x2).bind fun x3 => (Vpartial_Queue_leave.f k (TQueue.mk x1.2.capacity (TS.mk x3.2 x1.2.marks.r) x1.2.present x1.2.gone x1.2.times x1.2.excess) x3.1).bind fun x4 => (wave_Key.f k a1).bind fun x5 => (VTree_Put.f opsM k x4.2.marks.p x4.2.marks.r x5).bind fun x6 => some (x4.1, 0, (TQueue.mk x4.2.capacity (TS.mk x6.2.2 x6.2.1) x4.2.present x4.2.gone x4.2.times x4.2.excess)))
def Vpartial_Queue_enter.f (k : Nat) (q0 : TQueue) (a1 : Int) : Option (TChange × TQueue) := (Vbridge_Prior.f k q0.marks.p q0.marks.r a1 q0.excess).bind fun x1 => bif (decide (x1.1 < 0)) then (some ((TChange.mk ([] : List TItem) ([] : List TItem)), (TQueue.mk q0.capacity (TS.mk x1.2 q0.marks.r) q0.present q0.gone q0.times (w64 (q0.excess - 1))))) else ((Vbridge_Best.f k x1.2 q0.marks.r x1.1).bind fun x2 => bif (!x2.1.found) then (some ((TChange.mk ([] : List TItem) ([] : List TItem)), (TQueue.mk q0.capacity (TS.mk x2.2 q0.marks.r) q0.present q0.gone q0.times q0.excess))) else ((Vpartial_Queue_turn.f k (TQueue.mk q0.capacity (TS.mk x2.2 q0.marks.r) q0.present q0.gone q0.times q0.excess) x2.1.item true).bind fun x3 => some ((TChange.mk ([x2.1.item] : List TItem) ([] : List TItem)), x3)))
def Vpartial_Queue_Revoke.f (k : Nat) (q0 : TQueue) (a1 : Int) : Option (TChange × Int × TQueue) := (wave_Key.f k a1).bind fun x1 => (VTree_Find.f opsM k q0.marks.p q0.marks.r x1).bind fun x2 => bif (!x2.2.1) then (some ((TChange.mk ([] : List TItem) ([] : List TItem)), 14, (TQueue.mk q0.capacity (TS.mk x2.2.2 q0.marks.r) q0.present q0.gone q0.times q0.excess))) else ((wave_Key.f k a1).bind fun x3 => (VTree_Rank.f opsM k x2.2.2 q0.marks.r x3).bind fun x4 => bif (!x2.1.op.insert) then ((Vpartial_Queue_enter.f k (TQueue.mk q0.capacity (TS.mk x4.2 q0.marks.r) q0.present q0.gone q0.times q0.excess) x4.1).bind fun x5 => (wave_Key.f k a1).bind fun x6 => (VTree_Drop.f opsM k x5.2.marks.p x5.2.marks.r x6).bind fun x7 => some (x5.1, 0, (TQueue.mk x5.2.capacity (TS.mk x7.2.2.2 x7.2.2.1) x5.2.present x5.2.gone x5.2.times x5.2.excess))) else ((bif (!x2.1.here) then ((Vpartial_Queue_leave.f k (TQueue.mk q0.capacity (TS.mk x4.2 q0.marks.r) q0.present q0.gone q0.times q0.excess) (w64 (x4.1 + 1))).bind fun x9 => some (x9.2, x9.1.in_, x9.1.out)) else (some ((TQueue.mk q0.capacity (TS.mk x4.2 q0.marks.r) q0.present q0.gone q0.times q0.excess), ([] : List TItem), ([x2.1.op.item] : List TItem)))).bind fun x8 => (wave_Key.f k a1).bind fun x10 => (VTree_Drop.f opsM k x8.1.marks.p x8.1.marks.r x10).bind fun x11 => (shelf_Of.f k x2.1.op.item).bind fun x12 => (VTree_Drop.f opsS k x8.1.present.p x8.1.present.r x12).bind fun x13 => (shelf_Of.f k x2.1.op.item).bind fun x14 => (VTree_Drop.f opsS k x8.1.gone.p x8.1.gone.r x14).bind fun x15 => (shelf_Of.f k x2.1.op.item).bind fun x16 => (VTree_Drop.f opsS k x8.1.times.p x8.1.times.r x16).bind fun x17 => some ((TChange.mk x8.2.1 x8.2.2), 0, (TQueue.mk x8.1.capacity (TS.mk x11.2.2.2 x11.2.2.1) (TS.mk x13.2.2.2 x13.2.2.1) (TS.mk x15.2.2.2 x15.2.2.1) (TS.mk x17.2.2.2 x17.2.2.1) x8.1.excess))))
def Vpartial_Queue_Excess.f (k : Nat) (q0 : TQueue) : Option (Int) := some q0.excess
def VLw12_awake.f (k : Nat) : Option (Bool) := (Vpartial_New.f k 9).bind fun x1 => (Vpartial_Queue_Insert.f k x1 1 (TItem.mk 5 0)).bind fun x2 => (Vpartial_Queue_Insert.f k x2.2.2 2 (TItem.mk 3 0)).bind fun x3 => (Vpartial_Queue_Delete.f k x3.2.2 3).bind fun x4 => (Vpartial_Queue_Revoke.f k x4.2.2 2).bind fun x5 => (Vpartial_Queue_Delete.f k x5.2.2 0).bind fun x6 => bif (x5.2.1 == 0) then (bif (x6.2.1 == 0) then (bif ((x5.1.out.length : Int) == 1) then ((atL x5.1.out 0).bind fun x7 => bif (x7.key == 5) then (bif ((w64 ((x6.1.in_.length : Int) + (x6.1.out.length : Int))) == 0) then ((Vpartial_Queue_Excess.f k x6.2.2).bind fun x8 => some (x8 == 1)) else (some false)) else (some false)) else (some false)) else (some false)) else (some false)
def VTree_Visits.f {E A : Type} (O : Ops E A) (k : Nat) (p1 : Pool (TNode E A)) : Option (Int) := some p1.vis
def Vpartial_Queue_Visits.f (k : Nat) (q0 : TQueue) : Option (Int) := (VTree_Visits.f opsM k q0.marks.p).bind fun x1 => (VTree_Visits.f opsS k q0.present.p).bind fun x2 => (VTree_Visits.f opsS k q0.gone.p).bind fun x3 => (VTree_Visits.f opsS k q0.times.p).bind fun x4 => some (w64 ((w64 ((w64 (x1 + x2)) + x3)) + x4))
def R07_Height.l0 (k : Nat) : Nat → (Int × Int) → Option (Int)
  | 0, _ => none
  | n + 1, (v1, v2) => bif (decide (v2 > 1)) then (R07_Height.l0 k n ((w64 (v1 + 3)), (w64 (v2.tdiv 2)))) else (some v1)
def R07_Height.f (k : Nat) (a0 : Int) : Option (Int) := (R07_Height.l0 k k (2, (w64 (a0 + 1)))).bind fun x1 => some x1
def VTree_all.r {E A : Type} (O : Ops E A) (k : Nat) : Nat → Pool (TNode E A) → TRef → List E → Option (List E × Pool (TNode E A))
  | 0, _, _, _ => none
  | n + 1, p1, a1, l2 => bif (a1.gen == 0) then (some (l2, p1)) else ((VTree_get.f O k p1 a1).bind fun x1 => (VTree_all.r O k n x1.2 x1.1.left l2).bind fun x2 => bif decide (x2.1.length + ([x1.1.e] : List E).length < 4294967296) then ((VTree_all.r O k n x2.2 x1.1.right (x2.1 ++ ([x1.1.e] : List E))).bind fun x3 => some (x3.1, x3.2)) else none)
def VTree_all.f {E A : Type} (O : Ops E A) (k : Nat) (p1 : Pool (TNode E A)) (a1 : TRef) (l2 : List E) : Option (List E × Pool (TNode E A)) := VTree_all.r O k k p1 a1 l2
def VTree_All.f {E A : Type} (O : Ops E A) (k : Nat) (p1 : Pool (TNode E A)) (rt0 : TRef) : Option (List E × Pool (TNode E A)) := (VTree_all.f O k p1 rt0 ([] : List E)).bind fun x1 => some (x1.1, x1.2)
def Vpartial_Queue_Ops.l0 (k : Nat) (x2 : List TMark × Pool (TNode TMark TSwell)) : Nat → (List TOp × Int × TQueue) → Option (List TOp × TQueue)
  | 0, _ => none
  | n + 1, (v1, v2, v3) => bif (decide (v2 < (x2.1.length : Int))) then ((atL x2.1 v2).bind fun x3 => bif decide (v1.length + ([x3.op] : List TOp).length < 4294967296) then (Vpartial_Queue_Ops.l0 k x2 n ((v1 ++ ([x3.op] : List TOp)), (w64 (v2 + 1)), v3)) else none) else (some (v1, v3))
def Vpartial_Queue_Ops.f (k : Nat) (q0 : TQueue) : Option (List TOp × TQueue) := ((VTree_All.f opsM k q0.marks.p q0.marks.r).bind fun x2 => Vpartial_Queue_Ops.l0 k x2 k (([] : List TOp), 0, (TQueue.mk q0.capacity (TS.mk x2.2 q0.marks.r) q0.present q0.gone q0.times q0.excess))).bind fun x1 => some (x1.1, x1.2)
def VLw12_PartialVisits.l0 (k : Nat) (l0 : List TL12Act) : Nat → (TQueue × List TOp × Int) → Option (Sum (Bool) (Unit))
  | 0, _ => none
  | n + 1, (v1, v2, v3) => bif (decide (v3 < (l0.length : Int))) then ((Vpartial_Queue_Visits.f k v1).bind fun x7 => (atL l0 v3).bind fun x8 => (Lw12_Act_time.f k x8 v2).bind fun x9 => (R01_Rest.f k x8.kind 3).bind fun x10 => bif (x10 == 0) then ((Vpartial_Queue_Insert.f k v1 x9 x8.x).bind fun x11 => (Vpartial_Queue_Visits.f k x11.2.2).bind fun x12 => (R07_Height.f k (v2.length : Int)).bind fun x13 => bif (decide ((w64 (x12 - x7)) > (w64 (10000 * (w64 (x13 + 4)))))) then (some (Sum.inl false)) else ((Vpartial_Queue_Ops.f k x11.2.2).bind fun x14 => VLw12_PartialVisits.l0 k l0 n (x14.2, x14.1, (w64 (v3 + 1))))) else (bif (x10 == 1) then ((Vpartial_Queue_Delete.f k v1 x9).bind fun x15 => (Vpartial_Queue_Visits.f k x15.2.2).bind fun x16 => (R07_Height.f k (v2.length : Int)).bind fun x17 => bif (decide ((w64 (x16 - x7)) > (w64 (10000 * (w64 (x17 + 4)))))) then (some (Sum.inl false)) else ((Vpartial_Queue_Ops.f k x15.2.2).bind fun x18 => VLw12_PartialVisits.l0 k l0 n (x18.2, x18.1, (w64 (v3 + 1))))) else (bif (x10 == 2) then ((Vpartial_Queue_Revoke.f k v1 x9).bind fun x19 => (Vpartial_Queue_Visits.f k x19.2.2).bind fun x20 => (R07_Height.f k (v2.length : Int)).bind fun x21 => bif (decide ((w64 (x20 - x7)) > (w64 (10000 * (w64 (x21 + 4)))))) then (some (Sum.inl false)) else ((Vpartial_Queue_Ops.f k x19.2.2).bind fun x22 => VLw12_PartialVisits.l0 k l0 n (x22.2, x22.1, (w64 (v3 + 1))))) else ((Vpartial_Queue_Visits.f k v1).bind fun x23 => (R07_Height.f k (v2.length : Int)).bind fun x24 => bif (decide ((w64 (x23 - x7)) > (w64 (10000 * (w64 (x24 + 4)))))) then (some (Sum.inl false)) else ((Vpartial_Queue_Ops.f k v1).bind fun x25 => VLw12_PartialVisits.l0 k l0 n (x25.2, x25.1, (w64 (v3 + 1)))))))) else (some (Sum.inr ()))
def VLw12_PartialVisits.f (k : Nat) (l0 : List TL12Act) : Option (Bool) := ((VLw12_awake.f k).bind fun x2 => bif (!x2) then ((VLw12_awake.f k).bind fun x3 => some (Sum.inl x3)) else (bif (decide ((l0.length : Int) > 60)) then ((VLw12_awake.f k).bind fun x4 => some (Sum.inl x4)) else (some (Sum.inr ())))).bind (Sum.elim (fun r => some r) (fun w1 => (Vpartial_New.f k 60).bind fun x5 => (VLw12_PartialVisits.l0 k l0 k (x5, ([] : List TOp), 0)).bind (Sum.elim (fun r => some r) (fun w6 => some true))))
end Go.Proofs.YtpeoalmhccmdiaaGreat
namespace Go.Proofs.YtpeoalmhccmdiaaGreat.Sx
open Go
def starRes (L : List Res) : Res where
  holds := Star L
  loc hw h := h.loc hw
  lt h hb := h.lt hb
def adEnv (a : Nat → Nat) : Env := fun k => ⟨a k, undef⟩
def eltRes (l : List (Nat × Tok)) (a : Nat → Nat) : Res := starRes (l.map fun p => p.2.r (adEnv a))
section
variable {σ : Type}
def hpL (toks : σ → List (Nat × Tok)) (A : List (Nat → Nat)) (Q : List σ) : List Res := List.zipWith (fun a q => eltRes (toks q) a) A Q
def hp (k : Nat) (toks : σ → List (Nat × Tok)) (A : List (Nat → Nat)) (Q : List σ) : Tok where
  ks := []
  r _ := starRes (hpL toks A Q)
  sup _ := rfl
end
end Go.Proofs.YtpeoalmhccmdiaaGreat.Sx
namespace Go.Proofs.YtpeoalmhccmdiaaGreat.Sx
open Go
section
variable {P : Program} {n : Nat} {ops : Array Oper} {rest : List Oper} {fs fs' : FL} {L L' : TL} {ss : List Step}
end
section
variable {P : Program} {n : Nat} {ops : Array Oper} {rest : List Oper} {fs : FL} {L : TL} {K : List Step → FL → TL → Prop} {d : Nat} {az : Array Operand} {ats : Array TypeId} {ty : TypeId} {pos : String} {after : Array Edge} {g : Option (Nat × Bool)} {gr : FL} {f : FuncId} {args : List SV} {ti to : List (Nat × Tok)} {fr : List Nat} {args' : Env → List SV}
end
end Go.Proofs.YtpeoalmhccmdiaaGreat.Sx
namespace Go.Proofs.YtpeoalmhccmdiaaGreat.Sx
open Go
def SConAt (β : Env) (P : Program) (f : FuncId) (args : List SV) (ti : List (Nat × Tok)) (ret : SV) (to : List (Nat × Tok)) (fr : List Nat) : Prop :=
  ∀ (w : World) (F : Foot), Star (ti.map fun p => p.2.r β) w F → Calls P f (args.map (SV.den β)).toArray w (Ret F w fr β ret to)
section
variable {P : Program} {n : Nat} {ops : Array Oper} {rest : List Oper} {fs fs' : FL} {L L' : TL} {ss : List Step}
theorem Run.callA {d : Nat} {c : Call} {ty : TypeId} {pos : String} {after : Array Edge} {g : Option (Nat × Bool)} {gr : FL} {f : FuncId} {args : List SV} {ret : SV} {fr : List Nat} (l : List (Operand × SV)) (tr ti to : List (Nat × Tok))
    (hs : ∀ (β : Env) (w : World) (S : Foot), Star (tr.map fun p => p.2.r β) w S → SConAt β P f args ((0, rd S w) :: ti) ret ((0, rd S w) :: to) fr)
    (hc : ToFn P c ty l f args) (hg : Gd ops ⟨some d, .call c, ty, pos, after, g⟩ fs gr) (hev : ∀ p ∈ l, ev fs p.1 = some p.2)
    (htk : ∀ p ∈ tr ++ ti, lkT L p.1 = some p.2) (hnd : ((tr ++ ti).map (·.1)).Nodup) (hnd' : ((tr ++ to).map (·.1)).Nodup) (hsub : ∀ p ∈ ti, p.1 ∈ to.map (·.1)) (hout : ∀ p ∈ to, p.1 ∈ ti.map (·.1) ∨ lkT L p.1 = none)
    (hfr : frB fr fs L = true) (hn : Nat.blt d n = true)
    (h : Run P n ops rest ((d, ret) :: fs) (to.map (fun p => (p.1, some p.2)) ++ L) ss fs' L') : Run P n ops (⟨some d, .call c, ty, pos, after, g⟩ :: rest) fs L (⟨gr ++ opds l, some d, ret, tr, ti, to, fr⟩ :: ss) fs' L' := by
  obtain ⟨f1, f2, f3⟩ := frB_spec hfr
  refine Run.cons ?_ ?_ ?_ (fun j => ?_) h
  · intro β a w G K Q hrs hsz hst hK
    have hw := hg.wanted hrs hsz
    unfold opW Oper.wp
    rw [if_pos hw]
    have h1 := hc β a.eval w (opds_eval hg hev hrs)
    simp only [execOp]
    rw [h1, Oper.upon_enter]
    rw [List.map_append] at hst
    obtain ⟨S, F2, e, dj, hS, hT⟩ := Star_append.1 hst
    have hin : Star (((0, rd S w) :: ti).map fun p => p.2.r β) w G := ⟨S, F2, e, dj, ⟨fun b => Iff.rfl, fun b hb => ⟨hS.lt hb, rfl⟩⟩, hT⟩
    have hcall := hs β w S hS w G hin
    refine hcall.mono (fun e' w' he => ?_)
    obtain ⟨β', hb, rfl, F', h2, h3, h4⟩ := he
    obtain ⟨S', F3, eF, dF, hS', hT'⟩ := h2
    have hS2 : Star (tr.map fun p => p.2.r β') w' S := by
      have : (tr.map fun p => p.2.r β') = tr.map fun p => p.2.r β := List.map_congr_left (fun p hp => (p.2.sup (fun k hk => hb k (f3 p.1 p.2 (htk p (List.mem_append_left _ hp)) k hk))))
      rw [this]
      exact hS.loc (fun b hb => (hS'.2 b hb).2)
    refine hK β' w' F' hb ?_ h3 h4
    rw [List.map_append]
    have eS : ∀ b, S' b ↔ S b := hS'.1
    exact Star_append.2 ⟨S, F3, fun b => by rw [eF b, eS b], fun b h1 h2 => dF b ((eS b).2 h1) h2, hS2, hT'⟩
  · refine ⟨fun t z hz => ?_, fun d' hd' => ?_, htk, hnd, hnd', hout, f1, f2, fun j t hj _ => f3 j t hj⟩
    · rw [lk_append] at hz
      cases hx' : lk gr t with
      | some z' => rw [hx'] at hz; simp at hz; subst hz; exact hg.fs hx'
      | none => rw [hx'] at hz; simp at hz; exact opds_fs hev hz
    · simp at hd'; subst hd'
      rw [Nat.blt_eq] at hn
      exact hn
  · simp only [Step.outF, lk_cons]
  · rw [Step.outM_eq]
    have e1 : ∀ (to : List (Nat × Tok)), lkT (to.map (fun p => (p.1, some p.2)) ++ L) j = (lkP to j).or (lkT L j) := by
      intro to
      induction to with
      | nil => simp [lkP]
      | cons p to ih =>
        rw [List.map_cons, List.cons_append, lkT_cons]
        simp only [upd, lkP]
        split <;> simp [ih]
    rw [e1]
    cases hp : lkP to j with
    | some x => rfl
    | none =>
      simp only [Option.none_or]
      rw [if_neg]
      intro hm
      obtain ⟨p, hp', rfl⟩ := List.mem_map.1 hm
      obtain ⟨q, hq, e⟩ := List.mem_map.1 (hsub p hp')
      have : ∀ l : List (Nat × Tok), q ∈ l → lkP l p.1 ≠ none := by
        intro l
        induction l with
        | nil => intro h; cases h
        | cons r l ih =>
          intro h
          simp only [lkP]
          split
          · simp
          · rename_i hne
            rcases List.mem_cons.1 h with rfl | h
            · exact absurd e.symm hne
            · exact ih h
      exact this to hq hp
end
section
variable {P : Program} {n : Nat} {ops : Array Oper} {rest : List Oper} {fs : FL} {L : TL} {K : List Step → FL → TL → Prop} {d : Nat} {az : Array Operand} {ats : Array TypeId} {ty : TypeId} {pos : String} {after : Array Edge} {g : Option (Nat × Bool)} {gr : FL} {f : FuncId} {ti to : List (Nat × Tok)} {fr : List Nat} {ret : SV}
theorem K.cA (hf : fnB P f = true) (ks : List Nat) (hs : ∀ (β : Env) (w : World) (S : Foot), Star ((getT L ks).map fun p => p.2.r β) w S → SConAt β P f ((opl fs az).map (·.2)) ((0, rd S w) :: ti) ret ((0, rd S w) :: to) fr) (hg : Gd ops ⟨some d, .call ⟨.value (.func f), az, ats⟩, ty, pos, after, g⟩ fs gr)
    (hev : az.toList.all (fun o => (ev fs o).isSome) = true) (htk : getT L (ti.map (·.1)) = ti)
    (hb : (ndB ((getT L ks ++ ti).map (·.1)) && (ndB ((getT L ks ++ to).map (·.1)) && (ti.all (fun p => (to.map (·.1)).contains p.1) && (to.all (fun p => (ti.map (·.1)).contains p.1 || (lkT L p.1).isNone) && (frB fr fs L && Nat.blt d n))))) = true)
    (h : RunK P n ops rest ((d, ret) :: fs) (to.map (fun p => (p.1, some p.2)) ++ L) (fun ss fs' L' => K (⟨gr ++ opds (fnl f fs az), some d, ret, getT L ks, ti, to, fr⟩ :: ss) fs' L')) : RunK P n ops (⟨some d, .call ⟨.value (.func f), az, ats⟩, ty, pos, after, g⟩ :: rest) fs L K := by
  simp only [Bool.and_eq_true] at hb
  have ht : AllT L (getT L ks ++ ti) := by
    have : ∀ l : List (Nat × Tok), AllT L l → AllT L (l ++ ti) := fun l => by
      induction l with
      | nil => intro _; exact getT_of htk
      | cons p l ih => intro h; exact ⟨h.1, ih h.2⟩
    exact this _ (getT_all _)
  refine RunK.of (fun _ _ _ h => Run.callA (fnl f fs az) (getT L ks) ti to hs (fnl_to hf) hg (fnl_all hev).spec ht.spec (ndB_spec hb.1) (ndB_spec hb.2.1) (fun p hp => by simpa using List.all_eq_true.1 hb.2.2.1 p hp) (fun p hp => by
    have := List.all_eq_true.1 hb.2.2.2.1 p hp
    rw [Bool.or_eq_true] at this
    rcases this with h | h
    · exact .inl (by simpa using h)
    · exact .inr (by simpa using h)) hb.2.2.2.2.1 hb.2.2.2.2.2 h) h
end
theorem SCon.rdBlk {P : Program} {f : FuncId} {args : List SV} {ret : SV} {ti to : List (Nat × Tok)} {fr : List Nat} {k T : Nat} {cs : List Cl} (h : SCon P f args ((k, blk k cs T) :: ti) ret ((k, blk k cs T) :: to) fr) (hfr : (blk k cs T).ks.all (fun j => !fr.contains j) = true) {β : Env} {w : World} {S : Foot} (hs : Star ([(k, blk k cs T)].map fun p => p.2.r β) w S) :
    SConAt β P f args ((0, rd S w) :: ti) ret ((0, rd S w) :: to) fr := by
  intro w1 F hst
  have hb := Star_one.1 hs
  obtain ⟨F1, F2, e, d, h1, h2⟩ := hst
  have hS : ∀ b, F1 b ↔ S b := h1.1
  have hW : ∀ b, S b → w1.heap[b]? = w.heap[b]? := fun b hb => (h1.2 b hb).2
  have hb1 := ((blk k cs T).r β).loc hW hb
  have hin : Star (((k, blk k cs T) :: ti).map fun p => p.2.r β) w1 F := ⟨S, F2, fun b => by rw [e b, hS b], fun b hb => d b ((hS b).2 hb), hb1, h2⟩
  refine (h β w1 F hin).mono (fun en w' he => ?_)
  obtain ⟨β', hβ, rfl, F', g1, g2, g3⟩ := he
  refine ⟨β', hβ, rfl, F', ?_, g2, g3⟩
  obtain ⟨G1, G2, e2, d2, k1, k2⟩ := g1
  have er : (blk k cs T).r β' = (blk k cs T).r β := (blk k cs T).sup (fun j hj => hβ j (by have := List.all_eq_true.1 hfr j hj; simpa using this))
  have k1' : ((blk k cs T).r β).holds w' G1 := by rw [← er]; exact k1
  have hb' := hb
  have eG : ∀ b, G1 b ↔ S b := fun b => by rw [k1'.1 b, hb'.1 b]
  exact ⟨G1, G2, e2, d2, ⟨eG, fun b hb => ⟨((blk k cs T).r β).lt k1' ((eG b).2 hb), by
    have hbk := (hb'.1 b).1 hb
    subst hbk
    exact k1'.2.trans hb'.2.symm⟩⟩, k2⟩
end Go.Proofs.YtpeoalmhccmdiaaGreat.Sx

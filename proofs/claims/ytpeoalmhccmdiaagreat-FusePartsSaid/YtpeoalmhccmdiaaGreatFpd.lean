/- My texts that the proof of FuseParts rests on, part 4: a calculus of walks, the walks, and the plain law. -/
import Derived.KernelRfl
import Derived.RangeFuncRecord
import Derived.RangeFuncSeq
import Derived.TacticsIn
import Derived.Shelf.SlSortCmp.WholeK
import Derived.Test.YtpeoalmhccmdiaaGreatProg
import Derived.Test.YtpeoalmhccmdiaaGreatFpc
set_option linter.unusedVariables false
set_option linter.unusedSimpArgs false
namespace Go.Proofs.YtpeoalmhccmdiaaGreat
open Go Go.Proofs.YtpeoalmhccmdiaaGreat.Sx
abbrev tkQueue (n0 n1 n2 n3 n4 n5 n6 n7 n8 : Nat) (q : TQueue) (l : List (Nat × Tok)) : List (Nat × Tok) := (n0, blk n0 [.v (.int .i64 q.capacity), .p n1 0, .p n3 0, .p n5 0, .p n7 0, .v (.int .i64 q.excess)] 98) :: (n1, blk n1 [.p n2 0, .v (.int .i64 q.marks.r.index), .v (.int .i64 q.marks.r.gen)] 110) :: (n2, plM n2 (q.marks.p)) :: (n3, blk n3 [.p n4 0, .v (.int .i64 q.present.r.index), .v (.int .i64 q.present.r.gen)] 131) :: (n4, plS n4 (q.present.p)) :: (n5, blk n5 [.p n6 0, .v (.int .i64 q.gone.r.index), .v (.int .i64 q.gone.r.gen)] 131) :: (n6, plS n6 (q.gone.p)) :: (n7, blk n7 [.p n8 0, .v (.int .i64 q.times.r.index), .v (.int .i64 q.times.r.gen)] 131) :: (n8, plS n8 (q.times.p)) :: l
abbrev wave_New_st (a0 : Int) (r : TRef × Pool (TNode TMark TSwell)) (m40 : Nat) (m41 : Nat) : Prop := SCon Tryz.prog 52 [.a (.c (.v (.int .i64 a0)))] [] (.a (.c (.p m40 0))) [(m40, blk m40 [.p m41 0, .i r.1.index, .i r.1.gen] 110), (m41, plM m41 r.2)] [m40, m41]
theorem wave_New_con0 {k : Nat}  {a0 : Int} {r : TRef × Pool (TNode TMark TSwell)}  (H0 : wave_New.f k a0 = some r) : wave_New_st a0 r 40 41 := by
 rw [wave_New.f] at H0
 refine spec_of [(0, _)] [] 5 Tryz.func52 R Tryz.ntmps52 R R R R (fun β W F => ?_)
 refine G.seq <| G.rg <| K.as R R <| K.nil <| At.ns ?_
 obtain ⟨x1, hx1, H0⟩ := bnd H0
 exact G.rg <| K.mv R R <| K.c0 (cf 91 R) (Tree_NewM_con hx1 100 101 R) g0 R R R R <| K.as R R <| K.nil <| At.next <| G.ret <| At.ren (fs' := [(2, .a (.c (.p 40 0)))]) (tl := [(40, blk 40 [.p 41 0, .v (.int .i64 x1.1.index), .v (.int .i64 x1.1.gen)] 110), (41, plM 41 x1.2)]) [(40, 100), (41, 101)] [_, _] R ⟨R, trivial⟩ ⟨R, (blk_ren R R), R, (pl_ren R), trivial⟩ R <| At.dr Y [2] R R (by cases H0; rfl) (by cases H0; rfl) R R R
theorem wave_New_con {k : Nat}  {a0 : Int} {r : TRef × Pool (TNode TMark TSwell)}  (H0 : wave_New.f k a0 = some r) (m40 m41 : Nat) (hd : ndB [m40, m41] = true) : wave_New_st a0 r m40 m41 :=
 SCon.ren (rn [(40, m40), (41, m41)]) (wave_New_con0 (k := k)   H0) trivial ⟨(blk_ren R R), (pl_ren R), trivial⟩ (rn_nd hd R R) (rn_ks hd R R R)
abbrev shelf_New_st (a0 : Int) (r : TRef × Pool (TNode TSlot TSize)) (m40 : Nat) (m41 : Nat) : Prop := SCon Tryz.prog 53 [.a (.c (.v (.int .i64 a0)))] [] (.a (.c (.p m40 0))) [(m40, blk m40 [.p m41 0, .i r.1.index, .i r.1.gen] 131), (m41, plS m41 r.2)] [m40, m41]
theorem shelf_New_con0 {k : Nat}  {a0 : Int} {r : TRef × Pool (TNode TSlot TSize)}  (H0 : shelf_New.f k a0 = some r) : shelf_New_st a0 r 40 41 := by
 rw [shelf_New.f] at H0
 refine spec_of [(0, _)] [] 5 Tryz.func53 R Tryz.ntmps53 R R R R (fun β W F => ?_)
 refine G.seq <| G.rg <| K.as R R <| K.nil <| At.ns ?_
 obtain ⟨x1, hx1, H0⟩ := bnd H0
 exact G.rg <| K.mv R R <| K.c0 (cf 92 R) (Tree_NewS_con hx1 100 101 R) g0 R R R R <| K.as R R <| K.nil <| At.next <| G.ret <| At.ren (fs' := [(2, .a (.c (.p 40 0)))]) (tl := [(40, blk 40 [.p 41 0, .v (.int .i64 x1.1.index), .v (.int .i64 x1.1.gen)] 131), (41, plS 41 x1.2)]) [(40, 100), (41, 101)] [_, _] R ⟨R, trivial⟩ ⟨R, (blk_ren R R), R, (pl_ren R), trivial⟩ R <| At.dr Y [2] R R (by cases H0; rfl) (by cases H0; rfl) R R R
theorem shelf_New_con {k : Nat}  {a0 : Int} {r : TRef × Pool (TNode TSlot TSize)}  (H0 : shelf_New.f k a0 = some r) (m40 m41 : Nat) (hd : ndB [m40, m41] = true) : shelf_New_st a0 r m40 m41 :=
 SCon.ren (rn [(40, m40), (41, m41)]) (shelf_New_con0 (k := k)   H0) trivial ⟨(blk_ren R R), (pl_ren R), trivial⟩ (rn_nd hd R R) (rn_ks hd R R R)
abbrev partial_New_st (a0 : Int) (r : TQueue) (m80 : Nat) (m81 : Nat) (m82 : Nat) (m83 : Nat) (m84 : Nat) (m85 : Nat) (m86 : Nat) (m87 : Nat) (m88 : Nat) : Prop := SCon Tryz.prog 15 [.a (.c (.v (.int .i64 a0)))] [] (.a (.c (.p m80 0))) (tkQueue m80 m81 m82 m83 m84 m85 m86 m87 m88 r []) [m80, m81, m82, m83, m84, m85, m86, m87, m88]
theorem partial_New_con0 {k : Nat}  {a0 : Int} {r : TQueue}  (H0 : partial_New.f k a0 = some r) : partial_New_st a0 r 80 81 82 83 84 85 86 87 88 := by
 rw [partial_New.f] at H0
 refine spec_of [(0, _)] [] 18 Tryz.func15 R Tryz.ntmps15 R R R R (fun β W F => ?_)
 refine G.seq <| G.rg <| K.as R R <| K.nil <| At.nr <| K.mv R R <| K.bi2 (V := .int .i64 (gmax a0 0)) g0 R R (fun _ _ => R) R <| K.bi2 (V := .int .i64 (gmin (gmax a0 0) 65536)) g0 R R (fun _ _ => R) R <| K.as R R <| K.nil <| At.ns ?_
 obtain ⟨x1, hx1, H0⟩ := bnd H0
 obtain ⟨x2, hx2, H0⟩ := bnd H0
 obtain ⟨x3, hx3, H0⟩ := bnd H0
 obtain ⟨x4, hx4, H0⟩ := bnd H0
 exact G.rg <| K.mv R R <| K.mv R R <| K.c0 (cf 52 R) (wave_New_con hx1 100 101 R) g0 R R R R <| K.mv R R <| K.c0 (cf 53 R) (shelf_New_con hx2 102 103 R) g0 R R R R <| K.mv R R <| K.c0 (cf 53 R) (shelf_New_con hx3 104 105 R) g0 R R R R <| K.mv R R <| K.c0 (cf 53 R) (shelf_New_con hx4 106 107 R) g0 R R R R <| K.build Y [(0, _), (1, _), (2, _), (3, _), (4, _)] [_, _, _, _, _, _] [((.tmp 7), _), ((.tmp 9), _), ((.tmp 11), _), ((.tmp 13), _), ((.tmp 15), _)] g0 (AllE.spec ⟨R, R, R, R, R, trivial⟩) R R t98 R R <| K.box Y 108 _ g0 R R R R R R <| K.as R R <| K.nil <| At.next <| G.ret <| At.ren (fs' := [(2, .a (.c (.p 80 0)))]) (tl := (tkQueue 80 81 82 83 84 85 86 87 88 (TQueue.mk (gmin (gmax a0 0) 65536) (TS.mk x1.2 x1.1) (TS.mk x2.2 x2.1) (TS.mk x3.2 x3.1) (TS.mk x4.2 x4.1) 0) [])) [(80, 108), (81, 100), (82, 101), (83, 102), (84, 103), (85, 104), (86, 105), (87, 106), (88, 107)] [_, _, _, _, _, _, _, _, _] R ⟨R, trivial⟩ ⟨R, (blk_ren R R), R, (blk_ren R R), R, (pl_ren R), R, (blk_ren R R), R, (pl_ren R), R, (blk_ren R R), R, (pl_ren R), R, (blk_ren R R), R, (pl_ren R), trivial⟩ R <| At.dr Y [2] R R (by cases H0; rfl) (by cases H0; rfl) R R R
theorem partial_New_con {k : Nat}  {a0 : Int} {r : TQueue}  (H0 : partial_New.f k a0 = some r) (m80 m81 m82 m83 m84 m85 m86 m87 m88 : Nat) (hd : ndB [m80, m81, m82, m83, m84, m85, m86, m87, m88] = true) : partial_New_st a0 r m80 m81 m82 m83 m84 m85 m86 m87 m88 :=
 SCon.ren (rn [(80, m80), (81, m81), (82, m82), (83, m83), (84, m84), (85, m85), (86, m86), (87, m87), (88, m88)]) (partial_New_con0 (k := k)   H0) trivial ⟨(blk_ren R R), (blk_ren R R), (pl_ren R), (blk_ren R R), (pl_ren R), (blk_ren R R), (pl_ren R), (blk_ren R R), (pl_ren R), trivial⟩ (rn_nd hd R R) (rn_ks hd R R R)
abbrev wave_Key_st (a0 : Int) (r : TMark) : Prop := SCon Tryz.prog 67 [.a (.c (.v (.int .i64 a0)))] [] (.a (.agg ((eTMark r).map .v))) [] []
theorem wave_Key_con0 {k : Nat}  {a0 : Int} {r : TMark}  (H0 : wave_Key.f k a0 = some r) : wave_Key_st a0 r := by
 rw [wave_Key.f] at H0
 refine spec_of [(0, _)] [] 6 Tryz.func67 R Tryz.ntmps67 R R R R (fun β W F => ?_)
 refine G.seq <| G.rg <| K.alloc Y 100 _ g0 t46 R R R R R <| K.nil <| At.nr <| K.mv R R <| K.build Y [(0, _)] [_, _, _, _] [((.tmp 3), _)] g0 (AllE.spec ⟨R, trivial⟩) R R t42 R R <| K.build Y [(0, _)] [_, _, _, _, _, _, _, _] [((.tmp 4), _)] g0 (AllE.spec ⟨R, trivial⟩) R R t46 R R <| K.store Y _ g0 R R R t46 R R R R R <| K.nil <| At.next <| G.ret <| At.done Y [(.cell 2 46, .agg [_, _, _, _, _, _, _, _])] R ⟨.st R R t46 R R, trivial⟩ (to' := []) trivial ?_ ?_ R R R (.inl R)
 · cases H0; rfl
 · cases H0; rfl
theorem wave_Key_con {k : Nat}  {a0 : Int} {r : TMark}  (H0 : wave_Key.f k a0 = some r) : wave_Key_st a0 r :=
 SCon.ren (rn []) (wave_Key_con0 (k := k)   H0) trivial trivial (by simp) (by simp)
abbrev partial_Queue_may_st (q0 : TQueue) (a1 : Int) (r : Int) (m0 : Nat) (m1 : Nat) (m2 : Nat) (m3 : Nat) (m4 : Nat) (m5 : Nat) (m6 : Nat) (m7 : Nat) (m8 : Nat) : Prop := SCon Tryz.prog 63 [SV.p m0 0, .a (.c (.v (.int .i64 a1)))] (tkQueue m0 m1 m2 m3 m4 m5 m6 m7 m8 q0 []) (.a (.c (.v (.int .i64 r)))) (tkQueue m0 m1 m2 m3 m4 m5 m6 m7 m8 q0 []) []
theorem partial_Queue_may_con0 {k : Nat}  {q0 : TQueue} {a1 : Int} {r : Int}  (H0 : partial_Queue_may.f k q0 a1 = some r) : partial_Queue_may_st q0 a1 r 0 1 2 3 4 5 6 7 8 := by
 rw [partial_Queue_may.f] at H0
 refine spec_of [(0, _), (1, _)] [(0, _), (1, _), (2, _), (3, _), (4, _), (5, _), (6, _), (7, _), (8, _)] 28 Tryz.func63 R Tryz.ntmps63 R R R R (fun β W F => ?_)
 refine G.seq <| G.rg <| K.as R R <| K.nil <| At.ns <| G.seq ?_
 obtain ⟨x1, hx1, H0⟩ := bnd H0
 refine G.rd mixed <| K.mv R R <| K.nilCheck g0 R R <| K.fieldAddr Y g0 R t98 R R <| K.load1 Y g0 R R t38 R R <| K.cR (cf 34 R) (Tree_LenM_con hx1 1 2) g0 R R R R <| K.mv R R <| K.nilCheck g0 R R <| K.fieldAddr Y g0 R t98 R R <| K.load1 Y g0 R R t3 R R <| K.bin (V := .bool (x1 == q0.capacity)) g0 R R (fun _ => R) R <| K.nil <| And.intro (by kernel_rfl) <| At.next <| G.cond R (fun h1 => ?_) (fun h1 => ?_)
 ·
  replace H0 := bif_t H0 h1
  exact G.seq <| G.rg <| K.as R R <| K.nil <| At.next <| G.ret <| At.over_ret <| At.dr Y [4] R R (by cases H0; rfl) (by cases H0; rfl) R R R
 ·
  replace H0 := bif_f H0 h1
  refine G.skip <| At.ns <| G.seq ?_
  obtain ⟨x2, hx2, H0⟩ := bnd H0
  obtain ⟨x3, hx3, H0⟩ := bnd H0
  refine G.rd mixed <| K.mv R R <| K.nilCheck g0 R R <| K.fieldAddr Y g0 R t98 R R <| K.load1 Y g0 R R t38 R R <| K.mv R R <| K.cR (cf 67 R) (wave_Key_con hx2) g0 R R R R <| K.cR (cf 74 R) (Tree_FindM_con hx3 1 2) g0 R R R R <| K.mv R R <| K.extract g0 R R R <| K.extract g0 R R R <| K.alloc Y 100 _ g0 t46 R R R R R <| K.store Y _ g0 R R R t46 R R R R R <| K.as R R <| K.nil <| And.intro (by kernel_rfl) <| At.nr <| K.mv R R <| K.nil <| At.next <| G.cond R (fun h2 => ?_) (fun h2 => ?_)
  ·
   replace H0 := bif_t H0 h2
   exact G.seq <| G.rg <| K.as R R <| K.nil <| At.next <| G.ret <| At.over_ret <| At.dr Y [4] R R (by cases H0; rfl) (by cases H0; rfl) R R R
  ·
   replace H0 := bif_f H0 h2
   exact G.skip <| At.nr <| K.as R R <| K.nil <| At.next <| G.ret <| At.dr Y [4] R R (by cases H0; rfl) (by cases H0; rfl) R R R
theorem partial_Queue_may_con {k : Nat}  {q0 : TQueue} {a1 : Int} {r : Int}  (H0 : partial_Queue_may.f k q0 a1 = some r) (m0 m1 m2 m3 m4 m5 m6 m7 m8 : Nat) : partial_Queue_may_st q0 a1 r m0 m1 m2 m3 m4 m5 m6 m7 m8 :=
 SCon.ren (rn [(0, m0), (1, m1), (2, m2), (3, m3), (4, m4), (5, m5), (6, m6), (7, m7), (8, m8)]) (partial_Queue_may_con0 (k := k)   H0) ⟨(blk_ren R R), (blk_ren R R), (pl_ren R), (blk_ren R R), (pl_ren R), (blk_ren R R), (pl_ren R), (blk_ren R R), (pl_ren R), trivial⟩ ⟨(blk_ren R R), (blk_ren R R), (pl_ren R), (blk_ren R R), (pl_ren R), (blk_ren R R), (pl_ren R), (blk_ren R R), (pl_ren R), trivial⟩ (by simp) (by simp)
abbrev shelf_Of_st (a0 : TItem) (r : TSlot) : Prop := SCon Tryz.prog 65 [.a (.agg ((eTItem a0).map .v))] [] (.a (.agg ((eTSlot r).map .v))) [] []
theorem shelf_Of_con0 {k : Nat}  {a0 : TItem} {r : TSlot}  (H0 : shelf_Of.f k a0 = some r) : shelf_Of_st a0 r := by
 rw [shelf_Of.f] at H0
 refine spec_of [(0, _)] [] 5 Tryz.func65 R Tryz.ntmps65 R R R R (fun β W F => ?_)
 refine G.seq <| G.rg <| K.box Y 100 _ g0 R R R R R R <| K.alloc Y 101 _ g0 t66 R R R R R <| K.nil <| At.nr <| K.loadS Y _ g0 R R t30 R R R <| K.build Y [(0, _)] [_, _, _, _] [((.tmp 3), _)] g0 (AllE.spec ⟨R, trivial⟩) R R t66 R R <| K.store Y _ g0 R R R t66 R R R R R <| K.nil <| At.next <| G.ret <| At.done Y [(.cell 2 66, .agg [_, _, _, _])] R ⟨.st R R t66 R R, trivial⟩ (to' := []) trivial ?_ ?_ R R R (.inl R)
 · cases H0; rfl
 · cases H0; rfl
theorem shelf_Of_con {k : Nat}  {a0 : TItem} {r : TSlot}  (H0 : shelf_Of.f k a0 = some r) : shelf_Of_st a0 r :=
 SCon.ren (rn []) (shelf_Of_con0 (k := k)   H0) trivial trivial (by simp) (by simp)
abbrev bridge_clamp_st (p1 : Pool (TNode TMark TSwell)) (rt0 : TRef) (a1 : Int) (r : Int) (m0 : Nat) (m1 : Nat) : Prop := SCon Tryz.prog 98 [SV.p m0 0, .a (.c (.v (.int .i64 a1)))] [(m0, blk m0 [.p m1 0, .i rt0.index, .i rt0.gen] 110), (m1, plM m1 p1)] (.a (.c (.v (.int .i64 r)))) [(m0, blk m0 [.p m1 0, .i rt0.index, .i rt0.gen] 110), (m1, plM m1 p1)] []
theorem bridge_clamp_con0 {k : Nat}  {p1 : Pool (TNode TMark TSwell)} {rt0 : TRef} {a1 : Int} {r : Int}  (H0 : bridge_clamp.f k p1 rt0 a1 = some r) : bridge_clamp_st p1 rt0 a1 r 0 1 := by
 rw [bridge_clamp.f] at H0
 refine spec_of [(0, _), (1, _)] [(0, _), (1, _)] 10 Tryz.func98 R Tryz.ntmps98 R R R R (fun β W F => ?_)
 refine G.seq <| G.rg <| K.as R R <| K.nil <| At.ns ?_
 obtain ⟨x1, hx1, H0⟩ := bnd H0
 exact G.rg <| K.mv R R <| K.bi2 (V := .int .i64 (gmax a1 0)) g0 R R (fun _ _ => R) R <| K.mv R R <| K.cR (cf 34 R) (Tree_LenM_con hx1 0 1) g0 R R R R <| K.bi2 (V := .int .i64 (gmin (gmax a1 0) x1)) g0 R R (fun _ _ => R) R <| K.as R R <| K.nil <| At.next <| G.ret <| At.dr Y [4] R R (by cases H0; rfl) (by cases H0; rfl) R R R
theorem bridge_clamp_con {k : Nat}  {p1 : Pool (TNode TMark TSwell)} {rt0 : TRef} {a1 : Int} {r : Int}  (H0 : bridge_clamp.f k p1 rt0 a1 = some r) (m0 m1 : Nat) : bridge_clamp_st p1 rt0 a1 r m0 m1 :=
 SCon.ren (rn [(0, m0), (1, m1)]) (bridge_clamp_con0 (k := k)   H0) ⟨(blk_ren R R), (pl_ren R), trivial⟩ ⟨(blk_ren R R), (pl_ren R), trivial⟩ (by simp) (by simp)
abbrev bridge_low_st (a0 : Int) (r : Int) (m50 : Nat) : Prop := SCon Tryz.prog 99 [.a (.c (.v (.int .i64 a0)))] [] (.a (.c (.fn (.func 119) [m50]))) [(m50, blk m50 [.v (.int .i64 r)] 3)] [m50]
theorem bridge_low_con0 {k : Nat}  {a0 : Int} {r : Int}  (H0 : bridge_low.f k a0 = some r) : bridge_low_st a0 r 50 := by
 rw [bridge_low.f] at H0
 refine spec_of [(0, _)] [] 4 Tryz.func99 R Tryz.ntmps99 R R R R (fun β W F => ?_)
 exact G.seq <| G.rg <| K.box Y 100 _ g0 R R R R R R <| K.as R R <| K.nil <| At.nr <| K.mkFn1 g0 R R <| K.as R R <| K.nil <| At.next <| G.ret <| At.ren (fs' := [(2, .a (.c (.fn (.func 119) [50])))]) (tl := [(50, blk 50 [.v (.int .i64 a0)] 3)]) [(50, 100)] [_] R ⟨R, trivial⟩ ⟨R, (blk_ren R R), trivial⟩ R <| At.dr Y [2] R R (by cases H0; rfl) (by cases H0; rfl) R R R
theorem bridge_low_con {k : Nat}  {a0 : Int} {r : Int}  (H0 : bridge_low.f k a0 = some r) (m50 : Nat) (hd : ndB [m50] = true) : bridge_low_st a0 r m50 :=
 SCon.ren (rn [(50, m50)]) (bridge_low_con0 (k := k)   H0) trivial ⟨(blk_ren R R), trivial⟩ (rn_nd hd R R) (rn_ks hd R R R)
abbrev bridge_low_1_st (a0 : TSwell) (a1 : TSwell) (c0 : Int) (r : Bool) (m0 : Nat) : Prop := SCon Tryz.prog 119 [.a (.agg ((eTSwell a0).map .v)), .a (.agg ((eTSwell a1).map .v)), SV.p m0 0] [(m0, blk m0 [.v (.int .i64 c0)] 3)] (.a (.c (.v (.bool r)))) [(m0, blk m0 [.v (.int .i64 c0)] 3)] []
theorem bridge_low_1_con0 {k : Nat}  {a0 : TSwell} {a1 : TSwell} {c0 : Int} {r : Bool}  (H0 : bridge_low_1.f k a0 a1 c0 = some r) : bridge_low_1_st a0 a1 c0 r 0 := by
 rw [bridge_low_1.f] at H0
 refine spec_of [(0, _), (1, _), (2, _)] [(0, _)] 22 Tryz.func119 R Tryz.ntmps119 R R R R (fun β W F => ?_)
 refine G.seq <| G.rg <| K.box Y 100 _ g0 R R R R R R <| K.box Y 101 _ g0 R R R R R R <| K.as R R <| K.nil <| At.ns ?_
 rcases Bool.eq_false_or_eq_true (decide (a1.weight.n > 0)) with h1 | h1
 ·
  replace H0 := bif_t H0 h1
  exact G.rg <| K.fieldAddr Y g0 R t50 R R <| K.fieldAddr Y g0 R t48 R R <| K.load1 Y g0 R R t3 R R <| K.bin (V := .bool (decide (a1.weight.n > 0))) g0 R R (fun _ => R) R <| K.mv R R <| K.load1 Y (g1 R R h1) R R t3 R R <| K.fieldAddr Y (g1 R R h1) R t50 R R <| K.fieldAddr Y (g1 R R h1) R t48 R R <| K.load1 Y (g1 R R h1) R R t3 R R <| K.bin (V := .int .i64 (w64 (c0 + a0.weight.sum))) (g1 R R h1) R R (fun _ => R) R <| K.fieldAddr Y (g1 R R h1) R t50 R R <| K.fieldAddr Y (g1 R R h1) R t48 R R <| K.load1 Y (g1 R R h1) R R t3 R R <| K.bin (V := .int .i64 (w64 ((w64 (c0 + a0.weight.sum)) + a1.weight.low))) (g1 R R h1) R R (fun _ => R) R <| K.bin (V := .bool (decide ((w64 ((w64 (c0 + a0.weight.sum)) + a1.weight.low)) ≤ 0))) (g1 R R h1) R R (fun _ => R) R <| K.pickT g0 R (h1) R R <| K.as R R <| K.nil <| At.next <| G.ret <| At.dr Y [5] R R (by cases H0; rfl) (by cases H0; rfl) R R R
 ·
  replace H0 := bif_f H0 h1
  exact G.rg <| K.fieldAddr Y g0 R t50 R R <| K.fieldAddr Y g0 R t48 R R <| K.load1 Y g0 R R t3 R R <| K.bin (V := .bool (decide (a1.weight.n > 0))) g0 R R (fun _ => R) R <| K.mv R R <| K.sk R R h1 R <| K.sk R R h1 R <| K.sk R R h1 R <| K.sk R R h1 R <| K.sk R R h1 R <| K.sk R R h1 R <| K.sk R R h1 R <| K.sk R R h1 R <| K.sk R R h1 R <| K.sk R R h1 R <| K.pickF g0 R (h1) R R <| K.as R R <| K.nil <| At.next <| G.ret <| At.dr Y [5] R R (by cases H0; rfl) (by cases H0; rfl) R R R
theorem bridge_low_1_con {k : Nat}  {a0 : TSwell} {a1 : TSwell} {c0 : Int} {r : Bool}  (H0 : bridge_low_1.f k a0 a1 c0 = some r) (m0 : Nat) : bridge_low_1_st a0 a1 c0 r m0 :=
 SCon.ren (rn [(0, m0)]) (bridge_low_1_con0 (k := k)   H0) ⟨(blk_ren R R), trivial⟩ ⟨(blk_ren R R), trivial⟩ (by simp) (by simp)
abbrev bridge_Prior_st (p1 : Pool (TNode TMark TSwell)) (rt0 : TRef) (a1 : Int) (a2 : Int) (r : Int) (m0 : Nat) (m1 : Nat) : Prop := SCon Tryz.prog 68 [SV.p m0 0, .a (.c (.v (.int .i64 a1))), .a (.c (.v (.int .i64 a2)))] [(m0, blk m0 [.p m1 0, .i rt0.index, .i rt0.gen] 110), (m1, plM m1 p1)] (.a (.c (.v (.int .i64 r)))) [(m0, blk m0 [.p m1 0, .i rt0.index, .i rt0.gen] 110), (m1, plM m1 p1)] []
theorem bridge_Prior_con0 {k : Nat}  {p1 : Pool (TNode TMark TSwell)} {rt0 : TRef} {a1 : Int} {a2 : Int} {r : Int}  (H0 : bridge_Prior.f k p1 rt0 a1 a2 = some r) : bridge_Prior_st p1 rt0 a1 a2 r 0 1 := by
 rw [bridge_Prior.f] at H0
 refine spec_of [(0, _), (1, _), (2, _)] [(0, _), (1, _)] 21 Tryz.func68 R Tryz.ntmps68 R R R R (fun β W F => ?_)
 refine G.seq <| G.rg <| K.as R R <| K.nil <| At.ns <| G.seq ?_
 obtain ⟨x1, hx1, H0⟩ := bnd H0
 obtain ⟨x2, hx2, H0⟩ := bnd H0
 obtain ⟨x3, hx3, H0⟩ := bnd H0
 refine G.rg <| K.mv R R <| K.mv R R <| K.mv R R <| K.cR (cf 98 R) (bridge_clamp_con hx1 0 1) g0 R R R R <| K.mv R R <| K.c0 (cf 99 R) (bridge_low_con hx2 100 R) g0 R R R R <| K.cR (cf 97 R) (Tree_LastM_f12_con (cv2 := [(.int .i64 x2)]) (Tc2 := 3) (cf 119 R) (fun c _ _ _ h => bridge_low_1_con h c) hx3 0 1 100) g0 R R R R <| K.as R R <| K.nil <| At.nr <| K.mv R R <| K.bin (V := .bool (decide (x3 ≥ 0))) g0 R R (fun _ => R) R <| K.nil <| At.next <| G.cond R (fun h1 => ?_) (fun h1 => ?_)
 ·
  replace H0 := bif_t H0 h1
  exact G.seq <| G.rg <| K.mv R R <| K.bin (V := .int .i64 (w64 (x3 + 1))) g0 R R (fun _ => R) R <| K.as R R <| K.nil <| At.next <| G.ret <| At.over_ret <| At.dr Y [6] R R (by cases H0; rfl) (by cases H0; rfl) R R R
 ·
  replace H0 := bif_f H0 h1
  refine G.skip <| At.ns <| G.seq <| G.rg <| K.mv R R <| K.bin (V := .bool (decide (a2 ≤ 0))) g0 R R (fun _ => R) R <| K.nil <| At.next <| G.cond R (fun h2 => ?_) (fun h2 => ?_)
  ·
   replace H0 := bif_t H0 h2
   exact G.seq <| G.rg <| K.as R R <| K.nil <| At.next <| G.ret <| At.over_ret <| At.dr Y [6] R R (by cases H0; rfl) (by cases H0; rfl) R R R
  ·
   replace H0 := bif_f H0 h2
   exact G.skip <| At.nr <| K.as R R <| K.nil <| At.next <| G.ret <| At.dr Y [6] R R (by cases H0; rfl) (by cases H0; rfl) R R R
theorem bridge_Prior_con {k : Nat}  {p1 : Pool (TNode TMark TSwell)} {rt0 : TRef} {a1 : Int} {a2 : Int} {r : Int}  (H0 : bridge_Prior.f k p1 rt0 a1 a2 = some r) (m0 m1 : Nat) : bridge_Prior_st p1 rt0 a1 a2 r m0 m1 :=
 SCon.ren (rn [(0, m0), (1, m1)]) (bridge_Prior_con0 (k := k)   H0) ⟨(blk_ren R R), (pl_ren R), trivial⟩ ⟨(blk_ren R R), (pl_ren R), trivial⟩ (by simp) (by simp)
abbrev bridge_Best_st (p1 : Pool (TNode TMark TSwell)) (rt0 : TRef) (a1 : Int) (r : TTook) (m0 : Nat) (m1 : Nat) : Prop := SCon Tryz.prog 71 [SV.p m0 0, .a (.c (.v (.int .i64 a1)))] [(m0, blk m0 [.p m1 0, .i rt0.index, .i rt0.gen] 110), (m1, plM m1 p1)] (.a (.agg ((eTTook r).map .v))) [(m0, blk m0 [.p m1 0, .i rt0.index, .i rt0.gen] 110), (m1, plM m1 p1)] []
theorem bridge_Best_con0 {k : Nat}  {p1 : Pool (TNode TMark TSwell)} {rt0 : TRef} {a1 : Int} {r : TTook}  (H0 : bridge_Best.f k p1 rt0 a1 = some r) : bridge_Best_st p1 rt0 a1 r 0 1 := by
 rw [bridge_Best.f] at H0
 refine spec_of [(0, _), (1, _)] [(0, _), (1, _)] 13 Tryz.func71 R Tryz.ntmps71 R R R R (fun β W F => ?_)
 refine G.seq <| G.rg <| K.alloc Y 100 _ g0 t44 R R R R R <| K.nil <| At.ns ?_
 obtain ⟨x1, hx1, H0⟩ := bnd H0
 obtain ⟨x2, hx2, H0⟩ := bnd H0
 obtain ⟨x3, hx3, H0⟩ := bnd H0
 refine G.rg <| K.mv R R <| K.mv R R <| K.mv R R <| K.cR (cf 98 R) (bridge_clamp_con hx1 0 1) g0 R R R R <| K.mv R R <| K.cR (cf 34 R) (Tree_LenM_con hx2 0 1) g0 R R R R <| K.cR (cf 102 R) (Tree_BetweenM_con hx3 0 1) g0 R R R R <| K.fieldS Y _ g0 R t50 R t44 R R <| K.store Y _ g0 R R R t44 R R R R R <| K.nil <| At.next <| G.ret <| At.done Y [(.cell 4 44, .agg [_, _, _])] R ⟨.st R R t44 R R, trivial⟩ (to' := [(0, _), (1, _)]) ⟨R, R, trivial⟩ ?_ ?_ R R R (.inl R)
 · cases H0; rfl
 · cases H0; rfl
theorem bridge_Best_con {k : Nat}  {p1 : Pool (TNode TMark TSwell)} {rt0 : TRef} {a1 : Int} {r : TTook}  (H0 : bridge_Best.f k p1 rt0 a1 = some r) (m0 m1 : Nat) : bridge_Best_st p1 rt0 a1 r m0 m1 :=
 SCon.ren (rn [(0, m0), (1, m1)]) (bridge_Best_con0 (k := k)   H0) ⟨(blk_ren R R), (pl_ren R), trivial⟩ ⟨(blk_ren R R), (pl_ren R), trivial⟩ (by simp) (by simp)
abbrev partial_Queue_turn_st (q0 : TQueue) (a1 : TItem) (a2 : Bool) (r : TQueue) (m0 : Nat) (m1 : Nat) (m2 : Nat) (m3 : Nat) (m4 : Nat) (m5 : Nat) (m6 : Nat) (m7 : Nat) (m8 : Nat) : Prop := SCon Tryz.prog 72 [SV.p m0 0, .a (.agg ((eTItem a1).map .v)), .a (.c (.v (.bool a2)))] (tkQueue m0 m1 m2 m3 m4 m5 m6 m7 m8 q0 []) (.tup []) (tkQueue m0 m1 m2 m3 m4 m5 m6 m7 m8 r []) []
theorem partial_Queue_turn_con0 {k : Nat}  {q0 : TQueue} {a1 : TItem} {a2 : Bool} {r : TQueue}  (H0 : partial_Queue_turn.f k q0 a1 a2 = some r) : partial_Queue_turn_st q0 a1 a2 r 0 1 2 3 4 5 6 7 8 := by
 rw [partial_Queue_turn.f] at H0
 refine spec_of [(0, _), (1, _), (2, _)] [(0, _), (1, _), (2, _), (3, _), (4, _), (5, _), (6, _), (7, _), (8, _)] 60 Tryz.func72 R Tryz.ntmps72 R R R R (fun β W F => ?_)
 refine G.seq <| G.rg <| K.box Y 100 _ g0 R R R R R R <| K.nil <| At.ns ?_
 obtain ⟨x1, hx1, H0⟩ := bnd H0
 obtain ⟨x2, hx2, H0⟩ := bnd H0
 refine G.rd mixed <| K.mv R R <| K.nilCheck g0 R R <| K.fieldAddr Y g0 R t98 R R <| K.load1 Y g0 R R t63 R R <| K.loadS Y _ g0 R R t30 R R R <| K.cR (cf 65 R) (shelf_Of_con hx1) g0 R R R R <| K.cR (cf 64 R) (Tree_FindS_con hx2 7 8) g0 R R R R <| K.mv R R <| K.extract g0 R R R <| K.extract g0 R R R <| K.alloc Y 101 _ g0 t66 R R R R R <| K.store Y _ g0 R R R t66 R R R R R <| K.as R R <| K.nil <| And.intro (by kernel_rfl) <| At.ns ?_
 obtain ⟨x3, hx3, H0⟩ := bnd H0
 obtain ⟨x4, hx4, H0⟩ := bnd H0
 refine G.rd mixed <| K.mv R R <| K.nilCheck g0 R R <| K.fieldAddr Y g0 R t98 R R <| K.load1 Y g0 R R t38 R R <| K.fieldAddr Y g0 R t66 R R <| K.load1 Y g0 R R t3 R R <| K.cR (cf 67 R) (wave_Key_con hx3) g0 R R R R <| K.cR (cf 74 R) (Tree_FindM_con hx4 1 2) g0 R R R R <| K.mv R R <| K.extract g0 R R R <| K.extract g0 R R R <| K.alloc Y 102 _ g0 t46 R R R R R <| K.store Y _ g0 R R R t46 R R R R R <| K.as R R <| K.nil <| And.intro (by kernel_rfl) <| At.nr <| K.mv R R <| K.fieldAddr Y g0 R t46 R R <| K.store Y _ g0 R R R t4 R R R R R <| K.nil <| At.ns ?_
 obtain ⟨x5, hx5, H0⟩ := bnd H0
 refine G.rd mixed <| K.mv R R <| K.nilCheck g0 R R <| K.fieldAddr Y g0 R t98 R R <| K.load1 Y g0 R R t38 R R <| K.loadS Y _ g0 R R t46 R R R <| K.c0 (cf 70 R) (Tree_PutM_con hx5 1 2) g0 R R R R <| K.nil <| And.intro (by kernel_rfl) <| At.ns <| G.rd mixed <| K.mv R R <| K.nilCheck g0 R R <| K.fieldAddr Y g0 R t98 R R <| K.load1 Y g0 R R t63 R R <| K.mv R R <| K.nilCheck g0 R R <| K.fieldAddr Y g0 R t98 R R <| K.load1 Y g0 R R t63 R R <| K.as R R <| K.as R R <| K.nil <| And.intro (by kernel_rfl) <| At.ns <| G.seq <| G.rg <| K.mv R R <| K.nil <| At.next <| G.cond R (fun h1 => ?_) (fun h1 => ?_)
 ·
  replace H0 := bif_t H0 h1
  refine G.rg <| K.mv R R <| K.mv R R <| K.as R R <| K.as R R <| K.nil <| At.ns ?_
  obtain ⟨x6, hx6, H0⟩ := bnd H0
  obtain ⟨x7, hx7, H0⟩ := bnd H0
  refine G.rg <| K.mv R R <| K.loadS Y _ g0 R R t30 R R R <| K.cR (cf 65 R) (shelf_Of_con hx6) g0 R R R R <| K.c0 (cf 77 R) (Tree_DropS_con hx7 5 6) g0 R R R R <| K.nil <| At.next ?_
  obtain ⟨x8, hx8, H0⟩ := bnd H0
  obtain ⟨x9, hx9, H0⟩ := bnd H0
  exact G.rg <| K.mv R R <| K.loadS Y _ g0 R R t30 R R R <| K.cR (cf 65 R) (shelf_Of_con hx8) g0 R R R R <| K.c0 (cf 69 R) (Tree_PutS_con hx9 3 4) g0 R R R R <| K.nil <| At.dn Y [] R R (by cases H0; rfl) (by cases H0; rfl) R R R
 ·
  replace H0 := bif_f H0 h1
  refine G.skip <| At.ns ?_
  obtain ⟨x10, hx10, H0⟩ := bnd H0
  obtain ⟨x11, hx11, H0⟩ := bnd H0
  refine G.rg <| K.mv R R <| K.loadS Y _ g0 R R t30 R R R <| K.cR (cf 65 R) (shelf_Of_con hx10) g0 R R R R <| K.c0 (cf 77 R) (Tree_DropS_con hx11 3 4) g0 R R R R <| K.nil <| At.next ?_
  obtain ⟨x12, hx12, H0⟩ := bnd H0
  obtain ⟨x13, hx13, H0⟩ := bnd H0
  exact G.rg <| K.mv R R <| K.loadS Y _ g0 R R t30 R R R <| K.cR (cf 65 R) (shelf_Of_con hx12) g0 R R R R <| K.c0 (cf 69 R) (Tree_PutS_con hx13 5 6) g0 R R R R <| K.nil <| At.dn Y [] R R (by cases H0; rfl) (by cases H0; rfl) R R R
theorem partial_Queue_turn_con {k : Nat}  {q0 : TQueue} {a1 : TItem} {a2 : Bool} {r : TQueue}  (H0 : partial_Queue_turn.f k q0 a1 a2 = some r) (m0 m1 m2 m3 m4 m5 m6 m7 m8 : Nat) : partial_Queue_turn_st q0 a1 a2 r m0 m1 m2 m3 m4 m5 m6 m7 m8 :=
 SCon.ren (rn [(0, m0), (1, m1), (2, m2), (3, m3), (4, m4), (5, m5), (6, m6), (7, m7), (8, m8)]) (partial_Queue_turn_con0 (k := k)   H0) ⟨(blk_ren R R), (blk_ren R R), (pl_ren R), (blk_ren R R), (pl_ren R), (blk_ren R R), (pl_ren R), (blk_ren R R), (pl_ren R), trivial⟩ ⟨(blk_ren R R), (blk_ren R R), (pl_ren R), (blk_ren R R), (pl_ren R), (blk_ren R R), (pl_ren R), (blk_ren R R), (pl_ren R), trivial⟩ (by simp) (by simp)
abbrev partial_Queue_Insert_st (q0 : TQueue) (a1 : Int) (a2 : TItem) (r : TChange × Int × TQueue) (m0 : Nat) (m1 : Nat) (m2 : Nat) (m3 : Nat) (m4 : Nat) (m5 : Nat) (m6 : Nat) (m7 : Nat) (m8 : Nat) (m60 : Nat) (m61 : Nat) : Prop := SCon Tryz.prog 23 [SV.p m0 0, .a (.c (.v (.int .i64 a1))), .a (.agg ((eTItem a2).map .v))] (tkQueue m0 m1 m2 m3 m4 m5 m6 m7 m8 q0 []) (.tup [.agg [.nv m60, .nv m61], .c (.v (.int .i64 r.2.1))]) (tkQueue m0 m1 m2 m3 m4 m5 m6 m7 m8 r.2.2 [(m60, lrow m60 30 eTItem 2 (r.1.in_)), (m61, lrow m61 30 eTItem 2 (r.1.out))]) [m60, m61]
set_option maxHeartbeats 4000000 in
theorem partial_Queue_Insert_con0 {k : Nat}  {q0 : TQueue} {a1 : Int} {a2 : TItem} {r : TChange × Int × TQueue}  (H0 : partial_Queue_Insert.f k q0 a1 a2 = some r) : partial_Queue_Insert_st q0 a1 a2 r 0 1 2 3 4 5 6 7 8 60 61 := by
 rw [partial_Queue_Insert.f] at H0
 refine spec_of [(0, _), (1, _), (2, _)] [(0, _), (1, _), (2, _), (3, _), (4, _), (5, _), (6, _), (7, _), (8, _)] 98 Tryz.func23 R Tryz.ntmps23 R R R R (fun β W F => ?_)
 refine G.seq <| G.rg <| K.box Y 100 _ g0 R R R R R R <| K.alloc Y 101 _ g0 t56 R R R R R <| K.as R R <| K.nil <| At.nilBlk (n := 101) (l' := [_, _]) 0 102 30 eTItem 2 R R R R R <| At.nilBlk (n := 101) (l' := [_, _]) 1 103 30 eTItem 2 R R R R R <| At.ns <| G.seq ?_
 obtain ⟨x1, hx1, H0⟩ := bnd H0
 refine G.rg <| K.mv R R <| K.mv R R <| K.cR (cf 63 R) (partial_Queue_may_con hx1 0 1 2 3 4 5 6 7 8) g0 R R R R <| K.as R R <| K.nil <| At.nr <| K.mv R R <| K.bin (V := .bool (x1 != 0)) g0 R R (fun _ => R) R <| K.nil <| At.next <| G.cond R (fun h1 => ?_) (fun h1 => ?_)
 ·
  replace H0 := bif_t H0 h1
  refine G.seq <| G.rg <| K.build Y [] [_, _] [] g0 (AllE.spec trivial) R R t56 R R <| K.mv R R <| K.store Y _ g0 R R R t56 R R R R R <| K.as R R <| K.nil <| At.nilAgg (t := 19) (l' := [_, _]) 0 104 30 eTItem 2 R R R R R <| At.nilAgg (t := 19) (l' := [_, _]) 1 105 30 eTItem 2 R R R R R <| At.nilBlk (n := 101) (l' := [_, _]) 0 106 30 eTItem 2 R R R R R <| At.nilBlk (n := 101) (l' := [_, _]) 1 107 30 eTItem 2 R R R R R <| At.next <| G.ret <| At.over_ret <| At.ren (fs' := [(6, .a (.c (.p 101 0))), (7, .a (.c (.v (.int .i64 x1))))]) (tl := (tkQueue 0 1 2 3 4 5 6 7 8 q0 [(60, lrow 60 30 eTItem 2 ([] : List TItem)), (61, lrow 61 30 eTItem 2 ([] : List TItem)), (101, blk 101 [.nv 60, .nv 61] 56)])) [(60, 106), (61, 107)] [_, _, _, _, _, _, _, _, _, _, _, _] R ⟨R, R, trivial⟩ ⟨R, (blk_ren R R), R, (blk_ren R R), R, (pl_ren R), R, (blk_ren R R), R, (pl_ren R), R, (blk_ren R R), R, (pl_ren R), R, (blk_ren R R), R, (pl_ren R), R, (lrow_ren R), R, (lrow_ren R), R, (blk_ren R R), trivial⟩ R <| At.done Y [(.cell 6 56, .agg [_, _]), (.tmp 7, .c _)] R ⟨.st R R t56 R R, .tmp R, trivial⟩ (to' := [(0, _), (1, _), (2, _), (3, _), (4, _), (5, _), (6, _), (7, _), (8, _), (60, _), (61, _)]) ⟨R, R, R, R, R, R, R, R, R, R, R, trivial⟩ ?_ ?_ R R R (.inl R)
  · cases H0; rfl
  · cases H0; rfl
 ·
  replace H0 := bif_f H0 h1
  refine G.skip <| At.ns <| G.seq ?_
  obtain ⟨x2, hx2, H0⟩ := bnd H0
  obtain ⟨x3, hx3, H0⟩ := bnd H0
  refine G.rd mixed <| K.mv R R <| K.nilCheck g0 R R <| K.fieldAddr Y g0 R t98 R R <| K.load1 Y g0 R R t63 R R <| K.loadS Y _ g0 R R t30 R R R <| K.cR (cf 65 R) (shelf_Of_con hx2) g0 R R R R <| K.cR (cf 64 R) (Tree_FindS_con hx3 7 8) g0 R R R R <| K.mv R R <| K.extract g0 R R R <| K.extract g0 R R R <| K.alloc Y 108 _ g0 t66 R R R R R <| K.store Y _ g0 R R R t66 R R R R R <| K.as R R <| K.nil <| And.intro (by kernel_rfl) <| At.nr <| K.mv R R <| K.nil <| At.next <| G.cond R (fun h2 => ?_) (fun h2 => ?_)
  ·
   replace H0 := bif_t H0 h2
   refine G.seq <| G.rg <| K.build Y [] [_, _] [] g0 (AllE.spec trivial) R R t56 R R <| K.store Y _ g0 R R R t56 R R R R R <| K.as R R <| K.nil <| At.nilAgg (t := 32) (l' := [_, _]) 0 109 30 eTItem 2 R R R R R <| At.nilAgg (t := 32) (l' := [_, _]) 1 110 30 eTItem 2 R R R R R <| At.nilBlk (n := 101) (l' := [_, _]) 0 111 30 eTItem 2 R R R R R <| At.nilBlk (n := 101) (l' := [_, _]) 1 112 30 eTItem 2 R R R R R <| At.next <| G.ret <| At.over_ret <| At.ren (fs' := [(6, .a (.c (.p 101 0))), (7, .a (.c (.v (.int .i64 2))))]) (tl := (tkQueue 0 1 2 3 4 5 6 7 8 q0 [(60, lrow 60 30 eTItem 2 ([] : List TItem)), (61, lrow 61 30 eTItem 2 ([] : List TItem)), (101, blk 101 [.nv 60, .nv 61] 56)])) [(60, 111), (61, 112)] [_, _, _, _, _, _, _, _, _, _, _, _] R ⟨R, R, trivial⟩ ⟨R, (blk_ren R R), R, (blk_ren R R), R, (pl_ren R), R, (blk_ren R R), R, (pl_ren R), R, (blk_ren R R), R, (pl_ren R), R, (blk_ren R R), R, (pl_ren R), R, (lrow_ren R), R, (lrow_ren R), R, (blk_ren R R), trivial⟩ R <| At.done Y [(.cell 6 56, .agg [_, _]), (.tmp 7, .c _)] R ⟨.st R R t56 R R, .tmp R, trivial⟩ (to' := [(0, _), (1, _), (2, _), (3, _), (4, _), (5, _), (6, _), (7, _), (8, _), (60, _), (61, _)]) ⟨R, R, R, R, R, R, R, R, R, R, R, trivial⟩ ?_ ?_ R R R (.inl R)
   · cases H0; rfl
   · cases H0; rfl
  ·
   replace H0 := bif_f H0 h2
   refine G.skip <| At.ns ?_
   obtain ⟨x4, hx4, H0⟩ := bnd H0
   obtain ⟨x5, hx5, H0⟩ := bnd H0
   refine G.rd mixed <| K.mv R R <| K.nilCheck g0 R R <| K.fieldAddr Y g0 R t98 R R <| K.load1 Y g0 R R t38 R R <| K.mv R R <| K.cR (cf 67 R) (wave_Key_con hx4) g0 R R R R <| K.cR (cf 66 R) (Tree_RankM_con hx5 1 2) g0 R R R R <| K.as R R <| K.nil <| And.intro (by kernel_rfl) <| At.ns ?_
   obtain ⟨x6, hx6, H0⟩ := bnd H0
   refine G.rd mixed <| K.mv R R <| K.nilCheck g0 R R <| K.fieldAddr Y g0 R t98 R R <| K.load1 Y g0 R R t38 R R <| K.mv R R <| K.mv R R <| K.nilCheck g0 R R <| K.fieldAddr Y g0 R t98 R R <| K.load1 Y g0 R R t3 R R <| K.cR (cf 68 R) (bridge_Prior_con hx6 1 2) g0 R R R R <| K.as R R <| K.nil <| And.intro (by kernel_rfl) <| At.ns ?_
   obtain ⟨x7, hx7, H0⟩ := bnd H0
   refine G.rd mixed <| K.mv R R <| K.nilCheck g0 R R <| K.fieldAddr Y g0 R t98 R R <| K.load1 Y g0 R R t63 R R <| K.loadS Y _ g0 R R t30 R R R <| K.mv R R <| K.build Y [(0, _), (1, _), (2, _)] [_, _, _, _] [((.tmp 54), _), (_, _), ((.tmp 55), _)] g0 (AllE.spec ⟨R, R, R, trivial⟩) R R t66 R R <| K.c0 (cf 69 R) (Tree_PutS_con hx7 7 8) g0 R R R R <| K.nil <| And.intro (by kernel_rfl) <| At.ns ?_
   obtain ⟨x8, hx8, H0⟩ := bnd H0
   refine G.rd mixed <| K.mv R R <| K.nilCheck g0 R R <| K.fieldAddr Y g0 R t98 R R <| K.load1 Y g0 R R t38 R R <| K.mv R R <| K.loadS Y _ g0 R R t30 R R R <| K.build Y [(0, _), (1, _), (2, _)] [_, _, _, _] [((.tmp 62), _), (_, _), ((.tmp 63), _)] g0 (AllE.spec ⟨R, R, R, trivial⟩) R R t42 R R <| K.build Y [(0, _)] [_, _, _, _, _, _, _, _] [((.tmp 64), _)] g0 (AllE.spec ⟨R, trivial⟩) R R t46 R R <| K.c0 (cf 70 R) (Tree_PutM_con hx8 1 2) g0 R R R R <| K.nil <| And.intro (by kernel_rfl) <| At.ns ?_
   obtain ⟨x9, hx9, H0⟩ := bnd H0
   obtain ⟨x10, hx10, H0⟩ := bnd H0
   refine G.rd mixed <| K.mv R R <| K.nilCheck g0 R R <| K.fieldAddr Y g0 R t98 R R <| K.load1 Y g0 R R t63 R R <| K.loadS Y _ g0 R R t30 R R R <| K.cR (cf 65 R) (shelf_Of_con hx9) g0 R R R R <| K.c0 (cf 69 R) (Tree_PutS_con hx10 5 6) g0 R R R R <| K.nil <| And.intro (by kernel_rfl) <| At.ns <| G.seq <| G.rg <| K.mv R R <| K.bin (V := .bool (decide (x6 < 0))) g0 R R (fun _ => R) R <| K.nil <| At.next <| G.cond R (fun h3 => ?_) (fun h3 => ?_)
   ·
    replace H0 := bif_t H0 h3
    refine G.seq <| G.rg <| K.mv R R <| K.nilCheck g0 R R <| K.fieldAddr Y g0 R t98 R R <| K.load1 Y g0 R R t3 R R <| K.bin (V := .int .i64 (w64 (q0.excess - 1))) g0 R R (fun _ => R) R <| K.nilCheck g0 R R <| K.fieldAddr Y g0 R t98 R R <| K.store Y _ g0 R R R t3 R R R R R <| K.nil <| At.nr <| K.build Y [] [_, _] [] g0 (AllE.spec trivial) R R t56 R R <| K.store Y _ g0 R R R t56 R R R R R <| K.as R R <| K.nil <| At.nilAgg (t := 83) (l' := [_, _]) 0 113 30 eTItem 2 R R R R R <| At.nilAgg (t := 83) (l' := [_, _]) 1 114 30 eTItem 2 R R R R R <| At.nilBlk (n := 101) (l' := [_, _]) 0 115 30 eTItem 2 R R R R R <| At.nilBlk (n := 101) (l' := [_, _]) 1 116 30 eTItem 2 R R R R R <| At.next <| G.ret <| At.over_ret <| At.ren (fs' := [(6, .a (.c (.p 101 0))), (7, .a (.c (.v (.int .i64 0))))]) (tl := (tkQueue 0 1 2 3 4 5 6 7 8 (TQueue.mk q0.capacity (TS.mk x8.2.2 x8.2.1) q0.present (TS.mk x10.2.2 x10.2.1) (TS.mk x7.2.2 x7.2.1) (w64 (q0.excess - 1))) [(60, lrow 60 30 eTItem 2 ([] : List TItem)), (61, lrow 61 30 eTItem 2 ([] : List TItem)), (101, blk 101 [.nv 60, .nv 61] 56)])) [(60, 115), (61, 116)] [_, _, _, _, _, _, _, _, _, _, _, _] R ⟨R, R, trivial⟩ ⟨R, (blk_ren R R), R, (blk_ren R R), R, (pl_ren R), R, (blk_ren R R), R, (pl_ren R), R, (blk_ren R R), R, (pl_ren R), R, (blk_ren R R), R, (pl_ren R), R, (lrow_ren R), R, (lrow_ren R), R, (blk_ren R R), trivial⟩ R <| At.done Y [(.cell 6 56, .agg [_, _]), (.tmp 7, .c _)] R ⟨.st R R t56 R R, .tmp R, trivial⟩ (to' := [(0, _), (1, _), (2, _), (3, _), (4, _), (5, _), (6, _), (7, _), (8, _), (60, _), (61, _)]) ⟨R, R, R, R, R, R, R, R, R, R, R, trivial⟩ ?_ ?_ R R R (.inl R)
    · cases H0; rfl
    · cases H0; rfl
   ·
    replace H0 := bif_f H0 h3
    refine G.skip <| At.ns ?_
    obtain ⟨x11, hx11, H0⟩ := bnd H0
    refine G.rg <| K.mv R R <| K.nilCheck g0 R R <| K.fieldAddr Y g0 R t98 R R <| K.load1 Y g0 R R t38 R R <| K.mv R R <| K.cR (cf 71 R) (bridge_Best_con hx11 1 2) g0 R R R R <| K.alloc Y 117 _ g0 t44 R R R R R <| K.store Y _ g0 R R R t44 R R R R R <| K.nil <| At.ns ?_
    obtain ⟨x12, hx12, H0⟩ := bnd H0
    refine G.rg <| K.mv R R <| K.fieldAddr Y g0 R t44 R R <| K.loadS Y _ g0 R R t30 R R R <| K.c0 (cf 72 R) (partial_Queue_turn_con hx12 0 1 2 3 4 5 6 7 8) g0 R R R R <| K.nil <| At.nr <| K.fieldAddr Y g0 R t44 R R <| K.loadS Y _ g0 R R t30 R R R <| K.buildL Y 118 ([x11.item] : List TItem) [(0, _)] [((.tmp 95), _)] eTItem_len g0 (AllE.spec ⟨R, trivial⟩) R R Tryz.underlying33 t30 R R R R R R R R <| K.build Y [(0, _)] [_, _] [((.tmp 96), _)] g0 (AllE.spec ⟨R, trivial⟩) R R t56 R R <| K.store Y _ g0 R R R t56 R R R R R <| K.as R R <| K.nil <| At.nilAgg (t := 97) (l' := [_, _]) 1 119 30 eTItem 2 R R R R R <| At.nilBlk (n := 101) (l' := [_, _]) 1 120 30 eTItem 2 R R R R R <| At.next <| G.ret <| At.ren (fs' := [(6, .a (.c (.p 101 0))), (7, .a (.c (.v (.int .i64 0))))]) (tl := (tkQueue 0 1 2 3 4 5 6 7 8 x12 [(60, lrow 60 30 eTItem 2 ([x11.item] : List TItem)), (61, lrow 61 30 eTItem 2 ([] : List TItem)), (101, blk 101 [.nv 60, .nv 61] 56)])) [(60, 118), (61, 120)] [_, _, _, _, _, _, _, _, _, _, _, _] R ⟨R, R, trivial⟩ ⟨R, (blk_ren R R), R, (blk_ren R R), R, (pl_ren R), R, (blk_ren R R), R, (pl_ren R), R, (blk_ren R R), R, (pl_ren R), R, (blk_ren R R), R, (pl_ren R), R, (lrow_ren R), R, (lrow_ren R), R, (blk_ren R R), trivial⟩ R <| At.done Y [(.cell 6 56, .agg [_, _]), (.tmp 7, .c _)] R ⟨.st R R t56 R R, .tmp R, trivial⟩ (to' := [(0, _), (1, _), (2, _), (3, _), (4, _), (5, _), (6, _), (7, _), (8, _), (60, _), (61, _)]) ⟨R, R, R, R, R, R, R, R, R, R, R, trivial⟩ ?_ ?_ R R R (.inl R)
    · cases H0; rfl
    · cases H0; rfl
theorem partial_Queue_Insert_con {k : Nat}  {q0 : TQueue} {a1 : Int} {a2 : TItem} {r : TChange × Int × TQueue}  (H0 : partial_Queue_Insert.f k q0 a1 a2 = some r) (m0 m1 m2 m3 m4 m5 m6 m7 m8 m60 m61 : Nat) (hd : ndB [m0, m1, m2, m3, m4, m5, m6, m7, m8, m60, m61] = true) : partial_Queue_Insert_st q0 a1 a2 r m0 m1 m2 m3 m4 m5 m6 m7 m8 m60 m61 :=
 SCon.ren (rn [(0, m0), (1, m1), (2, m2), (3, m3), (4, m4), (5, m5), (6, m6), (7, m7), (8, m8), (60, m60), (61, m61)]) (partial_Queue_Insert_con0 (k := k)   H0) ⟨(blk_ren R R), (blk_ren R R), (pl_ren R), (blk_ren R R), (pl_ren R), (blk_ren R R), (pl_ren R), (blk_ren R R), (pl_ren R), trivial⟩ ⟨(blk_ren R R), (blk_ren R R), (pl_ren R), (blk_ren R R), (pl_ren R), (blk_ren R R), (pl_ren R), (blk_ren R R), (pl_ren R), (lrow_ren R), (lrow_ren R), trivial⟩ (rn_nd hd R R) (rn_ks hd R R R)
abbrev bridge_Height_st (p1 : Pool (TNode TMark TSwell)) (rt0 : TRef) (a1 : Int) (a2 : Int) (r : Int) (m0 : Nat) (m1 : Nat) : Prop := SCon Tryz.prog 129 [SV.p m0 0, .a (.c (.v (.int .i64 a1))), .a (.c (.v (.int .i64 a2)))] [(m0, blk m0 [.p m1 0, .i rt0.index, .i rt0.gen] 110), (m1, plM m1 p1)] (.a (.c (.v (.int .i64 r)))) [(m0, blk m0 [.p m1 0, .i rt0.index, .i rt0.gen] 110), (m1, plM m1 p1)] []
theorem bridge_Height_con0 {k : Nat}  {p1 : Pool (TNode TMark TSwell)} {rt0 : TRef} {a1 : Int} {a2 : Int} {r : Int}  (H0 : bridge_Height.f k p1 rt0 a1 a2 = some r) : bridge_Height_st p1 rt0 a1 a2 r 0 1 := by
 rw [bridge_Height.f] at H0
 refine spec_of [(0, _), (1, _), (2, _)] [(0, _), (1, _)] 14 Tryz.func129 R Tryz.ntmps129 R R R R (fun β W F => ?_)
 refine G.seq <| G.rg <| K.as R R <| K.nil <| At.ns ?_
 obtain ⟨x1, hx1, H0⟩ := bnd H0
 exact G.rg <| K.mv R R <| K.mv R R <| K.mv R R <| K.cR (cf 102 R) (Tree_BetweenM_con hx1 0 1) g0 R R R R <| K.fieldS Y _ g0 R t50 R t48 R R <| K.field1 Y g0 R t48 R t3 R R <| K.bin (V := .int .i64 (w64 (a2 + x1.weight.sum))) g0 R R (fun _ => R) R <| K.as R R <| K.nil <| At.next <| G.ret <| At.dr Y [6] R R (by cases H0; rfl) (by cases H0; rfl) R R R
theorem bridge_Height_con {k : Nat}  {p1 : Pool (TNode TMark TSwell)} {rt0 : TRef} {a1 : Int} {a2 : Int} {r : Int}  (H0 : bridge_Height.f k p1 rt0 a1 a2 = some r) (m0 m1 : Nat) : bridge_Height_st p1 rt0 a1 a2 r m0 m1 :=
 SCon.ren (rn [(0, m0), (1, m1)]) (bridge_Height_con0 (k := k)   H0) ⟨(blk_ren R R), (pl_ren R), trivial⟩ ⟨(blk_ren R R), (pl_ren R), trivial⟩ (by simp) (by simp)
abbrev bridge_Next_st (p1 : Pool (TNode TMark TSwell)) (rt0 : TRef) (a1 : Int) (a2 : Int) (r : Int) (m0 : Nat) (m1 : Nat) : Prop := SCon Tryz.prog 104 [SV.p m0 0, .a (.c (.v (.int .i64 a1))), .a (.c (.v (.int .i64 a2)))] [(m0, blk m0 [.p m1 0, .i rt0.index, .i rt0.gen] 110), (m1, plM m1 p1)] (.a (.c (.v (.int .i64 r)))) [(m0, blk m0 [.p m1 0, .i rt0.index, .i rt0.gen] 110), (m1, plM m1 p1)] []
theorem bridge_Next_con0 {k : Nat}  {p1 : Pool (TNode TMark TSwell)} {rt0 : TRef} {a1 : Int} {a2 : Int} {r : Int}  (H0 : bridge_Next.f k p1 rt0 a1 a2 = some r) : bridge_Next_st p1 rt0 a1 a2 r 0 1 := by
 rw [bridge_Next.f] at H0
 refine spec_of [(0, _), (1, _), (2, _)] [(0, _), (1, _)] 26 Tryz.func104 R Tryz.ntmps104 R R R R (fun β W F => ?_)
 refine G.seq <| G.rg <| K.as R R <| K.nil <| At.ns ?_
 obtain ⟨x1, hx1, H0⟩ := bnd H0
 refine G.rg <| K.mv R R <| K.mv R R <| K.cR (cf 98 R) (bridge_clamp_con hx1 0 1) g0 R R R R <| K.as R R <| K.nil <| At.ns <| G.seq ?_
 obtain ⟨x2, hx2, H0⟩ := bnd H0
 refine G.rg <| K.mv R R <| K.mv R R <| K.mv R R <| K.cR (cf 129 R) (bridge_Height_con hx2 0 1) g0 R R R R <| K.bin (V := .bool (decide (x2 ≤ 0))) g0 R R (fun _ => R) R <| K.nil <| At.next <| G.cond R (fun h1 => ?_) (fun h1 => ?_)
 ·
  replace H0 := bif_t H0 h1
  exact G.seq <| G.rg <| K.mv R R <| K.as R R <| K.nil <| At.next <| G.ret <| At.over_ret <| At.dr Y [6] R R (by cases H0; rfl) (by cases H0; rfl) R R R
 ·
  replace H0 := bif_f H0 h1
  refine G.skip <| At.ns <| G.seq ?_
  obtain ⟨x3, hx3, H0⟩ := bnd H0
  obtain ⟨x4, hx4, H0⟩ := bnd H0
  refine G.rg <| K.mv R R <| K.mv R R <| K.mv R R <| K.c0 (cf 99 R) (bridge_low_con hx3 100 R) g0 R R R R <| K.cR (cf 130 R) (Tree_FirstM_f12_con (cv2 := [(.int .i64 x3)]) (Tc2 := 3) (cf 119 R) (fun c _ _ _ h => bridge_low_1_con h c) hx4 0 1 100) g0 R R R R <| K.as R R <| K.nil <| At.nr <| K.mv R R <| K.bin (V := .bool (decide (x4 ≥ 0))) g0 R R (fun _ => R) R <| K.nil <| At.next <| G.cond R (fun h2 => ?_) (fun h2 => ?_)
  ·
   replace H0 := bif_t H0 h2
   exact G.seq <| G.rg <| K.mv R R <| K.bin (V := .int .i64 (w64 (x4 + 1))) g0 R R (fun _ => R) R <| K.as R R <| K.nil <| At.next <| G.ret <| At.over_ret <| At.dr Y [6] R R (by cases H0; rfl) (by cases H0; rfl) R R R
  ·
   replace H0 := bif_f H0 h2
   exact G.skip <| At.nr <| K.as R R <| K.nil <| At.next <| G.ret <| At.dr Y [6] R R (by cases H0; rfl) (by cases H0; rfl) R R R
theorem bridge_Next_con {k : Nat}  {p1 : Pool (TNode TMark TSwell)} {rt0 : TRef} {a1 : Int} {a2 : Int} {r : Int}  (H0 : bridge_Next.f k p1 rt0 a1 a2 = some r) (m0 m1 : Nat) : bridge_Next_st p1 rt0 a1 a2 r m0 m1 :=
 SCon.ren (rn [(0, m0), (1, m1)]) (bridge_Next_con0 (k := k)   H0) ⟨(blk_ren R R), (pl_ren R), trivial⟩ ⟨(blk_ren R R), (pl_ren R), trivial⟩ (by simp) (by simp)
abbrev bridge_Least_st (p1 : Pool (TNode TMark TSwell)) (rt0 : TRef) (a1 : Int) (r : TTook) (m0 : Nat) (m1 : Nat) : Prop := SCon Tryz.prog 103 [SV.p m0 0, .a (.c (.v (.int .i64 a1)))] [(m0, blk m0 [.p m1 0, .i rt0.index, .i rt0.gen] 110), (m1, plM m1 p1)] (.a (.agg ((eTTook r).map .v))) [(m0, blk m0 [.p m1 0, .i rt0.index, .i rt0.gen] 110), (m1, plM m1 p1)] []
theorem bridge_Least_con0 {k : Nat}  {p1 : Pool (TNode TMark TSwell)} {rt0 : TRef} {a1 : Int} {r : TTook}  (H0 : bridge_Least.f k p1 rt0 a1 = some r) : bridge_Least_st p1 rt0 a1 r 0 1 := by
 rw [bridge_Least.f] at H0
 refine spec_of [(0, _), (1, _)] [(0, _), (1, _)] 11 Tryz.func103 R Tryz.ntmps103 R R R R (fun β W F => ?_)
 refine G.seq <| G.rg <| K.alloc Y 100 _ g0 t44 R R R R R <| K.nil <| At.ns ?_
 obtain ⟨x1, hx1, H0⟩ := bnd H0
 obtain ⟨x2, hx2, H0⟩ := bnd H0
 refine G.rg <| K.mv R R <| K.mv R R <| K.mv R R <| K.cR (cf 98 R) (bridge_clamp_con hx1 0 1) g0 R R R R <| K.cR (cf 102 R) (Tree_BetweenM_con hx2 0 1) g0 R R R R <| K.fieldS Y _ g0 R t50 R t44 R R <| K.store Y _ g0 R R R t44 R R R R R <| K.nil <| At.next <| G.ret <| At.done Y [(.cell 4 44, .agg [_, _, _])] R ⟨.st R R t44 R R, trivial⟩ (to' := [(0, _), (1, _)]) ⟨R, R, trivial⟩ ?_ ?_ R R R (.inl R)
 · cases H0; rfl
 · cases H0; rfl
theorem bridge_Least_con {k : Nat}  {p1 : Pool (TNode TMark TSwell)} {rt0 : TRef} {a1 : Int} {r : TTook}  (H0 : bridge_Least.f k p1 rt0 a1 = some r) (m0 m1 : Nat) : bridge_Least_st p1 rt0 a1 r m0 m1 :=
 SCon.ren (rn [(0, m0), (1, m1)]) (bridge_Least_con0 (k := k)   H0) ⟨(blk_ren R R), (pl_ren R), trivial⟩ ⟨(blk_ren R R), (pl_ren R), trivial⟩ (by simp) (by simp)
abbrev partial_Queue_leave_st (q0 : TQueue) (a1 : Int) (r : TChange × TQueue) (m0 : Nat) (m1 : Nat) (m2 : Nat) (m3 : Nat) (m4 : Nat) (m5 : Nat) (m6 : Nat) (m7 : Nat) (m8 : Nat) (m60 : Nat) (m61 : Nat) : Prop := SCon Tryz.prog 73 [SV.p m0 0, .a (.c (.v (.int .i64 a1)))] (tkQueue m0 m1 m2 m3 m4 m5 m6 m7 m8 q0 []) (.a (.agg [.nv m60, .nv m61])) (tkQueue m0 m1 m2 m3 m4 m5 m6 m7 m8 r.2 [(m60, lrow m60 30 eTItem 2 (r.1.in_)), (m61, lrow m61 30 eTItem 2 (r.1.out))]) [m60, m61]
theorem partial_Queue_leave_con0 {k : Nat}  {q0 : TQueue} {a1 : Int} {r : TChange × TQueue}  (H0 : partial_Queue_leave.f k q0 a1 = some r) : partial_Queue_leave_st q0 a1 r 0 1 2 3 4 5 6 7 8 60 61 := by
 rw [partial_Queue_leave.f] at H0
 refine spec_of [(0, _), (1, _)] [(0, _), (1, _), (2, _), (3, _), (4, _), (5, _), (6, _), (7, _), (8, _)] 40 Tryz.func73 R Tryz.ntmps73 R R R R (fun β W F => ?_)
 refine G.seq <| G.rg <| K.alloc Y 100 _ g0 t56 R R R R R <| K.nil <| At.nilBlk (n := 100) (l' := [_, _]) 0 101 30 eTItem 2 R R R R R <| At.nilBlk (n := 100) (l' := [_, _]) 1 102 30 eTItem 2 R R R R R <| At.ns ?_
 obtain ⟨x1, hx1, H0⟩ := bnd H0
 obtain ⟨x2, hx2, H0⟩ := bnd H0
 refine G.rd mixed <| K.mv R R <| K.nilCheck g0 R R <| K.fieldAddr Y g0 R t98 R R <| K.load1 Y g0 R R t38 R R <| K.mv R R <| K.nilCheck g0 R R <| K.fieldAddr Y g0 R t98 R R <| K.load1 Y g0 R R t38 R R <| K.mv R R <| K.mv R R <| K.nilCheck g0 R R <| K.fieldAddr Y g0 R t98 R R <| K.load1 Y g0 R R t3 R R <| K.cR (cf 104 R) (bridge_Next_con hx1 1 2) g0 R R R R <| K.cR (cf 103 R) (bridge_Least_con hx2 1 2) g0 R R R R <| K.alloc Y 103 _ g0 t44 R R R R R <| K.store Y _ g0 R R R t44 R R R R R <| K.nil <| And.intro (by kernel_rfl) <| At.ns <| G.seq <| G.rg <| K.fieldAddr Y g0 R t44 R R <| K.load1 Y g0 R R t4 R R <| K.un (V := .bool (!x2.found)) g0 R (fun _ => R) R <| K.nil <| At.next <| G.cond R (fun h1 => ?_) (fun h1 => ?_)
 ·
  replace H0 := bif_t H0 h1
  refine G.seq <| G.rg <| K.mv R R <| K.nilCheck g0 R R <| K.fieldAddr Y g0 R t98 R R <| K.load1 Y g0 R R t3 R R <| K.bin (V := .int .i64 (w64 (q0.excess + 1))) g0 R R (fun _ => R) R <| K.nilCheck g0 R R <| K.fieldAddr Y g0 R t98 R R <| K.store Y _ g0 R R R t3 R R R R R <| K.nil <| At.nr <| K.build Y [] [_, _] [] g0 (AllE.spec trivial) R R t56 R R <| K.store Y _ g0 R R R t56 R R R R R <| K.nil <| At.nilAgg (t := 31) (l' := [_, _]) 0 104 30 eTItem 2 R R R R R <| At.nilAgg (t := 31) (l' := [_, _]) 1 105 30 eTItem 2 R R R R R <| At.nilBlk (n := 100) (l' := [_, _]) 0 106 30 eTItem 2 R R R R R <| At.nilBlk (n := 100) (l' := [_, _]) 1 107 30 eTItem 2 R R R R R <| At.next <| G.ret <| At.over_ret <| At.ren (fs' := [(4, .a (.c (.p 100 0)))]) (tl := (tkQueue 0 1 2 3 4 5 6 7 8 (TQueue.mk q0.capacity q0.marks q0.present q0.gone q0.times (w64 (q0.excess + 1))) [(60, lrow 60 30 eTItem 2 ([] : List TItem)), (61, lrow 61 30 eTItem 2 ([] : List TItem)), (100, blk 100 [.nv 60, .nv 61] 56)])) [(60, 106), (61, 107)] [_, _, _, _, _, _, _, _, _, _, _, _] R ⟨R, trivial⟩ ⟨R, (blk_ren R R), R, (blk_ren R R), R, (pl_ren R), R, (blk_ren R R), R, (pl_ren R), R, (blk_ren R R), R, (pl_ren R), R, (blk_ren R R), R, (pl_ren R), R, (lrow_ren R), R, (lrow_ren R), R, (blk_ren R R), trivial⟩ R <| At.done Y [(.cell 4 56, .agg [_, _])] R ⟨.st R R t56 R R, trivial⟩ (to' := [(0, _), (1, _), (2, _), (3, _), (4, _), (5, _), (6, _), (7, _), (8, _), (60, _), (61, _)]) ⟨R, R, R, R, R, R, R, R, R, R, R, trivial⟩ ?_ ?_ R R R (.inl R)
  · cases H0; rfl
  · cases H0; rfl
 ·
  replace H0 := bif_f H0 h1
  refine G.skip <| At.ns ?_
  obtain ⟨x3, hx3, H0⟩ := bnd H0
  refine G.rg <| K.mv R R <| K.fieldAddr Y g0 R t44 R R <| K.loadS Y _ g0 R R t30 R R R <| K.c0 (cf 72 R) (partial_Queue_turn_con hx3 0 1 2 3 4 5 6 7 8) g0 R R R R <| K.nil <| At.nr <| K.fieldAddr Y g0 R t44 R R <| K.loadS Y _ g0 R R t30 R R R <| K.buildL Y 108 ([x2.item] : List TItem) [(0, _)] [((.tmp 37), _)] eTItem_len g0 (AllE.spec ⟨R, trivial⟩) R R Tryz.underlying33 t30 R R R R R R R R <| K.build Y [(1, _)] [_, _] [((.tmp 38), _)] g0 (AllE.spec ⟨R, trivial⟩) R R t56 R R <| K.store Y _ g0 R R R t56 R R R R R <| K.nil <| At.nilAgg (t := 39) (l' := [_, _]) 0 109 30 eTItem 2 R R R R R <| At.nilBlk (n := 100) (l' := [_, _]) 0 110 30 eTItem 2 R R R R R <| At.next <| G.ret <| At.ren (fs' := [(4, .a (.c (.p 100 0)))]) (tl := (tkQueue 0 1 2 3 4 5 6 7 8 x3 [(60, lrow 60 30 eTItem 2 ([] : List TItem)), (61, lrow 61 30 eTItem 2 ([x2.item] : List TItem)), (100, blk 100 [.nv 60, .nv 61] 56)])) [(60, 110), (61, 108)] [_, _, _, _, _, _, _, _, _, _, _, _] R ⟨R, trivial⟩ ⟨R, (blk_ren R R), R, (blk_ren R R), R, (pl_ren R), R, (blk_ren R R), R, (pl_ren R), R, (blk_ren R R), R, (pl_ren R), R, (blk_ren R R), R, (pl_ren R), R, (lrow_ren R), R, (lrow_ren R), R, (blk_ren R R), trivial⟩ R <| At.done Y [(.cell 4 56, .agg [_, _])] R ⟨.st R R t56 R R, trivial⟩ (to' := [(0, _), (1, _), (2, _), (3, _), (4, _), (5, _), (6, _), (7, _), (8, _), (60, _), (61, _)]) ⟨R, R, R, R, R, R, R, R, R, R, R, trivial⟩ ?_ ?_ R R R (.inl R)
  · cases H0; rfl
  · cases H0; rfl
theorem partial_Queue_leave_con {k : Nat}  {q0 : TQueue} {a1 : Int} {r : TChange × TQueue}  (H0 : partial_Queue_leave.f k q0 a1 = some r) (m0 m1 m2 m3 m4 m5 m6 m7 m8 m60 m61 : Nat) (hd : ndB [m0, m1, m2, m3, m4, m5, m6, m7, m8, m60, m61] = true) : partial_Queue_leave_st q0 a1 r m0 m1 m2 m3 m4 m5 m6 m7 m8 m60 m61 :=
 SCon.ren (rn [(0, m0), (1, m1), (2, m2), (3, m3), (4, m4), (5, m5), (6, m6), (7, m7), (8, m8), (60, m60), (61, m61)]) (partial_Queue_leave_con0 (k := k)   H0) ⟨(blk_ren R R), (blk_ren R R), (pl_ren R), (blk_ren R R), (pl_ren R), (blk_ren R R), (pl_ren R), (blk_ren R R), (pl_ren R), trivial⟩ ⟨(blk_ren R R), (blk_ren R R), (pl_ren R), (blk_ren R R), (pl_ren R), (blk_ren R R), (pl_ren R), (blk_ren R R), (pl_ren R), (lrow_ren R), (lrow_ren R), trivial⟩ (rn_nd hd R R) (rn_ks hd R R R)
abbrev partial_Queue_Delete_st (q0 : TQueue) (a1 : Int) (r : TChange × Int × TQueue) (m0 : Nat) (m1 : Nat) (m2 : Nat) (m3 : Nat) (m4 : Nat) (m5 : Nat) (m6 : Nat) (m7 : Nat) (m8 : Nat) (m60 : Nat) (m61 : Nat) : Prop := SCon Tryz.prog 24 [SV.p m0 0, .a (.c (.v (.int .i64 a1)))] (tkQueue m0 m1 m2 m3 m4 m5 m6 m7 m8 q0 []) (.tup [.agg [.nv m60, .nv m61], .c (.v (.int .i64 r.2.1))]) (tkQueue m0 m1 m2 m3 m4 m5 m6 m7 m8 r.2.2 [(m60, lrow m60 30 eTItem 2 (r.1.in_)), (m61, lrow m61 30 eTItem 2 (r.1.out))]) [m60, m61]
theorem partial_Queue_Delete_con0 {k : Nat}  {q0 : TQueue} {a1 : Int} {r : TChange × Int × TQueue}  (H0 : partial_Queue_Delete.f k q0 a1 = some r) : partial_Queue_Delete_st q0 a1 r 0 1 2 3 4 5 6 7 8 60 61 := by
 rw [partial_Queue_Delete.f] at H0
 refine spec_of [(0, _), (1, _)] [(0, _), (1, _), (2, _), (3, _), (4, _), (5, _), (6, _), (7, _), (8, _)] 32 Tryz.func24 R Tryz.ntmps24 R R R R (fun β W F => ?_)
 refine G.seq <| G.rg <| K.alloc Y 100 _ g0 t56 R R R R R <| K.as R R <| K.nil <| At.nilBlk (n := 100) (l' := [_, _]) 0 101 30 eTItem 2 R R R R R <| At.nilBlk (n := 100) (l' := [_, _]) 1 102 30 eTItem 2 R R R R R <| At.ns <| G.seq ?_
 obtain ⟨x1, hx1, H0⟩ := bnd H0
 refine G.rg <| K.mv R R <| K.mv R R <| K.cR (cf 63 R) (partial_Queue_may_con hx1 0 1 2 3 4 5 6 7 8) g0 R R R R <| K.as R R <| K.nil <| At.nr <| K.mv R R <| K.bin (V := .bool (x1 != 0)) g0 R R (fun _ => R) R <| K.nil <| At.next <| G.cond R (fun h1 => ?_) (fun h1 => ?_)
 ·
  replace H0 := bif_t H0 h1
  refine G.seq <| G.rg <| K.build Y [] [_, _] [] g0 (AllE.spec trivial) R R t56 R R <| K.mv R R <| K.store Y _ g0 R R R t56 R R R R R <| K.as R R <| K.nil <| At.nilAgg (t := 13) (l' := [_, _]) 0 103 30 eTItem 2 R R R R R <| At.nilAgg (t := 13) (l' := [_, _]) 1 104 30 eTItem 2 R R R R R <| At.nilBlk (n := 100) (l' := [_, _]) 0 105 30 eTItem 2 R R R R R <| At.nilBlk (n := 100) (l' := [_, _]) 1 106 30 eTItem 2 R R R R R <| At.next <| G.ret <| At.over_ret <| At.ren (fs' := [(4, .a (.c (.p 100 0))), (5, .a (.c (.v (.int .i64 x1))))]) (tl := (tkQueue 0 1 2 3 4 5 6 7 8 q0 [(60, lrow 60 30 eTItem 2 ([] : List TItem)), (61, lrow 61 30 eTItem 2 ([] : List TItem)), (100, blk 100 [.nv 60, .nv 61] 56)])) [(60, 105), (61, 106)] [_, _, _, _, _, _, _, _, _, _, _, _] R ⟨R, R, trivial⟩ ⟨R, (blk_ren R R), R, (blk_ren R R), R, (pl_ren R), R, (blk_ren R R), R, (pl_ren R), R, (blk_ren R R), R, (pl_ren R), R, (blk_ren R R), R, (pl_ren R), R, (lrow_ren R), R, (lrow_ren R), R, (blk_ren R R), trivial⟩ R <| At.done Y [(.cell 4 56, .agg [_, _]), (.tmp 5, .c _)] R ⟨.st R R t56 R R, .tmp R, trivial⟩ (to' := [(0, _), (1, _), (2, _), (3, _), (4, _), (5, _), (6, _), (7, _), (8, _), (60, _), (61, _)]) ⟨R, R, R, R, R, R, R, R, R, R, R, trivial⟩ ?_ ?_ R R R (.inl R)
  · cases H0; rfl
  · cases H0; rfl
 ·
  replace H0 := bif_f H0 h1
  refine G.skip <| At.ns ?_
  obtain ⟨x2, hx2, H0⟩ := bnd H0
  obtain ⟨x3, hx3, H0⟩ := bnd H0
  obtain ⟨x4, hx4, H0⟩ := bnd H0
  refine G.rd mixed <| K.mv R R <| K.mv R R <| K.nilCheck g0 R R <| K.fieldAddr Y g0 R t98 R R <| K.load1 Y g0 R R t38 R R <| K.mv R R <| K.cR (cf 67 R) (wave_Key_con hx2) g0 R R R R <| K.cR (cf 66 R) (Tree_RankM_con hx3 1 2) g0 R R R R <| K.c0 (cf 73 R) (partial_Queue_leave_con hx4 0 1 2 3 4 5 6 7 8 107 108 R) g0 R R R R <| K.alloc Y 109 _ g0 t56 R R R R R <| K.store Y _ g0 R R R t56 R R R R R <| K.nil <| And.intro (by kernel_rfl) <| At.ns ?_
  obtain ⟨x5, hx5, H0⟩ := bnd H0
  obtain ⟨x6, hx6, H0⟩ := bnd H0
  refine G.rd mixed <| K.mv R R <| K.nilCheck g0 R R <| K.fieldAddr Y g0 R t98 R R <| K.load1 Y g0 R R t38 R R <| K.mv R R <| K.cR (cf 67 R) (wave_Key_con hx5) g0 R R R R <| K.c0 (cf 70 R) (Tree_PutM_con hx6 1 2) g0 R R R R <| K.nil <| And.intro (by kernel_rfl) <| At.nr <| K.loadS Y _ g0 R R t56 R R R <| K.store Y _ g0 R R R t56 R R R R R <| K.as R R <| K.nil <| At.next <| G.ret <| At.ren (fs' := [(4, .a (.c (.p 100 0))), (5, .a (.c (.v (.int .i64 0))))]) (tl := (tkQueue 0 1 2 3 4 5 6 7 8 (TQueue.mk x4.2.capacity (TS.mk x6.2.2 x6.2.1) x4.2.present x4.2.gone x4.2.times x4.2.excess) [(60, lrow 60 30 eTItem 2 x4.1.in_), (61, lrow 61 30 eTItem 2 x4.1.out), (100, blk 100 [.nv 60, .nv 61] 56)])) [(60, 107), (61, 108)] [_, _, _, _, _, _, _, _, _, _, _, _] R ⟨R, R, trivial⟩ ⟨R, (blk_ren R R), R, (blk_ren R R), R, (pl_ren R), R, (blk_ren R R), R, (pl_ren R), R, (blk_ren R R), R, (pl_ren R), R, (blk_ren R R), R, (pl_ren R), R, (lrow_ren R), R, (lrow_ren R), R, (blk_ren R R), trivial⟩ R <| At.done Y [(.cell 4 56, .agg [_, _]), (.tmp 5, .c _)] R ⟨.st R R t56 R R, .tmp R, trivial⟩ (to' := [(0, _), (1, _), (2, _), (3, _), (4, _), (5, _), (6, _), (7, _), (8, _), (60, _), (61, _)]) ⟨R, R, R, R, R, R, R, R, R, R, R, trivial⟩ ?_ ?_ R R R (.inl R)
  · cases H0; rfl
  · cases H0; rfl
theorem partial_Queue_Delete_con {k : Nat}  {q0 : TQueue} {a1 : Int} {r : TChange × Int × TQueue}  (H0 : partial_Queue_Delete.f k q0 a1 = some r) (m0 m1 m2 m3 m4 m5 m6 m7 m8 m60 m61 : Nat) (hd : ndB [m0, m1, m2, m3, m4, m5, m6, m7, m8, m60, m61] = true) : partial_Queue_Delete_st q0 a1 r m0 m1 m2 m3 m4 m5 m6 m7 m8 m60 m61 :=
 SCon.ren (rn [(0, m0), (1, m1), (2, m2), (3, m3), (4, m4), (5, m5), (6, m6), (7, m7), (8, m8), (60, m60), (61, m61)]) (partial_Queue_Delete_con0 (k := k)   H0) ⟨(blk_ren R R), (blk_ren R R), (pl_ren R), (blk_ren R R), (pl_ren R), (blk_ren R R), (pl_ren R), (blk_ren R R), (pl_ren R), trivial⟩ ⟨(blk_ren R R), (blk_ren R R), (pl_ren R), (blk_ren R R), (pl_ren R), (blk_ren R R), (pl_ren R), (blk_ren R R), (pl_ren R), (lrow_ren R), (lrow_ren R), trivial⟩ (rn_nd hd R R) (rn_ks hd R R R)
abbrev R02_Ahead_st (a0 : TItem) (a1 : TItem) (r : Bool) : Prop := SCon Tryz.prog 93 [.a (.agg ((eTItem a0).map .v)), .a (.agg ((eTItem a1).map .v))] [] (.a (.c (.v (.bool r)))) [] []
theorem R02_Ahead_con0 {k : Nat}  {a0 : TItem} {a1 : TItem} {r : Bool}  (H0 : R02_Ahead.f k a0 a1 = some r) : R02_Ahead_st a0 a1 r := by
 rw [R02_Ahead.f] at H0
 refine spec_of [(0, _), (1, _)] [] 24 Tryz.func93 R Tryz.ntmps93 R R R R (fun β W F => ?_)
 refine G.seq <| G.rg <| K.box Y 100 _ g0 R R R R R R <| K.box Y 101 _ g0 R R R R R R <| K.as R R <| K.nil <| At.ns ?_
 rcases Bool.eq_false_or_eq_true (decide (a0.key < a1.key)) with h1 | h1
 ·
  replace H0 := bif_t H0 h1
  exact G.rg <| K.fieldAddr Y g0 R t30 R R <| K.load1 Y g0 R R t3 R R <| K.fieldAddr Y g0 R t30 R R <| K.load1 Y g0 R R t3 R R <| K.bin (V := .bool (decide (a0.key < a1.key))) g0 R R (fun _ => R) R <| K.mv R R <| K.sk R R h1 R <| K.sk R R h1 R <| K.sk R R h1 R <| K.sk R R h1 R <| K.sk R R h1 R <| K.sk R R h1 R <| K.skipU R R R R R <| K.skipU R R R R R <| K.skipU R R R R R <| K.skipU R R R R R <| K.skipU R R R R R <| K.sk R R h1 R <| K.pickT g0 R (h1) R R <| K.as R R <| K.nil <| At.next <| G.ret <| At.dr Y [4] R R (by cases H0; rfl) (by cases H0; rfl) R R R
 ·
  replace H0 := bif_f H0 h1
  rcases Bool.eq_false_or_eq_true (a0.key == a1.key) with h2 | h2
  ·
   replace H0 := bif_t H0 h2
   exact G.rg <| K.fieldAddr Y g0 R t30 R R <| K.load1 Y g0 R R t3 R R <| K.fieldAddr Y g0 R t30 R R <| K.load1 Y g0 R R t3 R R <| K.bin (V := .bool (decide (a0.key < a1.key))) g0 R R (fun _ => R) R <| K.mv R R <| K.fieldAddr Y (g1 R R h1) R t30 R R <| K.load1 Y (g1 R R h1) R R t3 R R <| K.fieldAddr Y (g1 R R h1) R t30 R R <| K.load1 Y (g1 R R h1) R R t3 R R <| K.bin (V := .bool (a0.key == a1.key)) (g1 R R h1) R R (fun _ => R) R <| K.move (.inl R) (g1 R R h1) R R <| K.fieldAddr Y (g1 R R h2) R t30 R R <| K.load1 Y (g1 R R h2) R R t3 R R <| K.fieldAddr Y (g1 R R h2) R t30 R R <| K.load1 Y (g1 R R h2) R R t3 R R <| K.bin (V := .bool (decide (a0.id < a1.id))) (g1 R R h2) R R (fun _ => R) R <| K.pickT (g1 R R h1) R (h2) R R <| K.pickF g0 R (h1) R R <| K.as R R <| K.nil <| At.next <| G.ret <| At.dr Y [4] R R (by cases H0; rfl) (by cases H0; rfl) R R R
  ·
   replace H0 := bif_f H0 h2
   exact G.rg <| K.fieldAddr Y g0 R t30 R R <| K.load1 Y g0 R R t3 R R <| K.fieldAddr Y g0 R t30 R R <| K.load1 Y g0 R R t3 R R <| K.bin (V := .bool (decide (a0.key < a1.key))) g0 R R (fun _ => R) R <| K.mv R R <| K.fieldAddr Y (g1 R R h1) R t30 R R <| K.load1 Y (g1 R R h1) R R t3 R R <| K.fieldAddr Y (g1 R R h1) R t30 R R <| K.load1 Y (g1 R R h1) R R t3 R R <| K.bin (V := .bool (a0.key == a1.key)) (g1 R R h1) R R (fun _ => R) R <| K.move (.inl R) (g1 R R h1) R R <| K.sk R R h2 R <| K.sk R R h2 R <| K.sk R R h2 R <| K.sk R R h2 R <| K.sk R R h2 R <| K.pickF (g1 R R h1) R (h2) R R <| K.pickF g0 R (h1) R R <| K.as R R <| K.nil <| At.next <| G.ret <| At.dr Y [4] R R (by cases H0; rfl) (by cases H0; rfl) R R R
theorem R02_Ahead_con {k : Nat}  {a0 : TItem} {a1 : TItem} {r : Bool}  (H0 : R02_Ahead.f k a0 a1 = some r) : R02_Ahead_st a0 a1 r :=
 SCon.ren (rn []) (R02_Ahead_con0 (k := k)   H0) trivial trivial (by simp) (by simp)
abbrev R02_Sorted_st (S : Foot) (W0 : World) (s0 : Value) (r : List TItem) (m30 : Nat) : Prop := SCon Tryz.prog 59 [SV.raw s0] [(0, rd S W0)] (.a (.c (.nv m30))) [(0, rd S W0), (m30, lrow m30 30 eTItem 2 r)] [m30]
theorem R02_Sorted_con0 {k : Nat}  {S : Foot} {W0 : World} {s0 : Value} {l0 : List TItem} {r : List TItem} (hL0 : LArg S W0 s0 eTItem 2 l0) (H0 : R02_Sorted.f k l0 = some r) : R02_Sorted_st S W0 s0 r 30 := by
 rw [R02_Sorted.f] at H0
 obtain ⟨b0, o0, hI0⟩ := hL0
 refine spec_of [(0, _)] [(0, _)] 49 Tryz.func59 R Tryz.ntmps59 R R R R (fun β W F => ?_)
 refine G.seq <| G.rg <| K.nilRow 100 30 eTItem 2 (.inl R) g0 R R R <| K.nil <| At.nr <| K.nilRow 101 30 eTItem 2 (.inl R) g0 R R R <| K.nil <| At.next ?_
 obtain ⟨x1, H1, H0⟩ := bnd H0
 refine G.sJ (σ := { v : List TItem // x1 = v }) (fun q => [(3, .a (.c (.nv 102)))]) (fun q => [(0, rd S W0), (102, lrow 102 30 eTItem 2 q.1)]) ?_ ?_
 ·
  refine G.seq <| G.rg <| K.as R R <| K.nil <| At.next <| G.block <| G.lp (σ := { q : Nat × (List TItem × Int) // R02_Sorted.l0 k l0 q.1 q.2 = some x1 }) (fun q => [(0, SV.raw s0), (3, .a (.c (.nv 105))), (4, .a (.c (.v (.int .i64 q.1.2.2))))]) (fun q => [(0, rd S W0), (105, lrow 105 30 eTItem 2 q.1.2.1)]) (fun q => q.1.1) ⟨(k, (([] : List TItem), 0)), H1⟩ ?_ ?_
  · exact At.into [(105, 101)] [_, _] R ⟨R, R, R, trivial⟩ ⟨R, (fun _ => R), R, (lrow_ren R), trivial⟩ R
  ·
   rintro ⟨⟨n0, v1, v2⟩, H1⟩
   show G _ _ [(0, SV.raw s0), (3, .a (.c (.nv 105))), (4, .a (.c (.v (.int .i64 v2))))] [(0, some (rd S W0)), (105, some (lrow 105 30 eTItem 2 v1))] _ _
   cases n0 with
   | zero => exact absurd H1 (by simp [R02_Sorted.l0])
   | succ n0 =>
    have HL0 := H1
    rw [R02_Sorted.l0] at H1
    refine G.seq <| G.seq <| G.rg <| K.mv R R <| K.mv R R <| K.lenL (rV 0 S W0 s0 b0 o0 eTItem 2 l0) (hI0.is 0) g0 R R Tryz.underlying33 R <| K.bin (V := .bool (decide (v2 < (l0.length : Int)))) g0 R R (fun _ => R) R <| K.nil <| At.next <| G.cond R (fun h1 => ?_) (fun h1 => ?_)
    ·
     replace H1 := bif_t H1 h1
     refine G.skip <| At.next ?_
     obtain ⟨x2, H2, H1⟩ := bnd H1
     refine G.sJ (σ := { v : List TItem // x2 = v }) (fun q => [(0, SV.raw s0), (3, .a (.c (.nv 106))), (4, .a (.c (.v (.int .i64 v2))))]) (fun q => [(0, rd S W0), (106, lrow 106 30 eTItem 2 q.1)]) ?_ ?_
     ·
      refine G.block <| G.seq <| G.rg <| K.mv R R <| K.lenL (lrowV 105 30 eTItem 2 v1) (lrowV_is eTItem_len (by decide)) g0 R R Tryz.underlying33 R <| K.as R R <| K.nil <| At.next ?_
      obtain ⟨x3, H3, H2⟩ := bnd H2
      refine G.sJ (σ := { v : Int // x3 = v }) (fun q => [(0, SV.raw s0), (3, .a (.c (.nv 107))), (4, .a (.c (.v (.int .i64 v2)))), (5, .a (.c (.v (.int .i64 q.1))))]) (fun q => [(0, rd S W0), (107, lrow 107 30 eTItem 2 v1)]) ?_ ?_
      ·
       refine G.block <| G.lp (σ := { q : Nat × (Int) // R02_Sorted.l1 k l0 v1 v2 q.1 q.2 = some x3 }) (fun q => [(0, SV.raw s0), (3, .a (.c (.nv 110))), (4, .a (.c (.v (.int .i64 v2)))), (5, .a (.c (.v (.int .i64 q.1.2))))]) (fun q => [(0, rd S W0), (110, lrow 110 30 eTItem 2 v1)]) (fun q => q.1.1) ⟨(k, (v1.length : Int)), H3⟩ ?_ ?_
       · exact At.into [(110, 105)] [_, _] R ⟨R, R, R, R, trivial⟩ ⟨R, (fun _ => R), R, (lrow_ren R), trivial⟩ R
       ·
        rintro ⟨⟨n0, v101⟩, H3⟩
        show G _ _ [(0, SV.raw s0), (3, .a (.c (.nv 110))), (4, .a (.c (.v (.int .i64 v2)))), (5, .a (.c (.v (.int .i64 v101))))] [(0, some (rd S W0)), (110, some (lrow 110 30 eTItem 2 v1))] _ _
        cases n0 with
        | zero => exact absurd H3 (by simp [R02_Sorted.l1])
        | succ n0 =>
         have HL1 := H3
         rw [R02_Sorted.l1] at H3
         refine G.seq <| G.seq ?_
         rcases Bool.eq_false_or_eq_true (decide (v101 > 0)) with h2 | h2
         ·
          replace H3 := bif_t H3 h2
          obtain ⟨x4, hx4, H3⟩ := bnd H3
          obtain ⟨x5, hx5, H3⟩ := bnd H3
          obtain ⟨x6, hx6, H3⟩ := bnd H3
          refine G.rd mixed <| K.mv R R <| K.bin (V := .bool (decide (v101 > 0))) g0 R R (fun _ => R) R <| K.mv R R <| K.move (.inl R) (g1 R R h2) R R <| K.move (.inl R) (g1 R R h2) R R <| K.idxL (rV 0 S W0 s0 b0 o0 eTItem 2 l0) ((v2).toNat) (hI0.is 0) (atL_get hx4) (atL_nn hx4) (g1 R R h2) R R R Tryz.underlying33 el33.size_run R <| K.loadSL Y (rV 0 S W0 s0 b0 o0 eTItem 2 l0) ((v2).toNat) 0 [_, _] [_, _] (hI0.is 0) (atL_get hx4) (g1 R R h2) R R t30 R R R R R <| K.move (.inl R) (g1 R R h2) R R <| K.move (.inl R) (g1 R R h2) R R <| K.bin (V := .int .i64 (w64 (v101 - 1))) (g1 R R h2) R R (fun _ => R) R <| K.idxL (lrowV 110 30 eTItem 2 v1) (((w64 (v101 - 1))).toNat) (lrowV_is eTItem_len (by decide)) (atL_get hx5) (atL_nn hx5) (g1 R R h2) R R R Tryz.underlying33 el33.size_run R <| K.loadSL Y (lrowV 110 30 eTItem 2 v1) (((w64 (v101 - 1))).toNat) 0 [_, _] [_, _] (lrowV_is eTItem_len (by decide)) (atL_get hx5) (g1 R R h2) R R t30 R R R R R <| K.cR (cf 93 R) (R02_Ahead_con hx6) (g1 R R h2) R R R R <| K.pickT g0 R (h2) R R <| K.nil <| And.intro (by kernel_rfl) <| At.next <| G.cond R (fun h3 => ?_) (fun h3 => ?_)
          ·
           replace H3 := bif_t H3 h3
           exact G.skip <| At.next <| G.block <| G.rg <| K.mv R R <| K.bin (V := .int .i64 (w64 (v101 - 1))) g0 R R (fun _ => R) R <| K.as R R <| K.nil <| At.block_normal <| At.ag ⟨(n0, (w64 (v101 - 1))), H3⟩ [] [_, _] (Nat.lt_succ_self _) R ⟨R, R, R, R, trivial⟩ ⟨R, (fun _ => R), R, (lrow_ren R), trivial⟩ R
          ·
           replace H3 := bif_f H3 h3
           exact G.exit <| At.over_exit <| At.over_exit <| At.block_hit <| At.jd ⟨v101, oi H3⟩ [(107, 110)] [_, _] R ⟨R, R, R, R, trivial⟩ ⟨R, (fun _ => R), R, (lrow_ren R), trivial⟩ R
         ·
          replace H3 := bif_f H3 h2
          refine G.rd mixed <| K.mv R R <| K.bin (V := .bool (decide (v101 > 0))) g0 R R (fun _ => R) R <| K.mv R R <| K.sk R R h2 R <| K.sk R R h2 R <| K.sk R R h2 R <| K.sk R R h2 R <| K.sk R R h2 R <| K.sk R R h2 R <| K.sk R R h2 R <| K.sk R R h2 R <| K.sk R R h2 R <| K.sk R R h2 R <| K.pickF g0 R (h2) R R <| K.nil <| And.intro (by kernel_rfl) <| At.next <| G.cond R (fun h4 => ?_) (fun h4 => ?_)
          · cases h4
          ·
           exact G.exit <| At.over_exit <| At.over_exit <| At.block_hit <| At.jd ⟨v101, oi H3⟩ [(107, 110)] [_, _] R ⟨R, R, R, R, trivial⟩ ⟨R, (fun _ => R), R, (lrow_ren R), trivial⟩ R
      ·
       rintro ⟨_, rfl⟩
       show G _ _ [(0, SV.raw s0), (3, .a (.c (.nv 107))), (4, .a (.c (.v (.int .i64 v2)))), (5, .a (.c (.v (.int .i64 x3))))] [(0, some (rd S W0)), (107, some (lrow 107 30 eTItem 2 v1))] _ _
       refine G.seq <| G.rg <| K.nilRow 111 30 eTItem 2 (.inl R) g0 R R R <| K.nil <| At.ns ?_
       obtain ⟨h5, H2⟩ := grd H2
       obtain ⟨h7, H2⟩ := grd H2
       refine G.rg <| K.mv R R <| K.mv R R <| K.mv R R <| K.partL 0 ((x3).toNat) g0 R .no (.at_ R h5.1 R) R Tryz.underlying33 el33.size_run (Nat.zero_le _) (tn_len h5.2) R <| K.appendL 112 (lsubV 107 30 eTItem 2 v1 0 ((x3).toNat)) _ el33 (lsubV_is eTItem_len (by decide) (Nat.zero_le _) (tn_len h5.2)) eTItem_one g0 R R R R R (ap_m h7) (ap_b h7 (by decide)) R R R R R R <| K.as R R <| K.nil <| At.ns ?_
       obtain ⟨x7, hx7, H2⟩ := bnd H2
       obtain ⟨h8, H2⟩ := grd H2
       refine G.rg <| K.mv R R <| K.mv R R <| K.mv R R <| K.idxL (rV 0 S W0 s0 b0 o0 eTItem 2 l0) ((v2).toNat) (hI0.is 0) (atL_get hx7) (atL_nn hx7) g0 R R R Tryz.underlying33 el33.size_run R <| K.loadSL Y (rV 0 S W0 s0 b0 o0 eTItem 2 l0) ((v2).toNat) 0 [_, _] [_, _] (hI0.is 0) (atL_get hx7) g0 R R t30 R R R R R <| K.buildL Y 113 ([x7] : List TItem) [(0, _)] [((.tmp 40), _)] eTItem_len g0 (AllE.spec ⟨R, trivial⟩) R R Tryz.underlying33 t30 R R R R R R R R <| K.appendL 114 (lrowV 113 30 eTItem 2 ([x7] : List TItem)) _ el33 (lrowV_is eTItem_len (by decide)) eTItem_one g0 R R R R R (ap_m h8) (ap_b h8 (by decide)) R R R R R R <| K.as R R <| K.nil <| At.next ?_
       obtain ⟨h9, H2⟩ := grd H2
       obtain ⟨h11, H2⟩ := grd H2
       exact G.rg <| K.mv R R <| K.mv R R <| K.mv R R <| K.partL ((x3).toNat) v1.length g0 R (.at_ R h9.1 R) .no R Tryz.underlying33 el33.size_run (tn_len h9.2) (Nat.le_refl _) R <| K.appendL 115 (lsubV 107 30 eTItem 2 v1 ((x3).toNat) v1.length) _ el33 (lsubV_is eTItem_len (by decide) (tn_len h9.2) (Nat.le_refl _)) eTItem_one g0 R R R R R (ap_m h11) (ap_b h11 (by decide)) R R R R R R <| K.as R R <| K.nil <| At.block_normal <| At.jd ⟨(((([] : List TItem) ++ ((v1.drop 0).take (((x3).toNat) - 0))) ++ ([x7] : List TItem)) ++ ((v1.drop ((x3).toNat)).take (v1.length - ((x3).toNat)))), oi H2⟩ [(106, 115)] [_, _] R ⟨R, R, R, trivial⟩ ⟨R, (fun _ => R), R, (lrow_ren R), trivial⟩ R
     ·
      rintro ⟨_, rfl⟩
      show G _ _ [(0, SV.raw s0), (3, .a (.c (.nv 106))), (4, .a (.c (.v (.int .i64 v2))))] [(0, some (rd S W0)), (106, some (lrow 106 30 eTItem 2 x2))] _ _
      exact G.rg <| K.mv R R <| K.bin (V := .int .i64 (w64 (v2 + 1))) g0 R R (fun _ => R) R <| K.as R R <| K.nil <| At.ag ⟨(n0, (x2, (w64 (v2 + 1)))), H1⟩ [(105, 106)] [_, _] (Nat.lt_succ_self _) R ⟨R, R, R, trivial⟩ ⟨R, (fun _ => R), R, (lrow_ren R), trivial⟩ R
    ·
     replace H1 := bif_f H1 h1
     exact G.exit <| At.over_exit <| At.over_exit <| At.block_hit <| At.jd ⟨v1, oi H1⟩ [(102, 105)] [_, _] R ⟨R, trivial⟩ ⟨R, (fun _ => R), R, (lrow_ren R), trivial⟩ R
 ·
  rintro ⟨_, rfl⟩
  show G _ _ [(3, .a (.c (.nv 102)))] [(0, some (rd S W0)), (102, some (lrow 102 30 eTItem 2 x1))] _ _
  exact G.seq <| G.rg <| K.mv R R <| K.as R R <| K.nil <| At.next <| G.ret <| At.ren (fs' := [(2, .a (.c (.nv 30)))]) (tl := [(0, rd S W0), (30, lrow 30 30 eTItem 2 x1)]) [(30, 102)] [_, _] R ⟨R, trivial⟩ ⟨R, (fun _ => R), R, (lrow_ren R), trivial⟩ R <| At.dr Y [2] R R (by cases H0; rfl) (by cases H0; rfl) R R R
theorem R02_Sorted_con {k : Nat}  {S : Foot} {W0 : World} {s0 : Value} {l0 : List TItem} {r : List TItem} (hL0 : LArg S W0 s0 eTItem 2 l0) (H0 : R02_Sorted.f k l0 = some r) (m30 : Nat) (hd : ndB [m30] = true) : R02_Sorted_st S W0 s0 r m30 :=
 SCon.ren (rn [(30, m30)]) (R02_Sorted_con0 (k := k)  hL0 H0) ⟨(fun _ => R), trivial⟩ ⟨(fun _ => R), (lrow_ren R), trivial⟩ (rn_nd hd R R) (rn_ks hd R R R)
abbrev R12_Run_st (S : Foot) (W0 : World) (s0 : Value) (r : List TItem × List TItem × Int × List TTook) (m30 : Nat) (m31 : Nat) (m33 : Nat) : Prop := SCon Tryz.prog 17 [SV.raw s0] [(0, rd S W0)] (.tup [.c (.nv m30), .c (.nv m31), .c (.v (.int .i64 r.2.2.1)), .c (.nv m33)]) [(0, rd S W0), (m30, lrow m30 30 eTItem 2 r.1), (m31, lrow m31 30 eTItem 2 r.2.1), (m33, lrow m33 44 eTTook 3 r.2.2.2)] [m30, m31, m33]
theorem R12_Run_con0 {k : Nat}  {S : Foot} {W0 : World} {s0 : Value} {l0 : List TOp} {r : List TItem × List TItem × Int × List TTook} (hL0 : LArg S W0 s0 eTOp 4 l0) (H0 : R12_Run.f k l0 = some r) : R12_Run_st S W0 s0 r 30 31 33 := by
 rw [R12_Run.f] at H0
 obtain ⟨b0, o0, hI0⟩ := hL0
 refine spec_of [(0, _)] [(0, _)] 63 Tryz.func17 R Tryz.ntmps17 R R R R (fun β W F => ?_)
 refine G.seq <| G.rg <| K.nilRow 100 30 eTItem 2 (.inl R) g0 R R R <| K.nilRow 101 30 eTItem 2 (.inl R) g0 R R R <| K.as R R <| K.nilRow 102 44 eTTook 3 (.inl R) g0 R R R <| K.nil <| At.nr <| K.nilRow 103 30 eTItem 2 (.inl R) g0 R R R <| K.nilRow 104 30 eTItem 2 (.inl R) g0 R R R <| K.nil <| At.nr <| K.nilRow 105 44 eTTook 3 (.inl R) g0 R R R <| K.nil <| At.nr <| K.as R R <| K.nil <| At.next ?_
 obtain ⟨x1, H1, H0⟩ := bnd H0
 refine G.sJ (σ := { v : List TItem × List TItem × List TTook × Int // x1 = v }) (fun q => [(6, .a (.c (.nv 106))), (7, .a (.c (.nv 107))), (8, .a (.c (.nv 108))), (9, .a (.c (.v (.int .i64 q.1.2.2.2))))]) (fun q => [(0, rd S W0), (106, lrow 106 30 eTItem 2 q.1.1), (107, lrow 107 30 eTItem 2 q.1.2.1), (108, lrow 108 44 eTTook 3 q.1.2.2.1)]) ?_ ?_
 ·
  refine G.seq <| G.rg <| K.as R R <| K.nil <| At.next <| G.block <| G.lp (σ := { q : Nat × (List TItem × List TItem × List TTook × Int × Int) // R12_Run.l0 k l0 q.1 q.2 = some x1 }) (fun q => [(0, SV.raw s0), (6, .a (.c (.nv 115))), (7, .a (.c (.nv 116))), (8, .a (.c (.nv 117))), (9, .a (.c (.v (.int .i64 q.1.2.2.2.2.1)))), (10, .a (.c (.v (.int .i64 q.1.2.2.2.2.2))))]) (fun q => [(0, rd S W0), (115, lrow 115 30 eTItem 2 q.1.2.1), (116, lrow 116 30 eTItem 2 q.1.2.2.1), (117, lrow 117 44 eTTook 3 q.1.2.2.2.1)]) (fun q => q.1.1) ⟨(k, (([] : List TItem), ([] : List TItem), ([] : List TTook), 0, 0)), H1⟩ ?_ ?_
  · exact At.into [(115, 103), (116, 104), (117, 105)] [_, _, _, _] R ⟨R, R, R, R, R, R, trivial⟩ ⟨R, (fun _ => R), R, (lrow_ren R), R, (lrow_ren R), R, (lrow_ren R), trivial⟩ R
  ·
   rintro ⟨⟨n0, v1, v2, v3, v4, v5⟩, H1⟩
   show G _ _ [(0, SV.raw s0), (6, .a (.c (.nv 115))), (7, .a (.c (.nv 116))), (8, .a (.c (.nv 117))), (9, .a (.c (.v (.int .i64 v4)))), (10, .a (.c (.v (.int .i64 v5))))] [(0, some (rd S W0)), (115, some (lrow 115 30 eTItem 2 v1)), (116, some (lrow 116 30 eTItem 2 v2)), (117, some (lrow 117 44 eTTook 3 v3))] _ _
   cases n0 with
   | zero => exact absurd H1 (by simp [R12_Run.l0])
   | succ n0 =>
    have HL0 := H1
    rw [R12_Run.l0] at H1
    refine G.seq <| G.seq <| G.rg <| K.mv R R <| K.mv R R <| K.lenL (rV 0 S W0 s0 b0 o0 eTOp 4 l0) (hI0.is 0) g0 R R Tryz.underlying26 R <| K.bin (V := .bool (decide (v5 < (l0.length : Int)))) g0 R R (fun _ => R) R <| K.nil <| At.next <| G.cond R (fun h1 => ?_) (fun h1 => ?_)
    ·
     replace H1 := bif_t H1 h1
     refine G.skip <| At.ns <| G.block <| G.seq <| G.rg <| K.build Y [] [_, _, _] [] g0 (AllE.spec trivial) R R t44 R R <| K.alloc Y 118 _ g0 t44 R R R R R <| K.store Y _ g0 R R R t44 R R R R R <| K.nil <| At.ns <| G.seq ?_
     obtain ⟨x2, hx2, H1⟩ := bnd H1
     refine G.rg <| K.mv R R <| K.mv R R <| K.idxL (rV 0 S W0 s0 b0 o0 eTOp 4 l0) ((v5).toNat) (hI0.is 0) (atL_get hx2) (atL_nn hx2) g0 R R R Tryz.underlying26 el26.size_run R <| K.fieldL Y (rV 0 S W0 s0 b0 o0 eTOp 4 l0) ((v5).toNat) 0 1 (hI0.is 0) (atL_get hx2) g0 R R t42 R R R R <| K.load1L Y (rV 0 S W0 s0 b0 o0 eTOp 4 l0) ((v5).toNat) 1 (hI0.is 0) (atL_get hx2) g0 R R t4 R R <| K.nil <| At.next <| G.cond R (fun h2 => ?_) (fun h2 => ?_)
     ·
      replace H1 := bif_t H1 h2
      obtain ⟨h3, H1⟩ := grd H1
      obtain ⟨h4, H1⟩ := grd H1
      obtain ⟨x3, hx3, H1⟩ := bnd H1
      refine G.rd mixed <| K.buildL Y 119 ([] : List TItem) [] [] eTItem_len g0 (AllE.spec trivial) R R Tryz.underlying33 t30 R R R R R R R R <| K.mv R R <| K.appendL 120 (lrowV 115 30 eTItem 2 v1) _ el33 (lrowV_is eTItem_len (by decide)) eTItem_one g0 R R R R R (ap_m h3) (ap_b h3 (by decide)) R R R R R R <| K.mv R R <| K.mv R R <| K.idxL (rV 0 S W0 s0 b0 o0 eTOp 4 l0) ((v5).toNat) (hI0.is 0) (atL_get hx2) (atL_nn hx2) g0 R R R Tryz.underlying26 el26.size_run R <| K.fieldL Y (rV 0 S W0 s0 b0 o0 eTOp 4 l0) ((v5).toNat) 0 2 (hI0.is 0) (atL_get hx2) g0 R R t42 R R R R <| K.loadSL Y (rV 0 S W0 s0 b0 o0 eTOp 4 l0) ((v5).toNat) 2 [_, _] [_, _] (hI0.is 0) (atL_get hx2) g0 R R t30 R R R R R <| K.buildL Y 121 ([x2.item] : List TItem) [(0, _)] [((.tmp 31), _)] eTItem_len g0 (AllE.spec ⟨R, trivial⟩) R R Tryz.underlying33 t30 R R R R R R R R <| K.appendL 122 (lrowV 121 30 eTItem 2 ([x2.item] : List TItem)) _ el33 (lrowV_is eTItem_len (by decide)) eTItem_one g0 R R R R R (ap_m h4) (ap_b h4 (by decide)) R R R R R R <| K.cV (cf 59 R) [122] (fun β w S2 h => R02_Sorted_con (la 0 R eTItem_len R h) hx3 123 R) g0 (fun _ => R) R R R <| K.as R R <| K.nil <| And.intro (by kernel_rfl) <| At.next ?_
      obtain ⟨h5, H1⟩ := grd H1
      exact G.rg <| K.mv R R <| K.loadS Y _ g0 R R t44 R R R <| K.buildL Y 124 ([zTTook] : List TTook) [(0, _)] [((.tmp 55), _)] eTTook_len g0 (AllE.spec ⟨R, trivial⟩) R R Tryz.underlying34 t44 R R R R R R R R <| K.appendL 125 (lrowV 124 44 eTTook 3 ([zTTook] : List TTook)) _ el34 (lrowV_is eTTook_len (by decide)) eTTook_one g0 R R R R R (ap_m h5) (ap_b h5 (by decide)) R R R R R R <| K.as R R <| K.nil <| At.block_normal <| At.next <| G.rg <| K.mv R R <| K.bin (V := .int .i64 (w64 (v5 + 1))) g0 R R (fun _ => R) R <| K.as R R <| K.nil <| At.ag ⟨(n0, (x3, v2, (v3 ++ ([zTTook] : List TTook)), v4, (w64 (v5 + 1)))), H1⟩ [(115, 123), (117, 125)] [_, _, _, _] (Nat.lt_succ_self _) R ⟨R, R, R, R, R, R, trivial⟩ ⟨R, (fun _ => R), R, (lrow_ren R), R, (lrow_ren R), R, (lrow_ren R), trivial⟩ R
     ·
      replace H1 := bif_f H1 h2
      refine G.seq <| G.rg <| K.mv R R <| K.lenL (lrowV 115 30 eTItem 2 v1) (lrowV_is eTItem_len (by decide)) g0 R R Tryz.underlying33 R <| K.bin (V := .bool (decide ((v1.length : Int) > 0))) g0 R R (fun _ => R) R <| K.nil <| At.next <| G.cond R (fun h6 => ?_) (fun h6 => ?_)
      ·
       replace H1 := bif_t H1 h6
       refine G.seq ?_
       obtain ⟨x4, hx4, H1⟩ := bnd H1
       refine G.rg <| K.mv R R <| K.idxL (lrowV 115 30 eTItem 2 v1) ((0 : Int).toNat) (lrowV_is eTItem_len (by decide)) (atL_get hx4) (atL_nn hx4) g0 R R R Tryz.underlying33 el33.size_run R <| K.loadSL Y (lrowV 115 30 eTItem 2 v1) ((0 : Int).toNat) 0 [_, _] [_, _] (lrowV_is eTItem_len (by decide)) (atL_get hx4) g0 R R t30 R R R R R <| K.build Y [(0, _), (1, _)] [_, _, _] [(_, _), ((.tmp 40), _)] g0 (AllE.spec ⟨R, R, trivial⟩) R R t44 R R <| K.store Y _ g0 R R R t44 R R R R R <| K.nil <| At.ns ?_
       obtain ⟨h7, H1⟩ := grd H1
       refine G.rg <| K.mv R R <| K.mv R R <| K.idxL (lrowV 115 30 eTItem 2 v1) ((0 : Int).toNat) (lrowV_is eTItem_len (by decide)) (atL_get hx4) (atL_nn hx4) g0 R R R Tryz.underlying33 el33.size_run R <| K.loadSL Y (lrowV 115 30 eTItem 2 v1) ((0 : Int).toNat) 0 [_, _] [_, _] (lrowV_is eTItem_len (by decide)) (atL_get hx4) g0 R R t30 R R R R R <| K.buildL Y 126 ([x4] : List TItem) [(0, _)] [((.tmp 45), _)] eTItem_len g0 (AllE.spec ⟨R, trivial⟩) R R Tryz.underlying33 t30 R R R R R R R R <| K.appendL 127 (lrowV 126 30 eTItem 2 ([x4] : List TItem)) _ el33 (lrowV_is eTItem_len (by decide)) eTItem_one g0 R R R R R (ap_m h7) (ap_b h7 (by decide)) R R R R R R <| K.as R R <| K.nil <| At.next ?_
       obtain ⟨h8, H1⟩ := grd H1
       obtain ⟨h10, H1⟩ := grd H1
       refine G.rg <| K.buildL Y 128 ([] : List TItem) [] [] eTItem_len g0 (AllE.spec trivial) R R Tryz.underlying33 t30 R R R R R R R R <| K.mv R R <| K.partL ((1 : Int).toNat) v1.length g0 R (.at_ R h8.1 R) .no R Tryz.underlying33 el33.size_run (tn_len h8.2) (Nat.le_refl _) R <| K.appendL 129 (lsubV 115 30 eTItem 2 v1 ((1 : Int).toNat) v1.length) _ el33 (lsubV_is eTItem_len (by decide) (tn_len h8.2) (Nat.le_refl _)) eTItem_one g0 R R R R R (ap_m h10) (ap_b h10 (by decide)) R R R R R R <| K.as R R <| K.nil <| At.next ?_
       obtain ⟨h11, H1⟩ := grd H1
       exact G.rg <| K.mv R R <| K.loadS Y _ g0 R R t44 R R R <| K.buildL Y 130 ([(TTook.mk true x4)] : List TTook) [(0, _)] [((.tmp 55), _)] eTTook_len g0 (AllE.spec ⟨R, trivial⟩) R R Tryz.underlying34 t44 R R R R R R R R <| K.appendL 131 (lrowV 130 44 eTTook 3 ([(TTook.mk true x4)] : List TTook)) _ el34 (lrowV_is eTTook_len (by decide)) eTTook_one g0 R R R R R (ap_m h11) (ap_b h11 (by decide)) R R R R R R <| K.as R R <| K.nil <| At.block_normal <| At.next <| G.rg <| K.mv R R <| K.bin (V := .int .i64 (w64 (v5 + 1))) g0 R R (fun _ => R) R <| K.as R R <| K.nil <| At.ag ⟨(n0, ((([] : List TItem) ++ ((v1.drop ((1 : Int).toNat)).take (v1.length - ((1 : Int).toNat)))), (v2 ++ ([x4] : List TItem)), (v3 ++ ([(TTook.mk true x4)] : List TTook)), v4, (w64 (v5 + 1)))), H1⟩ [(115, 129), (116, 127), (117, 131)] [_, _, _, _] (Nat.lt_succ_self _) R ⟨R, R, R, R, R, R, trivial⟩ ⟨R, (fun _ => R), R, (lrow_ren R), R, (lrow_ren R), R, (lrow_ren R), trivial⟩ R
      ·
       replace H1 := bif_f H1 h6
       refine G.rg <| K.mv R R <| K.bin (V := .int .i64 (w64 (v4 + 1))) g0 R R (fun _ => R) R <| K.as R R <| K.nil <| At.next ?_
       obtain ⟨h12, H1⟩ := grd H1
       exact G.rg <| K.mv R R <| K.loadS Y _ g0 R R t44 R R R <| K.buildL Y 132 ([zTTook] : List TTook) [(0, _)] [((.tmp 55), _)] eTTook_len g0 (AllE.spec ⟨R, trivial⟩) R R Tryz.underlying34 t44 R R R R R R R R <| K.appendL 133 (lrowV 132 44 eTTook 3 ([zTTook] : List TTook)) _ el34 (lrowV_is eTTook_len (by decide)) eTTook_one g0 R R R R R (ap_m h12) (ap_b h12 (by decide)) R R R R R R <| K.as R R <| K.nil <| At.block_normal <| At.next <| G.rg <| K.mv R R <| K.bin (V := .int .i64 (w64 (v5 + 1))) g0 R R (fun _ => R) R <| K.as R R <| K.nil <| At.ag ⟨(n0, (v1, v2, (v3 ++ ([zTTook] : List TTook)), (w64 (v4 + 1)), (w64 (v5 + 1)))), H1⟩ [(117, 133)] [_, _, _, _] (Nat.lt_succ_self _) R ⟨R, R, R, R, R, R, trivial⟩ ⟨R, (fun _ => R), R, (lrow_ren R), R, (lrow_ren R), R, (lrow_ren R), trivial⟩ R
    ·
     replace H1 := bif_f H1 h1
     exact G.exit <| At.over_exit <| At.over_exit <| At.block_hit <| At.jd ⟨(v1, v2, v3, v4), oi H1⟩ [(106, 115), (107, 116), (108, 117)] [_, _, _, _] R ⟨R, R, R, R, trivial⟩ ⟨R, (fun _ => R), R, (lrow_ren R), R, (lrow_ren R), R, (lrow_ren R), trivial⟩ R
 ·
  rintro ⟨_, rfl⟩
  show G _ _ [(6, .a (.c (.nv 106))), (7, .a (.c (.nv 107))), (8, .a (.c (.nv 108))), (9, .a (.c (.v (.int .i64 x1.2.2.2))))] [(0, some (rd S W0)), (106, some (lrow 106 30 eTItem 2 x1.1)), (107, some (lrow 107 30 eTItem 2 x1.2.1)), (108, some (lrow 108 44 eTTook 3 x1.2.2.1))] _ _
  refine G.seq ?_
  obtain ⟨x5, hx5, H0⟩ := bnd H0
  exact G.rg <| K.mv R R <| K.mv R R <| K.cV (cf 59 R) [107] (fun β w S2 h => R02_Sorted_con (la 0 R eTItem_len R h) hx5 134 R) g0 (fun _ => R) R R R <| K.mv R R <| K.mv R R <| K.as R R <| K.as R R <| K.as R R <| K.as R R <| K.nil <| At.next <| G.ret <| At.ren (fs' := [(2, .a (.c (.nv 30))), (3, .a (.c (.nv 31))), (4, .a (.c (.v (.int .i64 x1.2.2.2)))), (5, .a (.c (.nv 33)))]) (tl := [(0, rd S W0), (30, lrow 30 30 eTItem 2 x1.1), (31, lrow 31 30 eTItem 2 x5), (33, lrow 33 44 eTTook 3 x1.2.2.1)]) [(30, 106), (31, 134), (33, 108)] [_, _, _, _] R ⟨R, R, R, R, trivial⟩ ⟨R, (fun _ => R), R, (lrow_ren R), R, (lrow_ren R), R, (lrow_ren R), trivial⟩ R <| At.dr Y [2, 3, 4, 5] R R (by cases H0; rfl) (by cases H0; rfl) R R R
theorem R12_Run_con {k : Nat}  {S : Foot} {W0 : World} {s0 : Value} {l0 : List TOp} {r : List TItem × List TItem × Int × List TTook} (hL0 : LArg S W0 s0 eTOp 4 l0) (H0 : R12_Run.f k l0 = some r) (m30 m31 m33 : Nat) (hd : ndB [m30, m31, m33] = true) : R12_Run_st S W0 s0 r m30 m31 m33 :=
 SCon.ren (rn [(30, m30), (31, m31), (33, m33)]) (R12_Run_con0 (k := k)  hL0 H0) ⟨(fun _ => R), trivial⟩ ⟨(fun _ => R), (lrow_ren R), (lrow_ren R), (lrow_ren R), trivial⟩ (rn_nd hd R R) (rn_ks hd R R R)
abbrev R02_Same_st (S : Foot) (W0 : World) (s0 : Value) (s1 : Value) (r : Bool) : Prop := SCon Tryz.prog 36 [SV.raw s0, SV.raw s1] [(0, rd S W0)] (.a (.c (.v (.bool r)))) [(0, rd S W0)] []
theorem R02_Same_con0 {k : Nat}  {S : Foot} {W0 : World} {s0 : Value} {s1 : Value} {l0 : List TItem} {l1 : List TItem} {r : Bool} (hL0 : LArg S W0 s0 eTItem 2 l0) (hL1 : LArg S W0 s1 eTItem 2 l1) (H0 : R02_Same.f k l0 l1 = some r) : R02_Same_st S W0 s0 s1 r := by
 rw [R02_Same.f] at H0
 obtain ⟨b0, o0, hI0⟩ := hL0
 obtain ⟨b1, o1, hI1⟩ := hL1
 refine spec_of [(0, _), (1, _)] [(0, _)] 26 Tryz.func36 R Tryz.ntmps36 R R R R (fun β W F => ?_)
 refine G.seq <| G.rg <| K.as R R <| K.nil <| At.ns <| G.seq <| G.rg <| K.mv R R <| K.lenL (rV 0 S W0 s0 b0 o0 eTItem 2 l0) (hI0.is 0) g0 R R Tryz.underlying33 R <| K.mv R R <| K.lenL (rV 0 S W0 s1 b1 o1 eTItem 2 l1) (hI1.is 0) g0 R R Tryz.underlying33 R <| K.bin (V := .bool ((l0.length : Int) != (l1.length : Int))) g0 R R (fun _ => R) R <| K.nil <| At.next <| G.cond R (fun h1 => ?_) (fun h1 => ?_)
 ·
  replace H0 := bif_t H0 h1
  exact G.seq <| G.rg <| K.as R R <| K.nil <| At.next <| G.ret <| At.over_ret <| At.dr Y [4] R R (by cases H0; rfl) (by cases H0; rfl) R R R
 ·
  replace H0 := bif_f H0 h1
  refine G.skip <| At.next ?_
  obtain ⟨x1, H1, H0⟩ := bnd H0
  refine G.sJ (σ := { v : Unit // x1 = Sum.inr v }) (fun q => []) (fun q => [(0, rd S W0)]) ?_ ?_
  ·
   refine G.seq <| G.rg <| K.as R R <| K.nil <| At.next <| G.block <| G.lp (σ := { q : Nat × (Int) // R02_Same.l0 k l0 l1 q.1 q.2 = some x1 }) (fun q => [(0, SV.raw s0), (1, SV.raw s1), (5, .a (.c (.v (.int .i64 q.1.2))))]) (fun q => [(0, rd S W0)]) (fun q => q.1.1) ⟨(k, 0), H1⟩ ?_ ?_
   · exact At.into [] [_] R ⟨R, R, R, trivial⟩ ⟨R, (fun _ => R), trivial⟩ R
   ·
    rintro ⟨⟨n0, v1⟩, H1⟩
    show G _ _ [(0, SV.raw s0), (1, SV.raw s1), (5, .a (.c (.v (.int .i64 v1))))] [(0, some (rd S W0))] _ _
    cases n0 with
    | zero => exact absurd H1 (by simp [R02_Same.l0])
    | succ n0 =>
     have HL0 := H1
     rw [R02_Same.l0] at H1
     refine G.seq <| G.seq <| G.rg <| K.mv R R <| K.mv R R <| K.lenL (rV 0 S W0 s0 b0 o0 eTItem 2 l0) (hI0.is 0) g0 R R Tryz.underlying33 R <| K.bin (V := .bool (decide (v1 < (l0.length : Int)))) g0 R R (fun _ => R) R <| K.nil <| At.next <| G.cond R (fun h2 => ?_) (fun h2 => ?_)
     ·
      replace H1 := bif_t H1 h2
      refine G.skip <| At.ns <| G.block <| G.seq ?_
      obtain ⟨x2, hx2, H1⟩ := bnd H1
      obtain ⟨x3, hx3, H1⟩ := bnd H1
      refine G.rd mixed <| K.mv R R <| K.mv R R <| K.idxL (rV 0 S W0 s0 b0 o0 eTItem 2 l0) ((v1).toNat) (hI0.is 0) (atL_get hx2) (atL_nn hx2) g0 R R R Tryz.underlying33 el33.size_run R <| K.loadSL Y (rV 0 S W0 s0 b0 o0 eTItem 2 l0) ((v1).toNat) 0 [_, _] [_, _] (hI0.is 0) (atL_get hx2) g0 R R t30 R R R R R <| K.mv R R <| K.mv R R <| K.idxL (rV 0 S W0 s1 b1 o1 eTItem 2 l1) ((v1).toNat) (hI1.is 0) (atL_get hx3) (atL_nn hx3) g0 R R R Tryz.underlying33 el33.size_run R <| K.loadSL Y (rV 0 S W0 s1 b1 o1 eTItem 2 l1) ((v1).toNat) 0 [_, _] [_, _] (hI1.is 0) (atL_get hx3) g0 R R t30 R R R R R <| K.eqS [_, _] [_, _] g0 R R cmp30 R (.inr R) (!((x2.key == x3.key) && ((x2.id == x3.id) && true))) R R <| K.nil <| And.intro (by kernel_rfl) <| At.next <| G.cond R (fun h3 => ?_) (fun h3 => ?_)
      ·
       replace H1 := bif_t H1 h3
       refine G.seq <| G.rg <| K.as R R <| K.nil <| At.next <| G.ret <| At.block_ret <| At.over_ret <| At.over_ret <| At.block_ret <| At.over_ret ?_
       cases H1
       replace H0 := sum_l H0
       exact At.dr Y [4] R R (by cases H0; rfl) (by cases H0; rfl) R R R
      ·
       replace H1 := bif_f H1 h3
       exact G.skip <| At.block_normal <| At.next <| G.rg <| K.mv R R <| K.bin (V := .int .i64 (w64 (v1 + 1))) g0 R R (fun _ => R) R <| K.as R R <| K.nil <| At.ag ⟨(n0, (w64 (v1 + 1))), H1⟩ [] [_] (Nat.lt_succ_self _) R ⟨R, R, R, trivial⟩ ⟨R, (fun _ => R), trivial⟩ R
     ·
      replace H1 := bif_f H1 h2
      exact G.exit <| At.over_exit <| At.over_exit <| At.block_hit <| At.jd ⟨(), oi H1⟩ [] [_] R trivial ⟨R, (fun _ => R), trivial⟩ R
  ·
   rintro ⟨w1, rfl⟩
   replace H0 := sum_r H0
   show G _ _ [] [(0, some (rd S W0))] _ _
   exact G.seq <| G.rg <| K.as R R <| K.nil <| At.next <| G.ret <| At.dr Y [4] R R (by cases H0; rfl) (by cases H0; rfl) R R R
theorem R02_Same_con {k : Nat}  {S : Foot} {W0 : World} {s0 : Value} {s1 : Value} {l0 : List TItem} {l1 : List TItem} {r : Bool} (hL0 : LArg S W0 s0 eTItem 2 l0) (hL1 : LArg S W0 s1 eTItem 2 l1) (H0 : R02_Same.f k l0 l1 = some r) : R02_Same_st S W0 s0 s1 r :=
 SCon.ren (rn []) (R02_Same_con0 (k := k)  hL0 hL1 H0) ⟨(fun _ => R), trivial⟩ ⟨(fun _ => R), trivial⟩ (by simp) (by simp)
abbrev partial_Queue_all_st (q0 : TQueue) (r : TSwell) (m0 : Nat) (m1 : Nat) (m2 : Nat) (m3 : Nat) (m4 : Nat) (m5 : Nat) (m6 : Nat) (m7 : Nat) (m8 : Nat) : Prop := SCon Tryz.prog 78 [SV.p m0 0] (tkQueue m0 m1 m2 m3 m4 m5 m6 m7 m8 q0 []) (.a (.agg ((eTSwell r).map .v))) (tkQueue m0 m1 m2 m3 m4 m5 m6 m7 m8 q0 []) []
theorem partial_Queue_all_con0 {k : Nat}  {q0 : TQueue} {r : TSwell}  (H0 : partial_Queue_all.f k q0 = some r) : partial_Queue_all_st q0 r 0 1 2 3 4 5 6 7 8 := by
 rw [partial_Queue_all.f] at H0
 refine spec_of [(0, _)] [(0, _), (1, _), (2, _), (3, _), (4, _), (5, _), (6, _), (7, _), (8, _)] 13 Tryz.func78 R Tryz.ntmps78 R R R R (fun β W F => ?_)
 refine G.seq <| G.rg <| K.alloc Y 100 _ g0 t50 R R R R R <| K.nil <| At.ns ?_
 obtain ⟨x1, hx1, H0⟩ := bnd H0
 obtain ⟨x2, hx2, H0⟩ := bnd H0
 refine G.rd mixed <| K.mv R R <| K.nilCheck g0 R R <| K.fieldAddr Y g0 R t98 R R <| K.load1 Y g0 R R t38 R R <| K.mv R R <| K.nilCheck g0 R R <| K.fieldAddr Y g0 R t98 R R <| K.load1 Y g0 R R t38 R R <| K.cR (cf 34 R) (Tree_LenM_con hx1 1 2) g0 R R R R <| K.cR (cf 102 R) (Tree_BetweenM_con hx2 1 2) g0 R R R R <| K.store Y _ g0 R R R t50 R R R R R <| K.nil <| And.intro (by kernel_rfl) <| At.next <| G.ret <| At.done Y [(.cell 2 50, .agg [_, _, _, _, _, _, _, _, _, _, _, _, _, _, _, _])] R ⟨.st R R t50 R R, trivial⟩ (to' := [(0, _), (1, _), (2, _), (3, _), (4, _), (5, _), (6, _), (7, _), (8, _)]) ⟨R, R, R, R, R, R, R, R, R, trivial⟩ ?_ ?_ R R R (.inl R)
 · cases H0; rfl
 · cases H0; rfl
theorem partial_Queue_all_con {k : Nat}  {q0 : TQueue} {r : TSwell}  (H0 : partial_Queue_all.f k q0 = some r) (m0 m1 m2 m3 m4 m5 m6 m7 m8 : Nat) : partial_Queue_all_st q0 r m0 m1 m2 m3 m4 m5 m6 m7 m8 :=
 SCon.ren (rn [(0, m0), (1, m1), (2, m2), (3, m3), (4, m4), (5, m5), (6, m6), (7, m7), (8, m8)]) (partial_Queue_all_con0 (k := k)   H0) ⟨(blk_ren R R), (blk_ren R R), (pl_ren R), (blk_ren R R), (pl_ren R), (blk_ren R R), (pl_ren R), (blk_ren R R), (pl_ren R), trivial⟩ ⟨(blk_ren R R), (blk_ren R R), (pl_ren R), (blk_ren R R), (pl_ren R), (blk_ren R R), (pl_ren R), (blk_ren R R), (pl_ren R), trivial⟩ (by simp) (by simp)
abbrev partial_Queue_Deletes_st (q0 : TQueue) (r : Int) (m0 : Nat) (m1 : Nat) (m2 : Nat) (m3 : Nat) (m4 : Nat) (m5 : Nat) (m6 : Nat) (m7 : Nat) (m8 : Nat) : Prop := SCon Tryz.prog 29 [SV.p m0 0] (tkQueue m0 m1 m2 m3 m4 m5 m6 m7 m8 q0 []) (.a (.c (.v (.int .i64 r)))) (tkQueue m0 m1 m2 m3 m4 m5 m6 m7 m8 q0 []) []
theorem partial_Queue_Deletes_con0 {k : Nat}  {q0 : TQueue} {r : Int}  (H0 : partial_Queue_Deletes.f k q0 = some r) : partial_Queue_Deletes_st q0 r 0 1 2 3 4 5 6 7 8 := by
 rw [partial_Queue_Deletes.f] at H0
 refine spec_of [(0, _)] [(0, _), (1, _), (2, _), (3, _), (4, _), (5, _), (6, _), (7, _), (8, _)] 6 Tryz.func29 R Tryz.ntmps29 R R R R (fun β W F => ?_)
 refine G.seq <| G.rg <| K.as R R <| K.nil <| At.ns ?_
 obtain ⟨x1, hx1, H0⟩ := bnd H0
 exact G.rg <| K.mv R R <| K.cR (cf 78 R) (partial_Queue_all_con hx1 0 1 2 3 4 5 6 7 8) g0 R R R R <| K.field1 Y g0 R t50 R t3 R R <| K.as R R <| K.nil <| At.next <| G.ret <| At.dr Y [2] R R (by cases H0; rfl) (by cases H0; rfl) R R R
theorem partial_Queue_Deletes_con {k : Nat}  {q0 : TQueue} {r : Int}  (H0 : partial_Queue_Deletes.f k q0 = some r) (m0 m1 m2 m3 m4 m5 m6 m7 m8 : Nat) : partial_Queue_Deletes_st q0 r m0 m1 m2 m3 m4 m5 m6 m7 m8 :=
 SCon.ren (rn [(0, m0), (1, m1), (2, m2), (3, m3), (4, m4), (5, m5), (6, m6), (7, m7), (8, m8)]) (partial_Queue_Deletes_con0 (k := k)   H0) ⟨(blk_ren R R), (blk_ren R R), (pl_ren R), (blk_ren R R), (pl_ren R), (blk_ren R R), (pl_ren R), (blk_ren R R), (pl_ren R), trivial⟩ ⟨(blk_ren R R), (blk_ren R R), (pl_ren R), (blk_ren R R), (pl_ren R), (blk_ren R R), (pl_ren R), (blk_ren R R), (pl_ren R), trivial⟩ (by simp) (by simp)
abbrev partial_Queue_Present_st (q0 : TQueue) (m0 : Nat) (m1 : Nat) (m2 : Nat) (m3 : Nat) (m4 : Nat) (m5 : Nat) (m6 : Nat) (m7 : Nat) (m8 : Nat) : Prop := SCon Tryz.prog 33 [SV.p m0 0] (tkQueue m0 m1 m2 m3 m4 m5 m6 m7 m8 q0 []) (.a (.c (.p m3 0))) (tkQueue m0 m1 m2 m3 m4 m5 m6 m7 m8 q0 []) []
theorem partial_Queue_Present_con0 {k : Nat}  {q0 : TQueue} {r : Unit}  (H0 : partial_Queue_Present.f k q0 = some r) : partial_Queue_Present_st q0 0 1 2 3 4 5 6 7 8 := by
 rw [partial_Queue_Present.f] at H0
 refine spec_of [(0, _)] [(0, _), (1, _), (2, _), (3, _), (4, _), (5, _), (6, _), (7, _), (8, _)] 7 Tryz.func33 R Tryz.ntmps33 R R R R (fun β W F => ?_)
 exact G.seq <| G.rg <| K.as R R <| K.nil <| At.nr <| K.mv R R <| K.nilCheck g0 R R <| K.fieldAddr Y g0 R t98 R R <| K.load1 Y g0 R R t63 R R <| K.as R R <| K.nil <| At.next <| G.ret <| At.dr Y [2] R R (by cases H0; rfl) (by cases H0; rfl) R R R
theorem partial_Queue_Present_con {k : Nat}  {q0 : TQueue} {r : Unit}  (H0 : partial_Queue_Present.f k q0 = some r) (m0 m1 m2 m3 m4 m5 m6 m7 m8 : Nat) : partial_Queue_Present_st q0 m0 m1 m2 m3 m4 m5 m6 m7 m8 :=
 SCon.ren (rn [(0, m0), (1, m1), (2, m2), (3, m3), (4, m4), (5, m5), (6, m6), (7, m7), (8, m8)]) (partial_Queue_Present_con0 (k := k)   H0) ⟨(blk_ren R R), (blk_ren R R), (pl_ren R), (blk_ren R R), (pl_ren R), (blk_ren R R), (pl_ren R), (blk_ren R R), (pl_ren R), trivial⟩ ⟨(blk_ren R R), (blk_ren R R), (pl_ren R), (blk_ren R R), (pl_ren R), (blk_ren R R), (pl_ren R), (blk_ren R R), (pl_ren R), trivial⟩ (by simp) (by simp)
abbrev shelf_Items_st (p1 : Pool (TNode TSlot TSize)) (rt0 : TRef) (r : List TItem) (m0 : Nat) (m1 : Nat) (m30 : Nat) : Prop := SCon Tryz.prog 35 [SV.p m0 0] [(m0, blk m0 [.p m1 0, .i rt0.index, .i rt0.gen] 131), (m1, plS m1 p1)] (.a (.c (.nv m30))) [(m0, blk m0 [.p m1 0, .i rt0.index, .i rt0.gen] 131), (m1, plS m1 p1), (m30, lrow m30 30 eTItem 2 r)] [m30]
theorem shelf_Items_con0 {k : Nat}  {p1 : Pool (TNode TSlot TSize)} {rt0 : TRef} {r : List TItem}  (H0 : shelf_Items.f k p1 rt0 = some r) : shelf_Items_st p1 rt0 r 0 1 30 := by
 rw [shelf_Items.f] at H0
 refine spec_of [(0, _)] [(0, _), (1, _)] 22 Tryz.func35 R Tryz.ntmps35 R R R R (fun β W F => ?_)
 refine G.seq <| G.rg <| K.nilRow 100 30 eTItem 2 (.inl R) g0 R R R <| K.nil <| At.ns <| G.seq <| G.rg <| K.mv R R <| K.eqnil (V := false) g0 R R (pn_eql_some Tryz.underlying63) R <| K.nil <| At.next <| G.cond R (fun h1 => ?_) (fun h1 => ?_)
 · cases h1
 ·
  refine G.skip <| At.nr <| K.nilRow 101 30 eTItem 2 (.inl R) g0 R R R <| K.nil <| At.next ?_
  obtain ⟨x1, H1, H0⟩ := bnd H0
  refine G.sJ (σ := { v : List TItem // x1 = v }) (fun q => [(3, .a (.c (.nv 102)))]) (fun q => [(102, lrow 102 30 eTItem 2 q.1), (1, plS 1 p1), (0, blk 0 [.p 1 0, .v (.int .i64 rt0.index), .v (.int .i64 rt0.gen)] 131)]) ?_ ?_
  ·
   refine G.seq ?_
   obtain ⟨x2, hx2, H1⟩ := bnd H1
   refine G.rg <| K.mv R R <| K.c0 (cf 81 R) (Tree_AllS_con hx2 0 1 103 R) g0 R R R R <| K.lenL (lrowV 103 66 eTSlot 4 x2) (lrowV_is eTSlot_len (by decide)) g0 R R Tryz.underlying135 R <| K.mv R R <| K.nil <| At.next <| G.block <| G.lp (σ := { q : Nat × (List TItem × Int) // shelf_Items.l0 k x2 q.1 q.2 = some x1 }) (fun q => [(3, .a (.c (.nv 108))), (9, .a (.c (.nv 109))), (10, .a (.c (.v (.int .i64 (x2.length : Int))))), (11, .a (.c (.v (.int .i64 q.1.2.2))))]) (fun q => [(108, lrow 108 30 eTItem 2 q.1.2.1), (109, lrow 109 66 eTSlot 4 x2), (1, plS 1 p1), (0, blk 0 [.p 1 0, .v (.int .i64 rt0.index), .v (.int .i64 rt0.gen)] 131)]) (fun q => q.1.1) ⟨(k, (([] : List TItem), 0)), H1⟩ ?_ ?_
   · exact At.into [(108, 101), (109, 103)] [_, _, _, _] R ⟨R, R, R, R, trivial⟩ ⟨R, (lrow_ren R), R, (lrow_ren R), R, (pl_ren R), R, (blk_ren R R), trivial⟩ R
   ·
    rintro ⟨⟨n0, v1, v2⟩, H1⟩
    show G _ _ [(3, .a (.c (.nv 108))), (9, .a (.c (.nv 109))), (10, .a (.c (.v (.int .i64 (x2.length : Int))))), (11, .a (.c (.v (.int .i64 v2))))] [(108, some (lrow 108 30 eTItem 2 v1)), (109, some (lrow 109 66 eTSlot 4 x2)), (1, some (plS 1 p1)), (0, some (blk 0 [.p 1 0, .v (.int .i64 rt0.index), .v (.int .i64 rt0.gen)] 131))] _ _
    cases n0 with
    | zero => exact absurd H1 (by simp [shelf_Items.l0])
    | succ n0 =>
     have HL0 := H1
     rw [shelf_Items.l0] at H1
     refine G.seq <| G.rg <| K.bin (V := .bool (decide (v2 < (x2.length : Int)))) g0 R R (fun _ => R) R <| K.nil <| At.ns <| G.cond R (fun h2 => ?_) (fun h2 => ?_)
     ·
      replace H1 := bif_t H1 h2
      refine G.skip <| At.ns <| G.block <| G.seq ?_
      obtain ⟨x3, hx3, H1⟩ := bnd H1
      refine G.rg <| K.idxL (lrowV 109 66 eTSlot 4 x2) ((v2).toNat) (lrowV_is eTSlot_len (by decide)) (atL_get hx3) (atL_nn hx3) g0 R R R Tryz.underlying135 el135.size_run R <| K.loadSL Y (lrowV 109 66 eTSlot 4 x2) ((v2).toNat) 0 [_, _, _, _] [_, _, _, _] (lrowV_is eTSlot_len (by decide)) (atL_get hx3) g0 R R t66 R R R R R <| K.alloc Y 110 _ g0 t66 R R R R R <| K.store Y _ g0 R R R t66 R R R R R <| K.nil <| At.next ?_
      obtain ⟨h3, H1⟩ := grd H1
      exact G.rg <| K.mv R R <| K.fieldAddr Y g0 R t66 R R <| K.loadS Y _ g0 R R t30 R R R <| K.buildL Y 111 ([x3.item] : List TItem) [(0, _)] [((.tmp 17), _)] eTItem_len g0 (AllE.spec ⟨R, trivial⟩) R R Tryz.underlying33 t30 R R R R R R R R <| K.appendL 112 (lrowV 111 30 eTItem 2 ([x3.item] : List TItem)) _ el33 (lrowV_is eTItem_len (by decide)) eTItem_one g0 R R R R R (ap_m h3) (ap_b h3 (by decide)) R R R R R R <| K.as R R <| K.nil <| At.block_normal <| At.next <| G.rg <| K.bin (V := .int .i64 (w64 (v2 + 1))) g0 R R (fun _ => R) R <| K.mv R R <| K.nil <| At.ag ⟨(n0, ((v1 ++ ([x3.item] : List TItem)), (w64 (v2 + 1)))), H1⟩ [(108, 112)] [_, _, _, _] (Nat.lt_succ_self _) R ⟨R, R, R, R, trivial⟩ ⟨R, (lrow_ren R), R, (lrow_ren R), R, (pl_ren R), R, (blk_ren R R), trivial⟩ R
     ·
      replace H1 := bif_f H1 h2
      exact G.exit <| At.over_exit <| At.over_exit <| At.block_hit <| At.jd ⟨v1, oi H1⟩ [(102, 108)] [_, _, _] R ⟨R, trivial⟩ ⟨R, (lrow_ren R), R, (pl_ren R), R, (blk_ren R R), trivial⟩ R
  ·
   rintro ⟨_, rfl⟩
   show G _ _ [(3, .a (.c (.nv 102)))] [(102, some (lrow 102 30 eTItem 2 x1)), (1, some (plS 1 p1)), (0, some (blk 0 [.p 1 0, .v (.int .i64 rt0.index), .v (.int .i64 rt0.gen)] 131))] _ _
   exact G.seq <| G.rg <| K.mv R R <| K.as R R <| K.nil <| At.next <| G.ret <| At.ren (fs' := [(2, .a (.c (.nv 30)))]) (tl := [(0, blk 0 [.p 1 0, .v (.int .i64 rt0.index), .v (.int .i64 rt0.gen)] 131), (1, plS 1 p1), (30, lrow 30 30 eTItem 2 x1)]) [(30, 102)] [_, _, _] R ⟨R, trivial⟩ ⟨R, (blk_ren R R), R, (pl_ren R), R, (lrow_ren R), trivial⟩ R <| At.dr Y [2] R R (by cases H0; rfl) (by cases H0; rfl) R R R
theorem shelf_Items_con {k : Nat}  {p1 : Pool (TNode TSlot TSize)} {rt0 : TRef} {r : List TItem}  (H0 : shelf_Items.f k p1 rt0 = some r) (m0 m1 m30 : Nat) (hd : ndB [m0, m1, m30] = true) : shelf_Items_st p1 rt0 r m0 m1 m30 :=
 SCon.ren (rn [(0, m0), (1, m1), (30, m30)]) (shelf_Items_con0 (k := k)   H0) ⟨(blk_ren R R), (pl_ren R), trivial⟩ ⟨(blk_ren R R), (pl_ren R), (lrow_ren R), trivial⟩ (rn_nd hd R R) (rn_ks hd R R R)
abbrev partial_Queue_Gone_st (q0 : TQueue) (m0 : Nat) (m1 : Nat) (m2 : Nat) (m3 : Nat) (m4 : Nat) (m5 : Nat) (m6 : Nat) (m7 : Nat) (m8 : Nat) : Prop := SCon Tryz.prog 30 [SV.p m0 0] (tkQueue m0 m1 m2 m3 m4 m5 m6 m7 m8 q0 []) (.a (.c (.p m5 0))) (tkQueue m0 m1 m2 m3 m4 m5 m6 m7 m8 q0 []) []
theorem partial_Queue_Gone_con0 {k : Nat}  {q0 : TQueue} {r : Unit}  (H0 : partial_Queue_Gone.f k q0 = some r) : partial_Queue_Gone_st q0 0 1 2 3 4 5 6 7 8 := by
 rw [partial_Queue_Gone.f] at H0
 refine spec_of [(0, _)] [(0, _), (1, _), (2, _), (3, _), (4, _), (5, _), (6, _), (7, _), (8, _)] 7 Tryz.func30 R Tryz.ntmps30 R R R R (fun β W F => ?_)
 exact G.seq <| G.rg <| K.as R R <| K.nil <| At.nr <| K.mv R R <| K.nilCheck g0 R R <| K.fieldAddr Y g0 R t98 R R <| K.load1 Y g0 R R t63 R R <| K.as R R <| K.nil <| At.next <| G.ret <| At.dr Y [2] R R (by cases H0; rfl) (by cases H0; rfl) R R R
theorem partial_Queue_Gone_con {k : Nat}  {q0 : TQueue} {r : Unit}  (H0 : partial_Queue_Gone.f k q0 = some r) (m0 m1 m2 m3 m4 m5 m6 m7 m8 : Nat) : partial_Queue_Gone_st q0 m0 m1 m2 m3 m4 m5 m6 m7 m8 :=
 SCon.ren (rn [(0, m0), (1, m1), (2, m2), (3, m3), (4, m4), (5, m5), (6, m6), (7, m7), (8, m8)]) (partial_Queue_Gone_con0 (k := k)   H0) ⟨(blk_ren R R), (blk_ren R R), (pl_ren R), (blk_ren R R), (pl_ren R), (blk_ren R R), (pl_ren R), (blk_ren R R), (pl_ren R), trivial⟩ ⟨(blk_ren R R), (blk_ren R R), (pl_ren R), (blk_ren R R), (pl_ren R), (blk_ren R R), (pl_ren R), (blk_ren R R), (pl_ren R), trivial⟩ (by simp) (by simp)
end Go.Proofs.YtpeoalmhccmdiaaGreat
namespace Go.Proofs.YtpeoalmhccmdiaaGreat.Sx
open Go
def starRes (L : List Res) : Res where
  holds := Star L
  loc hw h := h.loc hw
  lt h hb := h.lt hb
def adEnv (a : Nat → Nat) : Env := fun k => ⟨a k, undef⟩
def eltRes (l : List (Nat × Tok)) (a : Nat → Nat) : Res := starRes (l.map fun p => p.2.r (adEnv a))
section
variable {σ : Type}
def hpL (toks : σ → List (Nat × Tok)) (A : List (Nat → Nat)) (Q : List σ) : List Res := List.zipWith (fun a q => eltRes (toks q) a) A Q
def hp (k : Nat) (toks : σ → List (Nat × Tok)) (A : List (Nat → Nat)) (Q : List σ) : Tok where
  ks := []
  r _ := starRes (hpL toks A Q)
  sup _ := rfl
theorem Star_mid {A B : List Res} {r : Res} {w : World} {F : Foot} : Star (A ++ r :: B) w F ↔ ∃ F1 F2 : Foot, (∀ b, F b ↔ F1 b ∨ F2 b) ∧ (∀ b, F1 b → ¬ F2 b) ∧ r.holds w F1 ∧ Star (A ++ B) w F2 := by
  constructor
  · intro h
    obtain ⟨FA, FR, e, d, hA, F1, FB, e', d', h1, hB⟩ := Star_append.1 h
    refine ⟨F1, fun b => FA b ∨ FB b, fun b => ?_, ?_, h1, Star_append.2 ⟨FA, FB, fun b => Iff.rfl, fun b ha hb => d b ha ((e' b).2 (.inr hb)), hA, hB⟩⟩
    · rw [e b, e' b]; constructor
      · rintro (h | h | h)
        · exact .inr (.inl h)
        · exact .inl h
        · exact .inr (.inr h)
      · rintro (h | h | h)
        · exact .inr (.inl h)
        · exact .inl h
        · exact .inr (.inr h)
    · rintro b h1 (h | h)
      · exact d b h ((e' b).2 (.inl h1))
      · exact d' b h1 h
  · rintro ⟨F1, F2, e, d, h1, h2⟩
    obtain ⟨FA, FB, e', d', hA, hB⟩ := Star_append.1 h2
    refine Star_append.2 ⟨FA, fun b => F1 b ∨ FB b, fun b => ?_, ?_, hA, F1, FB, fun b => Iff.rfl, fun b h h' => d b h ((e' b).2 (.inr h')), h1, hB⟩
    · rw [e b, e' b]; constructor
      · rintro (h | h | h)
        · exact .inr (.inl h)
        · exact .inl h
        · exact .inr (.inr h)
      · rintro (h | h | h)
        · exact .inr (.inl h)
        · exact .inl h
        · exact .inr (.inr h)
    · rintro b ha (h | h)
      · exact d b h ((e' b).2 (.inl ha))
      · exact d' b ha h
theorem hpL_mid {toks : σ → List (Nat × Tok)} : ∀ {A : List (Nat → Nat)} {Q : List σ} {i : Nat} {a : Nat → Nat} {q : σ}, A[i]? = some a → Q[i]? = some q → ∃ L1 L2 : List Res, hpL toks A Q = L1 ++ eltRes (toks q) a :: L2 ∧ ∀ q', hpL toks A (Q.set i q') = L1 ++ eltRes (toks q') a :: L2
  | [], _, i, a, q, h, _ => by simp at h
  | _ :: _, [], i, a, q, _, h => by simp at h
  | x :: A, y :: Q, 0, a, q, h, h' => by
    simp at h h'; subst h; subst h'
    exact ⟨[], hpL toks A Q, rfl, fun q' => rfl⟩
  | x :: A, y :: Q, i + 1, a, q, h, h' => by
    simp at h h'
    obtain ⟨L1, L2, h1, h2⟩ := hpL_mid (toks := toks) h h'
    refine ⟨eltRes (toks y) x :: L1, L2, ?_, fun q' => ?_⟩
    · show eltRes (toks y) x :: hpL toks A Q = _
      rw [h1]; rfl
    · show eltRes (toks y) x :: hpL toks A (Q.set i q') = _
      rw [h2]; rfl
def ByB (l : List (Nat × Tok)) (ks : List Nat) : Prop := ∀ (β : Env) (a : Nat → Nat), (∀ k ∈ ks, (β k).b = a k) → (l.map fun p => p.2.r β) = l.map fun p => p.2.r (adEnv a)
theorem SCon.heap {P : Program} {f : FuncId} {args args' : List SV} {ret ret' : SV} {fr : List Nat} {toks : σ → List (Nat × Tok)} {A : List (Nat → Nat)} {Q : List σ} {i : Nat} {a : Nat → Nat} {q q' : σ} {exi exo : List (Nat × Tok)} (k : Nat) (ks : List Nat)
    (hA : A[i]? = some a) (hQ : Q[i]? = some q) (hb : ∀ q, ByB (toks q) ks) (h : SCon P f args (toks q ++ exi) ret (toks q' ++ exo) fr) (hfr : ∀ j ∈ ks, j ∉ fr)
    (hi : ∀ p ∈ exi, ∀ j ∈ p.2.ks, j ∉ ks) (ho : ∀ p ∈ exo, ∀ j ∈ p.2.ks, j ∉ ks)
    (ha : ∀ β β' : Env, (∀ j ∈ ks, (β j).b = a j) → (∀ j, j ∉ ks → β' j = β j) → args.map (SV.den β) = args'.map (SV.den β'))
    (hr : ∀ β β' : Env, (∀ j ∈ ks, (β j).b = a j) → (∀ j, j ∉ ks → β' j = β j) → ret.den β = ret'.den β') :
    SCon P f args' ((k, hp k toks A Q) :: exi) ret' ((k, hp k toks A (Q.set i q')) :: exo) fr := by
  intro β w F hs
  obtain ⟨FH, FX, e, d, hH, hX⟩ := hs
  obtain ⟨L1, L2, m1, m2⟩ := hpL_mid (toks := toks) hA hQ
  have hH' : Star (hpL toks A Q) w FH := hH
  rw [m1] at hH'
  obtain ⟨Fi, FR, e1, d1, hE, hR⟩ := Star_mid.1 hH'
  have hE' : Star ((toks q).map fun p => p.2.r (adEnv a)) w Fi := hE
  let β1 : Env := fun j => if j ∈ ks then ⟨a j, undef⟩ else β j
  have hβ1 : ∀ j ∈ ks, (β1 j).b = a j := fun j hj => by simp only [β1, if_pos hj]
  have hβ1' : ∀ j, j ∉ ks → β j = β1 j := fun j hj => by simp only [β1, if_neg hj]
  have eX : (exi.map fun p => p.2.r β1) = exi.map fun p => p.2.r β := List.map_congr_left (fun p hp => p.2.sup (fun j hj => (hβ1' j (hi p hp j hj)).symm))
  have hin : Star ((toks q ++ exi).map fun p => p.2.r β1) w (fun b => Fi b ∨ FX b) := by
    rw [List.map_append]
    refine Star_append.2 ⟨Fi, FX, fun b => Iff.rfl, fun b h1 h2 => d b ((e1 b).2 (.inl h1)) h2, ?_, by rw [eX]; exact hX⟩
    rw [hb q β1 a hβ1]; exact hE'
  have hcall := h β1 w _ hin
  rw [ha β1 β hβ1 hβ1'] at hcall
  refine hcall.mono (fun en w' he => ?_)
  obtain ⟨β2, hb2, rfl, F', h2, h3, h4⟩ := he
  have hβ2 : ∀ j ∈ ks, (β2 j).b = a j := fun j hj => by rw [hb2 j (hfr j hj)]; exact hβ1 j hj
  let β3 : Env := fun j => if j ∈ ks then β j else β2 j
  have hβ3 : ∀ j, j ∉ ks → β3 j = β2 j := fun j hj => by simp only [β3, if_neg hj]
  rw [List.map_append] at h2
  obtain ⟨F1, F2, e2, d2, hT, hO⟩ := Star_append.1 h2
  rw [hb q' β2 a hβ2] at hT
  have eO : (exo.map fun p => p.2.r β2) = exo.map fun p => p.2.r β3 := List.map_congr_left (fun p hp => p.2.sup (fun j hj => (hβ3 j (ho p hp j hj)).symm))
  have hFR : ∀ b, FR b → ¬ F' b := fun b hb' hf => by
    rcases h3 b hf with (h | h) | h
    · exact d1 b h hb'
    · exact d b ((e1 b).2 (.inr hb')) h
    · exact absurd (hR.lt hb') (by omega)
  have hR' : Star (L1 ++ L2) w' FR := hR.loc (fun b hb' => h4.block b (hR.lt hb') (fun h => by
    rcases h with h | h
    · exact d1 b h hb'
    · exact d b ((e1 b).2 (.inr hb')) h))
  refine ⟨β3, fun j hj => ?_, by rw [hr β2 β3 hβ2 hβ3], fun b => (F1 b ∨ FR b) ∨ F2 b, ⟨fun b => F1 b ∨ FR b, F2, fun b => Iff.rfl, ?_, ?_, by rw [← eO]; exact hO⟩, ?_, h4.weaken (fun b _ hb' => ?_)⟩
  · by_cases hk : j ∈ ks
    · simp only [β3, if_pos hk]
    · rw [hβ3 j hk, hb2 j hj, ← hβ1' j hk]
  · rintro b (h | h) h'
    · exact d2 b h h'
    · exact hFR b h ((e2 b).2 (.inr h'))
  · show Star (hpL toks A (Q.set i q')) w' _
    rw [m2]
    exact Star_mid.2 ⟨F1, FR, fun b => Iff.rfl, fun b h h' => hFR b h' ((e2 b).2 (.inl h)), hT, hR'⟩
  · rintro b ((h | h) | h)
    · rcases h3 b ((e2 b).2 (.inl h)) with (h | h) | h
      · exact .inl ((e b).2 (.inl ((e1 b).2 (.inl h))))
      · exact .inl ((e b).2 (.inr h))
      · exact .inr h
    · exact .inl ((e b).2 (.inl ((e1 b).2 (.inr h))))
    · rcases h3 b ((e2 b).2 (.inr h)) with (h | h) | h
      · exact .inl ((e b).2 (.inl ((e1 b).2 (.inl h))))
      · exact .inl ((e b).2 (.inr h))
      · exact .inr h
  · rcases hb' with h | h
    · exact (e b).2 (.inl ((e1 b).2 (.inl h)))
    · exact (e b).2 (.inr h)
def adr (ks : List Nat) (g : Nat → Nat) (β : Env) : Nat → Nat := fun j => if j ∈ ks then (β (g j)).b else 0
def hpN (k : Nat) (toks : σ → List (Nat × Tok)) (A : List (Nat → Nat)) (Q : List σ) (ks : List Nat) (g : Nat → Nat) (q : σ) : Tok where
  ks := ks.map g
  r β := starRes (hpL toks (A ++ [adr ks g β]) (Q ++ [q]))
  sup h := by
    rename_i β β'
    have : adr ks g β = adr ks g β' := by
      funext j
      unfold adr
      by_cases hj : j ∈ ks
      · rw [if_pos hj, if_pos hj, h (g j) (List.mem_map_of_mem hj)]
      · rw [if_neg hj, if_neg hj]
    rw [this]
theorem hpL_snoc {toks : σ → List (Nat × Tok)} : ∀ {A : List (Nat → Nat)} {Q : List σ}, A.length = Q.length → ∀ (a : Nat → Nat) (q : σ), hpL toks (A ++ [a]) (Q ++ [q]) = hpL toks A Q ++ [eltRes (toks q) a]
  | [], [], _, a, q => rfl
  | [], _ :: _, h, a, q => by simp at h
  | _ :: _, [], h, a, q => by simp at h
  | x :: A, y :: Q, h, a, q => by
    show eltRes (toks y) x :: hpL toks (A ++ [a]) (Q ++ [q]) = _
    rw [hpL_snoc (by simpa using h)]; rfl
theorem hp_add {toks : σ → List (Nat × Tok)} {A : List (Nat → Nat)} {Q : List σ} {q : σ} {tn : List (Nat × Tok)} (k : Nat) (ks : List Nat) (g : Nat → Nat) (hAQ : A.length = Q.length) (hT : ∀ β : Env, (tn.map fun p => p.2.r β) = (toks q).map fun p => p.2.r (adEnv (adr ks g β))) :
    Ent ((k, hp k toks A Q) :: tn) [(k, hpN k toks A Q ks g q)] [] := by
  intro β w F hs
  obtain ⟨F1, F2, e, d, h1, h2⟩ := hs
  refine ⟨β, fun _ _ => rfl, F, fun _ h => h, Star_one.2 ?_⟩
  show Star (hpL toks (A ++ [adr ks g β]) (Q ++ [q])) w F
  rw [hpL_snoc hAQ]
  refine Star_append.2 ⟨F1, F2, e, d, h1, Star_one.2 ?_⟩
  have : Star (tn.map fun p => p.2.r β) w F2 := h2
  rw [hT] at this; exact this
theorem At.fix {C : Ctx} {fs : FL} {L : TL} {R : Act → World → Prop} {toks : σ → List (Nat × Tok)} {A : List (Nat → Nat)} {Q : List σ} {ks : List Nat} {g : Nat → Nat} {q : σ} {t j0 : Nat} (k : Nat) (hk : lkT L k = some (hpN k toks A Q ks g q)) (hl : lk fs t = some (SV.p (g j0) 0)) (hj : j0 ∈ ks)
    (h : ∀ a : Nat → Nat, At C ((t, SV.raw (ptr (a j0) 0)) :: fs) ((k, some (hp k toks (A ++ [a]) (Q ++ [q]))) :: L) R) : At C fs L R := by
  rintro a w ⟨β, F, hβ, hfs, hlt, hn, hd, hs, hF, hM⟩
  refine h (adr ks g β) a w ⟨β, F, hβ, fun t' x hx => ?_, fun t' ht => ?_, hn, hd, ?_, hF, hM⟩
  · rw [lk_cons] at hx
    by_cases e : t' = t
    · subst e
      simp at hx; subst hx
      rw [hfs _ _ hl]
      simp [SV.den, Av.den, Cl.den, ptr, adr, hj]
    · rw [upd_ne _ _ e] at hx
      exact hfs _ _ hx
  · rw [lk_cons] at ht
    by_cases e : t' = t
    · subst e; exact hlt _ (by rw [hl]; rfl)
    · rw [upd_ne _ _ e] at ht; exact hlt _ ht
  · obtain ⟨φ, h1, h2, h3, h4⟩ := hs
    refine ⟨φ, fun j tk hj => ?_, fun j hj => ?_, h3, h4⟩
    · rw [lkT_cons] at hj
      by_cases e : j = k
      · subst e
        simp at hj; subst hj
        have h5 := h1 j (hpN j toks A Q ks g q) hk
        exact h5
      · rw [upd_ne _ _ e] at hj
        exact h1 _ _ hj
    · rw [lkT_cons] at hj
      by_cases e : j = k
      · subst e; simp at hj
      · rw [upd_ne _ _ e] at hj
        exact h2 _ hj
theorem hp_nil (toks : σ → List (Nat × Tok)) (k : Nat) : Ent [] [(k, hp k toks [] [])] [] := by
  intro β w F hs
  exact ⟨β, fun _ _ => rfl, F, fun _ h => h, Star_one.2 hs⟩
theorem Star_perm {A B : List Res} (h : A.Perm B) : ∀ {w : World} {F : Foot}, Star A w F → Star B w F := by
  induction h with
  | nil => intro w F h; exact h
  | cons r _ ih =>
    rintro w F ⟨F1, F2, e, d, h1, h2⟩
    exact ⟨F1, F2, e, d, h1, ih h2⟩
  | swap x y l =>
    intro w F h
    obtain ⟨F1, F2, e, d, h1, G1, G2, e', d', h2, h3⟩ := h
    refine ⟨G1, fun b => F1 b ∨ G2 b, fun b => ?_, ?_, h2, F1, G2, fun b => Iff.rfl, fun b h h' => d b h ((e' b).2 (.inr h')), h1, h3⟩
    · rw [e b, e' b]; constructor
      · rintro (h | h | h)
        · exact .inr (.inl h)
        · exact .inl h
        · exact .inr (.inr h)
      · rintro (h | h | h)
        · exact .inr (.inl h)
        · exact .inl h
        · exact .inr (.inr h)
    · rintro b h (h' | h')
      · exact d b h' ((e' b).2 (.inl h))
      · exact d' b h h'
  | trans _ _ ih1 ih2 => intro w F h; exact ih2 (ih1 h)
theorem SCon.perm {P : Program} {f : FuncId} {args : List SV} {ret : SV} {fr : List Nat} {ti ti' to to' : List (Nat × Tok)} (h : SCon P f args ti ret to fr) (hi : ti'.Perm ti) (ho : to.Perm to') : SCon P f args ti' ret to' fr := by
  intro β w F hs
  refine (h β w F (Star_perm (hi.map _) hs)).mono (fun e w' he => ?_)
  obtain ⟨β', h1, h2, F', h3, h4, h5⟩ := he
  exact ⟨β', h1, h2, F', Star_perm (ho.map _) h3, h4, h5⟩
theorem SCon.frame {P : Program} {f : FuncId} {args : List SV} {ret : SV} {fr : List Nat} {ti to : List (Nat × Tok)} (ex : List (Nat × Tok)) (h : SCon P f args ti ret to fr) (hx : ∀ p ∈ ex, ∀ j ∈ p.2.ks, j ∉ fr) : SCon P f args (ti ++ ex) ret (to ++ ex) fr := by
  intro β w F hs
  rw [List.map_append] at hs
  obtain ⟨F1, F2, e, d, h1, h2⟩ := Star_append.1 hs
  refine (h β w F1 h1).mono (fun en w' he => ?_)
  obtain ⟨β', hb, rfl, F', h3, h4, h5⟩ := he
  have ee : (ex.map fun p => p.2.r β') = ex.map fun p => p.2.r β := List.map_congr_left (fun p hp => p.2.sup (fun j hj => hb j (hx p hp j hj)))
  refine ⟨β', hb, rfl, fun b => F' b ∨ F2 b, ?_, ?_, h5.weaken (fun b _ hb => (e b).2 (.inl hb))⟩
  · rw [List.map_append, ee]
    refine Star_append.2 ⟨F', F2, fun b => Iff.rfl, fun b h h' => ?_, h3, h2.loc (fun b hb => h5.block b (h2.lt hb) (fun h => d b h hb))⟩
    rcases h4 b h with h6 | h6
    · exact d b h6 h'
    · exact absurd (h2.lt h') (by omega)
  · rintro b (h | h)
    · rcases h4 b h with h6 | h6
      · exact .inl ((e b).2 (.inl h6))
      · exact .inr h6
    · exact .inl ((e b).2 (.inr h))
end
end Go.Proofs.YtpeoalmhccmdiaaGreat.Sx
namespace Go.Proofs.YtpeoalmhccmdiaaGreat
open Go Go.Proofs.YtpeoalmhccmdiaaGreat.Sx
theorem w64_id {x : Int} (h0 : -9223372036854775808 ≤ x) (h1 : x < 9223372036854775808) : w64 x = x := by simp only [w64, IntKind.wrap_i64]; omega
theorem w64_succ {i : Nat} (h : i < 4611686018427387904) : w64 ((i : Int) + 1) = ((i + 1 : Nat) : Int) := by rw [w64_id (by omega) (by omega)]; omega
theorem w64_pred {i : Nat} (h : i < 4611686018427387904) : w64 (((i + 1 : Nat) : Int) - 1) = (i : Int) := by rw [w64_id (by omega) (by omega)]; omega
theorem atL_nat {α : Type} {l : List α} {i : Nat} {x : α} (h : l[i]? = some x) : atL l (i : Int) = some x := by
  unfold atL
  have : ¬ ((i : Int) < 0) := by omega
  simp [this, h]
theorem drop_cons {α : Type} {l : List α} {i : Nat} (h : i < l.length) : ∃ x, l[i]? = some x ∧ l.drop i = x :: l.drop (i + 1) :=
  ⟨l[i], List.getElem?_eq_getElem h, List.drop_eq_getElem_cons h⟩
theorem dec_lt {i n : Nat} (h : i < n) : decide ((i : Int) < (n : Int)) = true := by simp; omega
theorem dec_nlt {i n : Nat} (h : n ≤ i) : decide ((i : Int) < (n : Int)) = false := by simp; omega
end Go.Proofs.YtpeoalmhccmdiaaGreat
namespace Go.Proofs.YtpeoalmhccmdiaaGreat
open Go Go.Proofs.YtpeoalmhccmdiaaGreat.Sx
def ilt (a b : TItem) : Prop := a.key < b.key ∨ (a.key = b.key ∧ a.id < b.id)
def ile (a b : TItem) : Prop := a.key < b.key ∨ (a.key = b.key ∧ a.id ≤ b.id)
instance (a b : TItem) : Decidable (ilt a b) := by unfold ilt; infer_instance
instance (a b : TItem) : Decidable (ile a b) := by unfold ile; infer_instance
theorem item_ext {a b : TItem} (h1 : a.key = b.key) (h2 : a.id = b.id) : a = b := by cases a; cases b; simp_all
theorem ile_refl (a : TItem) : ile a a := by unfold ile; omega
theorem ile_trans {a b c : TItem} (h : ile a b) (h' : ile b c) : ile a c := by unfold ile at *; omega
theorem ile_antisymm {a b : TItem} (h : ile a b) (h' : ile b a) : a = b := by unfold ile at *; exact item_ext (by omega) (by omega)
theorem not_ilt {a b : TItem} : ¬ ilt a b ↔ ile b a := by unfold ilt ile; omega
theorem ilt_ile {a b : TItem} (h : ilt a b) : ile a b := by unfold ilt at h; unfold ile; omega
theorem ilt_iff {a b : TItem} : ilt a b ↔ ile a b ∧ a ≠ b := by
  constructor
  · intro h; exact ⟨ilt_ile h, fun e => by subst e; unfold ilt at h; omega⟩
  · rintro ⟨h, hn⟩
    rcases Classical.em (ilt a b) with h1 | h1
    · exact h1
    · exact absurd (ile_antisymm h (not_ilt.1 h1)) hn
theorem ilt_trans_le {a b c : TItem} (h : ilt a b) (h' : ile b c) : ilt a c := by unfold ilt ile at *; omega
theorem ile_trans_lt {a b c : TItem} (h : ile a b) (h' : ilt b c) : ilt a c := by unfold ilt ile at *; omega
theorem ilt_irrefl (a : TItem) : ¬ ilt a a := by unfold ilt; omega
def isgn (a b : TItem) : Int := if ilt a b then -1 else if ilt b a then 1 else 0
def csgn (a b : Int) : Int := if a < b then -1 else if b < a then 1 else 0
theorem Ahead_eq (k : Nat) (a b : TItem) : R02_Ahead.f k a b = some (decide (ilt a b)) := by
  unfold R02_Ahead.f ilt
  by_cases h1 : a.key < b.key
  · simp [h1]
  · by_cases h2 : a.key = b.key
    · simp [h2]
    · have h3 : (a.key == b.key) = false := by simpa using h2
      simp [h1, h2, h3]
theorem cmpCompare_eq (k : Nat) (a b : Int) : cmp_Compare.f k a b = some (csgn a b) := by
  unfold cmp_Compare.f cmp_isNaN.f csgn
  by_cases h1 : a < b
  · simp [h1]
  · by_cases h2 : b < a
    · simp [h1, h2]
    · simp [h1, h2]
theorem cmpOr_eq (k : Nat) (hk : 3 ≤ k) (a b : Int) : cmp_Or.f k [a, b] = some (if a ≠ 0 then a else b) := by
  obtain ⟨m, rfl⟩ : ∃ m, k = m + 3 := ⟨k - 3, by omega⟩
  unfold cmp_Or.f
  have e1 : w64 (0 + 1) = 1 := by decide
  have e2 : w64 1 = 1 := by decide
  have e3 : w64 2 = 2 := by decide
  by_cases h1 : a = 0
  · subst h1
    by_cases h2 : b = 0
    · subst h2; simp [cmp_Or.l0, atL, e1, e2, e3]
    · have h3 : (b != 0) = true := by simpa using h2
      simp [cmp_Or.l0, atL, e1, e2, e3, h2, h3]
  · have h3 : (a != 0) = true := by simpa using h1
    simp [cmp_Or.l0, atL, e1, e2, e3, h1, h3]
theorem itemCompare_eq (k : Nat) (hk : 3 ≤ k) (a b : TItem) : item_Compare.f k a b = some (isgn a b) := by
  unfold item_Compare.f
  simp only [cmpCompare_eq, Option.bind_some, cmpOr_eq k hk]
  congr 1
  unfold csgn isgn ilt
  by_cases h1 : a.key < b.key
  · simp [h1]
  · by_cases h2 : b.key < a.key
    · have h3 : ¬ a.key = b.key := by omega
      have h4 : ¬ b.key = a.key := by omega
      simp [h1, h2, h3, h4]
    · have h3 : a.key = b.key := by omega
      simp [h3]
abbrev Sorted (l : List TItem) : Prop := l.Pairwise ile
theorem sorted_perm_eq : ∀ {l l' : List TItem}, Sorted l → Sorted l' → l.Perm l' → l = l' := by
  intro l l' h h' hp
  exact hp.eq_of_pairwise (le := fun a b => ile a b) (fun a b _ _ h1 h2 => ile_antisymm h1 h2) h h'
theorem sorted_place {out : List TItem} {x : TItem} (k : Nat) (l0 : List TItem) (i : Nat) (hi : l0[i]? = some x) (hs : Sorted out) (hl : out.length < 4611686018427387904) : ∀ (j n : Nat), j < n → j ≤ out.length → (∀ y ∈ out.drop j, ilt x y) →
    ∃ m : Nat, m ≤ j ∧ R02_Sorted.l1 k l0 out (i : Int) n (j : Int) = some (m : Int) ∧ (∀ y ∈ out.drop m, ilt x y) ∧ (∀ y ∈ out.take m, ile y x)
  | j, 0, h, _, _ => by omega
  | 0, n + 1, _, _, hd => ⟨0, Nat.le_refl _, by simp [R02_Sorted.l1], hd, by simp⟩
  | j + 1, n + 1, hn, hj, hd => by
    obtain ⟨y, hy, hdr⟩ := drop_cons (l := out) (i := j) (by omega)
    have e0 : decide (((j + 1 : Nat) : Int) > 0) = true := by simp <;> omega
    simp only [R02_Sorted.l1, e0, cond_true, atL_nat hi, w64_pred (i := j) (by omega), atL_nat hy, Option.bind_some, Ahead_eq]
    by_cases h : ilt x y
    · simp only [h, decide_true, cond_true]
      obtain ⟨m, h1, h2, h3, h4⟩ := sorted_place k l0 i hi hs hl j n (by omega) (by omega) (by rw [hdr]; intro z hz; rcases List.mem_cons.1 hz with rfl | hz; exact h; exact hd z hz)
      exact ⟨m, by omega, h2, h3, h4⟩
    · simp only [h, decide_false, cond_false]
      refine ⟨j + 1, Nat.le_refl _, rfl, hd, fun z hz => ?_⟩
      have hyx := not_ilt.1 h
      have ht : out.take (j + 1) = out.take j ++ [y] := by rw [List.take_add_one, hy]; rfl
      rw [ht] at hz
      rcases List.mem_append.1 hz with hz | hz
      · refine ile_trans ?_ hyx
        have hs' : Sorted (out.take j ++ out.drop j) := by rw [List.take_append_drop]; exact hs
        exact (List.pairwise_append.1 hs').2.2 z hz y (by rw [hdr]; exact List.mem_cons_self)
      · simp at hz; subst hz; exact hyx
theorem sorted_loop (k : Nat) (l : List TItem) (hl : l.length < 1000000) (hk : 1000001 ≤ k) : ∀ (d i n : Nat) (out : List TItem), i + d = l.length → d < n → out.length = i → Sorted out → out.Perm (l.take i) →
    ∃ r, R02_Sorted.l0 k l n (out, (i : Int)) = some r ∧ Sorted r ∧ r.Perm l
  | d, i, 0, _, _, h, _, _, _ => by omega
  | 0, i, n + 1, out, hi, _, ho, hs, hp => by
    refine ⟨out, ?_, hs, ?_⟩
    · simp only [R02_Sorted.l0]; rw [dec_nlt (by omega)]; rfl
    · rw [List.take_of_length_le (by omega)] at hp; exact hp
  | d + 1, i, n + 1, out, hi, hn, ho, hs, hp => by
    obtain ⟨x, hx, hdr⟩ := drop_cons (l := l) (i := i) (by omega)
    obtain ⟨m, hm, h2, h3, h4⟩ := sorted_place k l i hx hs (by omega) out.length k (by omega) (Nat.le_refl _) (by simp)
    have g1 : (0 : Int) ≤ (m : Int) ∧ (m : Int) ≤ (out.length : Int) := by omega
    simp only [R02_Sorted.l0]
    rw [dec_lt (by omega)]
    simp only [cond_true, h2, Option.bind_some, g1, and_self, decide_true, List.drop_zero, Nat.sub_zero, Int.toNat_natCast, List.nil_append, List.length_nil, List.length_take, List.length_append, List.length_drop, List.length_singleton, atL_nat hx]
    rw [show decide (0 + min m out.length < 4294967296) = true by simp; omega, show decide (min m out.length + 1 < 4294967296) = true by simp; omega,
      show decide (min m out.length + 1 + min (out.length - m) (out.length - m) < 4294967296) = true by simp; omega]
    simp only [cond_true, Option.bind_some, w64_succ (i := i) (by omega)]
    have e : List.take (out.length - m) (out.drop m) = out.drop m := List.take_of_length_le (by simp)
    rw [e]
    refine sorted_loop k l hl hk d (i + 1) n _ (by omega) (by omega) (by simp; omega) ?_ ?_
    · have hs' : Sorted (out.take m ++ out.drop m) := by rw [List.take_append_drop]; exact hs
      obtain ⟨p1, p2, p3⟩ := List.pairwise_append.1 hs'
      refine List.pairwise_append.2 ⟨List.pairwise_append.2 ⟨p1, List.pairwise_singleton _ _, fun a ha b hb => ?_⟩, p2, fun a ha b hb => ?_⟩
      · simp at hb; subst hb; exact h4 a ha
      · rcases List.mem_append.1 ha with ha | ha
        · exact p3 a ha b hb
        · simp at ha; subst ha; exact ilt_ile (h3 b hb)
    · have ht : l.take (i + 1) = l.take i ++ [x] := by rw [List.take_add_one, hx]; rfl
      rw [ht]
      have h5 : (out.take m ++ [x] ++ out.drop m).Perm (x :: out) := by
        have := List.perm_middle (a := x) (l₁ := out.take m) (l₂ := out.drop m)
        rw [List.take_append_drop] at this
        simpa using this
      exact h5.trans ((List.Perm.cons x hp).trans (List.perm_append_comm (l₁ := [x]) (l₂ := l.take i)))
theorem sorted_f (k : Nat) (l : List TItem) (hl : l.length < 1000000) (hk : 1000001 ≤ k) : ∃ r, R02_Sorted.f k l = some r ∧ Sorted r ∧ r.Perm l := by
  obtain ⟨r, h1, h2, h3⟩ := sorted_loop k l hl hk l.length 0 k [] (by omega) (by omega) rfl List.Pairwise.nil (by simp)
  have h1' : R02_Sorted.l0 k l k ([], 0) = some r := h1
  exact ⟨r, by unfold R02_Sorted.f; rw [h1']; rfl, h2, h3⟩
end Go.Proofs.YtpeoalmhccmdiaaGreat
namespace Go.Proofs.YtpeoalmhccmdiaaGreat.Sx
open Go Go.RowKit
def Wd (ro : Option Nat) : Fence := { Fence.wide with round := ro }
theorem wd_calls {ro : Option Nat} {n : Nat} {P : Program} {f : FuncId} {args : Array Value} {w : World} {R : Ending → World → Prop} (h : Calls P f args w R) : CallsIn (Wd ro) n P f args w R := (callsIn_wide (n := n)).2 h
theorem wd_rows {ro : Option Nat} {n : Nat} {P : Program} {row : String} {args : Array Value} {w : World} {R : Value → World → Prop} (h : Rows P row args w R) : RowsIn (Wd ro) n P row args w R := by
  intro c cs _
  obtain ⟨v, w', hr, hs⟩ := h c cs
  exact ⟨v, w', hr, stepsIn_wide.2 hs⟩
def plainB (o : Oper) : Bool := match o.op with
  | .defer _ => false
  | _ => true
theorem wp_in {ro : Option Nat} {n : Nat} {P : Program} {o : Oper} {a : Act} {w : World} {K : Act → World → Prop} {Q : Exit → Act → World → Prop} (hp : plainB o = true) (h : o.wp P a w K Q) : o.wpIn (Wd ro) n P a w K Q := by
  refine ⟨fun _ _ => trivial, ?_⟩
  unfold Oper.wp at h
  have hd : ∀ c, o.op ≠ .defer c := fun c e => by unfold plainB at hp; rw [e] at hp; cases hp
  rw [Oper.semAt_eq _ _ _ hd]
  generalize (execOp a.eval o).run P w = r at h
  cases r with
  | halt x w' => cases x <;> first | exact h | exact h.elim
  | ok x w' =>
    cases x with
    | value v => exact h
    | skip => exact h
    | defer d => exact h
    | enter f args => exact ⟨fun h => (by cases h), wd_calls h⟩
    | row r args => exact ⟨fun h => (by cases h), wd_rows h⟩
    | _ => exact h.elim
theorem opW_in {ro : Option Nat} {n : Nat} {P : Program} {ops : Array Oper} {Q : Exit → Act → World → Prop} {o : Oper} {rest : List Oper} {a : Act} {w : World} (hp : plainB o = true) (h : opW P ops Q o (wpListIn (Wd ro) n P ops Q rest) a w) : wpListIn (Wd ro) n P ops Q (o :: rest) a w := by
  unfold wpListIn; unfold opW at h
  split
  · rename_i hw; rw [if_pos hw] at h; exact wp_in hp h
  · rename_i hw; rw [if_neg hw] at h; exact ⟨fun _ _ => trivial, h⟩
theorem Run.soundI {C : Ctx} {P : Program} {ops : Array Oper} {Q : Exit → Act → World → Prop} {ro : Option Nat} {m : Nat} {rest : List Oper} {l : List Oper} {fs fs' : FL} {L L' : TL} {ss : List Step} (h : Run P C.n ops l fs L ss fs' L') :
    l.all plainB = true → ∀ {a : Act} {w : World}, Holds C (lk fs) (lkT L) a w → (∀ a' w', Holds C (lk fs') (lkT L') a' w' → wpListIn (Wd ro) m P ops Q rest a' w') → wpListIn (Wd ro) m P ops Q (l ++ rest) a w := by
  induction h with
  | nil => intro _ a w hh hq; exact hq _ _ hh
  | cons hv hf h1 h2 _ ih =>
    intro hp a w hh hq
    rw [List.all_cons, Bool.and_eq_true] at hp
    refine opW_in hp.1 (step_state hv hf hh (fun a' w' hh' => ih hp.2 ?_ hq))
    have e2 := funext h2
    rw [h1, e2]; exact hh'
def obRes (b : Nat) (o : Obj) : Res where
  holds w F := (∀ x, F x ↔ x = b) ∧ w.heap[b]? = some o
  loc hw h := ⟨h.1, (hw b ((h.1 b).2 rfl)).trans h.2⟩
  lt h hb := by
    rename_i w F x
    have := (h.1 x).1 hb
    subst this
    exact (Array.getElem?_eq_some_iff.1 h.2).1
def ob (b : Nat) (o : Obj) : Tok := ⟨[], fun _ => obRes b o, fun _ => rfl⟩
def jt (J : Res) : Tok := ⟨[], fun _ => J, fun _ => rfl⟩
def Yld (P : Program) (l : Nat) (v : Value) (J J' : Res) : Prop :=
  ∀ (w : World) (F : Foot), J.holds w F → YieldAt Fence.wide 0 P l #[v] w fun e w' => e = .returned (.bool true) ∧ ∃ F', J'.holds w' F' ∧ (∀ b, F' b → F b ∨ w.heap.size ≤ b) ∧ Mod F w w'
theorem yield_step {C : Ctx} {P : Program} {ops : Array Oper} {Q : Exit → Act → World → Prop} {rest : List Oper} {fs : FL} {L : TL} {d : Nat} {co x : Operand} {ats : Array TypeId} {ty : TypeId} {pos : String} {after : Array Edge} {l kJ : Nat} {v : SV} {J J' : Res}
    (hc : ev fs co = some (SV.raw (.func (.yield l) #[] #[]))) (hx : ev fs x = some v) (hv : v.ks = []) (hJ : lkT L kJ = some (jt J)) (hy : Yld P l (v.den C.β0) J J') (hn : Nat.blt d C.n = true)
    {a : Act} {w : World} (hh : Holds C (lk fs) (lkT L) a w)
    (hq : ∀ a' w', Holds C (lk ((d, SV.b true) :: fs)) (lkT ((kJ, some (jt J')) :: L)) a' w' → wpListIn Fence.wide 0 P ops Q rest a' w') :
    wpListIn Fence.wide 0 P ops Q (⟨some d, .call ⟨.value co, #[x], ats⟩, ty, pos, after, none⟩ :: rest) a w := by
  obtain ⟨β, F, hβ, hfs, hlt, hsz, hd, hs, hF, hM⟩ := hh
  obtain ⟨F1, F2, e1, dj, h1, h2⟩ := hs.take hJ
  have ev_eval : ∀ {o : Operand} {y : SV}, ev fs o = some y → a.eval o = y.den β := fun {o y} h => by
    cases o with
    | tmp t => exact hfs t y h
    | const v => simp only [ev, Option.some.injEq] at h; subst h; rfl
    | func f => simp only [ev, Option.some.injEq] at h; subst h; rfl
    | global g => simp only [ev, Option.some.injEq] at h; subst h; rfl
  have ec : a.eval co = .func (.yield l) #[] #[] := ev_eval hc
  have ex : a.eval x = v.den C.β0 := by
    rw [ev_eval hx]; exact SV.den_congr v (fun k hk => by rw [hv] at hk; cases hk)
  obtain ⟨fn, tmps, assign, body, hy1, hy2⟩ := hy w F1 h1
  refine wpListIn_plain rfl (fun K hK => ?_)
  refine ⟨fun _ _ => trivial, ?_⟩
  have e0 : (Oper.semAt Fence.wide.round a.eval ⟨some d, .call ⟨.value co, #[x], ats⟩, ty, pos, after, none⟩).run P w = .ok (.round l fn tmps assign body) w := by
    rw [show Fence.wide.round = none from rfl, Oper.semAt_none]
    simp only [execOp, resolve, ec, Deferred.ofValue, Sem.run_bind, Sem.run_pure, Result.andThen_ok, invoke, List.map_toArray, List.map_cons, List.map_nil, ex]
    rw [Array.empty_append]; exact hy1
  rw [e0]
  refine ⟨fun h => (by cases h), hy2.mono (fun e w' he => ?_)⟩
  obtain ⟨rfl, F', hj, hf', hm⟩ := he
  refine hK _ _ (hq _ _ ?_)
  have hlt2 : ∀ b, F2 b → b < w.heap.size := fun b hb => h2.lt hb
  have h3 := h2.loc (fun b hb => hm.block b (hlt2 b hb) (fun h => dj b h hb))
  have dj' : ∀ b, F' b → ¬ F2 b := fun b hb h2' => (hf' b hb).elim (fun h => dj b h h2') (fun h => Nat.lt_irrefl _ (Nat.lt_of_lt_of_le (hlt2 b h2') h))
  have h4 := h3.put (k := kJ) (t := jt J') (F := fun b => F' b ∨ F2 b) (by simp [upd]) hj dj' (fun b => Iff.rfl)
  refine ⟨β, fun b => F' b ∨ F2 b, hβ, ?_, ?_, (put_size _ _ _).trans hsz, (put_defers _ _ _).trans hd, h4.congr (fun j => ?_), ?_, ?_⟩
  · intro t y hy'
    rw [lk_cons] at hy'
    simp only [upd] at hy'
    by_cases ed : t = d
    · subst ed
      simp at hy'; subst hy'
      exact getD_put_same (by rw [hsz]; rwa [Nat.blt_eq] at hn)
    · rw [if_neg ed] at hy'
      exact (getD_put (fun k h => by cases h; exact Ne.symm ed)).trans (hfs t y hy')
  · intro t ht
    rw [put_size]
    rw [lk_cons] at ht
    simp only [upd] at ht
    by_cases ed : t = d
    · subst ed; rw [hsz]; rwa [Nat.blt_eq] at hn
    · rw [if_neg ed] at ht; exact hlt t ht
  · rw [lkT_cons]; unfold upd; split <;> rfl
  · rintro b (hb | hb)
    · rcases hf' b hb with h | h
      · exact hF b ((e1 b).2 (.inl h))
      · exact .inr (Nat.le_trans hM.size h)
    · exact hF b ((e1 b).2 (.inr hb))
  · exact hM.trans hm (fun k hk => hF k ((e1 k).2 (.inl hk)))
def YK (C : Ctx) (P : Program) (d : Nat) (co x : Operand) (l2 : List Oper) (Q : Exit → Act → World → Prop) (fs1 : FL) (L1 : TL) : Prop :=
  ∃ (l kJ : Nat) (v : SV) (J J' : Res), ev fs1 co = some (SV.raw (.func (.yield l) #[] #[])) ∧ ev fs1 x = some v ∧ v.ks = [] ∧ lkT L1 kJ = some (jt J) ∧ Yld P l (v.den C.β0) J J' ∧ Nat.blt d C.n = true ∧
    ∀ ops, RunK P C.n ops l2 ((d, SV.b true) :: fs1) ((kJ, some (jt J')) :: L1) (fun _ fs2 L2 => At C fs2 L2 (Q .normal))
theorem G.regionY {C : Ctx} {P : Program} {fs : FL} {L : TL} {Q : Exit → Act → World → Prop} {id : Nat} {l1 l2 : List Oper} {d : Nat} {co x : Operand} {ats : Array TypeId} {ty : TypeId} {pos : String} {after : Array Edge}
    (h : ∀ ops, RunK P C.n ops l1 fs L (fun _ fs1 L1 => YK C P d co x l2 Q fs1 L1)) (p1 : l1.all plainB = true) (p2 : l2.all plainB = true) :
    G C P fs L (.region id (l1 ++ ⟨some d, .call ⟨.value co, #[x], ats⟩, ty, pos, after, none⟩ :: l2).toArray false) Q := by
  intro a w hh
  refine (wpIn_wide (n := 0)).1 (wpIn_region_lit ?_)
  obtain ⟨ss, fs1, L1, h1, l, kJ, v, J, J', hc, hx, hv, hJ, hy, hn, h2⟩ := h (l1 ++ ⟨some d, .call ⟨.value co, #[x], ats⟩, ty, pos, after, none⟩ :: l2).toArray
  obtain ⟨ss2, fs2, L2, h3, hq⟩ := h2 (l1 ++ ⟨some d, .call ⟨.value co, #[x], ats⟩, ty, pos, after, none⟩ :: l2).toArray
  refine Run.soundI (ro := none) h1 p1 hh (fun a' w' hh' => ?_)
  refine yield_step (rest := l2) hc hx hv hJ hy hn hh' (fun a2 w2 hh2 => ?_)
  have := Run.soundI (ro := none) (m := 0) (rest := []) (Q := Q) h3 p2 hh2 (fun a3 w3 hh3 => wpListIn_nil (hq a3 w3 hh3))
  rwa [List.append_nil] at this
def GR (ro : Nat) (C : Ctx) (P : Program) (fs : FL) (L : TL) (c : Code) (Q : Exit → Act → World → Prop) : Prop :=
  ∀ a w, Holds C (lk fs) (lkT L) a w → c.wpIn (Wd (some ro)) 0 P Q a w
section
variable {ro : Nat} {C : Ctx} {P : Program} {fs fs' : FL} {L L' : TL} {Q : Exit → Act → World → Prop}
theorem GR.rg {id : Nat} {l : List Oper} (hp : l.all plainB = true) (h : RunK P C.n l.toArray l fs L (fun _ fs' L' => At C fs' L' (Q .normal))) : GR ro C P fs L (.region id l.toArray false) Q := by
  intro a w hh
  obtain ⟨ss, fs', L', h1, h2⟩ := h
  refine wpIn_region_lit ?_
  have := Run.soundI (ro := some ro) (m := 0) (rest := []) (Q := Q) h1 hp hh (fun a3 w3 hh3 => wpListIn_nil (h2 a3 w3 hh3))
  rwa [List.append_nil] at this
theorem GR.block {id : Nat} {c : Code} (h : GR ro C P fs L c (Exit.inBlock id Q)) : GR ro C P fs L (.block id c) Q := fun a w hh => wpIn_block (h a w hh)
end
theorem starM_of {β : Env} {w : World} {F : Foot} {ti : List (Nat × Tok)} (hs : Star (ti.map fun p => p.2.r β) w F) (hnd : (ti.map (·.1)).Nodup) : StarM (lkT (ti.map fun p => (p.1, some p.2))) β w F := by
  have h0 : StarM (fun _ => none) β w (fun _ => False) := ⟨fun _ _ => False, ⟨fun _ _ h => (by cases h), fun _ _ _ h => h, fun _ _ _ _ h => False.elim h, fun b => by simp⟩⟩
  have := StarM.puts (l := ti) (F := F) h0 (fun _ _ => rfl) hnd hs (fun _ _ h => h) (fun b => by simp)
  refine this.congr (fun k => ?_)
  have e1 : ∀ (to : List (Nat × Tok)), lkT (to.map (fun p => (p.1, some p.2))) k = lkP to k := by
    intro to
    induction to with
    | nil => rfl
    | cons p to ih =>
      rw [List.map_cons, lkT_cons]
      simp only [upd, lkP]
      split <;> simp [ih]
  rw [e1, puts_eq]; simp
theorem star_ren {L : TL} {β : Env} {w : World} {F : Foot} {f : Nat → Nat} {tl : List (Nat × Tok)} {ts : List Tok} (hs : StarM (lkT L) β w F) (hl : RenL f L tl ts) (hnd : ((tl.map (·.1)).map f).Nodup) :
    ∃ F' : Foot, Star (tl.map fun p => p.2.r (fun k => β (f k))) w F' ∧ ∀ b, F' b → F b := by
  obtain ⟨to, h1, h2, h3⟩ : ∃ to : List (Nat × Tok), (∀ p ∈ to, lkT L p.1 = some p.2) ∧ to.map (·.1) = (tl.map (·.1)).map f ∧ (to.map fun p => p.2.r β) = (tl.map fun p => p.2.r (fun k => β (f k))) := by
    clear hnd
    induction tl generalizing ts with
    | nil => exact ⟨[], fun p h => (by cases h), rfl, rfl⟩
    | cons p tl ih =>
      cases ts with
      | nil => exact hl.elim
      | cons t ts =>
        obtain ⟨to, h1, h2, h3⟩ := ih hl.2.2
        refine ⟨(f p.1, t) :: to, fun q hq => ?_, ?_, ?_⟩
        · rcases List.mem_cons.1 hq with rfl | hq
          · exact hl.1
          · exact h1 q hq
        · simp only [List.map_cons]; rw [← h2]
        · simp only [List.map_cons]; rw [← h3, hl.2.1 β]
  obtain ⟨F', g1, g2⟩ := star_end hs h1 (by rw [h2]; exact hnd)
  exact ⟨F', by rw [← h3]; exact g1, g2⟩
def jl (l D : Nat) (r : Loop) (T : List (Nat × Tok)) : List (Nat × Tok) := (16, ob l (.loop r)) :: (17, ob D (.deferred (some []))) :: T
def JRes (βr : Env) (l D : Nat) (r : Loop) (T : List (Nat × Tok)) : Res where
  holds w F := ∃ β : Env, (∀ k, k < 20 → β k = βr k) ∧ Star ((jl l D r T).map fun p => p.2.r β) w F
  loc := by
    intro w w' F hw h
    obtain ⟨β, h1, h2⟩ := h
    exact ⟨β, h1, h2.loc hw⟩
  lt := by
    intro w F b h hb
    obtain ⟨β, h1, h2⟩ := h
    exact h2.lt hb
def BR (P : Program) (l : Nat) (body : Code) (Q : Exit → Act → World → Prop) : Act → World → Prop := fun a w => ∃ w₂, (Instr.beginRound l).run P w = .ok () w₂ ∧ body.wpIn (Wd (some l)) 0 P Q a w₂
def ER (C : Ctx) (P : Program) (l D : Nat) (r : Loop) (T : List (Nat × Tok)) : Exit → Act → World → Prop
  | .normal, _, w => ∃ w', (Instr.endRound l none).run P w = .ok (.bool true) w' ∧ ∃ F', (JRes C.β0 l D r T).holds w' F' ∧ (∀ b, F' b → C.F0 b ∨ C.W.heap.size ≤ b) ∧ Mod C.F0 C.W w'
  | _, _, _ => False
def RoundOk (P : Program) (N : Nat) (fs0 : FL) (p : Nat) (assign body : Code) (v : SV) (T T' : List (Nat × Tok)) : Prop :=
  ∀ (C : Ctx) (l D : Nat) (r : Loop), C.n = N → r.state = .ready → r.pending = none → GR l C P ((p, v) :: fs0) ((jl l D r T).map fun p => (p.1, some p.2)) assign (Exit.then (BR P l body (ER C P l D r T')) (fun _ _ _ => False))
theorem putObj_mod {w : World} {l : Nat} {o : Obj} {F : Foot} (hF : F l) : Mod F w (w.putObj l o) :=
  ⟨rfl, rfl, rfl, by rw [World.putObj_size]; exact Nat.le_refl _, fun k _ hk => World.putObj_heap_other (fun e => hk (e ▸ hF)), Nat.le_refl _⟩
section
variable {C : Ctx} {P : Program} {fs : FL} {L : TL} {QF : Exit → Act → World → Prop}
theorem At.begin {l : Nat} {r : Loop} {body : Code} {Q : Exit → Act → World → Prop} (hL : lkT L 16 = some (ob l (.loop r))) (hr : r.state = .ready) (h : GR l C P fs ((16, some (ob l (.loop { r with state := .busy }))) :: L) body Q) :
    At C fs L (Exit.then (BR P l body Q) QF .normal) := by
  intro a w hh
  obtain ⟨β, F, hβ, hfs, hlt, hsz, hd, hs, hF, hM⟩ := hh
  obtain ⟨F1, F2, e1, dj, h1, h2⟩ := hs.take hL
  have hl1 : F1 l := (h1.1 l).2 rfl
  refine ⟨_, run_beginRound h1.2 hr, h a _ ⟨β, F, hβ, hfs, hlt, hsz, hd, ?_, hF, hM.trans (putObj_mod (F := fun b => b = l) rfl) (fun k hk => by subst hk; exact hF _ ((e1 _).2 (.inl hl1)))⟩⟩
  have hl : l < w.heap.size := (Array.getElem?_eq_some_iff.1 h1.2).1
  have h3 := h2.loc (w' := w.putObj l (.loop { r with state := .busy })) (fun b hb => World.putObj_heap_other (fun e => dj b ((h1.1 b).2 e) hb))
  have h4 := h3.put (k := 16) (t := ob l (.loop { r with state := .busy })) (F1 := F1) (F := F) (by simp [upd]) ⟨h1.1, World.putObj_heap_same hl⟩ dj e1
  exact h4.congr (fun j => by rw [lkT_cons]; unfold upd; split <;> rfl)
theorem At.er {l D : Nat} {r : Loop} {T' : List (Nat × Tok)} (ρ : List (Nat × Nat)) (ts : List Tok) (hL : lkT L 16 = some (ob l (.loop { r with state := .busy }))) (hD : lkT L 17 = some (ob D (.deferred (some [])))) (hr : r.state = .ready) (hp : r.pending = none)
    (hρ : ρ.all (fun p => Nat.ble 20 p.1) = true) (hl : RenL (rn ρ) L T' ts) (hnd : ndB (16 :: 17 :: (T'.map (·.1)).map (rn ρ)) = true) :
    At C fs L (ER C P l D r T' .normal) := by
  intro a w hh
  obtain ⟨β, F, hβ, hfs, hlt, hsz, hd, hs, hF, hM⟩ := hh
  have hk20 : ∀ k, k < 20 → rn ρ k = k := by
    intro k hk
    unfold rn
    cases hl : lk ρ k with
    | none => rfl
    | some j =>
      have := List.all_eq_true.1 hρ _ (lk_mem hl)
      have := Nat.le_of_ble_eq_true this
      simp at this; omega
  have hl' : RenL (rn ρ) L ((16, ob l (.loop { r with state := .busy })) :: (17, ob D (.deferred (some []))) :: T') (ob l (.loop { r with state := .busy }) :: ob D (.deferred (some [])) :: ts) :=
    ⟨by rw [hk20 16 (by decide)]; exact hL, fun _ => rfl, by rw [hk20 17 (by decide)]; exact hD, fun _ => rfl, hl⟩
  obtain ⟨F', h1, h2⟩ := star_ren hs hl' (by simp only [List.map_cons, hk20 16 (by decide), hk20 17 (by decide)]; exact ndB_spec hnd)
  obtain ⟨F1, F2, e1, dj, h3, h4⟩ := h1
  have hl1 : F1 l := (h3.1 l).2 rfl
  have hlt' : l < w.heap.size := (Array.getElem?_eq_some_iff.1 h3.2).1
  have er := run_endRound (P := P) none h3.2
  have e2 : ({ { r with state := LoopState.busy } with state := if (none : Option Code).isNone = true then LoopState.ready else LoopState.done, pending := none } : Loop) = r := by
    obtain ⟨s, pe, a1, a2, a3, a4, a5, a6⟩ := r
    simp only at hr hp; subst hr hp; rfl
  rw [e2] at er
  refine ⟨_, er, F', ⟨fun k => β (rn ρ k), fun k hk => by show β (rn ρ k) = _; rw [hk20 k hk, hβ k hk], F1, F2, e1, dj, ⟨h3.1, World.putObj_heap_same hlt'⟩, h4.loc (fun b hb => World.putObj_heap_other (fun e => dj b ((h3.1 b).2 e) hb))⟩, fun b hb => hF b (h2 b hb), hM.trans (putObj_mod (F := fun b => b = l) rfl) (fun k hk => by subst hk; exact hF _ (h2 _ ((e1 _).2 (.inl hl1))))⟩
end
theorem sdrop (L : List Res) {A : List Res} {w : World} {F : Foot} (h : Star (L ++ A) w F) : ∃ F1 F2 : Foot, (∀ b, F b ↔ F1 b ∨ F2 b) ∧ (∀ b, F1 b → ¬ F2 b) ∧ Star L w F1 ∧ Star A w F2 := Star_append.1 h
def chkN (τ ρ : List (Nat × Nat)) (k : Nat) : Bool := match lk τ k with
  | some j => Nat.blt j 20 && Nat.beq (rn ρ j) k
  | none => true
theorem lk_rn {ρ : List (Nat × Nat)} {k j : Nat} (h : lk ρ k = some j) : rn ρ k = j := by unfold rn; rw [h]
theorem G.rangeF {α : Type} {C : Ctx} {P : Program} {fs fs0 : FL} {L : TL} {Q : Exit → Act → World → Prop} {g : Operand} {p : Nat} {assign body : Code} {f : FuncId} {ks : List Nat} {ret : SV}
    (xs : List α) (val : α → SV) (T : Nat → List (Nat × Tok)) (I : List (Nat × Tok)) (hdf : C.df = []) (hg : ev fs0 g = some (.a (.c (.fn (.func f) ks)))) (hfn : fnB P f = true)
    (ρ : List (Nat × Nat)) (ts0 : List Tok) (hf : RenF (rn ρ) fs fs0) (hl : RenL (rn ρ) L (T 0 ++ I) ts0) (hnd : ndB (((T 0 ++ I).map (·.1)).map (rn ρ)) = true)
    (hIk : I.all (fun q => q.2.ks.all (fun k => Nat.blt k 20)) = true) (hsk : ks.all (fun k => Nat.blt k 20) = true) (hfk : fs0.all (fun q => q.2.ks.all (fun k => Nat.blt k 20)) = true) (hvk : ∀ x, (val x).ks = []) (hpn : Nat.blt p C.n = true)
    (hTn : ∀ i, ndB (16 :: 17 :: (T i ++ I).map (·.1)) = true)
    (hit : ∀ (l : Nat) (J : Nat → Res) (β : Env), (∀ i x, xs[i]? = some x → Yld P l ((val x).den β) (J i) (J (i + 1))) → SCon P f (SV.raw (.func (.yield l) #[] #[]) :: ks.map fun k => SV.p k 0) ((18, jt (J 0)) :: I) ret ((18, jt (J xs.length)) :: I) [])
    (hr : ∀ i x, xs[i]? = some x → RoundOk P C.n fs0 p assign body (val x) (T i) (T (i + 1)))
    (τ : List (Nat × Nat)) (Tout : List (Nat × Tok)) (tsN : List Tok) (hl' : RenL (rn τ) ((T xs.length ++ I).map fun p => (p.1, some p.2)) Tout tsN) (hnd' : ndB ((Tout.map (·.1)).map (rn τ)) = true) (hnd2 : ndB (60 :: Tout.map (·.1)) = true)
    (hc1 : (List.range 20).all (chkN τ ρ) = true) (hc2 : fs.all (fun q => q.2.ks.all (chkN τ ρ)) = true) (hc3 : Tout.all (fun q => q.2.ks.all (fun k => (lk τ k).isSome)) = true)
    (h : ∀ D, At { C with df := [{ target := .collected D, args := #[] }] } fs ((60, some (ob D (.deferred (some [])))) :: Tout.map fun p => (p.1, some p.2)) (Q .normal)) :
    G C P fs L (.rangeFunc g #[p] assign body) Q := by
  intro a w hh
  refine (wpIn_wide (n := 0)).1 (wpIn_rangeFunc ?_)
  intro fn _
  obtain ⟨β, F, hβ, hfs, hlt, hsz, hd, hs, hF, hM⟩ := hh
  obtain ⟨βr, hβr⟩ : ∃ βr : Env, βr = fun k => β (rn ρ k) := ⟨_, rfl⟩
  have hfs0 : ∀ t x, lk fs0 t = some x → a.tmps.getD t undef = x.den βr := fun t x hx => by rw [hfs t _ (hf.spec t x hx), SV.den_ren, hβr]
  have hlt0 : ∀ t, (lk fs0 t).isSome → t < a.tmps.size := fun t ht => by
    obtain ⟨x, hx⟩ := Option.isSome_iff_exists.1 ht
    exact hlt t (by rw [hf.spec t x hx]; rfl)
  obtain ⟨F1, hst, hF1⟩ := star_ren hs hl (ndB_spec hnd)
  rw [← hβr] at hst
  have small : ∀ {β1 β2 : Env}, (∀ k, k < 20 → β1 k = β2 k) → (I.map fun q => q.2.r β1) = (I.map fun q => q.2.r β2) := fun {β1 β2} hb =>
    List.map_congr_left (fun q hq => q.2.sup (fun k hk => hb k (by have := List.all_eq_true.1 (List.all_eq_true.1 hIk q hq) k hk; rwa [Nat.blt_eq] at this)))
  -- the record
  obtain ⟨rec, hrec⟩ : ∃ rec : Loop, rec = { state := .ready, pending := none, fn, tmps := a.tmps, params := #[p], assign, body, defers := w.heap.size } := ⟨_, rfl⟩
  obtain ⟨W1, hW1⟩ : ∃ W1, (w.alloc (.deferred (some []))).alloc (.loop rec) = W1 := ⟨_, rfl⟩
  have hL1 : W1.heap[w.heap.size + 1]? = some (.loop rec) := by
    rw [← hW1]; have := World.alloc_heap_new (w.alloc (.deferred (some []))) (.loop rec); rwa [World.size_alloc] at this
  have hK1 : W1.heap[w.heap.size]? = some (.deferred (some [])) := by
    rw [← hW1]; exact (Below.heap_alloc _ _ _ (by simp)).trans (World.alloc_heap_new w _)
  have hS1 : W1.heap.size = w.heap.size + 2 := by rw [← hW1]; simp
  have hold : ∀ k, k < w.heap.size → W1.heap[k]? = w.heap[k]? := fun k hk => by
    rw [← hW1]; exact (Below.heap_alloc _ _ k (by simp; omega)).trans (Below.heap_alloc _ _ k hk)
  have hM1 : Mod (fun _ => False) w W1 := by
    refine ⟨?_, ?_, ?_, by omega, fun k hk _ => hold k hk, Nat.le_of_eq ?_⟩ <;> rw [← hW1] <;> rfl
  have hgv : a.eval g = .func (.func f) #[] ((ks.map fun k => ptr (βr k).b 0).toArray) := by
    cases g with
    | tmp t => exact hfs0 t _ hg
    | const v => simp only [ev, Option.some.injEq, SV.a.injEq, Av.c.injEq] at hg; cases hg
    | func q => simp only [ev, Option.some.injEq, SV.a.injEq, Av.c.injEq] at hg; cases hg
    | global q => simp only [ev, Option.some.injEq, SV.a.injEq, Av.c.injEq] at hg; cases hg
  refine ⟨w.heap.size + 1, [{ target := .collected w.heap.size, args := #[] }], W1, { target := .fn (.func f) ((ks.map fun k => ptr (βr k).b 0).toArray), args := #[.func (.yield (w.heap.size + 1)) #[] #[]] }, W1, f,
    #[.func (.yield (w.heap.size + 1)) #[] #[]] ++ (ks.map fun k => ptr (βr k).b 0).toArray, W1, ?_, ?_, ?_, ?_, fun h => (by cases h), ?_⟩
  · rw [← hW1, hrec]; exact run_enterLoop_outer _ _ _ _ _
  · simp only [resolve, hgv]
    simp [go_sem]
  · intro f' _; trivial
  · simp [invoke, go_sem, callFunc_run hfn]
  · -- the function's contract
    refine (callsIn_wide (n := 0 - 1)).2 ?_
    have hst1 := hst.loc (w' := W1) (fun b hb => hold b (hst.lt hb))
    rw [List.map_append] at hst1
    obtain ⟨FT, FI, e1, dj, hT, hI⟩ := Star_append.1 hst1
    have hFlt : ∀ b, FT b → b < w.heap.size := fun b hb => hst.lt ((e1 b).2 (.inl hb))
    have hIlt : ∀ b, FI b → b < w.heap.size := fun b hb => hst.lt ((e1 b).2 (.inr hb))
    -- one round
    have hround : ∀ i x, xs[i]? = some x → Yld P (w.heap.size + 1) ((val x).den βr) (JRes βr (w.heap.size + 1) w.heap.size rec (T i)) (JRes βr (w.heap.size + 1) w.heap.size rec (T (i + 1))) := by
      intro i x hx w2 F2 hJ
      obtain ⟨β2, hb2, hs2⟩ := id hJ
      obtain ⟨G1, G2, g1, g2, g3, g4⟩ := hs2
      have hy := run_yield (P := P) (args := #[(val x).den βr]) g3.2 (by rw [hrec]; rfl)
      have hpt : ((rec.params.zip #[(val x).den βr]).foldl (fun tmps (t, a) => tmps.setIfInBounds t a) rec.tmps) = (⟨a.tmps, []⟩ : Act).tmps.setIfInBounds p ((val x).den βr) := by rw [hrec]; simp
      rw [hpt] at hy
      refine ⟨_, _, _, _, hy, roundIn_of_wpIn trivial ?_⟩
      have hR := hr i x hx ⟨w2, F2, β2, C.n, []⟩ (w.heap.size + 1) w.heap.size rec rfl (by rw [hrec]) (by rw [hrec])
      have hasg : rec.assign = assign := by rw [hrec]
      have hbod : rec.body = body := by rw [hrec]
      rw [hasg, hbod]
      refine wpIn_mono (hR { tmps := a.tmps.setIfInBounds p ((val x).den βr), defers := [] } w2 ?_) ?_
      · refine ⟨β2, F2, fun _ _ => rfl, ?_, ?_, by simp only [Array.size_setIfInBounds]; exact hsz, rfl, starM_of ⟨G1, G2, g1, g2, g3, g4⟩ ?_, fun b hb => .inl hb, Mod.refl _ _⟩
        · intro t y hy'
          rw [lk_cons] at hy'
          simp only [upd] at hy'
          by_cases et : t = p
          · subst et
            rw [if_pos rfl] at hy'
            cases hy'
            have := getD_put_same (a := ⟨a.tmps, []⟩) (k := t) (v := (val x).den βr) (by show t < a.tmps.size; rw [hsz]; rwa [Nat.blt_eq] at hpn)
            exact this.trans (SV.den_congr _ (fun k hk => by rw [hvk] at hk; cases hk))
          · rw [if_neg et] at hy'
            have h1 : (a.tmps.setIfInBounds p ((val x).den βr)).getD t undef = a.tmps.getD t undef := getD_put (a := ⟨a.tmps, []⟩) (d := some p) (v := (val x).den βr) (fun k h => by cases h; exact Ne.symm et)
            show (a.tmps.setIfInBounds p ((val x).den βr)).getD t undef = _
            rw [h1, hfs0 t y hy']
            refine SV.den_congr y (fun k hk => (hb2 k ?_).symm)
            have := List.all_eq_true.1 (List.all_eq_true.1 hfk (t, y) (lk_mem hy')) k hk
            rwa [Nat.blt_eq] at this
        · intro t ht
          simp only [Array.size_setIfInBounds]
          rw [lk_cons] at ht
          simp only [upd] at ht
          by_cases et : t = p
          · subst et; rw [hsz]; rwa [Nat.blt_eq] at hpn
          · rw [if_neg et] at ht; exact hlt0 t ht
        · have := ndB_spec (hTn i)
          rw [List.map_append] at this
          simp only [jl, List.map_cons]
          exact this.sublist (by simp)
      · intro e a3 w3 he
        cases e with
        | normal =>
          obtain ⟨w4, hb4, hbody⟩ := he
          refine ⟨w4, hb4, wpIn_mono hbody ?_⟩
          intro e2 a5 w5 he2
          cases e2 with
          | normal =>
            obtain ⟨w6, h6, F6, ⟨β6, hb6, hs6⟩, hF6, hM6⟩ := he2
            exact ⟨_, _, h6, rfl, F6, ⟨β6, fun k hk => (hb6 k hk).trans (hb2 k hk), hs6⟩, hF6, hM6⟩
          | _ => exact he2.elim
        | _ => exact he.elim
    have hJ0 : (JRes βr (w.heap.size + 1) w.heap.size rec (T 0)).holds W1 (fun b => b = w.heap.size + 1 ∨ (b = w.heap.size ∨ FT b)) :=
      ⟨βr, fun _ _ => rfl, fun b => b = w.heap.size + 1, fun b => b = w.heap.size ∨ FT b, fun b => Iff.rfl, fun b hb hb2 => by
        rcases hb2 with h2 | h2
        · omega
        · have := hFlt b h2; omega, ⟨fun b => Iff.rfl, hL1⟩, fun b => b = w.heap.size, FT, fun b => Iff.rfl, fun b hb hb2 => by have := hFlt b hb2; omega, ⟨fun b => Iff.rfl, hK1⟩, hT⟩
    have hcall := hit (w.heap.size + 1) (fun i => JRes βr (w.heap.size + 1) w.heap.size rec (T i)) βr hround βr W1 (fun b => (b = w.heap.size + 1 ∨ (b = w.heap.size ∨ FT b)) ∨ FI b)
      ⟨_, FI, fun b => Iff.rfl, fun b hb hb2 => by
        rcases hb with hb | hb | hb
        · have := hIlt b hb2; omega
        · have := hIlt b hb2; omega
        · exact dj b hb hb2, hJ0, hI⟩
    have eargs : (List.map (SV.den βr) (SV.raw (.func (.yield (w.heap.size + 1)) #[] #[]) :: ks.map fun k => SV.p k 0)).toArray = #[.func (.yield (w.heap.size + 1)) #[] #[]] ++ (ks.map fun k => ptr (βr k).b 0).toArray := by
      apply Array.ext'
      simp [SV.den, Av.den, Cl.den, ptr, Function.comp_def]
    rw [eargs] at hcall
    refine hcall.mono ?_
    rintro e w3 ⟨β3, hb3, rfl, F3, hs3, hF3, hM3⟩
    obtain ⟨G1, G2, g1, g2, ⟨β4, hb4, hs4⟩, g4⟩ := hs3
    obtain ⟨H1, H2, k1, k2, k3, k4⟩ := hs4
    have hend := run_endLoop (P := P) k3.2 (by rw [hrec]; simp)
    obtain ⟨W4, hW4⟩ : ∃ W4, w3.putObj (w.heap.size + 1) (.loop { rec with state := .exhausted }) = W4 := ⟨_, rfl⟩
    rw [hW4] at hend
    refine ⟨none, W4, by rw [hrec] at hend; exact hend, ?_⟩
    show Q .normal _ W4
    have hwW : C.W.heap.size ≤ w.heap.size := hM.size
    have hl1 : H1 (w.heap.size + 1) := (k3.1 _).2 rfl
    obtain ⟨M1, M2, m1, m2, m3, m4⟩ := k4
    rw [small (β1 := β3) (β2 := β4) (fun k hk => (hb3 k (by simp)).trans (hb4 k hk).symm)] at g4
    have hMG : ∀ b, M2 b → ¬ G2 b := fun b hb => g2 b ((k1 b).2 (.inr ((m1 b).2 (.inr hb))))
    have hTI : Star ((T xs.length ++ I).map fun q => q.2.r β4) w3 (fun b => M2 b ∨ G2 b) := by
      rw [List.map_append]; exact Star_append.2 ⟨M2, G2, fun b => Iff.rfl, hMG, m4, g4⟩
    have hMH : ∀ b, M2 b ∨ G2 b → b ≠ w.heap.size + 1 := fun b hb e => by
      subst e
      rcases hb with hb | hb
      · exact k2 _ hl1 ((m1 _).2 (.inr hb))
      · exact g2 _ ((k1 _).2 (.inl hl1)) hb
    have hoth : ∀ b, b ≠ w.heap.size + 1 → W4.heap[b]? = w3.heap[b]? := fun b hb => by rw [← hW4]; exact World.putObj_heap_other hb
    have hTI4 := hTI.loc (w' := W4) (fun b hb => hoth b (hMH b hb))
    have hD1 : M1 w.heap.size := (m3.1 _).2 rfl
    have hD4 : (obRes w.heap.size (.deferred (some []))).holds W4 M1 := ⟨m3.1, (hoth _ (by omega)).trans m3.2⟩
    have hTn' : ((T xs.length ++ I).map (·.1)).Nodup := (List.nodup_cons.1 (List.nodup_cons.1 (ndB_spec (hTn xs.length))).2).2
    obtain ⟨F', s1, s2⟩ := star_ren (starM_of hTI4 hTn') hl' (ndB_spec hnd')
    obtain ⟨βo, hβo⟩ : ∃ βo : Env, βo = fun k => if (lk τ k).isSome then β4 (rn τ k) else β k := ⟨_, rfl⟩
    have same : ∀ k, chkN τ ρ k = true → βo k = β k := fun k hk => by
      unfold chkN at hk
      cases hlk : lk τ k with
      | none => rw [hβo]; simp [hlk]
      | some j =>
        rw [hlk] at hk
        simp only [Bool.and_eq_true] at hk
        have h1 := hk.1
        rw [Nat.blt_eq] at h1
        have h2 := Nat.eq_of_beq_eq_true hk.2
        have h3 : βo k = β4 (rn τ k) := by rw [hβo]; simp [hlk]
        rw [h3, lk_rn hlk, hb4 j h1, hβr]
        show β (rn ρ j) = β k
        rw [h2]
    have eT : (Tout.map fun q => q.2.r (fun k => β4 (rn τ k))) = (Tout.map fun q => q.2.r βo) := List.map_congr_left (fun q hq => q.2.sup (fun k hk => by
      have := List.all_eq_true.1 (List.all_eq_true.1 hc3 q hq) k hk
      rw [hβo]
      show β4 (rn τ k) = if (lk τ k).isSome = true then β4 (rn τ k) else β k
      rw [if_pos this]))
    rw [eT] at s1
    have hsub : ∀ b, F' b → F3 b := fun b hb => by
      rcases s2 b hb with h | h
      · exact (g1 b).2 (.inl ((k1 b).2 (.inr ((m1 b).2 (.inr h)))))
      · exact (g1 b).2 (.inr h)
    have hdj : ∀ b, M1 b → ¬ F' b := fun b hb hb' => by
      rcases s2 b hb' with h | h
      · exact m2 b hb h
      · exact g2 b ((k1 b).2 (.inr ((m1 b).2 (.inl hb)))) h
    have hst5 : Star (((60, ob w.heap.size (.deferred (some []))) :: Tout).map fun q => q.2.r βo) W4 (fun b => M1 b ∨ F' b) := ⟨M1, F', fun b => Iff.rfl, hdj, hD4, s1⟩
    have hFX : ∀ k, (k = w.heap.size + 1 ∨ k = w.heap.size ∨ FT k) ∨ FI k → C.F0 k ∨ C.W.heap.size ≤ k := fun k hk => by
      rcases hk with (hk | hk | hk) | hk
      · right; omega
      · right; omega
      · exact hF k (hF1 k ((e1 k).2 (.inl hk)))
      · exact hF k (hF1 k ((e1 k).2 (.inr hk)))
    refine h w.heap.size _ W4 ⟨βo, fun b => M1 b ∨ F' b, fun k hk => ?_, fun t x hx => ?_, hlt, hsz, by show [_] ++ a.defers = [_]; rw [hd, hdf]; rfl, starM_of hst5 (ndB_spec hnd2), fun b hb => ?_, ?_⟩
    · rw [same k (List.all_eq_true.1 hc1 k (List.mem_range.2 hk))]; exact hβ k hk
    · rw [hfs t x hx]
      exact SV.den_congr x (fun k hk => (same k (List.all_eq_true.1 (List.all_eq_true.1 hc2 (t, x) (lk_mem hx)) k hk)).symm)
    · rcases hb with hb | hb
      · have := (m3.1 b).1 hb; subst this; exact .inr hwW
      · rcases hF3 b (hsub b hb) with h' | h'
        · exact hFX b h'
        · right; show C.W.heap.size ≤ b; omega
    · have A := hM.trans hM1 (fun k hk => hk.elim)
      have B := A.trans hM3 (fun k hk => hFX k hk)
      rw [← hW4]
      exact B.trans (putObj_mod (F := fun b => b = w.heap.size + 1) rfl) (fun k hk => .inr (by show C.W.heap.size ≤ k; omega))
end Go.Proofs.YtpeoalmhccmdiaaGreat.Sx
namespace Go.Proofs.YtpeoalmhccmdiaaGreat.Sx
open Go Go.RowKit Go.Sort Go.Lib
theorem mod_grow {w w' : World} (h : Mod (fun _ => False) w w') : ∃ q os, w' = grow (w.drewN q) os := by
  refine ⟨w'.drawn - w.drawn, w'.heap.extract w.heap.size w'.heap.size, ?_⟩
  obtain ⟨hp, tp, dr, o, out⟩ := w
  obtain ⟨hp', tp', dr', o', out'⟩ := w'
  obtain ⟨h1, h2, h3, h4, h5, h6⟩ := h
  simp only at h1 h2 h3 h4 h5 h6
  subst h1 h2 h3
  simp only [grow, World.drewN, World.mk.injEq]
  refine ⟨?_, trivial, by omega, trivial, trivial⟩
  apply Array.ext'
  apply List.ext_getElem?
  intro j
  by_cases hj : j < hp.size
  · rw [Array.toList_append, List.getElem?_append_left (by simpa using hj), Array.getElem?_toList, Array.getElem?_toList]
    exact h5 j hj (fun h => h)
  · rw [Array.toList_append, List.getElem?_append_right (by simp; omega), Array.getElem?_toList, Array.getElem?_toList]
    simp only [Array.length_toList, Array.getElem?_extract]
    split
    · rw [show hp.size + (j - hp.size) = j by omega]
    · exact Array.getElem?_eq_none (by omega)
section
variable {α : Type} [Inhabited α] {enc : α → List Value} {k : Nat}
theorem flatK_list (hk : ∀ x, (enc x).length = k) (l : List α) : (flatK enc k l.toArray).toList = l.flatMap enc := by
  have hl : (l.flatMap enc).length = l.length * k := by
    induction l with
    | nil => simp
    | cons x l ih => rw [List.flatMap_cons, List.length_append, hk, ih, List.length_cons, Nat.succ_mul]; omega
  apply List.ext_getElem?
  intro t
  rw [Array.getElem?_toList]
  by_cases ht : t < l.length * k
  · have hk0 : 0 < k := by
      rcases Nat.eq_zero_or_pos k with h | h
      · subst h; simp at ht
      · exact h
    have h1 : t / k < l.length := Nat.div_lt_of_lt_mul (by rw [Nat.mul_comm]; exact ht)
    have h2 := Nat.mod_lt t hk0
    have e1 : (flatK enc k l.toArray)[t]? = some ((enc l[t / k])[t % k]'(by rw [hk]; exact h2)) := by
      rw [Array.getElem?_eq_getElem (by simpa using ht)]
      simp [flatK, h1, hk, h2]
    have e2 : (l.flatMap enc)[t]? = (enc l[t / k])[t % k]? := by
      have : t = t / k * k + t % k := by have := Nat.div_add_mod t k; rw [Nat.mul_comm] at this; omega
      generalize t / k = i at *
      generalize t % k = o at *
      subst this
      clear ht e1 hl
      induction l generalizing i with
      | nil => simp at h1
      | cons x l ih =>
        rw [List.flatMap_cons]
        cases i with
        | zero => rw [List.getElem?_append_left (by rw [hk]; omega)]; simp
        | succ i =>
          rw [List.getElem?_append_right (by rw [hk, Nat.succ_mul]; omega), hk, show (i + 1) * k + o - k = i * k + o by rw [Nat.succ_mul]; omega]
          exact ih i (by simpa using h1)
    rw [e1, e2, List.getElem?_eq_getElem (by rw [hk]; exact h2)]
  · rw [Array.getElem?_eq_none (by simpa using ht), List.getElem?_eq_none (by omega)]
theorem holdsK_of_block {w : World} {g : Nat} {cur : Array Value} {e : TypeId} {l : List α} (hk : ∀ x, (enc x).length = k) (hb : w.heap[g]? = some (.cells cur e (0, 0))) (ht : cur.toList.take (l.length * k) = l.flatMap enc) : HoldsK enc k w g 0 l.toArray := by
  intro j hj
  have hj' : j < l.length * k := by simpa using hj
  refine ⟨?_, by simp [World.frozen?, hb]⟩
  have h1 : (cur.toList.take (l.length * k))[j]? = (flatK enc k l.toArray).toList[j]? := by rw [ht, flatK_list hk]
  rw [List.getElem?_take_of_lt hj'] at h1
  simp only [World.cell?, hb, Nat.zero_add]
  simp only [Option.isSome_none, Bool.false_eq_true, if_false]
  rw [← Array.getElem?_toList, h1, Array.getElem?_toList, Array.getElem?_eq_getElem hj, getElem!_pos _ j hj]; rfl
theorem heap_sortedK {w : World} {g n : Nat} {os : Array Obj} {cur : Array Value} {e : TypeId} {fr : Nat × Nat} (d : Array α) (hb : w.heap[g]? = some (.cells cur e fr)) :
    (sortWorldK enc k w g 0 n d os).heap[g]? = some (.cells (putCells id 0 (flatK enc k d) cur) e fr) := by
  have hg : g < w.heap.size := (Array.getElem?_eq_some_iff.1 hb).1
  unfold sortWorldK putRowK
  rw [heap_grow_old _ _ (by simpa using hg)]
  simp [putRow, mapBlock, Sort.ahead, Array.getElem?_modify, hb, onCells]
theorem modK {w : World} {g n : Nat} {os : Array Obj} (d : Array α) : Mod (fun x => x = g) w (sortWorldK enc k w g 0 n d os) := by
  refine ⟨rfl, rfl, rfl, by simp [sortWorldK, putRowK], fun j hj hne => ?_, Nat.le_add_right _ _⟩
  unfold sortWorldK putRowK
  rw [heap_grow_old _ _ (by simpa using hj)]
  have : g ≠ j := fun e => hne e.symm
  simp [putRow, mapBlock, Sort.ahead, Array.getElem?_modify, this]
theorem take_putCellsK (hk : ∀ x, (enc x).length = k) (cur : Array Value) (l : List α) (h : l.length * k ≤ cur.size) : (putCells id 0 (flatK enc k l.toArray) cur).toList.take (l.length * k) = l.flatMap enc := by
  rw [← flatK_list hk]
  apply List.ext_getElem?
  intro j
  by_cases hj : j < l.length * k
  · have hj2 : j < (flatK enc k l.toArray).size := by simpa using hj
    rw [List.getElem?_take_of_lt hj, Array.getElem?_toList, Array.getElem?_toList, Array.getElem?_eq_getElem hj2]
    simp [putCells, hj, show j < cur.size by omega, hj2]
  · rw [List.getElem?_take_eq_none (by omega), List.getElem?_eq_none (by simp; omega)]
def srtBy (cf : α → α → Int) (l : List α) : List α := (pdq (ltOf cf) l.toArray 0 l.toArray.size (Lib.bitLen l.toArray.size) true true).toList
theorem srtBy_perm {cf : α → α → Int} (hO : SWO (ltOf cf)) (l : List α) : (srtBy cf l).Perm l := by
  have h := (pdq_sorts (ltOf cf) hO l.toArray 0 l.toArray.size (Lib.bitLen l.toArray.size) true true (Nat.zero_le _) (Nat.le_refl _) (Or.inl rfl)).1
  obtain ⟨h1, _, h3⟩ := h
  have e : ∀ d : Array α, d.size = l.toArray.size → (d.extract 0 l.toArray.size).toList = d.toList := fun d hd => by
    rw [← hd]; simp
  rw [e _ h1, e _ rfl] at h3
  exact h3
theorem srtBy_sorted {cf : α → α → Int} (hO : SWO (ltOf cf)) (l : List α) : (srtBy cf l).Pairwise (fun a b => ¬ cf b a < 0) := by
  have hp := srtBy_perm hO l
  have h := pdq_sorts (ltOf cf) hO l.toArray 0 l.toArray.size (Lib.bitLen l.toArray.size) true true (Nat.zero_le _) (Nat.le_refl _) (Or.inl rfl)
  have hs := h.1.1
  refine List.pairwise_iff_getElem.2 (fun i j hi hj hij => ?_)
  have hi' : i < l.toArray.size := by rw [← hs]; simpa [srtBy] using hi
  have hj' : j < l.toArray.size := by rw [← hs]; simpa [srtBy] using hj
  have := h.2 i j (Nat.zero_le _) hij hj'
  unfold srtBy
  rw [getElem!_pos _ j (by rw [hs]; exact hj'), getElem!_pos _ i (by rw [hs]; exact hi')] at this
  intro h2
  exact of_decide_eq_false this h2
theorem sort_con {P : Program} {ρ : Go.Shelf.Ren} {cf : α → α → Int} (L : SlLaysF0.n6 P ρ) (aE : ∀ w, (isAgg (ρ.t 24)).run P w = .ok true w) (zE : ∀ w, (Go.sizeOf (ρ.t 24)).run P w = .ok k w) (hk : ∀ x, (enc x).length = k) (h1 : ∀ x, ∀ v ∈ enc x, v.oneCell' = true)
    (hO : SWO (ltOf cf)) (g : Nat) (eg : ∀ args w, (callFunc g args).run P w = .ok (.enter g args) w)
    (hc : ∀ x y w, Calls P g #[.agg (enc x).toArray, .agg (enc y).toArray] w fun e w' => e = .returned (.int .i64 (cf x y)) ∧ ∃ q os, w' = grow (w.drewN q) os)
    (hnil : ∀ w, Calls P (ρ.f 6) #[.slice none 0 0, .func (.func g) #[] #[]] w fun e w' => e = .returned (.tuple #[]) ∧ Mod (fun _ => False) w w') (T : TypeId) (j : Nat) (l : List α) (hl : l.length < 4611686018427387904) :
    SCon P (ρ.f 6) [.a (.c (.nv j)), SV.raw (.func (.func g) #[] #[])] [(j, lrow j T enc k l)] (.tup []) [(j, lrow j T enc k (srtBy cf l))] [] := by
  intro β w F hs
  have hs1 := Star_one.1 hs
  obtain ⟨hF, hrow⟩ := hs1
  have hlen : (srtBy cf l).length = l.length := (srtBy_perm hO l).length_eq
  have ea : (List.map (SV.den β) [.a (.c (.nv j)), SV.raw (.func (.func g) #[] #[])]).toArray = #[one1 (β j).v, .func (.func g) #[] #[]] := rfl
  rw [ea]
  rcases hrow.2 with ⟨hv, h0⟩ | ⟨g0, cap, cur, hv, _, hgb, r1, r2, r3, r4⟩
  · have hl0 : l = [] := List.eq_nil_of_length_eq_zero h0
    subst hl0
    have e2 : srtBy cf ([] : List α) = [] := List.eq_nil_of_length_eq_zero hlen
    rw [hv]
    refine (hnil w).mono ?_
    rintro e w' ⟨rfl, hm⟩
    refine ⟨β, fun _ _ => rfl, rfl, fun _ => False, Star_one.2 ⟨fun x => ?_, ?_⟩, fun b hb => hb.elim, hm.weaken (fun _ _ h => h.elim)⟩
    · rw [hv]; simp [Value.ownBlock]
    · rw [e2]; exact ⟨by simp, .inl ⟨hv, rfl⟩⟩
  · have hlt : g0 < w.heap.size := (Array.getElem?_eq_some_iff.1 hgb).1
    have hcall := AnyQ.slices_SortFunc_eq L k aE zE enc hk h1 cf hO g #[] g0 0 cap l.toArray w eg (fun m os dk _ x y => hc x y _) (holdsK_of_block hk hgb r4) hlt (by simpa using hl)
    rw [hv]
    refine hcall.mono ?_
    rintro e w' ⟨rfl, n, os, rfl⟩
    have eb : ∀ x, F x ↔ x = g0 := fun x => by rw [hF, hv]; simp [Value.ownBlock, eq_comm]
    refine ⟨β, fun _ _ => rfl, rfl, F, Star_one.2 ⟨hF, ?_⟩, fun b hb => .inl hb, (modK _).weaken (fun b _ hb => (eb b).2 hb)⟩
    refine ⟨by rw [chunk_len hk], .inr ⟨g0, cap, _, by rw [hv, hlen], Nat.zero_le _, heap_sortedK _ hgb, by omega, r2, by simp [putCells, r3], ?_⟩⟩
    rw [hlen]
    have := take_putCellsK hk cur (srtBy cf l) (by rw [hlen, r3]; exact Nat.mul_le_mul_right k r1)
    rw [hlen] at this
    exact this
end
section
variable {P : Program}
theorem spec_ofM (fs0 : FL) (L0 : TL) (N : Nat) {f : FuncId} {fn : Func} {c : Code} {args : List SV} {ti to : List (Nat × Tok)} {ret : SV} {fr : List Nat} (hf : P.funcs[f]? = some fn) (hb : fn.body = some c) (hN : fn.ntmps = N) (h0 : (List.range args.length).zip args = fs0) (h1 : ti.map (fun p => (p.1, some p.2)) = L0)
    (hn : Nat.ble args.length N = true) (hnd : ndB (ti.map (·.1)) = true) (h : ∀ (β : Env) (W : World) (F : Foot), G ⟨W, F, β, N, []⟩ P fs0 L0 c (bodyPostM Fence.wide 0 P fn (Ret F W fr β ret to))) : SCon P f args ti ret to fr := by
  intro β w F hs
  subst h0 h1 hN
  refine (callsIn_wide (n := 0)).1 (callsIn_of_wp_marks hf hb trivial ?_ rfl)
  refine (wpIn_wide (n := 0)).2 ?_
  exact h β w F _ _ (holds_enter hs hn (ndB_spec hnd))
theorem At.mark {W : World} {F0 : Foot} {β0 : Env} {N : Nat} {D : Nat} {fs : FL} {L : TL} {fn : Func} {R : Ending → World → Prop} (hD : lkT L 60 = some (ob D (.deferred (some [])))) (h : At ⟨W, F0, β0, N, []⟩ fs ((60, none) :: L) (bodyPost P fn R .ret)) :
    At ⟨W, F0, β0, N, [{ target := .collected D, args := #[] }]⟩ fs L (bodyPostM Fence.wide 0 P fn R .ret) := by
  intro a w hh
  obtain ⟨β, F, hβ, hfs, hlt, hsz, hd, hs, hF, hM⟩ := hh
  obtain ⟨F1, F2, e1, dj, h1, h2⟩ := hs.take hD
  have hD1 : F1 D := (h1.1 D).2 rfl
  have h3 := h2.loc (w' := w.putObj D (.deferred none)) (fun b hb => World.putObj_heap_other (fun e => dj b ((h1.1 b).2 e) hb))
  obtain ⟨_, v, hv, hR⟩ := h { a with defers := [] } (w.putObj D (.deferred none)) ⟨β, F2, hβ, hfs, hlt, hsz, rfl, h3.congr (fun j => by rw [lkT_cons]), fun b hb => hF b ((e1 b).2 (.inr hb)), hM.trans (putObj_mod (F := fun b => b = D) rfl) (fun k hk => by subst hk; exact hF _ ((e1 _).2 (.inl hD1)))⟩
  show LeavesInM Fence.wide 0 P fn a.tmps R a.defers .returning w
  rw [hd]
  exact ⟨by simp, .inl ⟨D, _, rfl, run_takeDeferred h1.2, v, hv, hR⟩⟩
end
end Go.Proofs.YtpeoalmhccmdiaaGreat.Sx
namespace Go.Proofs.YtpeoalmhccmdiaaGreat
open Go Go.Shelf
def shSort_ren : Go.Shelf.Ren := ⟨fun | 6 => 154 | 15 => 162 | 14 => 161 | 28 => 171 | 29 => 172 | 20 => 163 | 21 => 164 | 22 => 165 | 23 => 166 | 24 => 167 | 25 => 168 | 26 => 169 | 27 => 170 | 46 => 173 | 47 => 174 | 48 => 175 | 49 => 176 | 50 => 177 | 57 => 178 | n => n, fun | 22 => 33 | 24 => 30 | 25 => 145 | 3 => 3 | 39 => 216 | 0 => 0 | 53 => 226 | 55 => 228 | 4 => 4 | 46 => 219 | 45 => 218 | 50 => 223 | 5 => 5 | 9 => 9 | 66 => 229 | 70 => 233 | 76 => 235 | 77 => 236 | n => n, fun | n => n⟩
theorem shSort : Go.Proofs.SlLaysF0.n6 Tryz.prog shSort_ren := {
  mixed := by kernel_rfl
  f6 := ⟨Tryz.f154.name, by decide, Tryz.func154.trans (congrArg some (by kernel_rfl))⟩
  f14 := ⟨Tryz.f161.name, by decide, Tryz.func161.trans (congrArg some (by kernel_rfl))⟩
  f15 := Tryz.func162.trans (congrArg some (by kernel_rfl))
  f20 := ⟨Tryz.f163.name, by decide, Tryz.func163.trans (congrArg some (by kernel_rfl))⟩
  f21 := ⟨Tryz.f164.name, by decide, Tryz.func164.trans (congrArg some (by kernel_rfl))⟩
  f22 := ⟨Tryz.f165.name, by decide, Tryz.func165.trans (congrArg some (by kernel_rfl))⟩
  f23 := ⟨Tryz.f166.name, by decide, Tryz.func166.trans (congrArg some (by kernel_rfl))⟩
  f24 := ⟨Tryz.f167.name, by decide, Tryz.func167.trans (congrArg some (by kernel_rfl))⟩
  f25 := ⟨Tryz.f168.name, by decide, Tryz.func168.trans (congrArg some (by kernel_rfl))⟩
  f26 := ⟨Tryz.f169.name, by decide, Tryz.func169.trans (congrArg some (by kernel_rfl))⟩
  f27 := ⟨Tryz.f170.name, by decide, Tryz.func170.trans (congrArg some (by kernel_rfl))⟩
  f28 := Tryz.func171.trans (congrArg some (by kernel_rfl))
  f29 := Tryz.func172.trans (congrArg some (by kernel_rfl))
  f46 := ⟨Tryz.f173.name, by decide, Tryz.func173.trans (congrArg some (by kernel_rfl))⟩
  f47 := Tryz.func174.trans (congrArg some (by kernel_rfl))
  f48 := Tryz.func175.trans (congrArg some (by kernel_rfl))
  f49 := ⟨Tryz.f176.name, by decide, Tryz.func176.trans (congrArg some (by kernel_rfl))⟩
  f50 := ⟨Tryz.f177.name, by decide, Tryz.func177.trans (congrArg some (by kernel_rfl))⟩
  f57 := ⟨Tryz.f178.name, by decide, Tryz.func178.trans (congrArg some (by kernel_rfl))⟩
  t0 := Tryz.underlying0
  a0 := Tryz.isAgg0
  z0 := Tryz.sizeOf0
  v0 := Tryz.zeroValue0
  t3 := Tryz.underlying3
  a3 := Tryz.isAgg3
  z3 := Tryz.sizeOf3
  v3 := Tryz.zeroValue3
  t4 := Tryz.underlying4
  a4 := Tryz.isAgg4
  z4 := Tryz.sizeOf4
  v4 := Tryz.zeroValue4
  t5 := Tryz.underlying5
  a5 := Tryz.isAgg5
  z5 := Tryz.sizeOf5
  v5 := Tryz.zeroValue5
  t9 := Tryz.underlying9
  a9 := Tryz.isAgg9
  z9 := Tryz.sizeOf9
  v9 := Tryz.zeroValue9
  t22 := Tryz.underlying33
  a22 := Tryz.isAgg33
  z22 := Tryz.sizeOf33
  v22 := Tryz.zeroValue33
  t25 := Tryz.underlying145
  a25 := Tryz.isAgg145
  z25 := Tryz.sizeOf145
  v25 := Tryz.zeroValue145
  t39 := Tryz.underlying216
  a39 := Tryz.isAgg216
  z39 := Tryz.sizeOf216
  v39 := Tryz.zeroValue216
  t45 := Tryz.underlying218
  a45 := Tryz.isAgg218
  z45 := Tryz.sizeOf218
  v45 := Tryz.zeroValue218
  t46 := Tryz.underlying219
  a46 := Tryz.isAgg219
  z46 := Tryz.sizeOf219
  v46 := Tryz.zeroValue219
  t50 := Tryz.underlying223
  a50 := Tryz.isAgg223
  z50 := Tryz.sizeOf223
  v50 := Tryz.zeroValue223
  t53 := Tryz.underlying226
  a53 := Tryz.isAgg226
  z53 := Tryz.sizeOf226
  v53 := Tryz.zeroValue226
  t55 := Tryz.underlying228
  a55 := Tryz.isAgg228
  z55 := Tryz.sizeOf228
  v55 := Tryz.zeroValue228
  t66 := Tryz.underlying229
  a66 := Tryz.isAgg229
  z66 := Tryz.sizeOf229
  v66 := Tryz.zeroValue229
  t70 := Tryz.underlying233
  a70 := Tryz.isAgg233
  z70 := Tryz.sizeOf233
  v70 := Tryz.zeroValue233
  t76 := Tryz.underlying235
  a76 := Tryz.isAgg235
  z76 := Tryz.sizeOf235
  v76 := Tryz.zeroValue235
  t77 := Tryz.underlying236
  a77 := Tryz.isAgg236
  z77 := Tryz.sizeOf236
  v77 := Tryz.zeroValue236 }
end Go.Proofs.YtpeoalmhccmdiaaGreat
namespace Go.Proofs.YtpeoalmhccmdiaaGreat
open Go Go.Sort Go.Lib Go.Proofs.YtpeoalmhccmdiaaGreat.Sx
theorem isgnL {a b : TItem} : isgn a b < 0 ↔ ilt a b := by
  unfold isgn
  split
  · rename_i h; exact ⟨fun _ => h, fun _ => by decide⟩
  · rename_i h; split
    · exact ⟨fun h2 => absurd h2 (by decide), fun h2 => absurd h2 h⟩
    · exact ⟨fun h2 => absurd h2 (by decide), fun h2 => absurd h2 h⟩
theorem itW {i : Nat} (h : i < 4611686018427387904) : w64 ((i : Int) + 1) = ((i + 1 : Nat) : Int) := by simp only [w64, IntKind.wrap_i64]; omega
theorem itS {α : Type} {l : List α} {i : Nat} {x : α} (h : l[i]? = some x) : l.take (i + 1) = l.take i ++ [x] := by rw [List.take_add_one, h]; rfl
theorem vals_it {S : Foot} {W0 : World} {s0 : Value} {b0 o0 : Nat} {l0 : List TItem} (hI : LAt S W0 s0 b0 o0 eTItem 2 l0) (hl : l0.length < 4611686018427387904) (l : Nat) (J : Nat → Res) (β0 : Env) (hy : ∀ i x, l0[i]? = some x → Yld Tryz.prog l ((SV.agg [.i x.key, .i x.id]).den β0) (J i) (J (i + 1))) :
    SCon Tryz.prog 155 [SV.raw (.func (.yield l) #[] #[]), SV.p 1 0] [(18, jt (J 0)), (0, rd S W0), (1, blk 1 [.v s0] 33)] (.tup []) [(18, jt (J l0.length)), (0, rd S W0), (1, blk 1 [.v s0] 33)] [] := by
  refine spec_of [(0, _), (1, _)] [(18, _), (0, _), (1, _)] 16 Tryz.func155 rfl Tryz.ntmps155 rfl rfl rfl rfl (fun β W F => ?_)
  refine G.seq <| G.rg <| K.load1 Y g0 rfl rfl t33 rfl rfl <| K.lenL (rV 0 S W0 s0 b0 o0 eTItem 2 l0) (hI.is 0) g0 rfl rfl Tryz.underlying33 rfl <| K.mv rfl rfl <| K.nil <| At.next <| G.block <| G.lp (σ := { i : Nat // i ≤ l0.length }) (fun q => [(0, SV.raw (.func (.yield l) #[] #[])), (5, SV.raw s0), (6, SV.i (l0.length : Int)), (7, SV.i (q.1 : Int))]) (fun q => [(18, jt (J q.1)), (0, rd S W0), (1, blk 1 [.v s0] 33)]) (fun q => l0.length - q.1) ⟨0, Nat.zero_le _⟩ ?_ ?_
  · exact At.into [] [_, _, _] rfl ⟨rfl, rfl, rfl, rfl, trivial⟩ ⟨rfl, (fun _ => rfl), rfl, (fun _ => rfl), rfl, (blk_ren rfl rfl), trivial⟩ rfl
  · rintro ⟨i, hi⟩
    show G _ _ [(0, SV.raw (.func (.yield l) #[] #[])), (5, SV.raw s0), (6, SV.i (l0.length : Int)), (7, SV.i (i : Int))] [(18, some (jt (J i))), (0, some (rd S W0)), (1, some (blk 1 [.v s0] 33))] _ _
    refine G.seq <| G.rg <| K.bin (V := .bool (decide ((i : Int) < (l0.length : Int)))) g0 rfl rfl (fun _ => rfl) rfl <| K.nil <| At.next <| G.seq <| G.cond rfl (fun h1 => ?_) (fun h1 => ?_)
    · have hlt : i < l0.length := by have := of_decide_eq_true h1; omega
      obtain ⟨x, hx⟩ : ∃ x, l0[i]? = some x := ⟨_, List.getElem?_eq_getElem hlt⟩
      refine G.skip <| At.next <| G.seq <| G.block <| G.seq <| G.rg <| K.idxL (rV 0 S W0 s0 b0 o0 eTItem 2 l0) i (hI.is 0) hx rfl g0 rfl rfl rfl Tryz.underlying33 el33.size_run rfl <| K.loadSL Y (rV 0 S W0 s0 b0 o0 eTItem 2 l0) i 0 [_, _] [_, _] (hI.is 0) hx g0 rfl rfl t30 rfl rfl rfl rfl rfl <| K.alloc Y 100 _ g0 t30 rfl rfl rfl rfl rfl <| K.store Y _ g0 rfl rfl rfl t30 rfl rfl rfl rfl rfl <| K.nil <| At.next <| G.seq ?_
      refine G.regionY (l1 := [_, _]) (l2 := [_]) (fun ops => K.mv rfl rfl <| K.loadS Y _ g0 rfl rfl t30 rfl rfl rfl <| K.nil ?_) rfl rfl
      refine ⟨_, 18, SV.agg [.i x.key, .i x.id], J i, J (i + 1), rfl, rfl, rfl, rfl, hy i x hx, rfl, fun ops => K.un (V := .bool false) g0 rfl (fun _ => rfl) rfl <| K.nil <| At.next <| G.cond rfl (fun h => by cases h) (fun _ => G.skip <| At.block_normal <| At.next <| G.rg <| K.bin (V := .int .i64 ((i + 1 : Nat) : Int)) g0 rfl rfl (fun _ => by rw [← itW (by omega)]; rfl) rfl <| K.mv rfl rfl <| K.nil <| At.ag ⟨i + 1, hlt⟩ [] [_, _, _] (by show l0.length - (i + 1) < l0.length - i; omega) rfl ⟨rfl, rfl, rfl, rfl, trivial⟩ ⟨rfl, (fun _ => rfl), rfl, (fun _ => rfl), rfl, (blk_ren rfl rfl), trivial⟩ rfl)⟩
    · have he : i = l0.length := by have := of_decide_eq_false h1; omega
      subst he
      exact G.exit <| At.over_exit <| At.over_exit <| At.block_hit <| At.dn Y [] rfl rfl rfl rfl rfl rfl rfl
theorem appendSeq_con {S : Foot} {W0 : World} {s0 : Value} {b0 o0 : Nat} {l0 : List TItem} (hI : LAt S W0 s0 b0 o0 eTItem 2 l0) (hl : l0.length + 1 < 4294967296) :
    SCon Tryz.prog 160 [SV.raw (.slice none 0 0), .a (.c (.fn (.func 155) [1]))] [(0, rd S W0), (1, blk 1 [.v s0] 33)] (.a (.c (.nv 30))) [(0, rd S W0), (1, blk 1 [.v s0] 33), (30, lrow 30 30 eTItem 2 l0)] [30] := by
  refine spec_ofM [(0, _), (1, _)] [(0, _), (1, _)] 13 Tryz.func160 rfl Tryz.ntmps160 rfl rfl rfl rfl (fun β W F => ?_)
  refine G.seq <| G.rg <| K.box Y 100 _ g0 rfl rfl rfl rfl rfl rfl <| K.as rfl rfl <| K.nil <| At.nilBlk (n := 100) (l' := [_]) 0 101 30 eTItem 2 rfl rfl rfl rfl rfl <| At.next <| G.seq <| G.seq <| G.rg <| K.mv rfl rfl <| K.nil <| At.next <| G.block ?_
  refine G.rangeF (fs0 := [(2, SV.p 2 0), (6, .a (.c (.fn (.func 155) [1])))]) (f := 155) (ks := [1]) l0 (fun x => SV.agg [.i x.key, .i x.id]) (fun i => [(2, blk 2 [.nv 23] 33), (23, lrow 23 30 eTItem 2 (l0.take i))]) [(0, rd S W0), (1, blk 1 [.v s0] 33)] rfl rfl (cf 155 rfl)
    [(2, 100), (23, 101)] [_, _, _, _] ⟨rfl, rfl, trivial⟩ ⟨rfl, (blk_ren rfl rfl), rfl, (lrow_ren rfl), rfl, (fun _ => rfl), rfl, (blk_ren rfl rfl), trivial⟩ rfl rfl rfl rfl (fun _ => rfl) rfl (fun _ => rfl)
    (fun l J β1 hy => vals_it hI (by omega) l J β1 hy) (fun i x hx => ?_)
    [(100, 2), (101, 23), (0, 0), (1, 1)] [(100, blk 100 [.nv 101] 33), (101, lrow 101 30 eTItem 2 (l0.take l0.length)), (0, rd S W0), (1, blk 1 [.v s0] 33)] [_, _, _, _]
    ⟨rfl, (blk_ren rfl rfl), rfl, (lrow_ren rfl), rfl, (fun _ => rfl), rfl, (blk_ren rfl rfl), trivial⟩ rfl rfl rfl rfl rfl (fun D => ?_)
  · show RoundOk _ _ _ _ _ _ _ [(2, blk 2 [.nv 23] 33), (23, lrow 23 30 eTItem 2 (l0.take i))] [(2, blk 2 [.nv 23] 33), (23, lrow 23 30 eTItem 2 (l0.take (i + 1)))]
    have hlt := (List.getElem?_eq_some_iff.1 hx).1
    have hle : (l0.take i).length + 1 < 4294967296 := by rw [List.length_take]; omega
    rw [itS hx]
    intro C l D r hn hr hp
    refine GR.rg rfl <| K.alloc Y 102 _ g0 t30 rfl rfl rfl rfl (by rw [hn]; rfl) <| K.store Y _ g0 rfl rfl rfl t30 rfl rfl rfl rfl rfl <| K.nil <| At.begin rfl hr <| GR.block <| GR.rg rfl <| K.load1 Y g0 rfl rfl t33 rfl (by rw [hn]; rfl) <| K.loadS Y _ g0 rfl rfl t30 rfl rfl (by rw [hn]; rfl) <| K.buildL Y 103 ([x] : List TItem) [(0, _)] [((.tmp 9), _)] eTItem_len g0 (AllE.spec ⟨rfl, trivial⟩) rfl rfl Tryz.underlying33 t30 rfl rfl rfl rfl rfl rfl rfl (by rw [hn]; rfl) <| K.appendL 104 (lrowV 103 30 eTItem 2 ([x] : List TItem)) _ el33 (lrowV_is eTItem_len (by decide)) eTItem_one g0 rfl rfl rfl rfl rfl (ap_m hle) (ap_b hle (by decide)) rfl rfl rfl rfl rfl (by rw [hn]; rfl) <| K.store Y _ g0 rfl rfl rfl t33 rfl rfl rfl rfl rfl <| K.nil <| At.block_normal ?_
    exact At.er [(23, 104)] [_, _] rfl rfl hr hp rfl ⟨rfl, (blk_ren rfl rfl), rfl, (lrow_ren rfl), trivial⟩ rfl
  · rw [List.take_length]
    refine At.block_normal <| At.next <| G.seq <| G.rg <| K.load1 Y g0 rfl rfl t33 rfl rfl <| K.as rfl rfl <| K.nil <| At.next <| G.ret <| At.mark rfl <| At.ren (fs' := [(4, .a (.c (.nv 30)))]) (tl := [(0, rd S W0), (1, blk 1 [.v s0] 33), (30, lrow 30 30 eTItem 2 l0)]) [(30, 101)] [_, _, _] rfl ⟨rfl, trivial⟩ ⟨rfl, (fun _ => rfl), rfl, (blk_ren rfl rfl), rfl, (lrow_ren rfl), trivial⟩ rfl <| At.dr Y [4] rfl rfl (by rfl) (by rfl) rfl rfl rfl
theorem collect_con {S : Foot} {W0 : World} {s0 : Value} {b0 o0 : Nat} {l0 : List TItem} (hI : LAt S W0 s0 b0 o0 eTItem 2 l0) (hl : l0.length + 1 < 4294967296) :
    SCon Tryz.prog 153 [.a (.c (.fn (.func 155) [1]))] [(0, rd S W0), (1, blk 1 [.v s0] 33)] (.a (.c (.nv 30))) [(0, rd S W0), (1, blk 1 [.v s0] 33), (30, lrow 30 30 eTItem 2 l0)] [30] := by
  refine spec_of [(0, _)] [(0, _), (1, _)] 5 Tryz.func153 rfl Tryz.ntmps153 rfl rfl rfl rfl (fun β W F => ?_)
  exact G.seq <| G.rg <| K.as rfl rfl <| K.nil <| At.next <| G.seq <| G.rg <| K.mv rfl rfl <| K.c0 (cf 160 rfl) (appendSeq_con hI hl) g0 rfl rfl rfl rfl <| K.as rfl rfl <| K.nil <| At.next <| G.ret <| At.dr Y [2] rfl rfl (by rfl) (by rfl) rfl rfl rfl
theorem insNil_con : SCon Tryz.prog 163 [SV.raw (.slice none 0 0), SV.i 0, SV.i 0, SV.raw (.func (.func 89) #[] #[])] [] (.tup []) [] [] := by
  refine spec_of [(0, _), (1, _), (2, _), (3, _)] [] 53 Tryz.func163 rfl Tryz.ntmps163 rfl rfl rfl rfl (fun β W F => ?_)
  refine G.seq <| G.rg <| K.mv rfl rfl <| K.bin (V := .int .i64 (w64 (0 + 1))) g0 rfl rfl (fun _ => rfl) rfl <| K.as rfl rfl <| K.nil <| At.next <| G.block <| G.lp (σ := Unit) (fun _ => [(2, SV.i 0), (8, SV.i (w64 (0 + 1)))]) (fun _ => []) (fun _ => 0) () (At.into [] [] rfl ⟨rfl, rfl, trivial⟩ trivial rfl) (fun _ => ?_)
  show G _ _ [(2, SV.i 0), (8, SV.i (w64 (0 + 1)))] [] _ _
  exact G.seq <| G.seq <| G.rg <| K.mv rfl rfl <| K.mv rfl rfl <| K.bin (V := .bool (decide (w64 (0 + 1) < 0))) g0 rfl rfl (fun _ => rfl) rfl <| K.nil <| At.next <| G.cond rfl (fun h => absurd h (by decide)) (fun _ => G.exit <| At.over_exit <| At.over_exit <| At.block_hit <| At.dn Y [] rfl rfl rfl rfl rfl rfl rfl)
theorem pdqNil_con : SCon Tryz.prog 161 [SV.raw (.slice none 0 0), SV.i 0, SV.i 0, SV.i 0, SV.raw (.func (.func 89) #[] #[])] [] (.tup []) [] [] := by
  refine spec_of [(0, _), (1, _), (2, _), (3, _), (4, _)] [] 148 Tryz.func161 rfl Tryz.ntmps161 rfl rfl rfl rfl (fun β W F => ?_)
  refine G.seq <| G.rg <| K.as rfl rfl <| K.nil <| At.next <| G.seq <| G.rg <| K.as rfl rfl <| K.nil <| At.next <| G.block <| G.lp (σ := Unit) (fun _ => [(0, SV.raw (.slice none 0 0)), (1, SV.i 0), (2, SV.i 0), (4, SV.raw (.func (.func 89) #[] #[]))]) (fun _ => []) (fun _ => 0) () (At.into [] [] rfl ⟨rfl, rfl, rfl, rfl, trivial⟩ trivial rfl) (fun _ => ?_)
  show G _ _ [(0, SV.raw (.slice none 0 0)), (1, SV.i 0), (2, SV.i 0), (4, SV.raw (.func (.func 89) #[] #[]))] [] _ _
  refine G.block <| G.seq <| G.rg <| K.mv rfl rfl <| K.mv rfl rfl <| K.bin (V := .int .i64 (w64 (0 - 0))) g0 rfl rfl (fun _ => rfl) rfl <| K.as rfl rfl <| K.nil <| At.next <| G.seq <| G.seq <| G.rg <| K.mv rfl rfl <| K.bin (V := .bool (decide (w64 (0 - 0) ≤ 12))) g0 rfl rfl (fun _ => rfl) rfl <| K.nil <| At.next <| G.cond rfl (fun _ => ?_) (fun h => absurd h (by decide))
  exact G.seq <| G.rg <| K.mv rfl rfl <| K.mv rfl rfl <| K.mv rfl rfl <| K.mv rfl rfl <| K.cR (cf 163 rfl) insNil_con g0 rfl rfl rfl rfl <| K.nil <| At.next <| G.ret <| At.over_ret <| At.block_ret <| At.over_ret <| At.block_ret <| At.dr Y [] rfl rfl (by rfl) (by rfl) rfl rfl rfl
theorem len0_con : SCon Tryz.prog 162 [.a (.c (.v (.int .u64 0)))] [] (SV.i 0) [] [] := by
  intro β w F hs
  have h := Any.bits_Len (SlLaysF0.n15.bits (P := Tryz.prog) (ρ := shSort_ren) { shSort with }) (0 : Int) w (by decide) (by decide)
  refine Calls.mono h ?_
  rintro e w' ⟨rfl, rfl⟩
  exact ⟨β, fun _ _ => rfl, rfl, F, hs, fun b hb => .inl hb, Mod.refl _ _⟩
theorem sortNil_con : SCon Tryz.prog 154 [SV.raw (.slice none 0 0), SV.raw (.func (.func 89) #[] #[])] [] (.tup []) [] [] := by
  refine spec_of [(0, _), (1, _)] [] 14 Tryz.func154 rfl Tryz.ntmps154 rfl rfl rfl rfl (fun β W F => ?_)
  exact G.seq <| G.rg <| K.mv rfl rfl <| K.bi1 (X := SV.raw (.slice none 0 0)) (V := .int .i64 0) g0 rfl (fun _ _ w => lenS Tryz.underlying33 _ w) rfl <| K.as rfl rfl <| K.nil <| At.next <| G.rg <| K.mv rfl rfl <| K.mv rfl rfl <| K.mv rfl rfl <| K.conv (V := .int .u64 0) g0 rfl (cv_int (by rw [Tryz.underlying3]; rfl) Tryz.underlying216) rfl <| K.cR (cf 162 rfl) len0_con g0 rfl rfl rfl rfl <| K.mv rfl rfl <| K.cR (cf 161 rfl) pdqNil_con g0 rfl rfl rfl rfl <| K.nil <| At.dn Y [] rfl rfl rfl rfl rfl rfl rfl
instance : Inhabited TItem := ⟨zTItem⟩
theorem swoI : SWO (ltOf isgn) where
  irrefl x := by unfold ltOf; exact decide_eq_false (fun h => ilt_irrefl x (isgnL.1 h))
  trans x y z h1 h2 := by
    unfold ltOf at *
    have a := isgnL.1 (of_decide_eq_true h1); have b := isgnL.1 (of_decide_eq_true h2)
    exact decide_eq_true (isgnL.2 (ilt_trans_le a (ilt_ile b)))
  ntrans x y z h1 h2 := by
    unfold ltOf at *
    have a := not_ilt.1 (fun h => of_decide_eq_false h1 (isgnL.2 h)); have b := not_ilt.1 (fun h => of_decide_eq_false h2 (isgnL.2 h))
    exact decide_eq_false (fun h => not_ilt.2 (ile_trans b a) (isgnL.1 h))
theorem sort_item (j : Nat) (l : List TItem) (hl : l.length < 4611686018427387904) : SCon Tryz.prog 154 [.a (.c (.nv j)), SV.raw (.func (.func 89) #[] #[])] [(j, lrow j 30 eTItem 2 l)] (.tup []) [(j, lrow j 30 eTItem 2 (srtBy isgn l))] [] := by
  refine sort_con (ρ := shSort_ren) (k := 2) shSort Tryz.isAgg30 Tryz.sizeOf30 (fun _ => rfl) (fun x v hv => by simp [eTItem] at hv; rcases hv with rfl | rfl <;> rfl) swoI 89 (fun args w => callFunc_run (cf 89 rfl) args w) (fun x y w => ?_) (fun w => ?_) 30 j l hl
  · have h := item_Compare_con (k := 1000001) (itemCompare_eq 1000001 (by decide) x y) (fun _ => ⟨0, .bool false⟩) w (fun _ => False) (fun _ h => h)
    refine Calls.mono h ?_
    rintro e w' ⟨β', _, rfl, F', _, _, hm⟩
    exact ⟨rfl, mod_grow hm⟩
  · have h := sortNil_con (fun _ => ⟨0, .bool false⟩) w (fun _ => False) (fun _ h => h)
    refine Calls.mono h ?_
    rintro e w' ⟨β', _, rfl, F', _, _, hm⟩
    exact ⟨rfl, hm⟩
theorem sorted_con0 {S : Foot} {W0 : World} {s0 : Value} {b0 o0 : Nat} {l0 : List TItem} (hI : LAt S W0 s0 b0 o0 eTItem 2 l0) (hl : l0.length + 1 < 4294967296) :
    SCon Tryz.prog 141 [.a (.c (.fn (.func 155) [1])), SV.raw (.func (.func 89) #[] #[])] [(0, rd S W0), (1, blk 1 [.v s0] 33)] (.a (.c (.nv 30))) [(0, rd S W0), (1, blk 1 [.v s0] 33), (30, lrow 30 30 eTItem 2 (srtBy isgn l0))] [30] := by
  refine spec_of [(0, _), (1, _)] [(0, _), (1, _)] 12 Tryz.func141 rfl Tryz.ntmps141 rfl rfl rfl rfl (fun β W F => ?_)
  exact G.seq <| G.rg <| K.as rfl rfl <| K.nil <| At.next <| G.seq <| G.rg <| K.mv rfl rfl <| K.c0 (cf 153 rfl) (collect_con hI hl) g0 rfl rfl rfl rfl <| K.as rfl rfl <| K.nil <| At.next <| G.seq <| G.rg <| K.mv rfl rfl <| K.mv rfl rfl <| K.c0 (cf 154 rfl) (sort_item 30 l0 (by omega)) g0 rfl rfl rfl rfl <| K.nil <| At.next <| G.seq <| G.rg <| K.mv rfl rfl <| K.as rfl rfl <| K.nil <| At.next <| G.ret <| At.dr Y [4] rfl rfl (by rfl) (by rfl) rfl rfl rfl
theorem values_con {s0 : Value} (h1 : s0.oneCell' = true) : SCon Tryz.prog 142 [SV.raw s0] [] (.a (.c (.fn (.func 155) [50]))) [(50, blk 50 [.v s0] 33)] [50] := by
  refine spec_of [(0, _)] [] 4 Tryz.func142 rfl Tryz.ntmps142 rfl rfl rfl rfl (fun β W F => ?_)
  exact G.seq <| G.rg <| K.box Y 50 _ g0 rfl rfl (by show (s0.oneCell' && true) = true; rw [h1]; rfl) rfl rfl rfl <| K.as rfl rfl <| K.nil <| At.next <| G.seq <| G.rg <| K.mkFn1 g0 rfl rfl <| K.as rfl rfl <| K.nil <| At.next <| G.ret <| At.dr Y [2] rfl rfl (by rfl) (by rfl) rfl rfl rfl
def item_Sorted.f (k : Nat) (l0 : List TItem) : Option (List TItem) := bif decide (l0.length + 1 < 4294967296) then some (srtBy isgn l0) else none
abbrev item_Sorted_st (S : Foot) (W0 : World) (s0 : Value) (r : List TItem) (m30 : Nat) : Prop := SCon Tryz.prog 115 [SV.raw s0] [(0, rd S W0)] (.a (.c (.nv m30))) [(0, rd S W0), (m30, lrow m30 30 eTItem 2 r)] [m30]
theorem item_Sorted_con0 {k : Nat} {S : Foot} {W0 : World} {s0 : Value} {l0 : List TItem} {r : List TItem} (hL0 : LArg S W0 s0 eTItem 2 l0) (H0 : item_Sorted.f k l0 = some r) : item_Sorted_st S W0 s0 r 30 := by
  obtain ⟨hl, H0⟩ := grd H0
  cases H0
  obtain ⟨b0, o0, hI0⟩ := hL0
  obtain ⟨ao, cap, hE, _⟩ := id hI0.sl
  have h1 : s0.oneCell' = true := by rw [hE]; rfl
  refine spec_of [(0, _)] [(0, _)] 6 Tryz.func115 rfl Tryz.ntmps115 rfl rfl rfl rfl (fun β W F => ?_)
  have hs : SCon Tryz.prog 141 [.a (.c (.fn (.func 155) [50])), SV.raw (.func (.func 89) #[] #[])] [(0, rd S W0), (50, blk 50 [.v s0] 33)] (.a (.c (.nv 30))) [(0, rd S W0), (50, blk 50 [.v s0] 33), (30, lrow 30 30 eTItem 2 (srtBy isgn l0))] [30] := SCon.ren (rn [(0, 0), (1, 50), (30, 30)]) (sorted_con0 hI0 hl) ⟨(fun _ => rfl), (blk_ren rfl rfl), trivial⟩ ⟨(fun _ => rfl), (blk_ren rfl rfl), (lrow_ren rfl), trivial⟩ (rn_nd rfl rfl rfl) (rn_ks rfl rfl rfl rfl)
  exact G.seq <| G.rg <| K.as rfl rfl <| K.nil <| At.next <| G.seq <| G.rg <| K.mv rfl rfl <| K.c0 (cf 142 rfl) (values_con h1) g0 rfl rfl rfl rfl <| K.c0 (cf 141 rfl) hs g0 rfl rfl rfl rfl <| K.as rfl rfl <| K.nil <| At.next <| G.ret <| At.dr Y [2] rfl rfl (by rfl) (by rfl) rfl rfl rfl
theorem item_Sorted_con {k : Nat} {S : Foot} {W0 : World} {s0 : Value} {l0 : List TItem} {r : List TItem} (hL0 : LArg S W0 s0 eTItem 2 l0) (H0 : item_Sorted.f k l0 = some r) (m30 : Nat) (hd : ndB [m30] = true) : item_Sorted_st S W0 s0 r m30 :=
  SCon.ren (rn [(30, m30)]) (item_Sorted_con0 (k := k) hL0 H0) ⟨(fun _ => rfl), trivial⟩ ⟨(fun _ => rfl), (lrow_ren rfl), trivial⟩ (rn_nd hd rfl rfl) (rn_ks hd rfl rfl rfl)
end Go.Proofs.YtpeoalmhccmdiaaGreat
namespace Go.Proofs.YtpeoalmhccmdiaaGreat
open Go Go.Proofs.YtpeoalmhccmdiaaGreat.Sx
structure THp where
  q : Nat
  c : Nat
def hA (A : List (Nat → Nat)) (e : THp) : Nat := A.getD e.q (fun _ => 0) e.c
def hTree (Q : List TQueue) (e : THp) : Option (TS TSlot TSize) := (Q[e.q]?).bind fun q => match e.c with
  | 4 => some q.present
  | 6 => some q.gone
  | _ => none
def hQueue (Q : List TQueue) (e : THp) : Option TQueue := if e.c = 1 then Q[e.q]? else none
structure TPart where
  shelf : THp
  floor : TTook
def eTPart (A : List (Nat → Nat)) (x : TPart) : List Value := [ptr (hA A x.shelf) 0, .bool x.floor.found, .int .i64 x.floor.item.key, .int .i64 x.floor.item.id]
theorem eTPart_len (A : List (Nat → Nat)) : ∀ x, (eTPart A x).length = 4 := fun _ => rfl
theorem eTPart_one (A : List (Nat → Nat)) : ∀ x, (eTPart A x).all Value.oneCell' = true := fun _ => rfl
def partsIn (n : Nat) (l : List TPart) : Bool := l.all fun x => decide (x.shelf.q < n)
structure TViews where
  parts : List TPart
def shelf_Above.f (k : Nat) (p1 : Pool (TNode TSlot TSize)) (rt0 : TRef) (a1 : TItem) : Option (Int) := (Tree_Len.f opsS k p1 rt0).bind fun x1 => (shelf_Of.f k a1).bind fun x2 => (Tree_Rank.f opsS k p1 rt0 x2).bind fun x3 => (shelf_Of.f k a1).bind fun x4 => (Tree_Find.f opsS k p1 rt0 x4).bind fun x5 => bif x5.2 then (some (w64 ((w64 (x1 - x3)) - 1))) else (some (w64 (x1 - x3)))
def fuse_part_ahead.f (k : Nat) (Q : List TQueue) (a0 : TPart) : Option (Int) := bif (!a0.floor.found) then (some 0) else ((hTree Q a0.shelf).bind fun x1 => (Tree_Len.f opsS k x1.p x1.r).bind fun x2 => (hTree Q a0.shelf).bind fun x3 => (shelf_Above.f k x3.p x3.r a0.floor.item).bind fun x4 => some (w64 (x2 - x4)))
def fuse_part_size.f (k : Nat) (Q : List TQueue) (a0 : TPart) : Option (Int) := (hTree Q a0.shelf).bind fun x1 => (Tree_Len.f opsS k x1.p x1.r).bind fun x2 => (fuse_part_ahead.f k Q a0).bind fun x3 => some (w64 (x2 - x3))
def fuse_part_rank.f (k : Nat) (Q : List TQueue) (a0 : TPart) (a1 : TItem) : Option (Int) := (shelf_Of.f k a1).bind fun x1 => (hTree Q a0.shelf).bind fun x2 => (Tree_Rank.f opsS k x2.p x2.r x1).bind fun x3 => (fuse_part_ahead.f k Q a0).bind fun x4 => some (gmax 0 (w64 (x3 - x4)))
def fuse_Views_Len.l0 (k : Nat) (Q : List TQueue) (a0 : TViews) : Nat → (Int × Int) → Option (Int)
  | 0, _ => none
  | n + 1, (v1, v2) => bif (decide (v2 < (a0.parts.length : Int))) then ((atL a0.parts v2).bind fun x2 => (fuse_part_size.f k Q x2).bind fun x3 => fuse_Views_Len.l0 k Q a0 n ((w64 (v1 + x3)), (w64 (v2 + 1)))) else (some v1)
def fuse_Views_Len.f (k : Nat) (Q : List TQueue) (a0 : TViews) : Option (Int) := (fuse_Views_Len.l0 k Q a0 k (0, 0)).bind fun x1 => some x1
def fuse_Views_rank.l0 (k : Nat) (Q : List TQueue) (a0 : TViews) (a1 : TItem) : Nat → (Int × Int) → Option (Int)
  | 0, _ => none
  | n + 1, (v1, v2) => bif (decide (v2 < (a0.parts.length : Int))) then ((atL a0.parts v2).bind fun x2 => (fuse_part_rank.f k Q x2 a1).bind fun x3 => fuse_Views_rank.l0 k Q a0 a1 n ((w64 (v1 + x3)), (w64 (v2 + 1)))) else (some v1)
def fuse_Views_rank.f (k : Nat) (Q : List TQueue) (a0 : TViews) (a1 : TItem) : Option (Int) := (fuse_Views_rank.l0 k Q a0 a1 k (0, 0)).bind fun x1 => some x1
def Tree_At.l0 {E A : Type} (O : Ops E A) (k : Nat) (p1 : Pool (TNode E A)) : Nat → (Int × TRef) → Option (Sum (E × Bool) (Unit))
  | 0, _ => none
  | n + 1, (v1, v2) => bif (v2.gen != 0) then ((Tree_get.f O k p1 v2).bind fun x2 => (Tree_get.f O k p1 x2.left).bind fun x3 => bif (v1 == x3.size) then (some (Sum.inl (x2.e, true))) else (bif (decide (v1 < x3.size)) then (Tree_At.l0 O k p1 n (v1, x2.left)) else (Tree_At.l0 O k p1 n ((w64 (v1 - (w64 (x3.size + 1)))), x2.right)))) else (some (Sum.inr ()))
def Tree_At.f {E A : Type} (O : Ops E A) (k : Nat) (p1 : Pool (TNode E A)) (rt0 : TRef) (a1 : Int) : Option (E × Bool) := bif (decide (a1 < 0)) then (some (O.zE, false)) else ((Tree_At.l0 O k p1 k (a1, rt0)).bind (Sum.elim (fun r => some r) (fun w1 => some (O.zE, false))))
def fuse_Views_within.l0 (k : Nat) (Q : List TQueue) (a0 : TViews) (a1 : TPart) (a2 : Int) : Nat → (Int × Int) → Option (Sum (TItem × Bool) (Unit))
  | 0, _ => none
  | n + 1, (v1, v2) => bif (decide (v1 < v2)) then ((hTree Q a1.shelf).bind fun x5 => (Tree_At.f opsS k x5.p x5.r (w64 ((w64 (v1 + v2)).tdiv 2))).bind fun x6 => (fuse_Views_rank.f k Q a0 x6.1.item).bind fun x7 => bif (x7 == a2) then (some (Sum.inl (x6.1.item, true))) else (bif (decide (x7 < a2)) then (fuse_Views_within.l0 k Q a0 a1 a2 n ((w64 ((w64 ((w64 (v1 + v2)).tdiv 2)) + 1)), v2)) else (fuse_Views_within.l0 k Q a0 a1 a2 n (v1, (w64 ((w64 (v1 + v2)).tdiv 2)))))) else (some (Sum.inr ()))
def fuse_Views_within.f (k : Nat) (Q : List TQueue) (a0 : TViews) (a1 : TPart) (a2 : Int) : Option (TItem × Bool) := (fuse_part_ahead.f k Q a1).bind fun x1 => (hTree Q a1.shelf).bind fun x2 => (Tree_Len.f opsS k x2.p x2.r).bind fun x3 => (fuse_Views_within.l0 k Q a0 a1 a2 k (x1, x3)).bind (Sum.elim (fun r => some r) (fun w4 => some (zTItem, false)))
def fuse_Views_At.l0 (k : Nat) (Q : List TQueue) (a0 : TViews) (a1 : Int) : Nat → Int → Option (Sum (TItem × Bool) (Unit))
  | 0, _ => none
  | n + 1, v1 => bif (decide (v1 < (a0.parts.length : Int))) then ((atL a0.parts v1).bind fun x2 => (fuse_Views_within.f k Q a0 x2 a1).bind fun x3 => bif x3.2 then (some (Sum.inl (x3.1, true))) else (fuse_Views_At.l0 k Q a0 a1 n (w64 (v1 + 1)))) else (some (Sum.inr ()))
def fuse_Views_At.f (k : Nat) (Q : List TQueue) (a0 : TViews) (a1 : Int) : Option (TItem × Bool) := (fuse_Views_At.l0 k Q a0 a1 k 0).bind (Sum.elim (fun r => some r) (fun w1 => some (zTItem, false)))
def fuse_part_raised.f (k : Nat) (Q : List TQueue) (a0 : TPart) (a1 : TItem) : Option (TPart) := bif (!a0.floor.found) then (some (TPart.mk a0.shelf (TTook.mk true a1))) else ((item_Compare.f k a0.floor.item a1).bind fun x1 => bif (decide (x1 < 0)) then (some (TPart.mk a0.shelf (TTook.mk true a1))) else (some a0))
def slices_Clone.f (k : Nat) (Q : List TQueue) (l0 : List TPart) : Option (List TPart) := bif decide (([] : List TPart).length + l0.length < 4294967296) then (some (([] : List TPart) ++ l0)) else none
def fuse_Views_Then.l0 (k : Nat) (Q : List TQueue) (a1 : THp) (x3 : List TPart) (x10 : TItem × Bool) : Nat → (List TPart × Int) → Option (List TPart)
  | 0, _ => none
  | n + 1, (v1, v2) => bif (decide (v2 < ((x3 ++ ([(TPart.mk (THp.mk a1.q 6) zTTook)] : List TPart)).length : Int))) then ((atL v1 v2).bind fun x11 => (fuse_part_raised.f k Q x11 x10.1).bind fun x12 => fuse_Views_Then.l0 k Q a1 x3 x10 n ((v1.set ((v2).toNat) x12), (w64 (v2 + 1)))) else (some v1)
def fuse_Views_Then.f (k : Nat) (Q : List TQueue) (a0 : TViews) (a1 : THp) : Option (TViews) := (hQueue Q a1).bind fun x1 => (partial_Queue_Present.f k x1).bind fun x2 => (slices_Clone.f k Q a0.parts).bind fun x3 => (hQueue Q a1).bind fun x4 => (partial_Queue_Gone.f k x4).bind fun x5 => bif decide (x3.length + ([(TPart.mk (THp.mk a1.q 6) zTTook)] : List TPart).length < 4294967296) then ((hQueue Q a1).bind fun x6 => (partial_Queue_Deletes.f k x6).bind fun x7 => (fuse_Views_Len.f k Q (TViews.mk (x3 ++ ([(TPart.mk (THp.mk a1.q 6) zTTook)] : List TPart)))).bind fun x8 => bif (decide (x7 ≥ x8)) then (some (TViews.mk ([(TPart.mk (THp.mk a1.q 4) zTTook)] : List TPart))) else (((fuse_Views_At.f k Q (TViews.mk (x3 ++ ([(TPart.mk (THp.mk a1.q 6) zTTook)] : List TPart))) (w64 (x7 - 1))).bind fun x10 => bif x10.2 then (fuse_Views_Then.l0 k Q a1 x3 x10 k ((x3 ++ ([(TPart.mk (THp.mk a1.q 6) zTTook)] : List TPart)), 0)) else (some (x3 ++ ([(TPart.mk (THp.mk a1.q 6) zTTook)] : List TPart)))).bind fun x9 => bif decide (x9.length + ([(TPart.mk (THp.mk a1.q 4) zTTook)] : List TPart).length < 4294967296) then (some (TViews.mk (x9 ++ ([(TPart.mk (THp.mk a1.q 4) zTTook)] : List TPart)))) else none)) else none
def fuse_Views_Min.f (k : Nat) (Q : List TQueue) (a0 : TViews) : Option (TItem × Bool) := (fuse_Views_At.f k Q a0 0).bind fun x1 => some (x1.1, x1.2)
def slices_IndexFunc.l0 (k : Nat) (l0 : List TPart) (fn1 : TPart → Option Bool) : Nat → Int → Option (Sum (Int) (Unit))
  | 0, _ => none
  | n + 1, v1 => bif (decide (v1 < (l0.length : Int))) then ((atL l0 v1).bind fun x2 => (fn1 x2).bind fun x3 => bif x3 then (some (Sum.inl v1)) else (slices_IndexFunc.l0 k l0 fn1 n (w64 (v1 + 1)))) else (some (Sum.inr ()))
def slices_IndexFunc.f (k : Nat) (Q : List TQueue) (l0 : List TPart) (fn1 : TPart → Option Bool) : Option (Int) := (slices_IndexFunc.l0 k l0 fn1 k 0).bind (Sum.elim (fun r => some r) (fun w1 => some (-1)))
def slices_ContainsFunc.f (k : Nat) (Q : List TQueue) (l0 : List TPart) (fn1 : TPart → Option Bool) : Option (Bool) := (slices_IndexFunc.f k Q l0 fn1).bind fun x1 => some (decide (x1 ≥ 0))
def fuse_Views_Has_1.f (k : Nat) (Q : List TQueue) (a0 : TPart) (c0 : TItem) : Option (Bool) := (shelf_Of.f k c0).bind fun x1 => (hTree Q a0.shelf).bind fun x2 => (Tree_Find.f opsS k x2.p x2.r x1).bind fun x3 => bif x3.2 then (bif (!a0.floor.found) then (some true) else ((item_Compare.f k a0.floor.item c0).bind fun x4 => some (decide (x4 < 0)))) else (some false)
def fuse_Views_Has.f (k : Nat) (Q : List TQueue) (a0 : TViews) (a1 : TItem) : Option (Bool) := (slices_ContainsFunc.f k Q a0.parts (fun z0 => fuse_Views_Has_1.f k Q z0 a1)).bind fun x1 => some x1
def fuse_Views_Items.l0 (k : Nat) (Q : List TQueue) (a0 : TViews) : Nat → (List TItem × Int) → Option (List TItem)
  | 0, _ => none
  | n + 1, (v1, v2) => bif (decide (v2 < (a0.parts.length : Int))) then ((atL a0.parts v2).bind fun x2 => (hTree Q x2.shelf).bind fun x3 => (shelf_Items.f k x3.p x3.r).bind fun x4 => (fuse_part_ahead.f k Q x2).bind fun x5 => bif decide (0 ≤ x5 ∧ x5 ≤ (x4.length : Int)) then (bif decide (v1.length + ((x4.drop ((x5).toNat)).take (x4.length - ((x5).toNat))).length < 4294967296) then (fuse_Views_Items.l0 k Q a0 n ((v1 ++ ((x4.drop ((x5).toNat)).take (x4.length - ((x5).toNat)))), (w64 (v2 + 1)))) else none) else none) else (some v1)
def fuse_Views_Items.f (k : Nat) (Q : List TQueue) (a0 : TViews) : Option (List TItem) := (fuse_Views_Items.l0 k Q a0 k (([] : List TItem), 0)).bind fun x1 => (item_Sorted.f k x1).bind fun x6 => some x6
def Lw13_Same.l0 (k : Nat) (Q : List TQueue) (a0 : TViews) (l1 : List TItem) : Nat → Int → Option (Sum (Bool) (Unit))
  | 0, _ => none
  | n + 1, v1 => bif (decide (v1 ≤ (l1.length : Int))) then ((fuse_Views_At.f k Q a0 v1).bind fun x6 => (bif (decide (v1 ≥ 0)) then (some (decide (v1 < (l1.length : Int)))) else (some false)).bind fun x7 => bif (!(x6.2 == x7)) then (some (Sum.inl false)) else (bif x7 then ((atL l1 v1).bind fun x8 => bif (!((x6.1.key == x8.key) && ((x6.1.id == x8.id) && true))) then (some (Sum.inl false)) else (bif (!x7) then (bif (!((x6.1.key == 0) && ((x6.1.id == 0) && true))) then (some (Sum.inl false)) else (Lw13_Same.l0 k Q a0 l1 n (w64 (v1 + 1)))) else (Lw13_Same.l0 k Q a0 l1 n (w64 (v1 + 1))))) else (bif (!x7) then (bif (!((x6.1.key == 0) && ((x6.1.id == 0) && true))) then (some (Sum.inl false)) else (Lw13_Same.l0 k Q a0 l1 n (w64 (v1 + 1)))) else (Lw13_Same.l0 k Q a0 l1 n (w64 (v1 + 1)))))) else (some (Sum.inr ()))
def Lw13_Same.f (k : Nat) (Q : List TQueue) (a0 : TViews) (l1 : List TItem) : Option (Bool) := ((fuse_Views_Len.f k Q a0).bind fun x2 => bif (x2 != (l1.length : Int)) then (some (Sum.inl false)) else ((fuse_Views_Items.f k Q a0).bind fun x3 => (R02_Same.f k x3 l1).bind fun x4 => bif (!x4) then (some (Sum.inl false)) else (some (Sum.inr ())))).bind (Sum.elim (fun r => some r) (fun w1 => (Lw13_Same.l0 k Q a0 l1 k (-1)).bind (Sum.elim (fun r => some r) (fun w5 => (fuse_Views_Min.f k Q a0).bind fun x9 => bif (x9.2 == (decide ((l1.length : Int) > 0))) then (bif (!x9.2) then (some true) else ((atL l1 0).bind fun x10 => some ((x9.1.key == x10.key) && ((x9.1.id == x10.id) && true)))) else (some false)))))
def Lw13_Queue.l0 (k : Nat) (l0 : List TOp) : Nat → (TQueue × Int) → Option (Sum (TQueue) (TQueue))
  | 0, _ => none
  | n + 1, (v1, v2) => bif (decide (v2 < (l0.length : Int))) then ((atL l0 v2).bind fun x3 => bif x3.insert then ((partial_Queue_Insert.f k v1 x3.time x3.item).bind fun x4 => bif (x4.2.1 != 0) then (none) else (Lw13_Queue.l0 k l0 n (x4.2.2, (w64 (v2 + 1))))) else ((partial_Queue_Delete.f k v1 x3.time).bind fun x5 => bif (x5.2.1 != 0) then (none) else (Lw13_Queue.l0 k l0 n (x5.2.2, (w64 (v2 + 1)))))) else (some (Sum.inr v1))
def Lw13_Queue.f (k : Nat) (l0 : List TOp) : Option (TQueue) := (partial_New.f k (l0.length : Int)).bind fun x1 => (Lw13_Queue.l0 k l0 k (x1, 0)).bind (Sum.elim (fun r => some r) (fun w2 => some w2))
def R13_Queue.l0 (k : Nat) (l0 : List Int) (a1 : Int) : Nat → (List TOp × Int) → Option (List TOp)
  | 0, _ => none
  | n + 1, (v1, v2) => bif (decide (v2 < (l0.length : Int))) then ((atL l0 v2).bind fun x2 => bif (decide (x2 < 0)) then (bif decide (v1.length + ([(TOp.mk v2 false zTItem)] : List TOp).length < 4294967296) then (R13_Queue.l0 k l0 a1 n ((v1 ++ ([(TOp.mk v2 false zTItem)] : List TOp)), (w64 (v2 + 1)))) else none) else (bif decide (v1.length + ([(TOp.mk v2 true (TItem.mk x2 (w64 (a1 + v2))))] : List TOp).length < 4294967296) then (R13_Queue.l0 k l0 a1 n ((v1 ++ ([(TOp.mk v2 true (TItem.mk x2 (w64 (a1 + v2))))] : List TOp)), (w64 (v2 + 1)))) else none)) else (some v1)
def R13_Queue.f (k : Nat) (l0 : List Int) (a1 : Int) : Option (List TOp) := (R13_Queue.l0 k l0 a1 k (([] : List TOp), 0)).bind fun x1 => some x1
def fuse_None.f (k : Nat) : Option (TViews) := some (TViews.mk ([] : List TPart))
def Lw13_awake.f (k : Nat) : Option (Bool) := (R13_Queue.f k ([4, 5] : List Int) 0).bind fun x1 => (Lw13_Queue.f k x1).bind fun x2 => (R13_Queue.f k ([(-1), 3, (-1)] : List Int) 10).bind fun x3 => (Lw13_Queue.f k x3).bind fun x4 => bif decide ((THp.mk ([] : List TQueue).length 1).q < (([] : List TQueue) ++ [x2]).length) then ((fuse_None.f k).bind fun x5 => (fuse_Views_Then.f k ((([] : List TQueue) ++ [x2]) ++ [x4]) x5 (THp.mk ([] : List TQueue).length 1)).bind fun x6 => (fuse_Views_Then.f k ((([] : List TQueue) ++ [x2]) ++ [x4]) x6 (THp.mk (([] : List TQueue) ++ [x2]).length 1)).bind fun x7 => (fuse_Views_Min.f k ((([] : List TQueue) ++ [x2]) ++ [x4]) x7).bind fun x8 => bif x8.2 then (bif (x8.1.key == 5) then ((fuse_Views_Len.f k ((([] : List TQueue) ++ [x2]) ++ [x4]) x7).bind fun x9 => some (x9 == 1)) else (some false)) else (some false)) else none
def R13_Left.l0 (k : Nat) (l0 : List (List TOp)) : Nat → (List TOp × Int) → Option (List TOp)
  | 0, _ => none
  | n + 1, (v1, v2) => bif (decide (v2 < (l0.length : Int))) then ((atL l0 v2).bind fun x2 => bif decide (v1.length + x2.length < 4294967296) then (R13_Left.l0 k l0 n ((v1 ++ x2), (w64 (v2 + 1)))) else none) else (some v1)
def R13_Left.f (k : Nat) (l0 : List (List TOp)) : Option (List TItem) := (R13_Left.l0 k l0 k (([] : List TOp), 0)).bind fun x1 => (R12_Run.f k x1).bind fun x3 => some x3.1
def Lw13_FuseParts.l0 (k : Nat) (l0 : List Int) (a1 : Int) (a2 : Int) (x4 : List TOp) : Nat → (List TPart × Int × List TQueue) → Option (Sum (Bool) (List TPart × List TQueue))
  | 0, _ => none
  | n + 1, (v1, v2, v3) => bif (decide (v2 < 3)) then ((atL ([((x4.drop 0).take ((((gmin ((w64 a1).tmod (w64 ((l0.length : Int) + 1))) ((w64 a2).tmod (w64 ((l0.length : Int) + 1))))).toNat) - 0)), ((x4.drop (((gmin ((w64 a1).tmod (w64 ((l0.length : Int) + 1))) ((w64 a2).tmod (w64 ((l0.length : Int) + 1))))).toNat)).take ((((gmax ((w64 a1).tmod (w64 ((l0.length : Int) + 1))) ((w64 a2).tmod (w64 ((l0.length : Int) + 1))))).toNat) - (((gmin ((w64 a1).tmod (w64 ((l0.length : Int) + 1))) ((w64 a2).tmod (w64 ((l0.length : Int) + 1))))).toNat))), ((x4.drop (((gmax ((w64 a1).tmod (w64 ((l0.length : Int) + 1))) ((w64 a2).tmod (w64 ((l0.length : Int) + 1))))).toNat)).take (x4.length - (((gmax ((w64 a1).tmod (w64 ((l0.length : Int) + 1))) ((w64 a2).tmod (w64 ((l0.length : Int) + 1))))).toNat)))] : List (List TOp)) v2).bind fun x7 => (Lw13_Queue.f k x7).bind fun x8 => bif decide (partsIn v3.length v1 = true) then ((fuse_Views_Then.f k (v3 ++ [x8]) (TViews.mk v1) (THp.mk v3.length 1)).bind fun x9 => Lw13_FuseParts.l0 k l0 a1 a2 x4 n (x9.parts, (w64 (v2 + 1)), (v3 ++ [x8]))) else none) else (some (Sum.inr (v1, v3)))
def Lw13_FuseParts.f (k : Nat) (l0 : List Int) (a1 : Int) (a2 : Int) : Option (Bool) := (Lw13_awake.f k).bind fun x1 => bif (!x1) then ((Lw13_awake.f k).bind fun x2 => some x2) else (bif (decide ((l0.length : Int) > 40)) then ((Lw13_awake.f k).bind fun x3 => some x3) else (bif decide ((w64 ((l0.length : Int) + 1)) ≠ 0) then (bif decide ((w64 ((l0.length : Int) + 1)) ≠ 0) then ((R13_Queue.f k l0 0).bind fun x4 => (fuse_None.f k).bind fun x5 => bif decide (0 ≤ (gmin ((w64 a1).tmod (w64 ((l0.length : Int) + 1))) ((w64 a2).tmod (w64 ((l0.length : Int) + 1)))) ∧ (gmin ((w64 a1).tmod (w64 ((l0.length : Int) + 1))) ((w64 a2).tmod (w64 ((l0.length : Int) + 1)))) ≤ (x4.length : Int)) then (bif decide (0 ≤ (gmin ((w64 a1).tmod (w64 ((l0.length : Int) + 1))) ((w64 a2).tmod (w64 ((l0.length : Int) + 1)))) ∧ (gmin ((w64 a1).tmod (w64 ((l0.length : Int) + 1))) ((w64 a2).tmod (w64 ((l0.length : Int) + 1)))) ≤ (gmax ((w64 a1).tmod (w64 ((l0.length : Int) + 1))) ((w64 a2).tmod (w64 ((l0.length : Int) + 1)))) ∧ (gmax ((w64 a1).tmod (w64 ((l0.length : Int) + 1))) ((w64 a2).tmod (w64 ((l0.length : Int) + 1)))) ≤ (x4.length : Int)) then (bif decide (0 ≤ (gmax ((w64 a1).tmod (w64 ((l0.length : Int) + 1))) ((w64 a2).tmod (w64 ((l0.length : Int) + 1)))) ∧ (gmax ((w64 a1).tmod (w64 ((l0.length : Int) + 1))) ((w64 a2).tmod (w64 ((l0.length : Int) + 1)))) ≤ (x4.length : Int)) then ((Lw13_FuseParts.l0 k l0 a1 a2 x4 k (x5.parts, 0, ([] : List TQueue))).bind (Sum.elim (fun r => some r) (fun w6 => (R13_Left.f k ([x4] : List (List TOp))).bind fun x10 => (Lw13_Same.f k w6.2 (TViews.mk w6.1) x10).bind fun x11 => bif x11 then ((fuse_None.f k).bind fun x12 => (Lw13_Queue.f k x4).bind fun x13 => bif decide (partsIn w6.2.length x12.parts = true) then ((fuse_Views_Then.f k (w6.2 ++ [x13]) x12 (THp.mk w6.2.length 1)).bind fun x14 => (R13_Left.f k ([x4] : List (List TOp))).bind fun x15 => (Lw13_Same.f k (w6.2 ++ [x13]) x14 x15).bind fun x16 => bif decide (partsIn w6.2.length w6.1 = true) then (some x16) else none) else none) else (some false)))) else none) else none) else none) else none) else none))
end Go.Proofs.YtpeoalmhccmdiaaGreat
namespace Go.Proofs.YtpeoalmhccmdiaaGreat
open Go Go.Proofs.YtpeoalmhccmdiaaGreat.Sx
abbrev qks : List Nat := [1, 2, 3, 4, 5, 6, 7, 8, 9]
abbrev tq (q : TQueue) : List (Nat × Tok) := tkQueue 1 2 3 4 5 6 7 8 9 q []
theorem tq_byB (q : TQueue) : ByB (tq q) qks := by
  intro β a h
  have h1 := h 1 (by decide)
  have h2 := h 2 (by decide)
  have h3 := h 3 (by decide)
  have h4 := h 4 (by decide)
  have h5 := h 5 (by decide)
  have h6 := h 6 (by decide)
  have h7 := h 7 (by decide)
  have h8 := h 8 (by decide)
  have h9 := h 9 (by decide)
  simp only [tq, tkQueue, List.map_cons, List.map_nil, blk, pl, Cl.den, adEnv, h1, h2, h3, h4, h5, h6, h7, h8, h9]
theorem noks {x : SV} (hx : x.ks.isEmpty = true) (β β' : Env) : x.den β = x.den β' := SV.den_congr x (fun j hj => by rw [List.isEmpty_iff] at hx; rw [hx] at hj; cases hj)
theorem perm4 {α : Type} (x1 x2 x3 x4 x5 x6 x7 x8 x9 : α) (ex : List α) : ([x1, x2, x3, x4, x5, x6, x7, x8, x9] ++ ex).Perm (([x4, x5] ++ ex) ++ [x1, x2, x3, x6, x7, x8, x9]) := by
  have h1 : ([x1, x2, x3] ++ [x4, x5]).Perm ([x4, x5] ++ [x1, x2, x3]) := List.perm_append_comm
  have h2 : ([x1, x2, x3] ++ [x4, x5] ++ ([x6, x7, x8, x9] ++ ex)).Perm ([x4, x5] ++ [x1, x2, x3] ++ ([x6, x7, x8, x9] ++ ex)) := h1.append_right _
  refine h2.trans ?_
  rw [List.append_assoc, List.append_assoc]
  refine List.Perm.append_left [x4, x5] ?_
  rw [← List.append_assoc]
  exact List.perm_append_comm
theorem perm6 {α : Type} (x1 x2 x3 x4 x5 x6 x7 x8 x9 : α) (ex : List α) : ([x1, x2, x3, x4, x5, x6, x7, x8, x9] ++ ex).Perm (([x6, x7] ++ ex) ++ [x1, x2, x3, x4, x5, x8, x9]) := by
  have h1 : ([x1, x2, x3, x4, x5] ++ [x6, x7]).Perm ([x6, x7] ++ [x1, x2, x3, x4, x5]) := List.perm_append_comm
  have h2 : ([x1, x2, x3, x4, x5] ++ [x6, x7] ++ ([x8, x9] ++ ex)).Perm ([x6, x7] ++ [x1, x2, x3, x4, x5] ++ ([x8, x9] ++ ex)) := h1.append_right _
  refine h2.trans ?_
  rw [List.append_assoc, List.append_assoc]
  refine List.Perm.append_left [x6, x7] ?_
  rw [← List.append_assoc]
  exact List.perm_append_comm
theorem onTree {f : FuncId} {args : List SV} {ret : SV} {A : List (Nat → Nat)} {Q : List TQueue} {e : THp} {t : TS TSlot TSize} {fr : List Nat} {ex : List (Nat × Tok)} (k : Nat) (hAQ : A.length = Q.length) (ht : hTree Q e = some t)
    (h4 : SCon Tryz.prog f (SV.p 4 0 :: args) [(4, blk 4 [.p 5 0, .i t.r.index, .i t.r.gen] 131), (5, plS 5 t.p)] ret ((4, blk 4 [.p 5 0, .i t.r.index, .i t.r.gen] 131) :: (5, plS 5 t.p) :: ex) fr)
    (h6 : SCon Tryz.prog f (SV.p 6 0 :: args) [(6, blk 6 [.p 7 0, .i t.r.index, .i t.r.gen] 131), (7, plS 7 t.p)] ret ((6, blk 6 [.p 7 0, .i t.r.index, .i t.r.gen] 131) :: (7, plS 7 t.p) :: ex) fr)
    (ha : args.all (fun x => x.ks.isEmpty) = true) (hr : ret.ks.all (fun j => !qks.contains j) = true) (hfr : fr.all (fun j => !qks.contains j) = true) (hex : ex.all (fun p => p.2.ks.all fun j => !qks.contains j) = true) :
    SCon Tryz.prog f (SV.raw (ptr (hA A e) 0) :: args) [(k, hp k tq A Q)] ret ((k, hp k tq A Q) :: ex) fr := by
  obtain ⟨i, c⟩ := e
  unfold hTree at ht
  obtain ⟨q, hQ, hc⟩ := Option.bind_eq_some_iff.1 ht
  simp only at hQ hc
  have hlt : i < A.length := by rw [hAQ]; exact (List.getElem?_eq_some_iff.1 hQ).1
  have hAi : A[i]? = some A[i] := List.getElem?_eq_getElem hlt
  have hAe : ∀ c, hA A ⟨i, c⟩ = A[i] c := fun c => by simp [hA, List.getD_eq_getElem?_getD, hAi]
  have hset : Q.set i q = Q := by
    apply List.ext_getElem?
    intro j
    rw [List.getElem?_set]
    by_cases hj : i = j
    · subst hj
      rw [if_pos rfl, if_pos (List.getElem?_eq_some_iff.1 hQ).1, hQ]
    · rw [if_neg hj]
  have hfr' : ∀ j ∈ qks, j ∉ fr := fun j hj hm => by
    have := List.all_eq_true.1 hfr j hm
    simp only [Bool.not_eq_true', List.contains_eq_mem, decide_eq_false_iff_not] at this
    exact this hj
  have hex' : ∀ p ∈ ex, ∀ j ∈ p.2.ks, j ∉ qks := fun p hp j hj hm => by
    have := List.all_eq_true.1 (List.all_eq_true.1 hex p hp) j hj
    simp only [Bool.not_eq_true', List.contains_eq_mem, decide_eq_false_iff_not] at this
    exact this hm
  have hr' : ∀ β β' : Env, (∀ j, j ∉ qks → β' j = β j) → ret.den β = ret.den β' := fun β β' hb => SV.den_congr ret (fun j hj => (hb j (fun hm => by
    have := List.all_eq_true.1 hr j hj
    simp only [Bool.not_eq_true', List.contains_eq_mem, decide_eq_false_iff_not] at this
    exact this hm)).symm)
  have main : ∀ m0 : Nat, m0 ∈ qks → c = m0 → SCon Tryz.prog f (SV.p m0 0 :: args) (tq q) ret (tq q ++ ex) fr → SCon Tryz.prog f (SV.raw (ptr (hA A ⟨i, c⟩) 0) :: args) [(k, hp k tq A Q)] ret ((k, hp k tq A Q) :: ex) fr := by
    intro m0 hm hcm hh
    subst hcm
    have := SCon.heap (exi := []) (exo := ex) (args' := SV.raw (ptr (hA A ⟨i, c⟩) 0) :: args) (ret' := ret) k qks hAi hQ tq_byB (by simpa using hh) hfr' (fun p hp => by cases hp) hex' (fun β β' hb _ => by
      rw [List.map_cons, List.map_cons]
      congr 1
      · rw [hAe]; simp [SV.den, Av.den, Cl.den, ptr, hb c hm]
      · exact List.map_congr_left (fun x hx => noks (List.all_eq_true.1 ha x hx) β β')) (fun β β' _ hb => hr' β β' hb)
    rw [hset] at this; exact this
  have fx : ∀ l : List (Nat × Tok), (∀ p ∈ l, ∀ j ∈ p.2.ks, j ∈ qks) → ∀ p ∈ l, ∀ j ∈ p.2.ks, j ∉ fr := fun l hl p hp j hj => hfr' j (hl p hp j hj)
  split at hc
  · cases hc
    refine main 4 (by decide) rfl ?_
    have h1 := h4.frame [(1, blk 1 [.v (.int .i64 q.capacity), .p 2 0, .p 4 0, .p 6 0, .p 8 0, .v (.int .i64 q.excess)] 98), (2, blk 2 [.p 3 0, .v (.int .i64 q.marks.r.index), .v (.int .i64 q.marks.r.gen)] 110), (3, plM 3 q.marks.p), (6, blk 6 [.p 7 0, .v (.int .i64 q.gone.r.index), .v (.int .i64 q.gone.r.gen)] 131), (7, plS 7 q.gone.p), (8, blk 8 [.p 9 0, .v (.int .i64 q.times.r.index), .v (.int .i64 q.times.r.gen)] 131), (9, plS 9 q.times.p)] (fx _ (by simp [blk, pl, Cl.ks]))
    exact h1.perm (by simpa using perm4 _ _ _ _ _ _ _ _ _ []) (perm4 _ _ _ _ _ _ _ _ _ ex).symm
  · cases hc
    refine main 6 (by decide) rfl ?_
    have h1 := h6.frame [(1, blk 1 [.v (.int .i64 q.capacity), .p 2 0, .p 4 0, .p 6 0, .p 8 0, .v (.int .i64 q.excess)] 98), (2, blk 2 [.p 3 0, .v (.int .i64 q.marks.r.index), .v (.int .i64 q.marks.r.gen)] 110), (3, plM 3 q.marks.p), (4, blk 4 [.p 5 0, .v (.int .i64 q.present.r.index), .v (.int .i64 q.present.r.gen)] 131), (5, plS 5 q.present.p), (8, blk 8 [.p 9 0, .v (.int .i64 q.times.r.index), .v (.int .i64 q.times.r.gen)] 131), (9, plS 9 q.times.p)] (fx _ (by simp [blk, pl, Cl.ks]))
    exact h1.perm (by simpa using perm6 _ _ _ _ _ _ _ _ _ []) (perm6 _ _ _ _ _ _ _ _ _ ex).symm
  · cases hc
theorem onQueueG {f : FuncId} {args : List SV} {ret ret' : SV} {A : List (Nat → Nat)} {Q : List TQueue} {e : THp} {q : TQueue} (k : Nat) (hAQ : A.length = Q.length) (hq : hQueue Q e = some q)
    (h : SCon Tryz.prog f (SV.p 1 0 :: args) (tq q) ret (tq q) []) (ha : args.all (fun x => x.ks.isEmpty) = true) (hr : ∀ β β' : Env, (∀ j ∈ qks, (β j).b = hA A ⟨e.q, j⟩) → ret.den β = ret'.den β') :
    SCon Tryz.prog f (SV.raw (ptr (hA A e) 0) :: args) [(k, hp k tq A Q)] ret' [(k, hp k tq A Q)] [] := by
  obtain ⟨i, c⟩ := e
  unfold hQueue at hq
  simp only at hq hr
  split at hq
  · rename_i hc
    subst hc
    have hlt : i < A.length := by rw [hAQ]; exact (List.getElem?_eq_some_iff.1 hq).1
    have hAi : A[i]? = some A[i] := List.getElem?_eq_getElem hlt
    have hAe : ∀ c, hA A ⟨i, c⟩ = A[i] c := fun c => by simp [hA, List.getD_eq_getElem?_getD, hAi]
    have hset : Q.set i q = Q := by
      apply List.ext_getElem?
      intro j
      rw [List.getElem?_set]
      by_cases hj : i = j
      · subst hj
        rw [if_pos rfl, if_pos (List.getElem?_eq_some_iff.1 hq).1, hq]
      · rw [if_neg hj]
    have := SCon.heap (exi := []) (exo := []) (args' := SV.raw (ptr (hA A ⟨i, 1⟩) 0) :: args) (ret' := ret') k qks hAi hq tq_byB (by simpa using h) (fun j _ => by simp) (fun p hp => by cases hp) (fun p hp => by cases hp) (fun β β' hb _ => by
      rw [List.map_cons, List.map_cons]
      congr 1
      · rw [hAe]; simp [SV.den, Av.den, Cl.den, ptr, hb 1 (by decide)]
      · exact List.map_congr_left (fun x hx => noks (List.all_eq_true.1 ha x hx) β β')) (fun β β' hb _ => hr β β' (fun j hj => by rw [hAe]; exact hb j hj))
    rw [hset] at this; exact this
  · cases hq
theorem onQueue {f : FuncId} {args : List SV} {ret : SV} {A : List (Nat → Nat)} {Q : List TQueue} {e : THp} {q : TQueue} (k : Nat) (hAQ : A.length = Q.length) (hq : hQueue Q e = some q)
    (h : SCon Tryz.prog f (SV.p 1 0 :: args) (tq q) ret (tq q) []) (ha : args.all (fun x => x.ks.isEmpty) = true) (hr : ret.ks.isEmpty = true) :
    SCon Tryz.prog f (SV.raw (ptr (hA A e) 0) :: args) [(k, hp k tq A Q)] ret [(k, hp k tq A Q)] [] :=
  onQueueG k hAQ hq h ha (fun β β' _ => noks hr β β')
theorem onQueueP {f : FuncId} {args : List SV} {A : List (Nat → Nat)} {Q : List TQueue} {e : THp} {q : TQueue} (k c : Nat) (hc : c ∈ qks) (hAQ : A.length = Q.length) (hq : hQueue Q e = some q)
    (h : SCon Tryz.prog f (SV.p 1 0 :: args) (tq q) (SV.p c 0) (tq q) []) (ha : args.all (fun x => x.ks.isEmpty) = true) :
    SCon Tryz.prog f (SV.raw (ptr (hA A e) 0) :: args) [(k, hp k tq A Q)] (SV.raw (ptr (hA A ⟨e.q, c⟩) 0)) [(k, hp k tq A Q)] [] :=
  onQueueG k hAQ hq h ha (fun β β' hb => by simp [SV.den, Av.den, Cl.den, ptr, hb c hc])
theorem lrow_grow {α : Type} {f g : α → List Value} {k T s : Nat} : ∀ {l : List α}, (∀ x ∈ l, f x = g x) → lrow k T f s l = lrow k T g s l := by
  intro l h
  have : l.flatMap f = l.flatMap g := by
    induction l with
    | nil => rfl
    | cons x l ih => rw [List.flatMap_cons, List.flatMap_cons, h x (by simp), ih (fun y hy => h y (by simp [hy]))]
  unfold lrow; rw [this]
theorem hA_grow {A : List (Nat → Nat)} {e : THp} (a : Nat → Nat) (h : e.q < A.length) : hA (A ++ [a]) e = hA A e := by
  simp [hA, List.getD_eq_getElem?_getD, List.getElem?_append_left h]
theorem parts_grow {A : List (Nat → Nat)} {Q : List TQueue} {k T s : Nat} {l : List TPart} (a : Nat → Nat) (hAQ : A.length = Q.length) (h : partsIn Q.length l = true) : lrow k T (eTPart A) s l = lrow k T (eTPart (A ++ [a])) s l := by
  refine lrow_grow (fun x hx => ?_)
  have := List.all_eq_true.1 h x hx
  unfold eTPart
  rw [hA_grow a (by rw [hAQ]; simpa using this)]
def gN (l : List Nat) (j : Nat) : Nat := l.getD (j - 1) 0
theorem tq_at (n0 n1 n2 n3 n4 n5 n6 n7 n8 : Nat) (q : TQueue) (β : Env) : ((tkQueue n0 n1 n2 n3 n4 n5 n6 n7 n8 q []).map fun p => p.2.r β) = (tq q).map fun p => p.2.r (adEnv (adr qks (gN [n0, n1, n2, n3, n4, n5, n6, n7, n8]) β)) := by
  have h : ∀ j ∈ qks, (adr qks (gN [n0, n1, n2, n3, n4, n5, n6, n7, n8]) β) j = (β (gN [n0, n1, n2, n3, n4, n5, n6, n7, n8] j)).b := fun j hj => by unfold adr; rw [if_pos hj]
  have h1 := h 1 (by decide)
  have h2 := h 2 (by decide)
  have h3 := h 3 (by decide)
  have h4 := h 4 (by decide)
  have h5 := h 5 (by decide)
  have h6 := h 6 (by decide)
  have h7 := h 7 (by decide)
  have h8 := h 8 (by decide)
  have h9 := h 9 (by decide)
  simp only [tq, tkQueue, List.map_cons, List.map_nil, blk, pl, Cl.den, adEnv, h1, h2, h3, h4, h5, h6, h7, h8, h9]
  rfl
theorem tq_add {A : List (Nat → Nat)} {Q : List TQueue} (k : Nat) (n0 n1 n2 n3 n4 n5 n6 n7 n8 : Nat) (q : TQueue) (hAQ : A.length = Q.length) :
    Ent ((k, hp k tq A Q) :: tkQueue n0 n1 n2 n3 n4 n5 n6 n7 n8 q []) [(k, hpN k tq A Q qks (gN [n0, n1, n2, n3, n4, n5, n6, n7, n8]) q)] [] :=
  hp_add k qks _ hAQ (tq_at n0 n1 n2 n3 n4 n5 n6 n7 n8 q)
theorem len_grow {A : List (Nat → Nat)} {Q : List TQueue} (hAQ : A.length = Q.length) (a : Nat → Nat) (q : TQueue) : (A ++ [a]).length = (Q ++ [q]).length := by simp [hAQ]
theorem hA_new {A : List (Nat → Nat)} {Q : List TQueue} (a : Nat → Nat) (hAQ : A.length = Q.length) : a 1 = hA (A ++ [a]) ⟨Q.length, 1⟩ := by
  simp [hA, List.getD_eq_getElem?_getD, ← hAQ]
end Go.Proofs.YtpeoalmhccmdiaaGreat
namespace Go.Proofs.YtpeoalmhccmdiaaGreat.Sx
open Go
section
variable {P : Program} {n : Nat} {ops : Array Oper} {rest : List Oper} {fs fs' : FL} {L L' : TL} {ss : List Step}
end
section
variable {P : Program} {n : Nat} {ops : Array Oper} {rest : List Oper} {fs : FL} {L : TL} {K : List Step → FL → TL → Prop} {d : Nat} {az : Array Operand} {ats : Array TypeId} {ty : TypeId} {pos : String} {after : Array Edge} {g : Option (Nat × Bool)} {gr : FL} {f : FuncId} {args : List SV} {ti to : List (Nat × Tok)} {fr : List Nat} {args' : Env → List SV}
end
theorem At.freeze {C : Ctx} {fs : FL} {L : TL} {R : Act → World → Prop} {α : Type} {e : α → List Value} {s : Nat} {l : List α} {T : TypeId} (t k : Nat) (ht : lk fs t = some (.a (.c (.nv k)))) (hL : lkT L k = some (lrow k T e s l)) (hf : ∀ c, (e c).length = s) (hs : Nat.blt 0 s = true)
    (h : ∀ (S : Foot) (W0 : World) (v : Value), LArg S W0 v e s l → At C ((t, SV.raw v) :: fs) ((k, some (rd S W0)) :: L) R) : At C fs L R := by
  intro a w hh
  obtain ⟨β, F, hβ, hfs, hlt, hsz, hd, hst, hF, hM⟩ := hh
  obtain ⟨F1, F2, e1, dj, h1, h2⟩ := hst.take hL
  have hla : LArg F1 w ((lrowV k T e s l).s.den β) e s l := la (tr := [(k, lrow k T e s l)]) 0 rfl hf hs (Star_one.2 h1)
  refine h F1 w _ hla a w ⟨β, F, hβ, ?_, ?_, hsz, hd, ?_, hF, hM⟩
  · intro u x hx
    rw [lk_cons] at hx
    simp only [upd] at hx
    by_cases eu : u = t
    · subst eu
      rw [if_pos rfl] at hx; cases hx
      rw [hfs u _ ht]; rfl
    · rw [if_neg eu] at hx; exact hfs u x hx
  · intro u hu
    rw [lk_cons] at hu
    simp only [upd] at hu
    by_cases eu : u = t
    · subst eu; exact hlt u (by rw [ht]; rfl)
    · rw [if_neg eu] at hu; exact hlt u hu
  · have h4 := h2.put (k := k) (t := rd F1 w) (F1 := F1) (F := F) (by simp [upd]) ⟨fun b => Iff.rfl, fun b hb => ⟨(lrow k T e s l |>.r β).lt h1 hb, rfl⟩⟩ dj e1
    exact h4.congr (fun j => by rw [lkT_cons]; unfold upd; split <;> rfl)
theorem LAt.to {α : Type} {e : α → List Value} {s : Nat} {l : List α} {S S' : Foot} {W W' : World} {v : Value} {b o : Nat} (h : LAt S W v b o e s l) (hS : ∀ b, S b → S' b) (hW : ∀ b, S b → W'.heap[b]? = W.heap[b]?) : LAt S' W' v b o e s l := by
  refine ⟨h.len, h.pos, h.sl, fun h0 => hS _ (h.inn h0), fun j u hu => ?_⟩
  have h0 : 0 < l.length := by
    cases l with
    | nil => simp at hu
    | cons => simp
  have := h.cells j u hu
  unfold World.cell? at *
  rwa [show (W'.heap[b]?) = W.heap[b]? from hW b (h.inn h0)]
theorem At.melt {C : Ctx} {fs : FL} {L : TL} {R : Act → World → Prop} (k1 k2 : Nat) {S1 S2 : Foot} {W1 W2 : World} (h1 : lkT L k1 = some (rd S1 W1)) (h2 : lkT L k2 = some (rd S2 W2)) (hne : Nat.beq k1 k2 = false)
    (h : ∀ (S : Foot) (W : World), (∀ {α : Type} {e : α → List Value} {s : Nat} {l : List α} {v : Value}, LArg S1 W1 v e s l → LArg S W v e s l) → (∀ {α : Type} {e : α → List Value} {s : Nat} {l : List α} {v : Value}, LArg S2 W2 v e s l → LArg S W v e s l) →
      At C fs ((k2, none) :: (k1, some (rd S W)) :: L) R) : At C fs L R := by
  intro a w hh
  obtain ⟨β, F, hβ, hfs, hlt, hsz, hd, hst, hF, hM⟩ := hh
  have hne' : k1 ≠ k2 := fun e => by subst e; simp at hne
  obtain ⟨F1, F2, e1, dj, g1, g2⟩ := hst.take h1
  have h2' : upd (lkT L) k1 none k2 = some (rd S2 W2) := by simp [upd, hne'.symm, h2]
  obtain ⟨F3, F4, e2, dj2, g3, g4⟩ := g2.take h2'
  have d13 : ∀ b, F1 b → ¬ F3 b := fun b hb hb' => dj b hb ((e2 b).2 (.inl hb'))
  have hsz1 : ∀ b, F1 b → b < w.heap.size := fun b hb => (g1.2 b ((g1.1 b).1 hb)).1
  have hsz3 : ∀ b, F3 b → b < w.heap.size := fun b hb => (g3.2 b ((g3.1 b).1 hb)).1
  refine h (fun b => F1 b ∨ F3 b) w (fun {α e s l v} hl => ?_) (fun {α e s l v} hl => ?_) a w ⟨β, F, hβ, hfs, hlt, hsz, hd, ?_, hF, hM⟩
  · obtain ⟨b, o, hl⟩ := hl
    exact ⟨b, o, hl.to (fun b hb => .inl ((g1.1 b).2 hb)) (fun b hb => (g1.2 b hb).2)⟩
  · obtain ⟨b, o, hl⟩ := hl
    exact ⟨b, o, hl.to (fun b hb => .inr ((g3.1 b).2 hb)) (fun b hb => (g3.2 b hb).2)⟩
  · have h4 := g4.put (k := k1) (t := rd (fun b => F1 b ∨ F3 b) w) (F1 := fun b => F1 b ∨ F3 b) (F := F) (by simp [upd, hne']) ⟨fun b => Iff.rfl, fun b hb => ⟨hb.elim (hsz1 b) (hsz3 b), rfl⟩⟩
      (fun b hb hb' => hb.elim (fun hb => dj b hb ((e2 b).2 (.inr hb'))) (fun hb => dj2 b hb hb'))
      (fun b => by rw [e1 b, e2 b, or_assoc])
    refine h4.congr (fun j => ?_)
    rw [lkT_cons, lkT_cons]
    unfold upd
    by_cases ej : j = k2
    · subst ej; simp [hne'.symm]
    · by_cases ej1 : j = k1
      · subst ej1; simp [hne']
      · simp [ej, ej1]
theorem At.rdE {C : Ctx} {fs : FL} {L : TL} {R : Act → World → Prop} (k : Nat) (hL : lkT L k = none) (h : ∀ (S : Foot) (W : World), At C fs ((k, some (rd S W)) :: L) R) : At C fs L R := by
  intro a w hh
  obtain ⟨β, F, hβ, hfs, hlt, hsz, hd, hst, hF, hM⟩ := hh
  refine h (fun _ => False) w a w ⟨β, F, hβ, hfs, hlt, hsz, hd, ?_, hF, hM⟩
  have h4 := hst.put (k := k) (t := rd (fun _ => False) w) (F1 := fun _ => False) (F := F) hL ⟨fun b => Iff.rfl, fun b hb => hb.elim⟩ (fun b hb => hb.elim) (fun b => by simp)
  exact h4.congr (fun j => by rw [lkT_cons])
theorem K.buildVs {P : Program} {n : Nat} {ops : Array Oper} {rest : List Oper} {fs : FL} {L : TL} {K : List Step → FL → TL → Prop} (Y : Tys P) (k : Nat) (vs : List Value) (ys : List (Nat × Value)) {d : Nat} {t e len : Nat} {ps : Array (Nat × Operand)} {ty : TypeId} {pos : String} {after : Array Edge} {g : Option (Nat × Bool)} {gr : FL} {z : Value} (l : List (Operand × SV)) (hg : Gd ops ⟨some d, .buildSlice t len ps, ty, pos, after, g⟩ fs gr)
    (hev : ∀ p ∈ l, ev fs p.1 = some p.2) (hps : ps.toList = (List.zip ys l).map fun q => (q.1.1, q.2.1)) (hys : l.map (·.2) = ys.map fun q => .raw q.2) (hu : P.underlying t = some (.slice e)) (hT : Y.f e = .one z) (hpos : Nat.blt 0 len = true) (hs24 : Nat.ble len 16777216 = true) (hf : fillC (bfl 1 len) ((List.replicate len z).map .v) (ys.map fun q => (q.1, .c (.v q.2))) = some (vs.map .v)) (hxl : Nat.beq vs.length len = true)
    (hl : lkT L k = none) (hfr : frB [k] fs L = true) (hn : Nat.blt d n = true)
    (h : RunK P n ops rest ((d, .a (.c (.nv k))) :: fs) ((k, some (lrow k e vE 1 vs)) :: L) (fun ss fs' L' => K (⟨gr ++ opds l, some d, .a (.c (.nv k)), [], [], [(k, lrow k e vE 1 vs)], [k]⟩ :: ss) fs' L')) : RunK P n ops (⟨some d, .buildSlice t len ps, ty, pos, after, g⟩ :: rest) fs L K := by
  refine RunK.of (fun _ _ _ h' => Run.fresh k e vs l rfl hg hev hl hfr hn (fun β ρ w hρ => ?_) h') h
  have hxl' := Nat.eq_of_beq_eq_true hxl
  have hs24' := Nat.le_of_ble_eq_true hs24
  rw [Nat.blt_eq] at hpos
  have h1 : Ty1 P e z := by have := Y.ok e; rw [hT] at this; exact this
  have e0 : ps.map (fun (i, x) => (i, ρ x)) = (ys.map fun p => (p.1, p.2)).toArray := by
    apply Array.ext'
    simp only [Array.toList_map, hps, List.map_map]
    clear hps hf hev h h' hg
    induction ys generalizing l with
    | nil => simp
    | cons q ys ih =>
      cases l with
      | nil => simp at hys
      | cons p l =>
        simp only [List.map_cons, List.cons.injEq] at hys
        have h1 := hρ p (by simp)
        simp only [List.zip_cons_cons, List.map_cons, Function.comp, h1, hys.1]
        rw [show (SV.raw q.2).den β = q.2 from rfl]
        congr 1
        exact ih l hys.2 (fun p hp => hρ p (by simp [hp]))
  have e1 : ((List.replicate len z).map Cl.v).map (Cl.den β) = List.replicate len z := by simp [Cl.den]
  have hfill := fill_run (P := P) (T := 0) (n := 0) (zs := []) β (fun i => some (i * 1, 1)) (fl := bfl 1 len) (fun i q hq => by
    simp only [bfl, List.getElem?_map, Option.map_eq_some_iff] at hq
    obtain ⟨j, hj, rfl⟩ := hq
    rw [List.getElem?_range] at hj
    · simp at hj; subst hj; rfl
    · by_cases hlt : i < len
      · exact hlt
      · rw [List.getElem?_eq_none (by simpa using hlt)] at hj; cases hj) (ys.map fun q => (q.1, .c (.v q.2))) _ _ hf
  rw [e1] at hfill
  have e2 : ((ys.map fun q => (q.1, Av.c (.v q.2))).map fun p => (p.1, p.2.den β)) = ys.map fun p => (p.1, p.2) := by
    rw [List.map_map]; rfl
  have e3 : (vs.map Cl.v).map (Cl.den β) = vs := by
    rw [List.map_map]; exact List.map_id'' (fun _ => rfl) vs
  rw [e2, e3] at hfill
  refine ⟨.slice (some ⟨w.heap.size, 0, none⟩) len len, w.alloc (.cells vs.toArray e), ?_, ?_, ?_, ?_, rfl⟩
  · suffices hb : (Instr.buildSlice t len (ys.map fun p => (p.1, p.2)).toArray).run P w = .ok (.slice (some ⟨w.heap.size, 0, none⟩) len len) (w.alloc (.cells vs.toArray e)) by
      simp only [execOp, e0]
      rw [run_bind_ok hb]; rfl
    unfold Instr.buildSlice
    rw [run_bind_ok (run_und hu w)]
    simp only
    rw [run_bind_ok (h1.size w)]
    have hng : ¬ (len * 1 > 2 ^ 24) := by omega
    simp only [if_neg hng]
    have hzz : (Array.range (len * 1)).map ((#[z] : Array Value)[· % (#[z] : Array Value).size]!) = (List.replicate len z).toArray := by
      apply Array.ext
      · simp
      · intro i h1 h2
        simp [Nat.mod_one]
    have hne : ¬ (len * 1 = 0) := by omega
    simp only [if_neg hne, Sem.run_bind, h1.zero, Result.andThen_ok, Sem.run_pure, h1.zc, hzz, hfill]
    simp [newRow]
  · rw [flat_vE, ← hxl']
    exact ⟨by simp, .inr ⟨w.heap.size, vs.length, vs.toArray, rfl, Nat.zero_le _, heap_alloc_new w _, Nat.le_refl _, by unfold maxLen; omega, by simp, by simp⟩⟩
  · exact ⟨rfl, rfl, rfl, by simp, fun j hj _ => Go.RowKit.Below.heap_alloc _ _ _ hj, Nat.le_refl _⟩
  · intro b hb; simp [Value.ownBlock] at hb; omega
end Go.Proofs.YtpeoalmhccmdiaaGreat.Sx
namespace Go.Proofs.YtpeoalmhccmdiaaGreat.Sx
open Go
def SConAt (β : Env) (P : Program) (f : FuncId) (args : List SV) (ti : List (Nat × Tok)) (ret : SV) (to : List (Nat × Tok)) (fr : List Nat) : Prop :=
  ∀ (w : World) (F : Foot), Star (ti.map fun p => p.2.r β) w F → Calls P f (args.map (SV.den β)).toArray w (Ret F w fr β ret to)
theorem adr_congr {ks : List Nat} {g : Nat → Nat} {β β' : Env} (h : ∀ j ∈ ks, β (g j) = β' (g j)) : adr ks g β = adr ks g β' := by
  funext j
  unfold adr
  by_cases hj : j ∈ ks
  · rw [if_pos hj, if_pos hj, h j hj]
  · rw [if_neg hj, if_neg hj]
theorem SCon.late {β : Env} {P : Program} {f : FuncId} {args args2 : List SV} {ti ti0 to to0 : List (Nat × Tok)} {ret : SV} {fr : List Nat} (ks : List Nat) (g : Nat → Nat) (h : SCon P f args ti0 ret to0 fr) (ha : args2.map (SV.den β) = args.map (SV.den β)) (h1 : (ti.map fun p => p.2.r β) = ti0.map fun p => p.2.r β) (h2 : ∀ β', adr ks g β' = adr ks g β → (to.map fun p => p.2.r β') = to0.map fun p => p.2.r β') (hfr : ks.all (fun j => !fr.contains (g j)) = true) : SConAt β P f args2 ti ret to fr := by
  intro w F hs
  have hc := h β w F (by rw [← h1]; exact hs)
  rw [ha]
  refine hc.mono (fun e w' he => ?_)
  obtain ⟨β', hb, rfl, F', g1, g2⟩ := he
  refine ⟨β', hb, rfl, F', ?_, g2⟩
  rw [h2 β' (adr_congr (fun j hj => hb _ (by have := List.all_eq_true.1 hfr j hj; simpa using this)))]
  exact g1
theorem SCon.post {P : Program} {f : FuncId} {args : List SV} {ret : SV} {ti to to' : List (Nat × Tok)} {fr : List Nat} (h : SCon P f args ti ret to fr) (ho : ∀ β w F, Star (to.map fun p => p.2.r β) w F → Star (to'.map fun p => p.2.r β) w F) : SCon P f args ti ret to' fr := by
  intro β w F hs
  refine (h β w F hs).mono (fun e w' he => ?_)
  obtain ⟨β', hb, h1, F', g1, g2⟩ := he
  exact ⟨β', hb, h1, F', ho _ _ _ g1, g2⟩
theorem hpN_r {σ : Type} {toks : σ → List (Nat × Tok)} {A : List (Nat → Nat)} {Q : List σ} {k : Nat} {ks : List Nat} {g : Nat → Nat} {q : σ} {β : Env} : (hpN k toks A Q ks g q).r β = (hp k toks (A ++ [adr ks g β]) (Q ++ [q])).r β := rfl
theorem hp_addS {σ : Type} {toks : σ → List (Nat × Tok)} {A : List (Nat → Nat)} {Q : List σ} {q : σ} {tn : List (Nat × Tok)} {k : Nat} (ks : List Nat) (g : Nat → Nat) (hAQ : A.length = Q.length) (β : Env) (hT : (tn.map fun p => p.2.r β) = (toks q).map fun p => p.2.r (adEnv (adr ks g β))) {w : World} {F : Foot} (hs : Star (((k, hp k toks A Q) :: tn).map fun p => p.2.r β) w F) : Star ([(k, hpN k toks A Q ks g q)].map fun p => p.2.r β) w F := by
  obtain ⟨F1, F2, e, d, h1, h2⟩ := hs
  refine Star_one.2 ?_
  show Star (hpL toks (A ++ [adr ks g β]) (Q ++ [q])) w F
  rw [hpL_snoc hAQ]
  refine Star_append.2 ⟨F1, F2, e, d, h1, Star_one.2 ?_⟩
  have : Star (tn.map fun p => p.2.r β) w F2 := h2
  rw [hT] at this; exact this
def lrowA {α : Type} (k : Nat) (T : TypeId) (ks : List Nat) (g : Nat → Nat) (e : (Nat → Nat) → α → List Value) (s : Nat) (l : List α) : Tok where
  ks := k :: ks.map g
  r β := (lrow k T (e (adr ks g β)) s l).r β
  sup h := by
    rename_i β β'
    rw [adr_congr (ks := ks) (g := g) (β := β) (β' := β') (fun j hj => h (g j) (List.mem_cons_of_mem _ (List.mem_map_of_mem hj)))]
    exact (lrow k T (e (adr ks g β')) s l).sup (fun j hj => h j (by cases hj with | head => exact List.mem_cons_self | tail _ h => cases h))
theorem lrowA_r {α : Type} {k : Nat} {T : TypeId} {ks : List Nat} {g : Nat → Nat} {e : (Nat → Nat) → α → List Value} {s : Nat} {l : List α} {β : Env} : (lrowA k T ks g e s l).r β = (lrow k T (e (adr ks g β)) s l).r β := rfl
theorem laA {α : Type} {ks : List Nat} {g : Nat → Nat} {e : (Nat → Nat) → α → List Value} {s : Nat} {l : List α} {k : Nat} {T : TypeId} {tr : List (Nat × Tok)} {β : Env} {w : World} {S : Foot} (j : Nat) (hj : tr[j]? = some (k, lrowA k T ks g e s l)) (hf : ∀ c, (e (adr ks g β) c).length = s) (hs : Nat.blt 0 s = true) (h : Star (tr.map fun p => p.2.r β) w S) : LArg S w ((lrowV k T (e (adr ks g β)) s l).s.den β) (e (adr ks g β)) s l := by
  have e1 : ((tr.set j (k, lrow k T (e (adr ks g β)) s l)).map fun p => p.2.r β) = tr.map fun p => p.2.r β := by
    apply List.ext_getElem?
    intro i
    rw [List.getElem?_map, List.getElem?_map, List.getElem?_set]
    by_cases hi : j = i
    · subst hi
      rw [if_pos rfl, if_pos (List.getElem?_eq_some_iff.1 hj).1, hj]; rfl
    · rw [if_neg hi]
  refine la (tr := tr.set j (k, lrow k T (e (adr ks g β)) s l)) j ?_ hf hs (by rw [e1]; exact h)
  rw [List.getElem?_set, if_pos rfl, if_pos (List.getElem?_eq_some_iff.1 hj).1]
theorem mc {β : Env} {x y : SV} {l l' : List SV} (h : x.den β = y.den β) (t : l.map (SV.den β) = l'.map (SV.den β)) : (x :: l).map (SV.den β) = (y :: l').map (SV.den β) := by rw [List.map_cons, List.map_cons, h, t]
theorem At.fixA {σ α : Type} {C : Ctx} {fs : FL} {L : TL} {R : Act → World → Prop} {toks : σ → List (Nat × Tok)} {A : List (Nat → Nat)} {Q : List σ} {ks : List Nat} {g : Nat → Nat} {q : σ} {t j0 T s : Nat} {e : (Nat → Nat) → α → List Value} {l : List α} (k r : Nat) (hk : lkT L k = some (hpN k toks A Q ks g q)) (hr : lkT L r = some (lrowA r T ks g e s l)) (hl : lk fs t = some (SV.p (g j0) 0)) (hj : j0 ∈ ks)
    (h : ∀ a : Nat → Nat, At C ((t, SV.raw (ptr (a j0) 0)) :: fs) ((r, some (lrow r T (e a) s l)) :: (k, some (hp k toks (A ++ [a]) (Q ++ [q]))) :: L) R) : At C fs L R := by
  rintro a w ⟨β, F, hβ, hfs, hlt, hn, hd, hs, hF, hM⟩
  refine h (adr ks g β) a w ⟨β, F, hβ, fun t' x hx => ?_, fun t' ht => ?_, hn, hd, ?_, hF, hM⟩
  · rw [lk_cons] at hx
    by_cases e : t' = t
    · subst e
      simp at hx; subst hx
      rw [hfs _ _ hl]
      simp [SV.den, Av.den, Cl.den, ptr, adr, hj]
    · rw [upd_ne _ _ e] at hx
      exact hfs _ _ hx
  · rw [lk_cons] at ht
    by_cases e : t' = t
    · subst e; exact hlt _ (by rw [hl]; rfl)
    · rw [upd_ne _ _ e] at ht; exact hlt _ ht
  · obtain ⟨φ, h1, h2, h3, h4⟩ := hs
    refine ⟨φ, fun j tk hj => ?_, fun j hj => ?_, h3, h4⟩
    · rw [lkT_cons] at hj
      by_cases e : j = r
      · subst e
        simp at hj; subst hj
        have h5 := h1 j (lrowA j T ks g e s l) hr
        exact h5
      · rw [upd_ne _ _ e, lkT_cons] at hj
        by_cases e : j = k
        · subst e
          simp at hj; subst hj
          have h5 := h1 j (hpN j toks A Q ks g q) hk
          exact h5
        · rw [upd_ne _ _ e] at hj
          exact h1 _ _ hj
    · rw [lkT_cons] at hj
      by_cases e : j = r
      · subst e; simp at hj
      · rw [upd_ne _ _ e, lkT_cons] at hj
        by_cases e : j = k
        · subst e; simp at hj
        · rw [upd_ne _ _ e] at hj
          exact h2 _ hj
section
variable {P : Program} {n : Nat} {ops : Array Oper} {rest : List Oper} {fs fs' : FL} {L L' : TL} {ss : List Step}
theorem Run.callA {d : Nat} {c : Call} {ty : TypeId} {pos : String} {after : Array Edge} {g : Option (Nat × Bool)} {gr : FL} {f : FuncId} {args : List SV} {ret : SV} {fr : List Nat} (l : List (Operand × SV)) (tr ti to : List (Nat × Tok))
    (hs : ∀ (β : Env) (w : World) (S : Foot), Star (tr.map fun p => p.2.r β) w S → SConAt β P f args ((0, rd S w) :: ti) ret ((0, rd S w) :: to) fr)
    (hc : ToFn P c ty l f args) (hg : Gd ops ⟨some d, .call c, ty, pos, after, g⟩ fs gr) (hev : ∀ p ∈ l, ev fs p.1 = some p.2)
    (htk : ∀ p ∈ tr ++ ti, lkT L p.1 = some p.2) (hnd : ((tr ++ ti).map (·.1)).Nodup) (hnd' : ((tr ++ to).map (·.1)).Nodup) (hsub : ∀ p ∈ ti, p.1 ∈ to.map (·.1)) (hout : ∀ p ∈ to, p.1 ∈ ti.map (·.1) ∨ lkT L p.1 = none)
    (hfr : frB fr fs L = true) (hn : Nat.blt d n = true)
    (h : Run P n ops rest ((d, ret) :: fs) (to.map (fun p => (p.1, some p.2)) ++ L) ss fs' L') : Run P n ops (⟨some d, .call c, ty, pos, after, g⟩ :: rest) fs L (⟨gr ++ opds l, some d, ret, tr, ti, to, fr⟩ :: ss) fs' L' := by
  obtain ⟨f1, f2, f3⟩ := frB_spec hfr
  refine Run.cons ?_ ?_ ?_ (fun j => ?_) h
  · intro β a w G K Q hrs hsz hst hK
    have hw := hg.wanted hrs hsz
    unfold opW Oper.wp
    rw [if_pos hw]
    have h1 := hc β a.eval w (opds_eval hg hev hrs)
    simp only [execOp]
    rw [h1, Oper.upon_enter]
    rw [List.map_append] at hst
    obtain ⟨S, F2, e, dj, hS, hT⟩ := Star_append.1 hst
    have hin : Star (((0, rd S w) :: ti).map fun p => p.2.r β) w G := ⟨S, F2, e, dj, ⟨fun b => Iff.rfl, fun b hb => ⟨hS.lt hb, rfl⟩⟩, hT⟩
    have hcall := hs β w S hS w G hin
    refine hcall.mono (fun e' w' he => ?_)
    obtain ⟨β', hb, rfl, F', h2, h3, h4⟩ := he
    obtain ⟨S', F3, eF, dF, hS', hT'⟩ := h2
    have hS2 : Star (tr.map fun p => p.2.r β') w' S := by
      have : (tr.map fun p => p.2.r β') = tr.map fun p => p.2.r β := List.map_congr_left (fun p hp => (p.2.sup (fun k hk => hb k (f3 p.1 p.2 (htk p (List.mem_append_left _ hp)) k hk))))
      rw [this]
      exact hS.loc (fun b hb => (hS'.2 b hb).2)
    refine hK β' w' F' hb ?_ h3 h4
    rw [List.map_append]
    have eS : ∀ b, S' b ↔ S b := hS'.1
    exact Star_append.2 ⟨S, F3, fun b => by rw [eF b, eS b], fun b h1 h2 => dF b ((eS b).2 h1) h2, hS2, hT'⟩
  · refine ⟨fun t z hz => ?_, fun d' hd' => ?_, htk, hnd, hnd', hout, f1, f2, fun j t hj _ => f3 j t hj⟩
    · rw [lk_append] at hz
      cases hx' : lk gr t with
      | some z' => rw [hx'] at hz; simp at hz; subst hz; exact hg.fs hx'
      | none => rw [hx'] at hz; simp at hz; exact opds_fs hev hz
    · simp at hd'; subst hd'
      rw [Nat.blt_eq] at hn
      exact hn
  · simp only [Step.outF, lk_cons]
  · rw [Step.outM_eq]
    have e1 : ∀ (to : List (Nat × Tok)), lkT (to.map (fun p => (p.1, some p.2)) ++ L) j = (lkP to j).or (lkT L j) := by
      intro to
      induction to with
      | nil => simp [lkP]
      | cons p to ih =>
        rw [List.map_cons, List.cons_append, lkT_cons]
        simp only [upd, lkP]
        split <;> simp [ih]
    rw [e1]
    cases hp : lkP to j with
    | some x => rfl
    | none =>
      simp only [Option.none_or]
      rw [if_neg]
      intro hm
      obtain ⟨p, hp', rfl⟩ := List.mem_map.1 hm
      obtain ⟨q, hq, e⟩ := List.mem_map.1 (hsub p hp')
      have : ∀ l : List (Nat × Tok), q ∈ l → lkP l p.1 ≠ none := by
        intro l
        induction l with
        | nil => intro h; cases h
        | cons r l ih =>
          intro h
          simp only [lkP]
          split
          · simp
          · rename_i hne
            rcases List.mem_cons.1 h with rfl | h
            · exact absurd e.symm hne
            · exact ih h
      exact this to hq hp
end
section
variable {P : Program} {n : Nat} {ops : Array Oper} {rest : List Oper} {fs : FL} {L : TL} {K : List Step → FL → TL → Prop} {d : Nat} {az : Array Operand} {ats : Array TypeId} {ty : TypeId} {pos : String} {after : Array Edge} {g : Option (Nat × Bool)} {gr : FL} {f : FuncId} {ti to : List (Nat × Tok)} {fr : List Nat} {ret : SV}
theorem K.cA (hf : fnB P f = true) (ks : List Nat) (hs : ∀ (β : Env) (w : World) (S : Foot), Star ((getT L ks).map fun p => p.2.r β) w S → SConAt β P f ((opl fs az).map (·.2)) ((0, rd S w) :: ti) ret ((0, rd S w) :: to) fr) (hg : Gd ops ⟨some d, .call ⟨.value (.func f), az, ats⟩, ty, pos, after, g⟩ fs gr)
    (hev : az.toList.all (fun o => (ev fs o).isSome) = true) (htk : getT L (ti.map (·.1)) = ti)
    (hb : (ndB ((getT L ks ++ ti).map (·.1)) && (ndB ((getT L ks ++ to).map (·.1)) && (ti.all (fun p => (to.map (·.1)).contains p.1) && (to.all (fun p => (ti.map (·.1)).contains p.1 || (lkT L p.1).isNone) && (frB fr fs L && Nat.blt d n))))) = true)
    (h : RunK P n ops rest ((d, ret) :: fs) (to.map (fun p => (p.1, some p.2)) ++ L) (fun ss fs' L' => K (⟨gr ++ opds (fnl f fs az), some d, ret, getT L ks, ti, to, fr⟩ :: ss) fs' L')) : RunK P n ops (⟨some d, .call ⟨.value (.func f), az, ats⟩, ty, pos, after, g⟩ :: rest) fs L K := by
  simp only [Bool.and_eq_true] at hb
  have ht : AllT L (getT L ks ++ ti) := by
    have : ∀ l : List (Nat × Tok), AllT L l → AllT L (l ++ ti) := fun l => by
      induction l with
      | nil => intro _; exact getT_of htk
      | cons p l ih => intro h; exact ⟨h.1, ih h.2⟩
    exact this _ (getT_all _)
  refine RunK.of (fun _ _ _ h => Run.callA (fnl f fs az) (getT L ks) ti to hs (fnl_to hf) hg (fnl_all hev).spec ht.spec (ndB_spec hb.1) (ndB_spec hb.2.1) (fun p hp => by simpa using List.all_eq_true.1 hb.2.2.1 p hp) (fun p hp => by
    have := List.all_eq_true.1 hb.2.2.2.1 p hp
    rw [Bool.or_eq_true] at this
    rcases this with h | h
    · exact .inl (by simpa using h)
    · exact .inr (by simpa using h)) hb.2.2.2.2.1 hb.2.2.2.2.2 h) h
end
end Go.Proofs.YtpeoalmhccmdiaaGreat.Sx
namespace Go.Proofs.YtpeoalmhccmdiaaGreat
open Go Go.Proofs.YtpeoalmhccmdiaaGreat.Sx
theorem larg_grow {S : Foot} {w : World} {v : Value} {s : Nat} {A : List (Nat → Nat)} {Q : List TQueue} {l : List TPart} (a : Nat → Nat) (hAQ : A.length = Q.length) (hp : partsIn Q.length l = true) (h : LArg S w v (eTPart A) s l) : LArg S w v (eTPart (A ++ [a])) s l := by
  obtain ⟨b, o, h⟩ := h
  have e : l.flatMap (eTPart A) = l.flatMap (eTPart (A ++ [a])) := by
    have : ∀ m : List TPart, (∀ x ∈ m, x ∈ l) → m.flatMap (eTPart A) = m.flatMap (eTPart (A ++ [a])) := by
      intro m
      induction m with
      | nil => intro _; rfl
      | cons x m ih =>
        intro hm
        have := List.all_eq_true.1 hp x (hm x (by simp))
        have ex : eTPart A x = eTPart (A ++ [a]) x := by
          unfold eTPart
          rw [hA_grow a (by rw [hAQ]; simpa using this)]
        rw [List.flatMap_cons, List.flatMap_cons, ex, ih (fun y hy => hm y (by simp [hy]))]
    exact this l (fun x hx => hx)
  refine ⟨b, o, ⟨fun c => ?_, h.pos, h.sl, h.inn, fun j u hu => h.cells j u (by rw [e]; exact hu)⟩⟩
  have := h.len c
  rw [eTPart_len] at this ⊢; exact this
theorem hq_late {A : List (Nat → Nat)} {Q : List TQueue} {n0 n1 n2 n3 n4 n5 n6 n7 n8 : Nat} (hAQ : A.length = Q.length) (β : Env) : (SV.p n0 0).den β = (SV.a (.c (.v (ptr (hA (A ++ [adr qks (gN [n0, n1, n2, n3, n4, n5, n6, n7, n8]) β]) ⟨Q.length, 1⟩) 0)))).den β := by
  show _ = ptr (hA (A ++ [adr qks (gN [n0, n1, n2, n3, n4, n5, n6, n7, n8]) β]) ⟨Q.length, 1⟩) 0
  rw [← hA_new _ hAQ]
  simp [SV.den, Av.den, Cl.den, ptr, adr, gN]
theorem tq_late {P : Program} {f : FuncId} {args : List SV} {ret : SV} {fr : List Nat} {S : Foot} {w : World} {A : List (Nat → Nat)} {Q : List TQueue} {n0 n1 n2 n3 n4 n5 n6 n7 n8 : Nat} {q : TQueue} (k : Nat) (hAQ : A.length = Q.length) (h : SCon P f args [(0, rd S w)] ret ((0, rd S w) :: tkQueue n0 n1 n2 n3 n4 n5 n6 n7 n8 q []) fr) :
    SCon P f args ((0, rd S w) :: [(k, hp k tq A Q)]) ret ((0, rd S w) :: [(k, hpN k tq A Q qks (gN [n0, n1, n2, n3, n4, n5, n6, n7, n8]) q)]) fr := by
  have h1 := h.frame [(k, hp k tq A Q)] (fun p hp j hj => by
    cases hp with
    | head => cases hj
    | tail _ h => cases h)
  refine h1.post (fun β w' F hs => ?_)
  obtain ⟨F1, F2, e, d, g1, g2⟩ := hs
  refine ⟨F1, F2, e, d, g1, ?_⟩
  have g2' : Star ((tkQueue n0 n1 n2 n3 n4 n5 n6 n7 n8 q [] ++ [(k, hp k tq A Q)]).map fun p => p.2.r β) w' F2 := g2
  have g3 := Star_perm ((List.perm_append_comm).map (fun p : Nat × Tok => p.2.r β)) g2'
  have key := hp_addS (k := k) (tn := tkQueue n0 n1 n2 n3 n4 n5 n6 n7 n8 q []) (q := q) qks (gN [n0, n1, n2, n3, n4, n5, n6, n7, n8]) hAQ β (tq_at n0 n1 n2 n3 n4 n5 n6 n7 n8 q β) g3
  exact key
end Go.Proofs.YtpeoalmhccmdiaaGreat

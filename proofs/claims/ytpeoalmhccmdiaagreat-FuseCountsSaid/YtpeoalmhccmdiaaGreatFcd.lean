/- My texts that the proof of FuseCounts rests on, part 4: a calculus of walks, the walks, and the plain law. -/
import Derived.KernelRfl
import Derived.Test.YtpeoalmhccmdiaaGreatFcc
set_option linter.unusedVariables false
set_option linter.unusedSimpArgs false
namespace Go.Proofs.YtpeoalmhccmdiaaGreat
open Go Go.Proofs.YtpeoalmhccmdiaaGreat.Sx
abbrev tkQueue (n0 n1 n2 n3 n4 n5 n6 n7 n8 : Nat) (q : TQueue) (l : List (Nat × Tok)) : List (Nat × Tok) := (n0, blk n0 [.v (.int .i64 q.capacity), .p n1 0, .p n3 0, .p n5 0, .p n7 0, .v (.int .i64 q.excess)] 98) :: (n1, blk n1 [.p n2 0, .v (.int .i64 q.marks.r.index), .v (.int .i64 q.marks.r.gen)] 110) :: (n2, plM n2 (q.marks.p)) :: (n3, blk n3 [.p n4 0, .v (.int .i64 q.present.r.index), .v (.int .i64 q.present.r.gen)] 131) :: (n4, plS n4 (q.present.p)) :: (n5, blk n5 [.p n6 0, .v (.int .i64 q.gone.r.index), .v (.int .i64 q.gone.r.gen)] 131) :: (n6, plS n6 (q.gone.p)) :: (n7, blk n7 [.p n8 0, .v (.int .i64 q.times.r.index), .v (.int .i64 q.times.r.gen)] 131) :: (n8, plS n8 (q.times.p)) :: l
abbrev wave_New_st (a0 : Int) (r : TRef × Pool (TNode TMark TSwell)) (m40 : Nat) (m41 : Nat) : Prop := SCon Tryz.prog 52 [.a (.c (.v (.int .i64 a0)))] [] (.a (.c (.p m40 0))) [(m40, blk m40 [.p m41 0, .i r.1.index, .i r.1.gen] 110), (m41, plM m41 r.2)] [m40, m41]
theorem wave_New_con0 {k : Nat}  {a0 : Int} {r : TRef × Pool (TNode TMark TSwell)}  (H0 : wave_New.f k a0 = some r) : wave_New_st a0 r 40 41 := by
 rw [wave_New.f] at H0
 refine spec_of [(0, _)] [] 5 Tryz.func52 rfl Tryz.ntmps52 rfl rfl rfl rfl (fun β W F => ?_)
 refine G.seq <| G.rg <| K.as rfl rfl <| K.nil <| At.ns ?_
 obtain ⟨x1, hx1, H0⟩ := bnd H0
 exact G.rg <| K.mv rfl rfl <| K.c0 (cf 91 rfl) (Tree_NewM_con hx1 100 101 rfl) g0 rfl rfl rfl rfl <| K.as rfl rfl <| K.nil <| At.next <| G.ret <| At.ren (fs' := [(2, .a (.c (.p 40 0)))]) (tl := [(40, blk 40 [.p 41 0, .v (.int .i64 x1.1.index), .v (.int .i64 x1.1.gen)] 110), (41, plM 41 x1.2)]) [(40, 100), (41, 101)] [_, _] rfl ⟨rfl, trivial⟩ ⟨rfl, (blk_ren rfl rfl), rfl, (pl_ren rfl), trivial⟩ rfl <| At.dr Y [2] rfl rfl (by cases H0; rfl) (by cases H0; rfl) rfl rfl rfl
theorem wave_New_con {k : Nat}  {a0 : Int} {r : TRef × Pool (TNode TMark TSwell)}  (H0 : wave_New.f k a0 = some r) (m40 m41 : Nat) (hd : ndB [m40, m41] = true) : wave_New_st a0 r m40 m41 :=
 SCon.ren (rn [(40, m40), (41, m41)]) (wave_New_con0 (k := k)   H0) trivial ⟨(blk_ren rfl rfl), (pl_ren rfl), trivial⟩ (rn_nd hd rfl rfl) (rn_ks hd rfl rfl rfl)
abbrev shelf_New_st (a0 : Int) (r : TRef × Pool (TNode TSlot TSize)) (m40 : Nat) (m41 : Nat) : Prop := SCon Tryz.prog 53 [.a (.c (.v (.int .i64 a0)))] [] (.a (.c (.p m40 0))) [(m40, blk m40 [.p m41 0, .i r.1.index, .i r.1.gen] 131), (m41, plS m41 r.2)] [m40, m41]
theorem shelf_New_con0 {k : Nat}  {a0 : Int} {r : TRef × Pool (TNode TSlot TSize)}  (H0 : shelf_New.f k a0 = some r) : shelf_New_st a0 r 40 41 := by
 rw [shelf_New.f] at H0
 refine spec_of [(0, _)] [] 5 Tryz.func53 rfl Tryz.ntmps53 rfl rfl rfl rfl (fun β W F => ?_)
 refine G.seq <| G.rg <| K.as rfl rfl <| K.nil <| At.ns ?_
 obtain ⟨x1, hx1, H0⟩ := bnd H0
 exact G.rg <| K.mv rfl rfl <| K.c0 (cf 92 rfl) (Tree_NewS_con hx1 100 101 rfl) g0 rfl rfl rfl rfl <| K.as rfl rfl <| K.nil <| At.next <| G.ret <| At.ren (fs' := [(2, .a (.c (.p 40 0)))]) (tl := [(40, blk 40 [.p 41 0, .v (.int .i64 x1.1.index), .v (.int .i64 x1.1.gen)] 131), (41, plS 41 x1.2)]) [(40, 100), (41, 101)] [_, _] rfl ⟨rfl, trivial⟩ ⟨rfl, (blk_ren rfl rfl), rfl, (pl_ren rfl), trivial⟩ rfl <| At.dr Y [2] rfl rfl (by cases H0; rfl) (by cases H0; rfl) rfl rfl rfl
theorem shelf_New_con {k : Nat}  {a0 : Int} {r : TRef × Pool (TNode TSlot TSize)}  (H0 : shelf_New.f k a0 = some r) (m40 m41 : Nat) (hd : ndB [m40, m41] = true) : shelf_New_st a0 r m40 m41 :=
 SCon.ren (rn [(40, m40), (41, m41)]) (shelf_New_con0 (k := k)   H0) trivial ⟨(blk_ren rfl rfl), (pl_ren rfl), trivial⟩ (rn_nd hd rfl rfl) (rn_ks hd rfl rfl rfl)
abbrev partial_New_st (a0 : Int) (r : TQueue) (m80 : Nat) (m81 : Nat) (m82 : Nat) (m83 : Nat) (m84 : Nat) (m85 : Nat) (m86 : Nat) (m87 : Nat) (m88 : Nat) : Prop := SCon Tryz.prog 15 [.a (.c (.v (.int .i64 a0)))] [] (.a (.c (.p m80 0))) (tkQueue m80 m81 m82 m83 m84 m85 m86 m87 m88 r []) [m80, m81, m82, m83, m84, m85, m86, m87, m88]
theorem partial_New_con0 {k : Nat}  {a0 : Int} {r : TQueue}  (H0 : partial_New.f k a0 = some r) : partial_New_st a0 r 80 81 82 83 84 85 86 87 88 := by
 rw [partial_New.f] at H0
 refine spec_of [(0, _)] [] 18 Tryz.func15 rfl Tryz.ntmps15 rfl rfl rfl rfl (fun β W F => ?_)
 refine G.seq <| G.rg <| K.as rfl rfl <| K.nil <| At.nr <| K.mv rfl rfl <| K.bi2 (V := .int .i64 (gmax a0 0)) g0 rfl rfl (fun _ _ => rfl) rfl <| K.bi2 (V := .int .i64 (gmin (gmax a0 0) 65536)) g0 rfl rfl (fun _ _ => rfl) rfl <| K.as rfl rfl <| K.nil <| At.ns ?_
 obtain ⟨x1, hx1, H0⟩ := bnd H0
 obtain ⟨x2, hx2, H0⟩ := bnd H0
 obtain ⟨x3, hx3, H0⟩ := bnd H0
 obtain ⟨x4, hx4, H0⟩ := bnd H0
 exact G.rg <| K.mv rfl rfl <| K.mv rfl rfl <| K.c0 (cf 52 rfl) (wave_New_con hx1 100 101 rfl) g0 rfl rfl rfl rfl <| K.mv rfl rfl <| K.c0 (cf 53 rfl) (shelf_New_con hx2 102 103 rfl) g0 rfl rfl rfl rfl <| K.mv rfl rfl <| K.c0 (cf 53 rfl) (shelf_New_con hx3 104 105 rfl) g0 rfl rfl rfl rfl <| K.mv rfl rfl <| K.c0 (cf 53 rfl) (shelf_New_con hx4 106 107 rfl) g0 rfl rfl rfl rfl <| K.build Y [(0, _), (1, _), (2, _), (3, _), (4, _)] [_, _, _, _, _, _] [((.tmp 7), _), ((.tmp 9), _), ((.tmp 11), _), ((.tmp 13), _), ((.tmp 15), _)] g0 (AllE.spec ⟨rfl, rfl, rfl, rfl, rfl, trivial⟩) rfl rfl t98 rfl rfl <| K.box Y 108 _ g0 rfl rfl rfl rfl rfl rfl <| K.as rfl rfl <| K.nil <| At.next <| G.ret <| At.ren (fs' := [(2, .a (.c (.p 80 0)))]) (tl := (tkQueue 80 81 82 83 84 85 86 87 88 (TQueue.mk (gmin (gmax a0 0) 65536) (TS.mk x1.2 x1.1) (TS.mk x2.2 x2.1) (TS.mk x3.2 x3.1) (TS.mk x4.2 x4.1) 0) [])) [(80, 108), (81, 100), (82, 101), (83, 102), (84, 103), (85, 104), (86, 105), (87, 106), (88, 107)] [_, _, _, _, _, _, _, _, _] rfl ⟨rfl, trivial⟩ ⟨rfl, (blk_ren rfl rfl), rfl, (blk_ren rfl rfl), rfl, (pl_ren rfl), rfl, (blk_ren rfl rfl), rfl, (pl_ren rfl), rfl, (blk_ren rfl rfl), rfl, (pl_ren rfl), rfl, (blk_ren rfl rfl), rfl, (pl_ren rfl), trivial⟩ rfl <| At.dr Y [2] rfl rfl (by cases H0; rfl) (by cases H0; rfl) rfl rfl rfl
theorem partial_New_con {k : Nat}  {a0 : Int} {r : TQueue}  (H0 : partial_New.f k a0 = some r) (m80 m81 m82 m83 m84 m85 m86 m87 m88 : Nat) (hd : ndB [m80, m81, m82, m83, m84, m85, m86, m87, m88] = true) : partial_New_st a0 r m80 m81 m82 m83 m84 m85 m86 m87 m88 :=
 SCon.ren (rn [(80, m80), (81, m81), (82, m82), (83, m83), (84, m84), (85, m85), (86, m86), (87, m87), (88, m88)]) (partial_New_con0 (k := k)   H0) trivial ⟨(blk_ren rfl rfl), (blk_ren rfl rfl), (pl_ren rfl), (blk_ren rfl rfl), (pl_ren rfl), (blk_ren rfl rfl), (pl_ren rfl), (blk_ren rfl rfl), (pl_ren rfl), trivial⟩ (rn_nd hd rfl rfl) (rn_ks hd rfl rfl rfl)
abbrev wave_Key_st (a0 : Int) (r : TMark) : Prop := SCon Tryz.prog 67 [.a (.c (.v (.int .i64 a0)))] [] (.a (.agg ((eTMark r).map .v))) [] []
theorem wave_Key_con0 {k : Nat}  {a0 : Int} {r : TMark}  (H0 : wave_Key.f k a0 = some r) : wave_Key_st a0 r := by
 rw [wave_Key.f] at H0
 refine spec_of [(0, _)] [] 6 Tryz.func67 rfl Tryz.ntmps67 rfl rfl rfl rfl (fun β W F => ?_)
 refine G.seq <| G.rg <| K.alloc Y 100 _ g0 t46 rfl rfl rfl rfl rfl <| K.nil <| At.nr <| K.mv rfl rfl <| K.build Y [(0, _)] [_, _, _, _] [((.tmp 3), _)] g0 (AllE.spec ⟨rfl, trivial⟩) rfl rfl t42 rfl rfl <| K.build Y [(0, _)] [_, _, _, _, _, _, _, _] [((.tmp 4), _)] g0 (AllE.spec ⟨rfl, trivial⟩) rfl rfl t46 rfl rfl <| K.store Y _ g0 rfl rfl rfl t46 rfl rfl rfl rfl rfl <| K.nil <| At.next <| G.ret <| At.done Y [(.cell 2 46, .agg [_, _, _, _, _, _, _, _])] rfl ⟨.st rfl rfl t46 rfl rfl, trivial⟩ (to' := []) trivial ?_ ?_ rfl rfl rfl (.inl rfl)
 · cases H0; rfl
 · cases H0; rfl
theorem wave_Key_con {k : Nat}  {a0 : Int} {r : TMark}  (H0 : wave_Key.f k a0 = some r) : wave_Key_st a0 r :=
 SCon.ren (rn []) (wave_Key_con0 (k := k)   H0) trivial trivial (by simp) (by simp)
abbrev partial_Queue_may_st (q0 : TQueue) (a1 : Int) (r : Int) (m0 : Nat) (m1 : Nat) (m2 : Nat) (m3 : Nat) (m4 : Nat) (m5 : Nat) (m6 : Nat) (m7 : Nat) (m8 : Nat) : Prop := SCon Tryz.prog 63 [SV.p m0 0, .a (.c (.v (.int .i64 a1)))] (tkQueue m0 m1 m2 m3 m4 m5 m6 m7 m8 q0 []) (.a (.c (.v (.int .i64 r)))) (tkQueue m0 m1 m2 m3 m4 m5 m6 m7 m8 q0 []) []
theorem partial_Queue_may_con0 {k : Nat}  {q0 : TQueue} {a1 : Int} {r : Int}  (H0 : partial_Queue_may.f k q0 a1 = some r) : partial_Queue_may_st q0 a1 r 0 1 2 3 4 5 6 7 8 := by
 rw [partial_Queue_may.f] at H0
 refine spec_of [(0, _), (1, _)] [(0, _), (1, _), (2, _), (3, _), (4, _), (5, _), (6, _), (7, _), (8, _)] 28 Tryz.func63 rfl Tryz.ntmps63 rfl rfl rfl rfl (fun β W F => ?_)
 refine G.seq <| G.rg <| K.as rfl rfl <| K.nil <| At.ns <| G.seq ?_
 obtain ⟨x1, hx1, H0⟩ := bnd H0
 refine G.rd mixed <| K.mv rfl rfl <| K.nilCheck g0 rfl rfl <| K.fieldAddr Y g0 rfl t98 rfl rfl <| K.load1 Y g0 rfl rfl t38 rfl rfl <| K.cR (cf 34 rfl) (Tree_LenM_con hx1 1 2) g0 rfl rfl rfl rfl <| K.mv rfl rfl <| K.nilCheck g0 rfl rfl <| K.fieldAddr Y g0 rfl t98 rfl rfl <| K.load1 Y g0 rfl rfl t3 rfl rfl <| K.bin (V := .bool (x1 == q0.capacity)) g0 rfl rfl (fun _ => rfl) rfl <| K.nil <| And.intro (by kernel_rfl) <| At.next <| G.cond rfl (fun h1 => ?_) (fun h1 => ?_)
 ·
  replace H0 := bif_t H0 h1
  exact G.seq <| G.rg <| K.as rfl rfl <| K.nil <| At.next <| G.ret <| At.over_ret <| At.dr Y [4] rfl rfl (by cases H0; rfl) (by cases H0; rfl) rfl rfl rfl
 ·
  replace H0 := bif_f H0 h1
  refine G.skip <| At.ns <| G.seq ?_
  obtain ⟨x2, hx2, H0⟩ := bnd H0
  obtain ⟨x3, hx3, H0⟩ := bnd H0
  refine G.rd mixed <| K.mv rfl rfl <| K.nilCheck g0 rfl rfl <| K.fieldAddr Y g0 rfl t98 rfl rfl <| K.load1 Y g0 rfl rfl t38 rfl rfl <| K.mv rfl rfl <| K.cR (cf 67 rfl) (wave_Key_con hx2) g0 rfl rfl rfl rfl <| K.cR (cf 74 rfl) (Tree_FindM_con hx3 1 2) g0 rfl rfl rfl rfl <| K.mv rfl rfl <| K.extract g0 rfl rfl rfl <| K.extract g0 rfl rfl rfl <| K.alloc Y 100 _ g0 t46 rfl rfl rfl rfl rfl <| K.store Y _ g0 rfl rfl rfl t46 rfl rfl rfl rfl rfl <| K.as rfl rfl <| K.nil <| And.intro (by kernel_rfl) <| At.nr <| K.mv rfl rfl <| K.nil <| At.next <| G.cond rfl (fun h2 => ?_) (fun h2 => ?_)
  ·
   replace H0 := bif_t H0 h2
   exact G.seq <| G.rg <| K.as rfl rfl <| K.nil <| At.next <| G.ret <| At.over_ret <| At.dr Y [4] rfl rfl (by cases H0; rfl) (by cases H0; rfl) rfl rfl rfl
  ·
   replace H0 := bif_f H0 h2
   exact G.skip <| At.nr <| K.as rfl rfl <| K.nil <| At.next <| G.ret <| At.dr Y [4] rfl rfl (by cases H0; rfl) (by cases H0; rfl) rfl rfl rfl
theorem partial_Queue_may_con {k : Nat}  {q0 : TQueue} {a1 : Int} {r : Int}  (H0 : partial_Queue_may.f k q0 a1 = some r) (m0 m1 m2 m3 m4 m5 m6 m7 m8 : Nat) : partial_Queue_may_st q0 a1 r m0 m1 m2 m3 m4 m5 m6 m7 m8 :=
 SCon.ren (rn [(0, m0), (1, m1), (2, m2), (3, m3), (4, m4), (5, m5), (6, m6), (7, m7), (8, m8)]) (partial_Queue_may_con0 (k := k)   H0) ⟨(blk_ren rfl rfl), (blk_ren rfl rfl), (pl_ren rfl), (blk_ren rfl rfl), (pl_ren rfl), (blk_ren rfl rfl), (pl_ren rfl), (blk_ren rfl rfl), (pl_ren rfl), trivial⟩ ⟨(blk_ren rfl rfl), (blk_ren rfl rfl), (pl_ren rfl), (blk_ren rfl rfl), (pl_ren rfl), (blk_ren rfl rfl), (pl_ren rfl), (blk_ren rfl rfl), (pl_ren rfl), trivial⟩ (by simp) (by simp)
abbrev shelf_Of_st (a0 : TItem) (r : TSlot) : Prop := SCon Tryz.prog 65 [.a (.agg ((eTItem a0).map .v))] [] (.a (.agg ((eTSlot r).map .v))) [] []
theorem shelf_Of_con0 {k : Nat}  {a0 : TItem} {r : TSlot}  (H0 : shelf_Of.f k a0 = some r) : shelf_Of_st a0 r := by
 rw [shelf_Of.f] at H0
 refine spec_of [(0, _)] [] 5 Tryz.func65 rfl Tryz.ntmps65 rfl rfl rfl rfl (fun β W F => ?_)
 refine G.seq <| G.rg <| K.box Y 100 _ g0 rfl rfl rfl rfl rfl rfl <| K.alloc Y 101 _ g0 t66 rfl rfl rfl rfl rfl <| K.nil <| At.nr <| K.loadS Y _ g0 rfl rfl t30 rfl rfl rfl <| K.build Y [(0, _)] [_, _, _, _] [((.tmp 3), _)] g0 (AllE.spec ⟨rfl, trivial⟩) rfl rfl t66 rfl rfl <| K.store Y _ g0 rfl rfl rfl t66 rfl rfl rfl rfl rfl <| K.nil <| At.next <| G.ret <| At.done Y [(.cell 2 66, .agg [_, _, _, _])] rfl ⟨.st rfl rfl t66 rfl rfl, trivial⟩ (to' := []) trivial ?_ ?_ rfl rfl rfl (.inl rfl)
 · cases H0; rfl
 · cases H0; rfl
theorem shelf_Of_con {k : Nat}  {a0 : TItem} {r : TSlot}  (H0 : shelf_Of.f k a0 = some r) : shelf_Of_st a0 r :=
 SCon.ren (rn []) (shelf_Of_con0 (k := k)   H0) trivial trivial (by simp) (by simp)
abbrev bridge_clamp_st (p1 : Pool (TNode TMark TSwell)) (rt0 : TRef) (a1 : Int) (r : Int) (m0 : Nat) (m1 : Nat) : Prop := SCon Tryz.prog 98 [SV.p m0 0, .a (.c (.v (.int .i64 a1)))] [(m0, blk m0 [.p m1 0, .i rt0.index, .i rt0.gen] 110), (m1, plM m1 p1)] (.a (.c (.v (.int .i64 r)))) [(m0, blk m0 [.p m1 0, .i rt0.index, .i rt0.gen] 110), (m1, plM m1 p1)] []
theorem bridge_clamp_con0 {k : Nat}  {p1 : Pool (TNode TMark TSwell)} {rt0 : TRef} {a1 : Int} {r : Int}  (H0 : bridge_clamp.f k p1 rt0 a1 = some r) : bridge_clamp_st p1 rt0 a1 r 0 1 := by
 rw [bridge_clamp.f] at H0
 refine spec_of [(0, _), (1, _)] [(0, _), (1, _)] 10 Tryz.func98 rfl Tryz.ntmps98 rfl rfl rfl rfl (fun β W F => ?_)
 refine G.seq <| G.rg <| K.as rfl rfl <| K.nil <| At.ns ?_
 obtain ⟨x1, hx1, H0⟩ := bnd H0
 exact G.rg <| K.mv rfl rfl <| K.bi2 (V := .int .i64 (gmax a1 0)) g0 rfl rfl (fun _ _ => rfl) rfl <| K.mv rfl rfl <| K.cR (cf 34 rfl) (Tree_LenM_con hx1 0 1) g0 rfl rfl rfl rfl <| K.bi2 (V := .int .i64 (gmin (gmax a1 0) x1)) g0 rfl rfl (fun _ _ => rfl) rfl <| K.as rfl rfl <| K.nil <| At.next <| G.ret <| At.dr Y [4] rfl rfl (by cases H0; rfl) (by cases H0; rfl) rfl rfl rfl
theorem bridge_clamp_con {k : Nat}  {p1 : Pool (TNode TMark TSwell)} {rt0 : TRef} {a1 : Int} {r : Int}  (H0 : bridge_clamp.f k p1 rt0 a1 = some r) (m0 m1 : Nat) : bridge_clamp_st p1 rt0 a1 r m0 m1 :=
 SCon.ren (rn [(0, m0), (1, m1)]) (bridge_clamp_con0 (k := k)   H0) ⟨(blk_ren rfl rfl), (pl_ren rfl), trivial⟩ ⟨(blk_ren rfl rfl), (pl_ren rfl), trivial⟩ (by simp) (by simp)
abbrev bridge_low_st (a0 : Int) (r : Int) (m50 : Nat) : Prop := SCon Tryz.prog 99 [.a (.c (.v (.int .i64 a0)))] [] (.a (.c (.fn (.func 119) [m50]))) [(m50, blk m50 [.v (.int .i64 r)] 3)] [m50]
theorem bridge_low_con0 {k : Nat}  {a0 : Int} {r : Int}  (H0 : bridge_low.f k a0 = some r) : bridge_low_st a0 r 50 := by
 rw [bridge_low.f] at H0
 refine spec_of [(0, _)] [] 4 Tryz.func99 rfl Tryz.ntmps99 rfl rfl rfl rfl (fun β W F => ?_)
 exact G.seq <| G.rg <| K.box Y 100 _ g0 rfl rfl rfl rfl rfl rfl <| K.as rfl rfl <| K.nil <| At.nr <| K.mkFn1 g0 rfl rfl <| K.as rfl rfl <| K.nil <| At.next <| G.ret <| At.ren (fs' := [(2, .a (.c (.fn (.func 119) [50])))]) (tl := [(50, blk 50 [.v (.int .i64 a0)] 3)]) [(50, 100)] [_] rfl ⟨rfl, trivial⟩ ⟨rfl, (blk_ren rfl rfl), trivial⟩ rfl <| At.dr Y [2] rfl rfl (by cases H0; rfl) (by cases H0; rfl) rfl rfl rfl
theorem bridge_low_con {k : Nat}  {a0 : Int} {r : Int}  (H0 : bridge_low.f k a0 = some r) (m50 : Nat) (hd : ndB [m50] = true) : bridge_low_st a0 r m50 :=
 SCon.ren (rn [(50, m50)]) (bridge_low_con0 (k := k)   H0) trivial ⟨(blk_ren rfl rfl), trivial⟩ (rn_nd hd rfl rfl) (rn_ks hd rfl rfl rfl)
abbrev bridge_low_1_st (a0 : TSwell) (a1 : TSwell) (c0 : Int) (r : Bool) (m0 : Nat) : Prop := SCon Tryz.prog 119 [.a (.agg ((eTSwell a0).map .v)), .a (.agg ((eTSwell a1).map .v)), SV.p m0 0] [(m0, blk m0 [.v (.int .i64 c0)] 3)] (.a (.c (.v (.bool r)))) [(m0, blk m0 [.v (.int .i64 c0)] 3)] []
theorem bridge_low_1_con0 {k : Nat}  {a0 : TSwell} {a1 : TSwell} {c0 : Int} {r : Bool}  (H0 : bridge_low_1.f k a0 a1 c0 = some r) : bridge_low_1_st a0 a1 c0 r 0 := by
 rw [bridge_low_1.f] at H0
 refine spec_of [(0, _), (1, _), (2, _)] [(0, _)] 22 Tryz.func119 rfl Tryz.ntmps119 rfl rfl rfl rfl (fun β W F => ?_)
 refine G.seq <| G.rg <| K.box Y 100 _ g0 rfl rfl rfl rfl rfl rfl <| K.box Y 101 _ g0 rfl rfl rfl rfl rfl rfl <| K.as rfl rfl <| K.nil <| At.ns ?_
 rcases Bool.eq_false_or_eq_true (decide (a1.weight.n > 0)) with h1 | h1
 ·
  replace H0 := bif_t H0 h1
  exact G.rg <| K.fieldAddr Y g0 rfl t50 rfl rfl <| K.fieldAddr Y g0 rfl t48 rfl rfl <| K.load1 Y g0 rfl rfl t3 rfl rfl <| K.bin (V := .bool (decide (a1.weight.n > 0))) g0 rfl rfl (fun _ => rfl) rfl <| K.mv rfl rfl <| K.load1 Y (g1 rfl rfl h1) rfl rfl t3 rfl rfl <| K.fieldAddr Y (g1 rfl rfl h1) rfl t50 rfl rfl <| K.fieldAddr Y (g1 rfl rfl h1) rfl t48 rfl rfl <| K.load1 Y (g1 rfl rfl h1) rfl rfl t3 rfl rfl <| K.bin (V := .int .i64 (w64 (c0 + a0.weight.sum))) (g1 rfl rfl h1) rfl rfl (fun _ => rfl) rfl <| K.fieldAddr Y (g1 rfl rfl h1) rfl t50 rfl rfl <| K.fieldAddr Y (g1 rfl rfl h1) rfl t48 rfl rfl <| K.load1 Y (g1 rfl rfl h1) rfl rfl t3 rfl rfl <| K.bin (V := .int .i64 (w64 ((w64 (c0 + a0.weight.sum)) + a1.weight.low))) (g1 rfl rfl h1) rfl rfl (fun _ => rfl) rfl <| K.bin (V := .bool (decide ((w64 ((w64 (c0 + a0.weight.sum)) + a1.weight.low)) ≤ 0))) (g1 rfl rfl h1) rfl rfl (fun _ => rfl) rfl <| K.pickT g0 rfl (h1) rfl rfl <| K.as rfl rfl <| K.nil <| At.next <| G.ret <| At.dr Y [5] rfl rfl (by cases H0; rfl) (by cases H0; rfl) rfl rfl rfl
 ·
  replace H0 := bif_f H0 h1
  exact G.rg <| K.fieldAddr Y g0 rfl t50 rfl rfl <| K.fieldAddr Y g0 rfl t48 rfl rfl <| K.load1 Y g0 rfl rfl t3 rfl rfl <| K.bin (V := .bool (decide (a1.weight.n > 0))) g0 rfl rfl (fun _ => rfl) rfl <| K.mv rfl rfl <| K.sk rfl rfl h1 rfl <| K.sk rfl rfl h1 rfl <| K.sk rfl rfl h1 rfl <| K.sk rfl rfl h1 rfl <| K.sk rfl rfl h1 rfl <| K.sk rfl rfl h1 rfl <| K.sk rfl rfl h1 rfl <| K.sk rfl rfl h1 rfl <| K.sk rfl rfl h1 rfl <| K.sk rfl rfl h1 rfl <| K.pickF g0 rfl (h1) rfl rfl <| K.as rfl rfl <| K.nil <| At.next <| G.ret <| At.dr Y [5] rfl rfl (by cases H0; rfl) (by cases H0; rfl) rfl rfl rfl
theorem bridge_low_1_con {k : Nat}  {a0 : TSwell} {a1 : TSwell} {c0 : Int} {r : Bool}  (H0 : bridge_low_1.f k a0 a1 c0 = some r) (m0 : Nat) : bridge_low_1_st a0 a1 c0 r m0 :=
 SCon.ren (rn [(0, m0)]) (bridge_low_1_con0 (k := k)   H0) ⟨(blk_ren rfl rfl), trivial⟩ ⟨(blk_ren rfl rfl), trivial⟩ (by simp) (by simp)
abbrev bridge_Prior_st (p1 : Pool (TNode TMark TSwell)) (rt0 : TRef) (a1 : Int) (a2 : Int) (r : Int) (m0 : Nat) (m1 : Nat) : Prop := SCon Tryz.prog 68 [SV.p m0 0, .a (.c (.v (.int .i64 a1))), .a (.c (.v (.int .i64 a2)))] [(m0, blk m0 [.p m1 0, .i rt0.index, .i rt0.gen] 110), (m1, plM m1 p1)] (.a (.c (.v (.int .i64 r)))) [(m0, blk m0 [.p m1 0, .i rt0.index, .i rt0.gen] 110), (m1, plM m1 p1)] []
theorem bridge_Prior_con0 {k : Nat}  {p1 : Pool (TNode TMark TSwell)} {rt0 : TRef} {a1 : Int} {a2 : Int} {r : Int}  (H0 : bridge_Prior.f k p1 rt0 a1 a2 = some r) : bridge_Prior_st p1 rt0 a1 a2 r 0 1 := by
 rw [bridge_Prior.f] at H0
 refine spec_of [(0, _), (1, _), (2, _)] [(0, _), (1, _)] 21 Tryz.func68 rfl Tryz.ntmps68 rfl rfl rfl rfl (fun β W F => ?_)
 refine G.seq <| G.rg <| K.as rfl rfl <| K.nil <| At.ns <| G.seq ?_
 obtain ⟨x1, hx1, H0⟩ := bnd H0
 obtain ⟨x2, hx2, H0⟩ := bnd H0
 obtain ⟨x3, hx3, H0⟩ := bnd H0
 refine G.rg <| K.mv rfl rfl <| K.mv rfl rfl <| K.mv rfl rfl <| K.cR (cf 98 rfl) (bridge_clamp_con hx1 0 1) g0 rfl rfl rfl rfl <| K.mv rfl rfl <| K.c0 (cf 99 rfl) (bridge_low_con hx2 100 rfl) g0 rfl rfl rfl rfl <| K.cR (cf 97 rfl) (Tree_LastM_f12_con (cv2 := [(.int .i64 x2)]) (Tc2 := 3) (cf 119 rfl) (fun c _ _ _ h => bridge_low_1_con h c) hx3 0 1 100) g0 rfl rfl rfl rfl <| K.as rfl rfl <| K.nil <| At.nr <| K.mv rfl rfl <| K.bin (V := .bool (decide (x3 ≥ 0))) g0 rfl rfl (fun _ => rfl) rfl <| K.nil <| At.next <| G.cond rfl (fun h1 => ?_) (fun h1 => ?_)
 ·
  replace H0 := bif_t H0 h1
  exact G.seq <| G.rg <| K.mv rfl rfl <| K.bin (V := .int .i64 (w64 (x3 + 1))) g0 rfl rfl (fun _ => rfl) rfl <| K.as rfl rfl <| K.nil <| At.next <| G.ret <| At.over_ret <| At.dr Y [6] rfl rfl (by cases H0; rfl) (by cases H0; rfl) rfl rfl rfl
 ·
  replace H0 := bif_f H0 h1
  refine G.skip <| At.ns <| G.seq <| G.rg <| K.mv rfl rfl <| K.bin (V := .bool (decide (a2 ≤ 0))) g0 rfl rfl (fun _ => rfl) rfl <| K.nil <| At.next <| G.cond rfl (fun h2 => ?_) (fun h2 => ?_)
  ·
   replace H0 := bif_t H0 h2
   exact G.seq <| G.rg <| K.as rfl rfl <| K.nil <| At.next <| G.ret <| At.over_ret <| At.dr Y [6] rfl rfl (by cases H0; rfl) (by cases H0; rfl) rfl rfl rfl
  ·
   replace H0 := bif_f H0 h2
   exact G.skip <| At.nr <| K.as rfl rfl <| K.nil <| At.next <| G.ret <| At.dr Y [6] rfl rfl (by cases H0; rfl) (by cases H0; rfl) rfl rfl rfl
theorem bridge_Prior_con {k : Nat}  {p1 : Pool (TNode TMark TSwell)} {rt0 : TRef} {a1 : Int} {a2 : Int} {r : Int}  (H0 : bridge_Prior.f k p1 rt0 a1 a2 = some r) (m0 m1 : Nat) : bridge_Prior_st p1 rt0 a1 a2 r m0 m1 :=
 SCon.ren (rn [(0, m0), (1, m1)]) (bridge_Prior_con0 (k := k)   H0) ⟨(blk_ren rfl rfl), (pl_ren rfl), trivial⟩ ⟨(blk_ren rfl rfl), (pl_ren rfl), trivial⟩ (by simp) (by simp)
abbrev bridge_Best_st (p1 : Pool (TNode TMark TSwell)) (rt0 : TRef) (a1 : Int) (r : TTook) (m0 : Nat) (m1 : Nat) : Prop := SCon Tryz.prog 71 [SV.p m0 0, .a (.c (.v (.int .i64 a1)))] [(m0, blk m0 [.p m1 0, .i rt0.index, .i rt0.gen] 110), (m1, plM m1 p1)] (.a (.agg ((eTTook r).map .v))) [(m0, blk m0 [.p m1 0, .i rt0.index, .i rt0.gen] 110), (m1, plM m1 p1)] []
theorem bridge_Best_con0 {k : Nat}  {p1 : Pool (TNode TMark TSwell)} {rt0 : TRef} {a1 : Int} {r : TTook}  (H0 : bridge_Best.f k p1 rt0 a1 = some r) : bridge_Best_st p1 rt0 a1 r 0 1 := by
 rw [bridge_Best.f] at H0
 refine spec_of [(0, _), (1, _)] [(0, _), (1, _)] 13 Tryz.func71 rfl Tryz.ntmps71 rfl rfl rfl rfl (fun β W F => ?_)
 refine G.seq <| G.rg <| K.alloc Y 100 _ g0 t44 rfl rfl rfl rfl rfl <| K.nil <| At.ns ?_
 obtain ⟨x1, hx1, H0⟩ := bnd H0
 obtain ⟨x2, hx2, H0⟩ := bnd H0
 obtain ⟨x3, hx3, H0⟩ := bnd H0
 refine G.rg <| K.mv rfl rfl <| K.mv rfl rfl <| K.mv rfl rfl <| K.cR (cf 98 rfl) (bridge_clamp_con hx1 0 1) g0 rfl rfl rfl rfl <| K.mv rfl rfl <| K.cR (cf 34 rfl) (Tree_LenM_con hx2 0 1) g0 rfl rfl rfl rfl <| K.cR (cf 102 rfl) (Tree_BetweenM_con hx3 0 1) g0 rfl rfl rfl rfl <| K.fieldS Y _ g0 rfl t50 rfl t44 rfl rfl <| K.store Y _ g0 rfl rfl rfl t44 rfl rfl rfl rfl rfl <| K.nil <| At.next <| G.ret <| At.done Y [(.cell 4 44, .agg [_, _, _])] rfl ⟨.st rfl rfl t44 rfl rfl, trivial⟩ (to' := [(0, _), (1, _)]) ⟨rfl, rfl, trivial⟩ ?_ ?_ rfl rfl rfl (.inl rfl)
 · cases H0; rfl
 · cases H0; rfl
theorem bridge_Best_con {k : Nat}  {p1 : Pool (TNode TMark TSwell)} {rt0 : TRef} {a1 : Int} {r : TTook}  (H0 : bridge_Best.f k p1 rt0 a1 = some r) (m0 m1 : Nat) : bridge_Best_st p1 rt0 a1 r m0 m1 :=
 SCon.ren (rn [(0, m0), (1, m1)]) (bridge_Best_con0 (k := k)   H0) ⟨(blk_ren rfl rfl), (pl_ren rfl), trivial⟩ ⟨(blk_ren rfl rfl), (pl_ren rfl), trivial⟩ (by simp) (by simp)
abbrev partial_Queue_turn_st (q0 : TQueue) (a1 : TItem) (a2 : Bool) (r : TQueue) (m0 : Nat) (m1 : Nat) (m2 : Nat) (m3 : Nat) (m4 : Nat) (m5 : Nat) (m6 : Nat) (m7 : Nat) (m8 : Nat) : Prop := SCon Tryz.prog 72 [SV.p m0 0, .a (.agg ((eTItem a1).map .v)), .a (.c (.v (.bool a2)))] (tkQueue m0 m1 m2 m3 m4 m5 m6 m7 m8 q0 []) (.tup []) (tkQueue m0 m1 m2 m3 m4 m5 m6 m7 m8 r []) []
theorem partial_Queue_turn_con0 {k : Nat}  {q0 : TQueue} {a1 : TItem} {a2 : Bool} {r : TQueue}  (H0 : partial_Queue_turn.f k q0 a1 a2 = some r) : partial_Queue_turn_st q0 a1 a2 r 0 1 2 3 4 5 6 7 8 := by
 rw [partial_Queue_turn.f] at H0
 refine spec_of [(0, _), (1, _), (2, _)] [(0, _), (1, _), (2, _), (3, _), (4, _), (5, _), (6, _), (7, _), (8, _)] 60 Tryz.func72 rfl Tryz.ntmps72 rfl rfl rfl rfl (fun β W F => ?_)
 refine G.seq <| G.rg <| K.box Y 100 _ g0 rfl rfl rfl rfl rfl rfl <| K.nil <| At.ns ?_
 obtain ⟨x1, hx1, H0⟩ := bnd H0
 obtain ⟨x2, hx2, H0⟩ := bnd H0
 refine G.rd mixed <| K.mv rfl rfl <| K.nilCheck g0 rfl rfl <| K.fieldAddr Y g0 rfl t98 rfl rfl <| K.load1 Y g0 rfl rfl t63 rfl rfl <| K.loadS Y _ g0 rfl rfl t30 rfl rfl rfl <| K.cR (cf 65 rfl) (shelf_Of_con hx1) g0 rfl rfl rfl rfl <| K.cR (cf 64 rfl) (Tree_FindS_con hx2 7 8) g0 rfl rfl rfl rfl <| K.mv rfl rfl <| K.extract g0 rfl rfl rfl <| K.extract g0 rfl rfl rfl <| K.alloc Y 101 _ g0 t66 rfl rfl rfl rfl rfl <| K.store Y _ g0 rfl rfl rfl t66 rfl rfl rfl rfl rfl <| K.as rfl rfl <| K.nil <| And.intro (by kernel_rfl) <| At.ns ?_
 obtain ⟨x3, hx3, H0⟩ := bnd H0
 obtain ⟨x4, hx4, H0⟩ := bnd H0
 refine G.rd mixed <| K.mv rfl rfl <| K.nilCheck g0 rfl rfl <| K.fieldAddr Y g0 rfl t98 rfl rfl <| K.load1 Y g0 rfl rfl t38 rfl rfl <| K.fieldAddr Y g0 rfl t66 rfl rfl <| K.load1 Y g0 rfl rfl t3 rfl rfl <| K.cR (cf 67 rfl) (wave_Key_con hx3) g0 rfl rfl rfl rfl <| K.cR (cf 74 rfl) (Tree_FindM_con hx4 1 2) g0 rfl rfl rfl rfl <| K.mv rfl rfl <| K.extract g0 rfl rfl rfl <| K.extract g0 rfl rfl rfl <| K.alloc Y 102 _ g0 t46 rfl rfl rfl rfl rfl <| K.store Y _ g0 rfl rfl rfl t46 rfl rfl rfl rfl rfl <| K.as rfl rfl <| K.nil <| And.intro (by kernel_rfl) <| At.nr <| K.mv rfl rfl <| K.fieldAddr Y g0 rfl t46 rfl rfl <| K.store Y _ g0 rfl rfl rfl t4 rfl rfl rfl rfl rfl <| K.nil <| At.ns ?_
 obtain ⟨x5, hx5, H0⟩ := bnd H0
 refine G.rd mixed <| K.mv rfl rfl <| K.nilCheck g0 rfl rfl <| K.fieldAddr Y g0 rfl t98 rfl rfl <| K.load1 Y g0 rfl rfl t38 rfl rfl <| K.loadS Y _ g0 rfl rfl t46 rfl rfl rfl <| K.c0 (cf 70 rfl) (Tree_PutM_con hx5 1 2) g0 rfl rfl rfl rfl <| K.nil <| And.intro (by kernel_rfl) <| At.ns <| G.rd mixed <| K.mv rfl rfl <| K.nilCheck g0 rfl rfl <| K.fieldAddr Y g0 rfl t98 rfl rfl <| K.load1 Y g0 rfl rfl t63 rfl rfl <| K.mv rfl rfl <| K.nilCheck g0 rfl rfl <| K.fieldAddr Y g0 rfl t98 rfl rfl <| K.load1 Y g0 rfl rfl t63 rfl rfl <| K.as rfl rfl <| K.as rfl rfl <| K.nil <| And.intro (by kernel_rfl) <| At.ns <| G.seq <| G.rg <| K.mv rfl rfl <| K.nil <| At.next <| G.cond rfl (fun h1 => ?_) (fun h1 => ?_)
 ·
  replace H0 := bif_t H0 h1
  refine G.rg <| K.mv rfl rfl <| K.mv rfl rfl <| K.as rfl rfl <| K.as rfl rfl <| K.nil <| At.ns ?_
  obtain ⟨x6, hx6, H0⟩ := bnd H0
  obtain ⟨x7, hx7, H0⟩ := bnd H0
  refine G.rg <| K.mv rfl rfl <| K.loadS Y _ g0 rfl rfl t30 rfl rfl rfl <| K.cR (cf 65 rfl) (shelf_Of_con hx6) g0 rfl rfl rfl rfl <| K.c0 (cf 77 rfl) (Tree_DropS_con hx7 5 6) g0 rfl rfl rfl rfl <| K.nil <| At.next ?_
  obtain ⟨x8, hx8, H0⟩ := bnd H0
  obtain ⟨x9, hx9, H0⟩ := bnd H0
  exact G.rg <| K.mv rfl rfl <| K.loadS Y _ g0 rfl rfl t30 rfl rfl rfl <| K.cR (cf 65 rfl) (shelf_Of_con hx8) g0 rfl rfl rfl rfl <| K.c0 (cf 69 rfl) (Tree_PutS_con hx9 3 4) g0 rfl rfl rfl rfl <| K.nil <| At.dn Y [] rfl rfl (by cases H0; rfl) (by cases H0; rfl) rfl rfl rfl
 ·
  replace H0 := bif_f H0 h1
  refine G.skip <| At.ns ?_
  obtain ⟨x10, hx10, H0⟩ := bnd H0
  obtain ⟨x11, hx11, H0⟩ := bnd H0
  refine G.rg <| K.mv rfl rfl <| K.loadS Y _ g0 rfl rfl t30 rfl rfl rfl <| K.cR (cf 65 rfl) (shelf_Of_con hx10) g0 rfl rfl rfl rfl <| K.c0 (cf 77 rfl) (Tree_DropS_con hx11 3 4) g0 rfl rfl rfl rfl <| K.nil <| At.next ?_
  obtain ⟨x12, hx12, H0⟩ := bnd H0
  obtain ⟨x13, hx13, H0⟩ := bnd H0
  exact G.rg <| K.mv rfl rfl <| K.loadS Y _ g0 rfl rfl t30 rfl rfl rfl <| K.cR (cf 65 rfl) (shelf_Of_con hx12) g0 rfl rfl rfl rfl <| K.c0 (cf 69 rfl) (Tree_PutS_con hx13 5 6) g0 rfl rfl rfl rfl <| K.nil <| At.dn Y [] rfl rfl (by cases H0; rfl) (by cases H0; rfl) rfl rfl rfl
theorem partial_Queue_turn_con {k : Nat}  {q0 : TQueue} {a1 : TItem} {a2 : Bool} {r : TQueue}  (H0 : partial_Queue_turn.f k q0 a1 a2 = some r) (m0 m1 m2 m3 m4 m5 m6 m7 m8 : Nat) : partial_Queue_turn_st q0 a1 a2 r m0 m1 m2 m3 m4 m5 m6 m7 m8 :=
 SCon.ren (rn [(0, m0), (1, m1), (2, m2), (3, m3), (4, m4), (5, m5), (6, m6), (7, m7), (8, m8)]) (partial_Queue_turn_con0 (k := k)   H0) ⟨(blk_ren rfl rfl), (blk_ren rfl rfl), (pl_ren rfl), (blk_ren rfl rfl), (pl_ren rfl), (blk_ren rfl rfl), (pl_ren rfl), (blk_ren rfl rfl), (pl_ren rfl), trivial⟩ ⟨(blk_ren rfl rfl), (blk_ren rfl rfl), (pl_ren rfl), (blk_ren rfl rfl), (pl_ren rfl), (blk_ren rfl rfl), (pl_ren rfl), (blk_ren rfl rfl), (pl_ren rfl), trivial⟩ (by simp) (by simp)
abbrev partial_Queue_Insert_st (q0 : TQueue) (a1 : Int) (a2 : TItem) (r : TChange × Int × TQueue) (m0 : Nat) (m1 : Nat) (m2 : Nat) (m3 : Nat) (m4 : Nat) (m5 : Nat) (m6 : Nat) (m7 : Nat) (m8 : Nat) (m60 : Nat) (m61 : Nat) : Prop := SCon Tryz.prog 23 [SV.p m0 0, .a (.c (.v (.int .i64 a1))), .a (.agg ((eTItem a2).map .v))] (tkQueue m0 m1 m2 m3 m4 m5 m6 m7 m8 q0 []) (.tup [.agg [.nv m60, .nv m61], .c (.v (.int .i64 r.2.1))]) (tkQueue m0 m1 m2 m3 m4 m5 m6 m7 m8 r.2.2 [(m60, lrow m60 30 eTItem 2 (r.1.in_)), (m61, lrow m61 30 eTItem 2 (r.1.out))]) [m60, m61]
set_option maxHeartbeats 4000000 in
theorem partial_Queue_Insert_con0 {k : Nat}  {q0 : TQueue} {a1 : Int} {a2 : TItem} {r : TChange × Int × TQueue}  (H0 : partial_Queue_Insert.f k q0 a1 a2 = some r) : partial_Queue_Insert_st q0 a1 a2 r 0 1 2 3 4 5 6 7 8 60 61 := by
 rw [partial_Queue_Insert.f] at H0
 refine spec_of [(0, _), (1, _), (2, _)] [(0, _), (1, _), (2, _), (3, _), (4, _), (5, _), (6, _), (7, _), (8, _)] 98 Tryz.func23 rfl Tryz.ntmps23 rfl rfl rfl rfl (fun β W F => ?_)
 refine G.seq <| G.rg <| K.box Y 100 _ g0 rfl rfl rfl rfl rfl rfl <| K.alloc Y 101 _ g0 t56 rfl rfl rfl rfl rfl <| K.as rfl rfl <| K.nil <| At.nilBlk (n := 101) (l' := [_, _]) 0 102 30 eTItem 2 rfl rfl rfl rfl rfl <| At.nilBlk (n := 101) (l' := [_, _]) 1 103 30 eTItem 2 rfl rfl rfl rfl rfl <| At.ns <| G.seq ?_
 obtain ⟨x1, hx1, H0⟩ := bnd H0
 refine G.rg <| K.mv rfl rfl <| K.mv rfl rfl <| K.cR (cf 63 rfl) (partial_Queue_may_con hx1 0 1 2 3 4 5 6 7 8) g0 rfl rfl rfl rfl <| K.as rfl rfl <| K.nil <| At.nr <| K.mv rfl rfl <| K.bin (V := .bool (x1 != 0)) g0 rfl rfl (fun _ => rfl) rfl <| K.nil <| At.next <| G.cond rfl (fun h1 => ?_) (fun h1 => ?_)
 ·
  replace H0 := bif_t H0 h1
  refine G.seq <| G.rg <| K.build Y [] [_, _] [] g0 (AllE.spec trivial) rfl rfl t56 rfl rfl <| K.mv rfl rfl <| K.store Y _ g0 rfl rfl rfl t56 rfl rfl rfl rfl rfl <| K.as rfl rfl <| K.nil <| At.nilAgg (t := 19) (l' := [_, _]) 0 104 30 eTItem 2 rfl rfl rfl rfl rfl <| At.nilAgg (t := 19) (l' := [_, _]) 1 105 30 eTItem 2 rfl rfl rfl rfl rfl <| At.nilBlk (n := 101) (l' := [_, _]) 0 106 30 eTItem 2 rfl rfl rfl rfl rfl <| At.nilBlk (n := 101) (l' := [_, _]) 1 107 30 eTItem 2 rfl rfl rfl rfl rfl <| At.next <| G.ret <| At.over_ret <| At.ren (fs' := [(6, .a (.c (.p 101 0))), (7, .a (.c (.v (.int .i64 x1))))]) (tl := (tkQueue 0 1 2 3 4 5 6 7 8 q0 [(60, lrow 60 30 eTItem 2 ([] : List TItem)), (61, lrow 61 30 eTItem 2 ([] : List TItem)), (101, blk 101 [.nv 60, .nv 61] 56)])) [(60, 106), (61, 107)] [_, _, _, _, _, _, _, _, _, _, _, _] rfl ⟨rfl, rfl, trivial⟩ ⟨rfl, (blk_ren rfl rfl), rfl, (blk_ren rfl rfl), rfl, (pl_ren rfl), rfl, (blk_ren rfl rfl), rfl, (pl_ren rfl), rfl, (blk_ren rfl rfl), rfl, (pl_ren rfl), rfl, (blk_ren rfl rfl), rfl, (pl_ren rfl), rfl, (lrow_ren rfl), rfl, (lrow_ren rfl), rfl, (blk_ren rfl rfl), trivial⟩ rfl <| At.done Y [(.cell 6 56, .agg [_, _]), (.tmp 7, .c _)] rfl ⟨.st rfl rfl t56 rfl rfl, .tmp rfl, trivial⟩ (to' := [(0, _), (1, _), (2, _), (3, _), (4, _), (5, _), (6, _), (7, _), (8, _), (60, _), (61, _)]) ⟨rfl, rfl, rfl, rfl, rfl, rfl, rfl, rfl, rfl, rfl, rfl, trivial⟩ ?_ ?_ rfl rfl rfl (.inl rfl)
  · cases H0; rfl
  · cases H0; rfl
 ·
  replace H0 := bif_f H0 h1
  refine G.skip <| At.ns <| G.seq ?_
  obtain ⟨x2, hx2, H0⟩ := bnd H0
  obtain ⟨x3, hx3, H0⟩ := bnd H0
  refine G.rd mixed <| K.mv rfl rfl <| K.nilCheck g0 rfl rfl <| K.fieldAddr Y g0 rfl t98 rfl rfl <| K.load1 Y g0 rfl rfl t63 rfl rfl <| K.loadS Y _ g0 rfl rfl t30 rfl rfl rfl <| K.cR (cf 65 rfl) (shelf_Of_con hx2) g0 rfl rfl rfl rfl <| K.cR (cf 64 rfl) (Tree_FindS_con hx3 7 8) g0 rfl rfl rfl rfl <| K.mv rfl rfl <| K.extract g0 rfl rfl rfl <| K.extract g0 rfl rfl rfl <| K.alloc Y 108 _ g0 t66 rfl rfl rfl rfl rfl <| K.store Y _ g0 rfl rfl rfl t66 rfl rfl rfl rfl rfl <| K.as rfl rfl <| K.nil <| And.intro (by kernel_rfl) <| At.nr <| K.mv rfl rfl <| K.nil <| At.next <| G.cond rfl (fun h2 => ?_) (fun h2 => ?_)
  ·
   replace H0 := bif_t H0 h2
   refine G.seq <| G.rg <| K.build Y [] [_, _] [] g0 (AllE.spec trivial) rfl rfl t56 rfl rfl <| K.store Y _ g0 rfl rfl rfl t56 rfl rfl rfl rfl rfl <| K.as rfl rfl <| K.nil <| At.nilAgg (t := 32) (l' := [_, _]) 0 109 30 eTItem 2 rfl rfl rfl rfl rfl <| At.nilAgg (t := 32) (l' := [_, _]) 1 110 30 eTItem 2 rfl rfl rfl rfl rfl <| At.nilBlk (n := 101) (l' := [_, _]) 0 111 30 eTItem 2 rfl rfl rfl rfl rfl <| At.nilBlk (n := 101) (l' := [_, _]) 1 112 30 eTItem 2 rfl rfl rfl rfl rfl <| At.next <| G.ret <| At.over_ret <| At.ren (fs' := [(6, .a (.c (.p 101 0))), (7, .a (.c (.v (.int .i64 2))))]) (tl := (tkQueue 0 1 2 3 4 5 6 7 8 q0 [(60, lrow 60 30 eTItem 2 ([] : List TItem)), (61, lrow 61 30 eTItem 2 ([] : List TItem)), (101, blk 101 [.nv 60, .nv 61] 56)])) [(60, 111), (61, 112)] [_, _, _, _, _, _, _, _, _, _, _, _] rfl ⟨rfl, rfl, trivial⟩ ⟨rfl, (blk_ren rfl rfl), rfl, (blk_ren rfl rfl), rfl, (pl_ren rfl), rfl, (blk_ren rfl rfl), rfl, (pl_ren rfl), rfl, (blk_ren rfl rfl), rfl, (pl_ren rfl), rfl, (blk_ren rfl rfl), rfl, (pl_ren rfl), rfl, (lrow_ren rfl), rfl, (lrow_ren rfl), rfl, (blk_ren rfl rfl), trivial⟩ rfl <| At.done Y [(.cell 6 56, .agg [_, _]), (.tmp 7, .c _)] rfl ⟨.st rfl rfl t56 rfl rfl, .tmp rfl, trivial⟩ (to' := [(0, _), (1, _), (2, _), (3, _), (4, _), (5, _), (6, _), (7, _), (8, _), (60, _), (61, _)]) ⟨rfl, rfl, rfl, rfl, rfl, rfl, rfl, rfl, rfl, rfl, rfl, trivial⟩ ?_ ?_ rfl rfl rfl (.inl rfl)
   · cases H0; rfl
   · cases H0; rfl
  ·
   replace H0 := bif_f H0 h2
   refine G.skip <| At.ns ?_
   obtain ⟨x4, hx4, H0⟩ := bnd H0
   obtain ⟨x5, hx5, H0⟩ := bnd H0
   refine G.rd mixed <| K.mv rfl rfl <| K.nilCheck g0 rfl rfl <| K.fieldAddr Y g0 rfl t98 rfl rfl <| K.load1 Y g0 rfl rfl t38 rfl rfl <| K.mv rfl rfl <| K.cR (cf 67 rfl) (wave_Key_con hx4) g0 rfl rfl rfl rfl <| K.cR (cf 66 rfl) (Tree_RankM_con hx5 1 2) g0 rfl rfl rfl rfl <| K.as rfl rfl <| K.nil <| And.intro (by kernel_rfl) <| At.ns ?_
   obtain ⟨x6, hx6, H0⟩ := bnd H0
   refine G.rd mixed <| K.mv rfl rfl <| K.nilCheck g0 rfl rfl <| K.fieldAddr Y g0 rfl t98 rfl rfl <| K.load1 Y g0 rfl rfl t38 rfl rfl <| K.mv rfl rfl <| K.mv rfl rfl <| K.nilCheck g0 rfl rfl <| K.fieldAddr Y g0 rfl t98 rfl rfl <| K.load1 Y g0 rfl rfl t3 rfl rfl <| K.cR (cf 68 rfl) (bridge_Prior_con hx6 1 2) g0 rfl rfl rfl rfl <| K.as rfl rfl <| K.nil <| And.intro (by kernel_rfl) <| At.ns ?_
   obtain ⟨x7, hx7, H0⟩ := bnd H0
   refine G.rd mixed <| K.mv rfl rfl <| K.nilCheck g0 rfl rfl <| K.fieldAddr Y g0 rfl t98 rfl rfl <| K.load1 Y g0 rfl rfl t63 rfl rfl <| K.loadS Y _ g0 rfl rfl t30 rfl rfl rfl <| K.mv rfl rfl <| K.build Y [(0, _), (1, _), (2, _)] [_, _, _, _] [((.tmp 54), _), (_, _), ((.tmp 55), _)] g0 (AllE.spec ⟨rfl, rfl, rfl, trivial⟩) rfl rfl t66 rfl rfl <| K.c0 (cf 69 rfl) (Tree_PutS_con hx7 7 8) g0 rfl rfl rfl rfl <| K.nil <| And.intro (by kernel_rfl) <| At.ns ?_
   obtain ⟨x8, hx8, H0⟩ := bnd H0
   refine G.rd mixed <| K.mv rfl rfl <| K.nilCheck g0 rfl rfl <| K.fieldAddr Y g0 rfl t98 rfl rfl <| K.load1 Y g0 rfl rfl t38 rfl rfl <| K.mv rfl rfl <| K.loadS Y _ g0 rfl rfl t30 rfl rfl rfl <| K.build Y [(0, _), (1, _), (2, _)] [_, _, _, _] [((.tmp 62), _), (_, _), ((.tmp 63), _)] g0 (AllE.spec ⟨rfl, rfl, rfl, trivial⟩) rfl rfl t42 rfl rfl <| K.build Y [(0, _)] [_, _, _, _, _, _, _, _] [((.tmp 64), _)] g0 (AllE.spec ⟨rfl, trivial⟩) rfl rfl t46 rfl rfl <| K.c0 (cf 70 rfl) (Tree_PutM_con hx8 1 2) g0 rfl rfl rfl rfl <| K.nil <| And.intro (by kernel_rfl) <| At.ns ?_
   obtain ⟨x9, hx9, H0⟩ := bnd H0
   obtain ⟨x10, hx10, H0⟩ := bnd H0
   refine G.rd mixed <| K.mv rfl rfl <| K.nilCheck g0 rfl rfl <| K.fieldAddr Y g0 rfl t98 rfl rfl <| K.load1 Y g0 rfl rfl t63 rfl rfl <| K.loadS Y _ g0 rfl rfl t30 rfl rfl rfl <| K.cR (cf 65 rfl) (shelf_Of_con hx9) g0 rfl rfl rfl rfl <| K.c0 (cf 69 rfl) (Tree_PutS_con hx10 5 6) g0 rfl rfl rfl rfl <| K.nil <| And.intro (by kernel_rfl) <| At.ns <| G.seq <| G.rg <| K.mv rfl rfl <| K.bin (V := .bool (decide (x6 < 0))) g0 rfl rfl (fun _ => rfl) rfl <| K.nil <| At.next <| G.cond rfl (fun h3 => ?_) (fun h3 => ?_)
   ·
    replace H0 := bif_t H0 h3
    refine G.seq <| G.rg <| K.mv rfl rfl <| K.nilCheck g0 rfl rfl <| K.fieldAddr Y g0 rfl t98 rfl rfl <| K.load1 Y g0 rfl rfl t3 rfl rfl <| K.bin (V := .int .i64 (w64 (q0.excess - 1))) g0 rfl rfl (fun _ => rfl) rfl <| K.nilCheck g0 rfl rfl <| K.fieldAddr Y g0 rfl t98 rfl rfl <| K.store Y _ g0 rfl rfl rfl t3 rfl rfl rfl rfl rfl <| K.nil <| At.nr <| K.build Y [] [_, _] [] g0 (AllE.spec trivial) rfl rfl t56 rfl rfl <| K.store Y _ g0 rfl rfl rfl t56 rfl rfl rfl rfl rfl <| K.as rfl rfl <| K.nil <| At.nilAgg (t := 83) (l' := [_, _]) 0 113 30 eTItem 2 rfl rfl rfl rfl rfl <| At.nilAgg (t := 83) (l' := [_, _]) 1 114 30 eTItem 2 rfl rfl rfl rfl rfl <| At.nilBlk (n := 101) (l' := [_, _]) 0 115 30 eTItem 2 rfl rfl rfl rfl rfl <| At.nilBlk (n := 101) (l' := [_, _]) 1 116 30 eTItem 2 rfl rfl rfl rfl rfl <| At.next <| G.ret <| At.over_ret <| At.ren (fs' := [(6, .a (.c (.p 101 0))), (7, .a (.c (.v (.int .i64 0))))]) (tl := (tkQueue 0 1 2 3 4 5 6 7 8 (TQueue.mk q0.capacity (TS.mk x8.2.2 x8.2.1) q0.present (TS.mk x10.2.2 x10.2.1) (TS.mk x7.2.2 x7.2.1) (w64 (q0.excess - 1))) [(60, lrow 60 30 eTItem 2 ([] : List TItem)), (61, lrow 61 30 eTItem 2 ([] : List TItem)), (101, blk 101 [.nv 60, .nv 61] 56)])) [(60, 115), (61, 116)] [_, _, _, _, _, _, _, _, _, _, _, _] rfl ⟨rfl, rfl, trivial⟩ ⟨rfl, (blk_ren rfl rfl), rfl, (blk_ren rfl rfl), rfl, (pl_ren rfl), rfl, (blk_ren rfl rfl), rfl, (pl_ren rfl), rfl, (blk_ren rfl rfl), rfl, (pl_ren rfl), rfl, (blk_ren rfl rfl), rfl, (pl_ren rfl), rfl, (lrow_ren rfl), rfl, (lrow_ren rfl), rfl, (blk_ren rfl rfl), trivial⟩ rfl <| At.done Y [(.cell 6 56, .agg [_, _]), (.tmp 7, .c _)] rfl ⟨.st rfl rfl t56 rfl rfl, .tmp rfl, trivial⟩ (to' := [(0, _), (1, _), (2, _), (3, _), (4, _), (5, _), (6, _), (7, _), (8, _), (60, _), (61, _)]) ⟨rfl, rfl, rfl, rfl, rfl, rfl, rfl, rfl, rfl, rfl, rfl, trivial⟩ ?_ ?_ rfl rfl rfl (.inl rfl)
    · cases H0; rfl
    · cases H0; rfl
   ·
    replace H0 := bif_f H0 h3
    refine G.skip <| At.ns ?_
    obtain ⟨x11, hx11, H0⟩ := bnd H0
    refine G.rg <| K.mv rfl rfl <| K.nilCheck g0 rfl rfl <| K.fieldAddr Y g0 rfl t98 rfl rfl <| K.load1 Y g0 rfl rfl t38 rfl rfl <| K.mv rfl rfl <| K.cR (cf 71 rfl) (bridge_Best_con hx11 1 2) g0 rfl rfl rfl rfl <| K.alloc Y 117 _ g0 t44 rfl rfl rfl rfl rfl <| K.store Y _ g0 rfl rfl rfl t44 rfl rfl rfl rfl rfl <| K.nil <| At.ns ?_
    obtain ⟨x12, hx12, H0⟩ := bnd H0
    refine G.rg <| K.mv rfl rfl <| K.fieldAddr Y g0 rfl t44 rfl rfl <| K.loadS Y _ g0 rfl rfl t30 rfl rfl rfl <| K.c0 (cf 72 rfl) (partial_Queue_turn_con hx12 0 1 2 3 4 5 6 7 8) g0 rfl rfl rfl rfl <| K.nil <| At.nr <| K.fieldAddr Y g0 rfl t44 rfl rfl <| K.loadS Y _ g0 rfl rfl t30 rfl rfl rfl <| K.buildL Y 118 ([x11.item] : List TItem) [(0, _)] [((.tmp 95), _)] eTItem_len g0 (AllE.spec ⟨rfl, trivial⟩) rfl rfl Tryz.underlying33 t30 rfl rfl rfl rfl rfl rfl rfl rfl <| K.build Y [(0, _)] [_, _] [((.tmp 96), _)] g0 (AllE.spec ⟨rfl, trivial⟩) rfl rfl t56 rfl rfl <| K.store Y _ g0 rfl rfl rfl t56 rfl rfl rfl rfl rfl <| K.as rfl rfl <| K.nil <| At.nilAgg (t := 97) (l' := [_, _]) 1 119 30 eTItem 2 rfl rfl rfl rfl rfl <| At.nilBlk (n := 101) (l' := [_, _]) 1 120 30 eTItem 2 rfl rfl rfl rfl rfl <| At.next <| G.ret <| At.ren (fs' := [(6, .a (.c (.p 101 0))), (7, .a (.c (.v (.int .i64 0))))]) (tl := (tkQueue 0 1 2 3 4 5 6 7 8 x12 [(60, lrow 60 30 eTItem 2 ([x11.item] : List TItem)), (61, lrow 61 30 eTItem 2 ([] : List TItem)), (101, blk 101 [.nv 60, .nv 61] 56)])) [(60, 118), (61, 120)] [_, _, _, _, _, _, _, _, _, _, _, _] rfl ⟨rfl, rfl, trivial⟩ ⟨rfl, (blk_ren rfl rfl), rfl, (blk_ren rfl rfl), rfl, (pl_ren rfl), rfl, (blk_ren rfl rfl), rfl, (pl_ren rfl), rfl, (blk_ren rfl rfl), rfl, (pl_ren rfl), rfl, (blk_ren rfl rfl), rfl, (pl_ren rfl), rfl, (lrow_ren rfl), rfl, (lrow_ren rfl), rfl, (blk_ren rfl rfl), trivial⟩ rfl <| At.done Y [(.cell 6 56, .agg [_, _]), (.tmp 7, .c _)] rfl ⟨.st rfl rfl t56 rfl rfl, .tmp rfl, trivial⟩ (to' := [(0, _), (1, _), (2, _), (3, _), (4, _), (5, _), (6, _), (7, _), (8, _), (60, _), (61, _)]) ⟨rfl, rfl, rfl, rfl, rfl, rfl, rfl, rfl, rfl, rfl, rfl, trivial⟩ ?_ ?_ rfl rfl rfl (.inl rfl)
    · cases H0; rfl
    · cases H0; rfl
theorem partial_Queue_Insert_con {k : Nat}  {q0 : TQueue} {a1 : Int} {a2 : TItem} {r : TChange × Int × TQueue}  (H0 : partial_Queue_Insert.f k q0 a1 a2 = some r) (m0 m1 m2 m3 m4 m5 m6 m7 m8 m60 m61 : Nat) (hd : ndB [m0, m1, m2, m3, m4, m5, m6, m7, m8, m60, m61] = true) : partial_Queue_Insert_st q0 a1 a2 r m0 m1 m2 m3 m4 m5 m6 m7 m8 m60 m61 :=
 SCon.ren (rn [(0, m0), (1, m1), (2, m2), (3, m3), (4, m4), (5, m5), (6, m6), (7, m7), (8, m8), (60, m60), (61, m61)]) (partial_Queue_Insert_con0 (k := k)   H0) ⟨(blk_ren rfl rfl), (blk_ren rfl rfl), (pl_ren rfl), (blk_ren rfl rfl), (pl_ren rfl), (blk_ren rfl rfl), (pl_ren rfl), (blk_ren rfl rfl), (pl_ren rfl), trivial⟩ ⟨(blk_ren rfl rfl), (blk_ren rfl rfl), (pl_ren rfl), (blk_ren rfl rfl), (pl_ren rfl), (blk_ren rfl rfl), (pl_ren rfl), (blk_ren rfl rfl), (pl_ren rfl), (lrow_ren rfl), (lrow_ren rfl), trivial⟩ (rn_nd hd rfl rfl) (rn_ks hd rfl rfl rfl)
abbrev bridge_Height_st (p1 : Pool (TNode TMark TSwell)) (rt0 : TRef) (a1 : Int) (a2 : Int) (r : Int) (m0 : Nat) (m1 : Nat) : Prop := SCon Tryz.prog 129 [SV.p m0 0, .a (.c (.v (.int .i64 a1))), .a (.c (.v (.int .i64 a2)))] [(m0, blk m0 [.p m1 0, .i rt0.index, .i rt0.gen] 110), (m1, plM m1 p1)] (.a (.c (.v (.int .i64 r)))) [(m0, blk m0 [.p m1 0, .i rt0.index, .i rt0.gen] 110), (m1, plM m1 p1)] []
theorem bridge_Height_con0 {k : Nat}  {p1 : Pool (TNode TMark TSwell)} {rt0 : TRef} {a1 : Int} {a2 : Int} {r : Int}  (H0 : bridge_Height.f k p1 rt0 a1 a2 = some r) : bridge_Height_st p1 rt0 a1 a2 r 0 1 := by
 rw [bridge_Height.f] at H0
 refine spec_of [(0, _), (1, _), (2, _)] [(0, _), (1, _)] 14 Tryz.func129 rfl Tryz.ntmps129 rfl rfl rfl rfl (fun β W F => ?_)
 refine G.seq <| G.rg <| K.as rfl rfl <| K.nil <| At.ns ?_
 obtain ⟨x1, hx1, H0⟩ := bnd H0
 exact G.rg <| K.mv rfl rfl <| K.mv rfl rfl <| K.mv rfl rfl <| K.cR (cf 102 rfl) (Tree_BetweenM_con hx1 0 1) g0 rfl rfl rfl rfl <| K.fieldS Y _ g0 rfl t50 rfl t48 rfl rfl <| K.field1 Y g0 rfl t48 rfl t3 rfl rfl <| K.bin (V := .int .i64 (w64 (a2 + x1.weight.sum))) g0 rfl rfl (fun _ => rfl) rfl <| K.as rfl rfl <| K.nil <| At.next <| G.ret <| At.dr Y [6] rfl rfl (by cases H0; rfl) (by cases H0; rfl) rfl rfl rfl
theorem bridge_Height_con {k : Nat}  {p1 : Pool (TNode TMark TSwell)} {rt0 : TRef} {a1 : Int} {a2 : Int} {r : Int}  (H0 : bridge_Height.f k p1 rt0 a1 a2 = some r) (m0 m1 : Nat) : bridge_Height_st p1 rt0 a1 a2 r m0 m1 :=
 SCon.ren (rn [(0, m0), (1, m1)]) (bridge_Height_con0 (k := k)   H0) ⟨(blk_ren rfl rfl), (pl_ren rfl), trivial⟩ ⟨(blk_ren rfl rfl), (pl_ren rfl), trivial⟩ (by simp) (by simp)
abbrev bridge_Next_st (p1 : Pool (TNode TMark TSwell)) (rt0 : TRef) (a1 : Int) (a2 : Int) (r : Int) (m0 : Nat) (m1 : Nat) : Prop := SCon Tryz.prog 104 [SV.p m0 0, .a (.c (.v (.int .i64 a1))), .a (.c (.v (.int .i64 a2)))] [(m0, blk m0 [.p m1 0, .i rt0.index, .i rt0.gen] 110), (m1, plM m1 p1)] (.a (.c (.v (.int .i64 r)))) [(m0, blk m0 [.p m1 0, .i rt0.index, .i rt0.gen] 110), (m1, plM m1 p1)] []
theorem bridge_Next_con0 {k : Nat}  {p1 : Pool (TNode TMark TSwell)} {rt0 : TRef} {a1 : Int} {a2 : Int} {r : Int}  (H0 : bridge_Next.f k p1 rt0 a1 a2 = some r) : bridge_Next_st p1 rt0 a1 a2 r 0 1 := by
 rw [bridge_Next.f] at H0
 refine spec_of [(0, _), (1, _), (2, _)] [(0, _), (1, _)] 26 Tryz.func104 rfl Tryz.ntmps104 rfl rfl rfl rfl (fun β W F => ?_)
 refine G.seq <| G.rg <| K.as rfl rfl <| K.nil <| At.ns ?_
 obtain ⟨x1, hx1, H0⟩ := bnd H0
 refine G.rg <| K.mv rfl rfl <| K.mv rfl rfl <| K.cR (cf 98 rfl) (bridge_clamp_con hx1 0 1) g0 rfl rfl rfl rfl <| K.as rfl rfl <| K.nil <| At.ns <| G.seq ?_
 obtain ⟨x2, hx2, H0⟩ := bnd H0
 refine G.rg <| K.mv rfl rfl <| K.mv rfl rfl <| K.mv rfl rfl <| K.cR (cf 129 rfl) (bridge_Height_con hx2 0 1) g0 rfl rfl rfl rfl <| K.bin (V := .bool (decide (x2 ≤ 0))) g0 rfl rfl (fun _ => rfl) rfl <| K.nil <| At.next <| G.cond rfl (fun h1 => ?_) (fun h1 => ?_)
 ·
  replace H0 := bif_t H0 h1
  exact G.seq <| G.rg <| K.mv rfl rfl <| K.as rfl rfl <| K.nil <| At.next <| G.ret <| At.over_ret <| At.dr Y [6] rfl rfl (by cases H0; rfl) (by cases H0; rfl) rfl rfl rfl
 ·
  replace H0 := bif_f H0 h1
  refine G.skip <| At.ns <| G.seq ?_
  obtain ⟨x3, hx3, H0⟩ := bnd H0
  obtain ⟨x4, hx4, H0⟩ := bnd H0
  refine G.rg <| K.mv rfl rfl <| K.mv rfl rfl <| K.mv rfl rfl <| K.c0 (cf 99 rfl) (bridge_low_con hx3 100 rfl) g0 rfl rfl rfl rfl <| K.cR (cf 130 rfl) (Tree_FirstM_f12_con (cv2 := [(.int .i64 x3)]) (Tc2 := 3) (cf 119 rfl) (fun c _ _ _ h => bridge_low_1_con h c) hx4 0 1 100) g0 rfl rfl rfl rfl <| K.as rfl rfl <| K.nil <| At.nr <| K.mv rfl rfl <| K.bin (V := .bool (decide (x4 ≥ 0))) g0 rfl rfl (fun _ => rfl) rfl <| K.nil <| At.next <| G.cond rfl (fun h2 => ?_) (fun h2 => ?_)
  ·
   replace H0 := bif_t H0 h2
   exact G.seq <| G.rg <| K.mv rfl rfl <| K.bin (V := .int .i64 (w64 (x4 + 1))) g0 rfl rfl (fun _ => rfl) rfl <| K.as rfl rfl <| K.nil <| At.next <| G.ret <| At.over_ret <| At.dr Y [6] rfl rfl (by cases H0; rfl) (by cases H0; rfl) rfl rfl rfl
  ·
   replace H0 := bif_f H0 h2
   exact G.skip <| At.nr <| K.as rfl rfl <| K.nil <| At.next <| G.ret <| At.dr Y [6] rfl rfl (by cases H0; rfl) (by cases H0; rfl) rfl rfl rfl
theorem bridge_Next_con {k : Nat}  {p1 : Pool (TNode TMark TSwell)} {rt0 : TRef} {a1 : Int} {a2 : Int} {r : Int}  (H0 : bridge_Next.f k p1 rt0 a1 a2 = some r) (m0 m1 : Nat) : bridge_Next_st p1 rt0 a1 a2 r m0 m1 :=
 SCon.ren (rn [(0, m0), (1, m1)]) (bridge_Next_con0 (k := k)   H0) ⟨(blk_ren rfl rfl), (pl_ren rfl), trivial⟩ ⟨(blk_ren rfl rfl), (pl_ren rfl), trivial⟩ (by simp) (by simp)
abbrev bridge_Least_st (p1 : Pool (TNode TMark TSwell)) (rt0 : TRef) (a1 : Int) (r : TTook) (m0 : Nat) (m1 : Nat) : Prop := SCon Tryz.prog 103 [SV.p m0 0, .a (.c (.v (.int .i64 a1)))] [(m0, blk m0 [.p m1 0, .i rt0.index, .i rt0.gen] 110), (m1, plM m1 p1)] (.a (.agg ((eTTook r).map .v))) [(m0, blk m0 [.p m1 0, .i rt0.index, .i rt0.gen] 110), (m1, plM m1 p1)] []
theorem bridge_Least_con0 {k : Nat}  {p1 : Pool (TNode TMark TSwell)} {rt0 : TRef} {a1 : Int} {r : TTook}  (H0 : bridge_Least.f k p1 rt0 a1 = some r) : bridge_Least_st p1 rt0 a1 r 0 1 := by
 rw [bridge_Least.f] at H0
 refine spec_of [(0, _), (1, _)] [(0, _), (1, _)] 11 Tryz.func103 rfl Tryz.ntmps103 rfl rfl rfl rfl (fun β W F => ?_)
 refine G.seq <| G.rg <| K.alloc Y 100 _ g0 t44 rfl rfl rfl rfl rfl <| K.nil <| At.ns ?_
 obtain ⟨x1, hx1, H0⟩ := bnd H0
 obtain ⟨x2, hx2, H0⟩ := bnd H0
 refine G.rg <| K.mv rfl rfl <| K.mv rfl rfl <| K.mv rfl rfl <| K.cR (cf 98 rfl) (bridge_clamp_con hx1 0 1) g0 rfl rfl rfl rfl <| K.cR (cf 102 rfl) (Tree_BetweenM_con hx2 0 1) g0 rfl rfl rfl rfl <| K.fieldS Y _ g0 rfl t50 rfl t44 rfl rfl <| K.store Y _ g0 rfl rfl rfl t44 rfl rfl rfl rfl rfl <| K.nil <| At.next <| G.ret <| At.done Y [(.cell 4 44, .agg [_, _, _])] rfl ⟨.st rfl rfl t44 rfl rfl, trivial⟩ (to' := [(0, _), (1, _)]) ⟨rfl, rfl, trivial⟩ ?_ ?_ rfl rfl rfl (.inl rfl)
 · cases H0; rfl
 · cases H0; rfl
theorem bridge_Least_con {k : Nat}  {p1 : Pool (TNode TMark TSwell)} {rt0 : TRef} {a1 : Int} {r : TTook}  (H0 : bridge_Least.f k p1 rt0 a1 = some r) (m0 m1 : Nat) : bridge_Least_st p1 rt0 a1 r m0 m1 :=
 SCon.ren (rn [(0, m0), (1, m1)]) (bridge_Least_con0 (k := k)   H0) ⟨(blk_ren rfl rfl), (pl_ren rfl), trivial⟩ ⟨(blk_ren rfl rfl), (pl_ren rfl), trivial⟩ (by simp) (by simp)
abbrev partial_Queue_leave_st (q0 : TQueue) (a1 : Int) (r : TChange × TQueue) (m0 : Nat) (m1 : Nat) (m2 : Nat) (m3 : Nat) (m4 : Nat) (m5 : Nat) (m6 : Nat) (m7 : Nat) (m8 : Nat) (m60 : Nat) (m61 : Nat) : Prop := SCon Tryz.prog 73 [SV.p m0 0, .a (.c (.v (.int .i64 a1)))] (tkQueue m0 m1 m2 m3 m4 m5 m6 m7 m8 q0 []) (.a (.agg [.nv m60, .nv m61])) (tkQueue m0 m1 m2 m3 m4 m5 m6 m7 m8 r.2 [(m60, lrow m60 30 eTItem 2 (r.1.in_)), (m61, lrow m61 30 eTItem 2 (r.1.out))]) [m60, m61]
theorem partial_Queue_leave_con0 {k : Nat}  {q0 : TQueue} {a1 : Int} {r : TChange × TQueue}  (H0 : partial_Queue_leave.f k q0 a1 = some r) : partial_Queue_leave_st q0 a1 r 0 1 2 3 4 5 6 7 8 60 61 := by
 rw [partial_Queue_leave.f] at H0
 refine spec_of [(0, _), (1, _)] [(0, _), (1, _), (2, _), (3, _), (4, _), (5, _), (6, _), (7, _), (8, _)] 40 Tryz.func73 rfl Tryz.ntmps73 rfl rfl rfl rfl (fun β W F => ?_)
 refine G.seq <| G.rg <| K.alloc Y 100 _ g0 t56 rfl rfl rfl rfl rfl <| K.nil <| At.nilBlk (n := 100) (l' := [_, _]) 0 101 30 eTItem 2 rfl rfl rfl rfl rfl <| At.nilBlk (n := 100) (l' := [_, _]) 1 102 30 eTItem 2 rfl rfl rfl rfl rfl <| At.ns ?_
 obtain ⟨x1, hx1, H0⟩ := bnd H0
 obtain ⟨x2, hx2, H0⟩ := bnd H0
 refine G.rd mixed <| K.mv rfl rfl <| K.nilCheck g0 rfl rfl <| K.fieldAddr Y g0 rfl t98 rfl rfl <| K.load1 Y g0 rfl rfl t38 rfl rfl <| K.mv rfl rfl <| K.nilCheck g0 rfl rfl <| K.fieldAddr Y g0 rfl t98 rfl rfl <| K.load1 Y g0 rfl rfl t38 rfl rfl <| K.mv rfl rfl <| K.mv rfl rfl <| K.nilCheck g0 rfl rfl <| K.fieldAddr Y g0 rfl t98 rfl rfl <| K.load1 Y g0 rfl rfl t3 rfl rfl <| K.cR (cf 104 rfl) (bridge_Next_con hx1 1 2) g0 rfl rfl rfl rfl <| K.cR (cf 103 rfl) (bridge_Least_con hx2 1 2) g0 rfl rfl rfl rfl <| K.alloc Y 103 _ g0 t44 rfl rfl rfl rfl rfl <| K.store Y _ g0 rfl rfl rfl t44 rfl rfl rfl rfl rfl <| K.nil <| And.intro (by kernel_rfl) <| At.ns <| G.seq <| G.rg <| K.fieldAddr Y g0 rfl t44 rfl rfl <| K.load1 Y g0 rfl rfl t4 rfl rfl <| K.un (V := .bool (!x2.found)) g0 rfl (fun _ => rfl) rfl <| K.nil <| At.next <| G.cond rfl (fun h1 => ?_) (fun h1 => ?_)
 ·
  replace H0 := bif_t H0 h1
  refine G.seq <| G.rg <| K.mv rfl rfl <| K.nilCheck g0 rfl rfl <| K.fieldAddr Y g0 rfl t98 rfl rfl <| K.load1 Y g0 rfl rfl t3 rfl rfl <| K.bin (V := .int .i64 (w64 (q0.excess + 1))) g0 rfl rfl (fun _ => rfl) rfl <| K.nilCheck g0 rfl rfl <| K.fieldAddr Y g0 rfl t98 rfl rfl <| K.store Y _ g0 rfl rfl rfl t3 rfl rfl rfl rfl rfl <| K.nil <| At.nr <| K.build Y [] [_, _] [] g0 (AllE.spec trivial) rfl rfl t56 rfl rfl <| K.store Y _ g0 rfl rfl rfl t56 rfl rfl rfl rfl rfl <| K.nil <| At.nilAgg (t := 31) (l' := [_, _]) 0 104 30 eTItem 2 rfl rfl rfl rfl rfl <| At.nilAgg (t := 31) (l' := [_, _]) 1 105 30 eTItem 2 rfl rfl rfl rfl rfl <| At.nilBlk (n := 100) (l' := [_, _]) 0 106 30 eTItem 2 rfl rfl rfl rfl rfl <| At.nilBlk (n := 100) (l' := [_, _]) 1 107 30 eTItem 2 rfl rfl rfl rfl rfl <| At.next <| G.ret <| At.over_ret <| At.ren (fs' := [(4, .a (.c (.p 100 0)))]) (tl := (tkQueue 0 1 2 3 4 5 6 7 8 (TQueue.mk q0.capacity q0.marks q0.present q0.gone q0.times (w64 (q0.excess + 1))) [(60, lrow 60 30 eTItem 2 ([] : List TItem)), (61, lrow 61 30 eTItem 2 ([] : List TItem)), (100, blk 100 [.nv 60, .nv 61] 56)])) [(60, 106), (61, 107)] [_, _, _, _, _, _, _, _, _, _, _, _] rfl ⟨rfl, trivial⟩ ⟨rfl, (blk_ren rfl rfl), rfl, (blk_ren rfl rfl), rfl, (pl_ren rfl), rfl, (blk_ren rfl rfl), rfl, (pl_ren rfl), rfl, (blk_ren rfl rfl), rfl, (pl_ren rfl), rfl, (blk_ren rfl rfl), rfl, (pl_ren rfl), rfl, (lrow_ren rfl), rfl, (lrow_ren rfl), rfl, (blk_ren rfl rfl), trivial⟩ rfl <| At.done Y [(.cell 4 56, .agg [_, _])] rfl ⟨.st rfl rfl t56 rfl rfl, trivial⟩ (to' := [(0, _), (1, _), (2, _), (3, _), (4, _), (5, _), (6, _), (7, _), (8, _), (60, _), (61, _)]) ⟨rfl, rfl, rfl, rfl, rfl, rfl, rfl, rfl, rfl, rfl, rfl, trivial⟩ ?_ ?_ rfl rfl rfl (.inl rfl)
  · cases H0; rfl
  · cases H0; rfl
 ·
  replace H0 := bif_f H0 h1
  refine G.skip <| At.ns ?_
  obtain ⟨x3, hx3, H0⟩ := bnd H0
  refine G.rg <| K.mv rfl rfl <| K.fieldAddr Y g0 rfl t44 rfl rfl <| K.loadS Y _ g0 rfl rfl t30 rfl rfl rfl <| K.c0 (cf 72 rfl) (partial_Queue_turn_con hx3 0 1 2 3 4 5 6 7 8) g0 rfl rfl rfl rfl <| K.nil <| At.nr <| K.fieldAddr Y g0 rfl t44 rfl rfl <| K.loadS Y _ g0 rfl rfl t30 rfl rfl rfl <| K.buildL Y 108 ([x2.item] : List TItem) [(0, _)] [((.tmp 37), _)] eTItem_len g0 (AllE.spec ⟨rfl, trivial⟩) rfl rfl Tryz.underlying33 t30 rfl rfl rfl rfl rfl rfl rfl rfl <| K.build Y [(1, _)] [_, _] [((.tmp 38), _)] g0 (AllE.spec ⟨rfl, trivial⟩) rfl rfl t56 rfl rfl <| K.store Y _ g0 rfl rfl rfl t56 rfl rfl rfl rfl rfl <| K.nil <| At.nilAgg (t := 39) (l' := [_, _]) 0 109 30 eTItem 2 rfl rfl rfl rfl rfl <| At.nilBlk (n := 100) (l' := [_, _]) 0 110 30 eTItem 2 rfl rfl rfl rfl rfl <| At.next <| G.ret <| At.ren (fs' := [(4, .a (.c (.p 100 0)))]) (tl := (tkQueue 0 1 2 3 4 5 6 7 8 x3 [(60, lrow 60 30 eTItem 2 ([] : List TItem)), (61, lrow 61 30 eTItem 2 ([x2.item] : List TItem)), (100, blk 100 [.nv 60, .nv 61] 56)])) [(60, 110), (61, 108)] [_, _, _, _, _, _, _, _, _, _, _, _] rfl ⟨rfl, trivial⟩ ⟨rfl, (blk_ren rfl rfl), rfl, (blk_ren rfl rfl), rfl, (pl_ren rfl), rfl, (blk_ren rfl rfl), rfl, (pl_ren rfl), rfl, (blk_ren rfl rfl), rfl, (pl_ren rfl), rfl, (blk_ren rfl rfl), rfl, (pl_ren rfl), rfl, (lrow_ren rfl), rfl, (lrow_ren rfl), rfl, (blk_ren rfl rfl), trivial⟩ rfl <| At.done Y [(.cell 4 56, .agg [_, _])] rfl ⟨.st rfl rfl t56 rfl rfl, trivial⟩ (to' := [(0, _), (1, _), (2, _), (3, _), (4, _), (5, _), (6, _), (7, _), (8, _), (60, _), (61, _)]) ⟨rfl, rfl, rfl, rfl, rfl, rfl, rfl, rfl, rfl, rfl, rfl, trivial⟩ ?_ ?_ rfl rfl rfl (.inl rfl)
  · cases H0; rfl
  · cases H0; rfl
theorem partial_Queue_leave_con {k : Nat}  {q0 : TQueue} {a1 : Int} {r : TChange × TQueue}  (H0 : partial_Queue_leave.f k q0 a1 = some r) (m0 m1 m2 m3 m4 m5 m6 m7 m8 m60 m61 : Nat) (hd : ndB [m0, m1, m2, m3, m4, m5, m6, m7, m8, m60, m61] = true) : partial_Queue_leave_st q0 a1 r m0 m1 m2 m3 m4 m5 m6 m7 m8 m60 m61 :=
 SCon.ren (rn [(0, m0), (1, m1), (2, m2), (3, m3), (4, m4), (5, m5), (6, m6), (7, m7), (8, m8), (60, m60), (61, m61)]) (partial_Queue_leave_con0 (k := k)   H0) ⟨(blk_ren rfl rfl), (blk_ren rfl rfl), (pl_ren rfl), (blk_ren rfl rfl), (pl_ren rfl), (blk_ren rfl rfl), (pl_ren rfl), (blk_ren rfl rfl), (pl_ren rfl), trivial⟩ ⟨(blk_ren rfl rfl), (blk_ren rfl rfl), (pl_ren rfl), (blk_ren rfl rfl), (pl_ren rfl), (blk_ren rfl rfl), (pl_ren rfl), (blk_ren rfl rfl), (pl_ren rfl), (lrow_ren rfl), (lrow_ren rfl), trivial⟩ (rn_nd hd rfl rfl) (rn_ks hd rfl rfl rfl)
abbrev partial_Queue_Delete_st (q0 : TQueue) (a1 : Int) (r : TChange × Int × TQueue) (m0 : Nat) (m1 : Nat) (m2 : Nat) (m3 : Nat) (m4 : Nat) (m5 : Nat) (m6 : Nat) (m7 : Nat) (m8 : Nat) (m60 : Nat) (m61 : Nat) : Prop := SCon Tryz.prog 24 [SV.p m0 0, .a (.c (.v (.int .i64 a1)))] (tkQueue m0 m1 m2 m3 m4 m5 m6 m7 m8 q0 []) (.tup [.agg [.nv m60, .nv m61], .c (.v (.int .i64 r.2.1))]) (tkQueue m0 m1 m2 m3 m4 m5 m6 m7 m8 r.2.2 [(m60, lrow m60 30 eTItem 2 (r.1.in_)), (m61, lrow m61 30 eTItem 2 (r.1.out))]) [m60, m61]
theorem partial_Queue_Delete_con0 {k : Nat}  {q0 : TQueue} {a1 : Int} {r : TChange × Int × TQueue}  (H0 : partial_Queue_Delete.f k q0 a1 = some r) : partial_Queue_Delete_st q0 a1 r 0 1 2 3 4 5 6 7 8 60 61 := by
 rw [partial_Queue_Delete.f] at H0
 refine spec_of [(0, _), (1, _)] [(0, _), (1, _), (2, _), (3, _), (4, _), (5, _), (6, _), (7, _), (8, _)] 32 Tryz.func24 rfl Tryz.ntmps24 rfl rfl rfl rfl (fun β W F => ?_)
 refine G.seq <| G.rg <| K.alloc Y 100 _ g0 t56 rfl rfl rfl rfl rfl <| K.as rfl rfl <| K.nil <| At.nilBlk (n := 100) (l' := [_, _]) 0 101 30 eTItem 2 rfl rfl rfl rfl rfl <| At.nilBlk (n := 100) (l' := [_, _]) 1 102 30 eTItem 2 rfl rfl rfl rfl rfl <| At.ns <| G.seq ?_
 obtain ⟨x1, hx1, H0⟩ := bnd H0
 refine G.rg <| K.mv rfl rfl <| K.mv rfl rfl <| K.cR (cf 63 rfl) (partial_Queue_may_con hx1 0 1 2 3 4 5 6 7 8) g0 rfl rfl rfl rfl <| K.as rfl rfl <| K.nil <| At.nr <| K.mv rfl rfl <| K.bin (V := .bool (x1 != 0)) g0 rfl rfl (fun _ => rfl) rfl <| K.nil <| At.next <| G.cond rfl (fun h1 => ?_) (fun h1 => ?_)
 ·
  replace H0 := bif_t H0 h1
  refine G.seq <| G.rg <| K.build Y [] [_, _] [] g0 (AllE.spec trivial) rfl rfl t56 rfl rfl <| K.mv rfl rfl <| K.store Y _ g0 rfl rfl rfl t56 rfl rfl rfl rfl rfl <| K.as rfl rfl <| K.nil <| At.nilAgg (t := 13) (l' := [_, _]) 0 103 30 eTItem 2 rfl rfl rfl rfl rfl <| At.nilAgg (t := 13) (l' := [_, _]) 1 104 30 eTItem 2 rfl rfl rfl rfl rfl <| At.nilBlk (n := 100) (l' := [_, _]) 0 105 30 eTItem 2 rfl rfl rfl rfl rfl <| At.nilBlk (n := 100) (l' := [_, _]) 1 106 30 eTItem 2 rfl rfl rfl rfl rfl <| At.next <| G.ret <| At.over_ret <| At.ren (fs' := [(4, .a (.c (.p 100 0))), (5, .a (.c (.v (.int .i64 x1))))]) (tl := (tkQueue 0 1 2 3 4 5 6 7 8 q0 [(60, lrow 60 30 eTItem 2 ([] : List TItem)), (61, lrow 61 30 eTItem 2 ([] : List TItem)), (100, blk 100 [.nv 60, .nv 61] 56)])) [(60, 105), (61, 106)] [_, _, _, _, _, _, _, _, _, _, _, _] rfl ⟨rfl, rfl, trivial⟩ ⟨rfl, (blk_ren rfl rfl), rfl, (blk_ren rfl rfl), rfl, (pl_ren rfl), rfl, (blk_ren rfl rfl), rfl, (pl_ren rfl), rfl, (blk_ren rfl rfl), rfl, (pl_ren rfl), rfl, (blk_ren rfl rfl), rfl, (pl_ren rfl), rfl, (lrow_ren rfl), rfl, (lrow_ren rfl), rfl, (blk_ren rfl rfl), trivial⟩ rfl <| At.done Y [(.cell 4 56, .agg [_, _]), (.tmp 5, .c _)] rfl ⟨.st rfl rfl t56 rfl rfl, .tmp rfl, trivial⟩ (to' := [(0, _), (1, _), (2, _), (3, _), (4, _), (5, _), (6, _), (7, _), (8, _), (60, _), (61, _)]) ⟨rfl, rfl, rfl, rfl, rfl, rfl, rfl, rfl, rfl, rfl, rfl, trivial⟩ ?_ ?_ rfl rfl rfl (.inl rfl)
  · cases H0; rfl
  · cases H0; rfl
 ·
  replace H0 := bif_f H0 h1
  refine G.skip <| At.ns ?_
  obtain ⟨x2, hx2, H0⟩ := bnd H0
  obtain ⟨x3, hx3, H0⟩ := bnd H0
  obtain ⟨x4, hx4, H0⟩ := bnd H0
  refine G.rd mixed <| K.mv rfl rfl <| K.mv rfl rfl <| K.nilCheck g0 rfl rfl <| K.fieldAddr Y g0 rfl t98 rfl rfl <| K.load1 Y g0 rfl rfl t38 rfl rfl <| K.mv rfl rfl <| K.cR (cf 67 rfl) (wave_Key_con hx2) g0 rfl rfl rfl rfl <| K.cR (cf 66 rfl) (Tree_RankM_con hx3 1 2) g0 rfl rfl rfl rfl <| K.c0 (cf 73 rfl) (partial_Queue_leave_con hx4 0 1 2 3 4 5 6 7 8 107 108 rfl) g0 rfl rfl rfl rfl <| K.alloc Y 109 _ g0 t56 rfl rfl rfl rfl rfl <| K.store Y _ g0 rfl rfl rfl t56 rfl rfl rfl rfl rfl <| K.nil <| And.intro (by kernel_rfl) <| At.ns ?_
  obtain ⟨x5, hx5, H0⟩ := bnd H0
  obtain ⟨x6, hx6, H0⟩ := bnd H0
  refine G.rd mixed <| K.mv rfl rfl <| K.nilCheck g0 rfl rfl <| K.fieldAddr Y g0 rfl t98 rfl rfl <| K.load1 Y g0 rfl rfl t38 rfl rfl <| K.mv rfl rfl <| K.cR (cf 67 rfl) (wave_Key_con hx5) g0 rfl rfl rfl rfl <| K.c0 (cf 70 rfl) (Tree_PutM_con hx6 1 2) g0 rfl rfl rfl rfl <| K.nil <| And.intro (by kernel_rfl) <| At.nr <| K.loadS Y _ g0 rfl rfl t56 rfl rfl rfl <| K.store Y _ g0 rfl rfl rfl t56 rfl rfl rfl rfl rfl <| K.as rfl rfl <| K.nil <| At.next <| G.ret <| At.ren (fs' := [(4, .a (.c (.p 100 0))), (5, .a (.c (.v (.int .i64 0))))]) (tl := (tkQueue 0 1 2 3 4 5 6 7 8 (TQueue.mk x4.2.capacity (TS.mk x6.2.2 x6.2.1) x4.2.present x4.2.gone x4.2.times x4.2.excess) [(60, lrow 60 30 eTItem 2 x4.1.in_), (61, lrow 61 30 eTItem 2 x4.1.out), (100, blk 100 [.nv 60, .nv 61] 56)])) [(60, 107), (61, 108)] [_, _, _, _, _, _, _, _, _, _, _, _] rfl ⟨rfl, rfl, trivial⟩ ⟨rfl, (blk_ren rfl rfl), rfl, (blk_ren rfl rfl), rfl, (pl_ren rfl), rfl, (blk_ren rfl rfl), rfl, (pl_ren rfl), rfl, (blk_ren rfl rfl), rfl, (pl_ren rfl), rfl, (blk_ren rfl rfl), rfl, (pl_ren rfl), rfl, (lrow_ren rfl), rfl, (lrow_ren rfl), rfl, (blk_ren rfl rfl), trivial⟩ rfl <| At.done Y [(.cell 4 56, .agg [_, _]), (.tmp 5, .c _)] rfl ⟨.st rfl rfl t56 rfl rfl, .tmp rfl, trivial⟩ (to' := [(0, _), (1, _), (2, _), (3, _), (4, _), (5, _), (6, _), (7, _), (8, _), (60, _), (61, _)]) ⟨rfl, rfl, rfl, rfl, rfl, rfl, rfl, rfl, rfl, rfl, rfl, trivial⟩ ?_ ?_ rfl rfl rfl (.inl rfl)
  · cases H0; rfl
  · cases H0; rfl
theorem partial_Queue_Delete_con {k : Nat}  {q0 : TQueue} {a1 : Int} {r : TChange × Int × TQueue}  (H0 : partial_Queue_Delete.f k q0 a1 = some r) (m0 m1 m2 m3 m4 m5 m6 m7 m8 m60 m61 : Nat) (hd : ndB [m0, m1, m2, m3, m4, m5, m6, m7, m8, m60, m61] = true) : partial_Queue_Delete_st q0 a1 r m0 m1 m2 m3 m4 m5 m6 m7 m8 m60 m61 :=
 SCon.ren (rn [(0, m0), (1, m1), (2, m2), (3, m3), (4, m4), (5, m5), (6, m6), (7, m7), (8, m8), (60, m60), (61, m61)]) (partial_Queue_Delete_con0 (k := k)   H0) ⟨(blk_ren rfl rfl), (blk_ren rfl rfl), (pl_ren rfl), (blk_ren rfl rfl), (pl_ren rfl), (blk_ren rfl rfl), (pl_ren rfl), (blk_ren rfl rfl), (pl_ren rfl), trivial⟩ ⟨(blk_ren rfl rfl), (blk_ren rfl rfl), (pl_ren rfl), (blk_ren rfl rfl), (pl_ren rfl), (blk_ren rfl rfl), (pl_ren rfl), (blk_ren rfl rfl), (pl_ren rfl), (lrow_ren rfl), (lrow_ren rfl), trivial⟩ (rn_nd hd rfl rfl) (rn_ks hd rfl rfl rfl)
abbrev partial_Queue_all_st (q0 : TQueue) (r : TSwell) (m0 : Nat) (m1 : Nat) (m2 : Nat) (m3 : Nat) (m4 : Nat) (m5 : Nat) (m6 : Nat) (m7 : Nat) (m8 : Nat) : Prop := SCon Tryz.prog 78 [SV.p m0 0] (tkQueue m0 m1 m2 m3 m4 m5 m6 m7 m8 q0 []) (.a (.agg ((eTSwell r).map .v))) (tkQueue m0 m1 m2 m3 m4 m5 m6 m7 m8 q0 []) []
theorem partial_Queue_all_con0 {k : Nat}  {q0 : TQueue} {r : TSwell}  (H0 : partial_Queue_all.f k q0 = some r) : partial_Queue_all_st q0 r 0 1 2 3 4 5 6 7 8 := by
 rw [partial_Queue_all.f] at H0
 refine spec_of [(0, _)] [(0, _), (1, _), (2, _), (3, _), (4, _), (5, _), (6, _), (7, _), (8, _)] 13 Tryz.func78 rfl Tryz.ntmps78 rfl rfl rfl rfl (fun β W F => ?_)
 refine G.seq <| G.rg <| K.alloc Y 100 _ g0 t50 rfl rfl rfl rfl rfl <| K.nil <| At.ns ?_
 obtain ⟨x1, hx1, H0⟩ := bnd H0
 obtain ⟨x2, hx2, H0⟩ := bnd H0
 refine G.rd mixed <| K.mv rfl rfl <| K.nilCheck g0 rfl rfl <| K.fieldAddr Y g0 rfl t98 rfl rfl <| K.load1 Y g0 rfl rfl t38 rfl rfl <| K.mv rfl rfl <| K.nilCheck g0 rfl rfl <| K.fieldAddr Y g0 rfl t98 rfl rfl <| K.load1 Y g0 rfl rfl t38 rfl rfl <| K.cR (cf 34 rfl) (Tree_LenM_con hx1 1 2) g0 rfl rfl rfl rfl <| K.cR (cf 102 rfl) (Tree_BetweenM_con hx2 1 2) g0 rfl rfl rfl rfl <| K.store Y _ g0 rfl rfl rfl t50 rfl rfl rfl rfl rfl <| K.nil <| And.intro (by kernel_rfl) <| At.next <| G.ret <| At.done Y [(.cell 2 50, .agg [_, _, _, _, _, _, _, _, _, _, _, _, _, _, _, _])] rfl ⟨.st rfl rfl t50 rfl rfl, trivial⟩ (to' := [(0, _), (1, _), (2, _), (3, _), (4, _), (5, _), (6, _), (7, _), (8, _)]) ⟨rfl, rfl, rfl, rfl, rfl, rfl, rfl, rfl, rfl, trivial⟩ ?_ ?_ rfl rfl rfl (.inl rfl)
 · cases H0; rfl
 · cases H0; rfl
theorem partial_Queue_all_con {k : Nat}  {q0 : TQueue} {r : TSwell}  (H0 : partial_Queue_all.f k q0 = some r) (m0 m1 m2 m3 m4 m5 m6 m7 m8 : Nat) : partial_Queue_all_st q0 r m0 m1 m2 m3 m4 m5 m6 m7 m8 :=
 SCon.ren (rn [(0, m0), (1, m1), (2, m2), (3, m3), (4, m4), (5, m5), (6, m6), (7, m7), (8, m8)]) (partial_Queue_all_con0 (k := k)   H0) ⟨(blk_ren rfl rfl), (blk_ren rfl rfl), (pl_ren rfl), (blk_ren rfl rfl), (pl_ren rfl), (blk_ren rfl rfl), (pl_ren rfl), (blk_ren rfl rfl), (pl_ren rfl), trivial⟩ ⟨(blk_ren rfl rfl), (blk_ren rfl rfl), (pl_ren rfl), (blk_ren rfl rfl), (pl_ren rfl), (blk_ren rfl rfl), (pl_ren rfl), (blk_ren rfl rfl), (pl_ren rfl), trivial⟩ (by simp) (by simp)
abbrev partial_Queue_Deletes_st (q0 : TQueue) (r : Int) (m0 : Nat) (m1 : Nat) (m2 : Nat) (m3 : Nat) (m4 : Nat) (m5 : Nat) (m6 : Nat) (m7 : Nat) (m8 : Nat) : Prop := SCon Tryz.prog 29 [SV.p m0 0] (tkQueue m0 m1 m2 m3 m4 m5 m6 m7 m8 q0 []) (.a (.c (.v (.int .i64 r)))) (tkQueue m0 m1 m2 m3 m4 m5 m6 m7 m8 q0 []) []
theorem partial_Queue_Deletes_con0 {k : Nat}  {q0 : TQueue} {r : Int}  (H0 : partial_Queue_Deletes.f k q0 = some r) : partial_Queue_Deletes_st q0 r 0 1 2 3 4 5 6 7 8 := by
 rw [partial_Queue_Deletes.f] at H0
 refine spec_of [(0, _)] [(0, _), (1, _), (2, _), (3, _), (4, _), (5, _), (6, _), (7, _), (8, _)] 6 Tryz.func29 rfl Tryz.ntmps29 rfl rfl rfl rfl (fun β W F => ?_)
 refine G.seq <| G.rg <| K.as rfl rfl <| K.nil <| At.ns ?_
 obtain ⟨x1, hx1, H0⟩ := bnd H0
 exact G.rg <| K.mv rfl rfl <| K.cR (cf 78 rfl) (partial_Queue_all_con hx1 0 1 2 3 4 5 6 7 8) g0 rfl rfl rfl rfl <| K.field1 Y g0 rfl t50 rfl t3 rfl rfl <| K.as rfl rfl <| K.nil <| At.next <| G.ret <| At.dr Y [2] rfl rfl (by cases H0; rfl) (by cases H0; rfl) rfl rfl rfl
theorem partial_Queue_Deletes_con {k : Nat}  {q0 : TQueue} {r : Int}  (H0 : partial_Queue_Deletes.f k q0 = some r) (m0 m1 m2 m3 m4 m5 m6 m7 m8 : Nat) : partial_Queue_Deletes_st q0 r m0 m1 m2 m3 m4 m5 m6 m7 m8 :=
 SCon.ren (rn [(0, m0), (1, m1), (2, m2), (3, m3), (4, m4), (5, m5), (6, m6), (7, m7), (8, m8)]) (partial_Queue_Deletes_con0 (k := k)   H0) ⟨(blk_ren rfl rfl), (blk_ren rfl rfl), (pl_ren rfl), (blk_ren rfl rfl), (pl_ren rfl), (blk_ren rfl rfl), (pl_ren rfl), (blk_ren rfl rfl), (pl_ren rfl), trivial⟩ ⟨(blk_ren rfl rfl), (blk_ren rfl rfl), (pl_ren rfl), (blk_ren rfl rfl), (pl_ren rfl), (blk_ren rfl rfl), (pl_ren rfl), (blk_ren rfl rfl), (pl_ren rfl), trivial⟩ (by simp) (by simp)
abbrev partial_Queue_Present_st (q0 : TQueue) (m0 : Nat) (m1 : Nat) (m2 : Nat) (m3 : Nat) (m4 : Nat) (m5 : Nat) (m6 : Nat) (m7 : Nat) (m8 : Nat) : Prop := SCon Tryz.prog 33 [SV.p m0 0] (tkQueue m0 m1 m2 m3 m4 m5 m6 m7 m8 q0 []) (.a (.c (.p m3 0))) (tkQueue m0 m1 m2 m3 m4 m5 m6 m7 m8 q0 []) []
theorem partial_Queue_Present_con0 {k : Nat}  {q0 : TQueue} {r : Unit}  (H0 : partial_Queue_Present.f k q0 = some r) : partial_Queue_Present_st q0 0 1 2 3 4 5 6 7 8 := by
 rw [partial_Queue_Present.f] at H0
 refine spec_of [(0, _)] [(0, _), (1, _), (2, _), (3, _), (4, _), (5, _), (6, _), (7, _), (8, _)] 7 Tryz.func33 rfl Tryz.ntmps33 rfl rfl rfl rfl (fun β W F => ?_)
 exact G.seq <| G.rg <| K.as rfl rfl <| K.nil <| At.nr <| K.mv rfl rfl <| K.nilCheck g0 rfl rfl <| K.fieldAddr Y g0 rfl t98 rfl rfl <| K.load1 Y g0 rfl rfl t63 rfl rfl <| K.as rfl rfl <| K.nil <| At.next <| G.ret <| At.dr Y [2] rfl rfl (by cases H0; rfl) (by cases H0; rfl) rfl rfl rfl
theorem partial_Queue_Present_con {k : Nat}  {q0 : TQueue} {r : Unit}  (H0 : partial_Queue_Present.f k q0 = some r) (m0 m1 m2 m3 m4 m5 m6 m7 m8 : Nat) : partial_Queue_Present_st q0 m0 m1 m2 m3 m4 m5 m6 m7 m8 :=
 SCon.ren (rn [(0, m0), (1, m1), (2, m2), (3, m3), (4, m4), (5, m5), (6, m6), (7, m7), (8, m8)]) (partial_Queue_Present_con0 (k := k)   H0) ⟨(blk_ren rfl rfl), (blk_ren rfl rfl), (pl_ren rfl), (blk_ren rfl rfl), (pl_ren rfl), (blk_ren rfl rfl), (pl_ren rfl), (blk_ren rfl rfl), (pl_ren rfl), trivial⟩ ⟨(blk_ren rfl rfl), (blk_ren rfl rfl), (pl_ren rfl), (blk_ren rfl rfl), (pl_ren rfl), (blk_ren rfl rfl), (pl_ren rfl), (blk_ren rfl rfl), (pl_ren rfl), trivial⟩ (by simp) (by simp)
abbrev partial_Queue_Gone_st (q0 : TQueue) (m0 : Nat) (m1 : Nat) (m2 : Nat) (m3 : Nat) (m4 : Nat) (m5 : Nat) (m6 : Nat) (m7 : Nat) (m8 : Nat) : Prop := SCon Tryz.prog 30 [SV.p m0 0] (tkQueue m0 m1 m2 m3 m4 m5 m6 m7 m8 q0 []) (.a (.c (.p m5 0))) (tkQueue m0 m1 m2 m3 m4 m5 m6 m7 m8 q0 []) []
theorem partial_Queue_Gone_con0 {k : Nat}  {q0 : TQueue} {r : Unit}  (H0 : partial_Queue_Gone.f k q0 = some r) : partial_Queue_Gone_st q0 0 1 2 3 4 5 6 7 8 := by
 rw [partial_Queue_Gone.f] at H0
 refine spec_of [(0, _)] [(0, _), (1, _), (2, _), (3, _), (4, _), (5, _), (6, _), (7, _), (8, _)] 7 Tryz.func30 rfl Tryz.ntmps30 rfl rfl rfl rfl (fun β W F => ?_)
 exact G.seq <| G.rg <| K.as rfl rfl <| K.nil <| At.nr <| K.mv rfl rfl <| K.nilCheck g0 rfl rfl <| K.fieldAddr Y g0 rfl t98 rfl rfl <| K.load1 Y g0 rfl rfl t63 rfl rfl <| K.as rfl rfl <| K.nil <| At.next <| G.ret <| At.dr Y [2] rfl rfl (by cases H0; rfl) (by cases H0; rfl) rfl rfl rfl
theorem partial_Queue_Gone_con {k : Nat}  {q0 : TQueue} {r : Unit}  (H0 : partial_Queue_Gone.f k q0 = some r) (m0 m1 m2 m3 m4 m5 m6 m7 m8 : Nat) : partial_Queue_Gone_st q0 m0 m1 m2 m3 m4 m5 m6 m7 m8 :=
 SCon.ren (rn [(0, m0), (1, m1), (2, m2), (3, m3), (4, m4), (5, m5), (6, m6), (7, m7), (8, m8)]) (partial_Queue_Gone_con0 (k := k)   H0) ⟨(blk_ren rfl rfl), (blk_ren rfl rfl), (pl_ren rfl), (blk_ren rfl rfl), (pl_ren rfl), (blk_ren rfl rfl), (pl_ren rfl), (blk_ren rfl rfl), (pl_ren rfl), trivial⟩ ⟨(blk_ren rfl rfl), (blk_ren rfl rfl), (pl_ren rfl), (blk_ren rfl rfl), (pl_ren rfl), (blk_ren rfl rfl), (pl_ren rfl), (blk_ren rfl rfl), (pl_ren rfl), trivial⟩ (by simp) (by simp)
end Go.Proofs.YtpeoalmhccmdiaaGreat
namespace Go.Proofs.YtpeoalmhccmdiaaGreat.Sx
open Go
def starRes (L : List Res) : Res where
  holds := Star L
  loc hw h := h.loc hw
  lt h hb := h.lt hb
def adEnv (a : Nat → Nat) : Env := fun k => ⟨a k, undef⟩
def eltRes (l : List (Nat × Tok)) (a : Nat → Nat) : Res := starRes (l.map fun p => p.2.r (adEnv a))
section
variable {σ : Type}
def hpL (toks : σ → List (Nat × Tok)) (A : List (Nat → Nat)) (Q : List σ) : List Res := List.zipWith (fun a q => eltRes (toks q) a) A Q
def hp (k : Nat) (toks : σ → List (Nat × Tok)) (A : List (Nat → Nat)) (Q : List σ) : Tok where
  ks := []
  r _ := starRes (hpL toks A Q)
  sup _ := rfl
theorem Star_mid {A B : List Res} {r : Res} {w : World} {F : Foot} : Star (A ++ r :: B) w F ↔ ∃ F1 F2 : Foot, (∀ b, F b ↔ F1 b ∨ F2 b) ∧ (∀ b, F1 b → ¬ F2 b) ∧ r.holds w F1 ∧ Star (A ++ B) w F2 := by
  constructor
  · intro h
    obtain ⟨FA, FR, e, d, hA, F1, FB, e', d', h1, hB⟩ := Star_append.1 h
    refine ⟨F1, fun b => FA b ∨ FB b, fun b => ?_, ?_, h1, Star_append.2 ⟨FA, FB, fun b => Iff.rfl, fun b ha hb => d b ha ((e' b).2 (.inr hb)), hA, hB⟩⟩
    · rw [e b, e' b]; constructor
      · rintro (h | h | h)
        · exact .inr (.inl h)
        · exact .inl h
        · exact .inr (.inr h)
      · rintro (h | h | h)
        · exact .inr (.inl h)
        · exact .inl h
        · exact .inr (.inr h)
    · rintro b h1 (h | h)
      · exact d b h ((e' b).2 (.inl h1))
      · exact d' b h1 h
  · rintro ⟨F1, F2, e, d, h1, h2⟩
    obtain ⟨FA, FB, e', d', hA, hB⟩ := Star_append.1 h2
    refine Star_append.2 ⟨FA, fun b => F1 b ∨ FB b, fun b => ?_, ?_, hA, F1, FB, fun b => Iff.rfl, fun b h h' => d b h ((e' b).2 (.inr h')), h1, hB⟩
    · rw [e b, e' b]; constructor
      · rintro (h | h | h)
        · exact .inr (.inl h)
        · exact .inl h
        · exact .inr (.inr h)
      · rintro (h | h | h)
        · exact .inr (.inl h)
        · exact .inl h
        · exact .inr (.inr h)
    · rintro b ha (h | h)
      · exact d b h ((e' b).2 (.inl ha))
      · exact d' b ha h
theorem hpL_mid {toks : σ → List (Nat × Tok)} : ∀ {A : List (Nat → Nat)} {Q : List σ} {i : Nat} {a : Nat → Nat} {q : σ}, A[i]? = some a → Q[i]? = some q → ∃ L1 L2 : List Res, hpL toks A Q = L1 ++ eltRes (toks q) a :: L2 ∧ ∀ q', hpL toks A (Q.set i q') = L1 ++ eltRes (toks q') a :: L2
  | [], _, i, a, q, h, _ => by simp at h
  | _ :: _, [], i, a, q, _, h => by simp at h
  | x :: A, y :: Q, 0, a, q, h, h' => by
    simp at h h'; subst h; subst h'
    exact ⟨[], hpL toks A Q, rfl, fun q' => rfl⟩
  | x :: A, y :: Q, i + 1, a, q, h, h' => by
    simp at h h'
    obtain ⟨L1, L2, h1, h2⟩ := hpL_mid (toks := toks) h h'
    refine ⟨eltRes (toks y) x :: L1, L2, ?_, fun q' => ?_⟩
    · show eltRes (toks y) x :: hpL toks A Q = _
      rw [h1]; rfl
    · show eltRes (toks y) x :: hpL toks A (Q.set i q') = _
      rw [h2]; rfl
def ByB (l : List (Nat × Tok)) (ks : List Nat) : Prop := ∀ (β : Env) (a : Nat → Nat), (∀ k ∈ ks, (β k).b = a k) → (l.map fun p => p.2.r β) = l.map fun p => p.2.r (adEnv a)
theorem SCon.heap {P : Program} {f : FuncId} {args args' : List SV} {ret ret' : SV} {fr : List Nat} {toks : σ → List (Nat × Tok)} {A : List (Nat → Nat)} {Q : List σ} {i : Nat} {a : Nat → Nat} {q q' : σ} {exi exo : List (Nat × Tok)} (k : Nat) (ks : List Nat)
    (hA : A[i]? = some a) (hQ : Q[i]? = some q) (hb : ∀ q, ByB (toks q) ks) (h : SCon P f args (toks q ++ exi) ret (toks q' ++ exo) fr) (hfr : ∀ j ∈ ks, j ∉ fr)
    (hi : ∀ p ∈ exi, ∀ j ∈ p.2.ks, j ∉ ks) (ho : ∀ p ∈ exo, ∀ j ∈ p.2.ks, j ∉ ks)
    (ha : ∀ β β' : Env, (∀ j ∈ ks, (β j).b = a j) → (∀ j, j ∉ ks → β' j = β j) → args.map (SV.den β) = args'.map (SV.den β'))
    (hr : ∀ β β' : Env, (∀ j ∈ ks, (β j).b = a j) → (∀ j, j ∉ ks → β' j = β j) → ret.den β = ret'.den β') :
    SCon P f args' ((k, hp k toks A Q) :: exi) ret' ((k, hp k toks A (Q.set i q')) :: exo) fr := by
  intro β w F hs
  obtain ⟨FH, FX, e, d, hH, hX⟩ := hs
  obtain ⟨L1, L2, m1, m2⟩ := hpL_mid (toks := toks) hA hQ
  have hH' : Star (hpL toks A Q) w FH := hH
  rw [m1] at hH'
  obtain ⟨Fi, FR, e1, d1, hE, hR⟩ := Star_mid.1 hH'
  have hE' : Star ((toks q).map fun p => p.2.r (adEnv a)) w Fi := hE
  let β1 : Env := fun j => if j ∈ ks then ⟨a j, undef⟩ else β j
  have hβ1 : ∀ j ∈ ks, (β1 j).b = a j := fun j hj => by simp only [β1, if_pos hj]
  have hβ1' : ∀ j, j ∉ ks → β j = β1 j := fun j hj => by simp only [β1, if_neg hj]
  have eX : (exi.map fun p => p.2.r β1) = exi.map fun p => p.2.r β := List.map_congr_left (fun p hp => p.2.sup (fun j hj => (hβ1' j (hi p hp j hj)).symm))
  have hin : Star ((toks q ++ exi).map fun p => p.2.r β1) w (fun b => Fi b ∨ FX b) := by
    rw [List.map_append]
    refine Star_append.2 ⟨Fi, FX, fun b => Iff.rfl, fun b h1 h2 => d b ((e1 b).2 (.inl h1)) h2, ?_, by rw [eX]; exact hX⟩
    rw [hb q β1 a hβ1]; exact hE'
  have hcall := h β1 w _ hin
  rw [ha β1 β hβ1 hβ1'] at hcall
  refine hcall.mono (fun en w' he => ?_)
  obtain ⟨β2, hb2, rfl, F', h2, h3, h4⟩ := he
  have hβ2 : ∀ j ∈ ks, (β2 j).b = a j := fun j hj => by rw [hb2 j (hfr j hj)]; exact hβ1 j hj
  let β3 : Env := fun j => if j ∈ ks then β j else β2 j
  have hβ3 : ∀ j, j ∉ ks → β3 j = β2 j := fun j hj => by simp only [β3, if_neg hj]
  rw [List.map_append] at h2
  obtain ⟨F1, F2, e2, d2, hT, hO⟩ := Star_append.1 h2
  rw [hb q' β2 a hβ2] at hT
  have eO : (exo.map fun p => p.2.r β2) = exo.map fun p => p.2.r β3 := List.map_congr_left (fun p hp => p.2.sup (fun j hj => (hβ3 j (ho p hp j hj)).symm))
  have hFR : ∀ b, FR b → ¬ F' b := fun b hb' hf => by
    rcases h3 b hf with (h | h) | h
    · exact d1 b h hb'
    · exact d b ((e1 b).2 (.inr hb')) h
    · exact absurd (hR.lt hb') (by omega)
  have hR' : Star (L1 ++ L2) w' FR := hR.loc (fun b hb' => h4.block b (hR.lt hb') (fun h => by
    rcases h with h | h
    · exact d1 b h hb'
    · exact d b ((e1 b).2 (.inr hb')) h))
  refine ⟨β3, fun j hj => ?_, by rw [hr β2 β3 hβ2 hβ3], fun b => (F1 b ∨ FR b) ∨ F2 b, ⟨fun b => F1 b ∨ FR b, F2, fun b => Iff.rfl, ?_, ?_, by rw [← eO]; exact hO⟩, ?_, h4.weaken (fun b _ hb' => ?_)⟩
  · by_cases hk : j ∈ ks
    · simp only [β3, if_pos hk]
    · rw [hβ3 j hk, hb2 j hj, ← hβ1' j hk]
  · rintro b (h | h) h'
    · exact d2 b h h'
    · exact hFR b h ((e2 b).2 (.inr h'))
  · show Star (hpL toks A (Q.set i q')) w' _
    rw [m2]
    exact Star_mid.2 ⟨F1, FR, fun b => Iff.rfl, fun b h h' => hFR b h' ((e2 b).2 (.inl h)), hT, hR'⟩
  · rintro b ((h | h) | h)
    · rcases h3 b ((e2 b).2 (.inl h)) with (h | h) | h
      · exact .inl ((e b).2 (.inl ((e1 b).2 (.inl h))))
      · exact .inl ((e b).2 (.inr h))
      · exact .inr h
    · exact .inl ((e b).2 (.inl ((e1 b).2 (.inr h))))
    · rcases h3 b ((e2 b).2 (.inr h)) with (h | h) | h
      · exact .inl ((e b).2 (.inl ((e1 b).2 (.inl h))))
      · exact .inl ((e b).2 (.inr h))
      · exact .inr h
  · rcases hb' with h | h
    · exact (e b).2 (.inl ((e1 b).2 (.inl h)))
    · exact (e b).2 (.inr h)
def adr (ks : List Nat) (g : Nat → Nat) (β : Env) : Nat → Nat := fun j => if j ∈ ks then (β (g j)).b else 0
def hpN (k : Nat) (toks : σ → List (Nat × Tok)) (A : List (Nat → Nat)) (Q : List σ) (ks : List Nat) (g : Nat → Nat) (q : σ) : Tok where
  ks := ks.map g
  r β := starRes (hpL toks (A ++ [adr ks g β]) (Q ++ [q]))
  sup h := by
    rename_i β β'
    have : adr ks g β = adr ks g β' := by
      funext j
      unfold adr
      by_cases hj : j ∈ ks
      · rw [if_pos hj, if_pos hj, h (g j) (List.mem_map_of_mem hj)]
      · rw [if_neg hj, if_neg hj]
    rw [this]
theorem hpL_snoc {toks : σ → List (Nat × Tok)} : ∀ {A : List (Nat → Nat)} {Q : List σ}, A.length = Q.length → ∀ (a : Nat → Nat) (q : σ), hpL toks (A ++ [a]) (Q ++ [q]) = hpL toks A Q ++ [eltRes (toks q) a]
  | [], [], _, a, q => rfl
  | [], _ :: _, h, a, q => by simp at h
  | _ :: _, [], h, a, q => by simp at h
  | x :: A, y :: Q, h, a, q => by
    show eltRes (toks y) x :: hpL toks (A ++ [a]) (Q ++ [q]) = _
    rw [hpL_snoc (by simpa using h)]; rfl
theorem hp_add {toks : σ → List (Nat × Tok)} {A : List (Nat → Nat)} {Q : List σ} {q : σ} {tn : List (Nat × Tok)} (k : Nat) (ks : List Nat) (g : Nat → Nat) (hAQ : A.length = Q.length) (hT : ∀ β : Env, (tn.map fun p => p.2.r β) = (toks q).map fun p => p.2.r (adEnv (adr ks g β))) :
    Ent ((k, hp k toks A Q) :: tn) [(k, hpN k toks A Q ks g q)] [] := by
  intro β w F hs
  obtain ⟨F1, F2, e, d, h1, h2⟩ := hs
  refine ⟨β, fun _ _ => rfl, F, fun _ h => h, Star_one.2 ?_⟩
  show Star (hpL toks (A ++ [adr ks g β]) (Q ++ [q])) w F
  rw [hpL_snoc hAQ]
  refine Star_append.2 ⟨F1, F2, e, d, h1, Star_one.2 ?_⟩
  have : Star (tn.map fun p => p.2.r β) w F2 := h2
  rw [hT] at this; exact this
theorem At.fix {C : Ctx} {fs : FL} {L : TL} {R : Act → World → Prop} {toks : σ → List (Nat × Tok)} {A : List (Nat → Nat)} {Q : List σ} {ks : List Nat} {g : Nat → Nat} {q : σ} {t j0 : Nat} (k : Nat) (hk : lkT L k = some (hpN k toks A Q ks g q)) (hl : lk fs t = some (SV.p (g j0) 0)) (hj : j0 ∈ ks)
    (h : ∀ a : Nat → Nat, At C ((t, SV.raw (ptr (a j0) 0)) :: fs) ((k, some (hp k toks (A ++ [a]) (Q ++ [q]))) :: L) R) : At C fs L R := by
  rintro a w ⟨β, F, hβ, hfs, hlt, hn, hd, hs, hF, hM⟩
  refine h (adr ks g β) a w ⟨β, F, hβ, fun t' x hx => ?_, fun t' ht => ?_, hn, hd, ?_, hF, hM⟩
  · rw [lk_cons] at hx
    by_cases e : t' = t
    · subst e
      simp at hx; subst hx
      rw [hfs _ _ hl]
      simp [SV.den, Av.den, Cl.den, ptr, adr, hj]
    · rw [upd_ne _ _ e] at hx
      exact hfs _ _ hx
  · rw [lk_cons] at ht
    by_cases e : t' = t
    · subst e; exact hlt _ (by rw [hl]; rfl)
    · rw [upd_ne _ _ e] at ht; exact hlt _ ht
  · obtain ⟨φ, h1, h2, h3, h4⟩ := hs
    refine ⟨φ, fun j tk hj => ?_, fun j hj => ?_, h3, h4⟩
    · rw [lkT_cons] at hj
      by_cases e : j = k
      · subst e
        simp at hj; subst hj
        have h5 := h1 j (hpN j toks A Q ks g q) hk
        exact h5
      · rw [upd_ne _ _ e] at hj
        exact h1 _ _ hj
    · rw [lkT_cons] at hj
      by_cases e : j = k
      · subst e; simp at hj
      · rw [upd_ne _ _ e] at hj
        exact h2 _ hj
theorem hp_nil (toks : σ → List (Nat × Tok)) (k : Nat) : Ent [] [(k, hp k toks [] [])] [] := by
  intro β w F hs
  exact ⟨β, fun _ _ => rfl, F, fun _ h => h, Star_one.2 hs⟩
theorem Star_perm {A B : List Res} (h : A.Perm B) : ∀ {w : World} {F : Foot}, Star A w F → Star B w F := by
  induction h with
  | nil => intro w F h; exact h
  | cons r _ ih =>
    rintro w F ⟨F1, F2, e, d, h1, h2⟩
    exact ⟨F1, F2, e, d, h1, ih h2⟩
  | swap x y l =>
    intro w F h
    obtain ⟨F1, F2, e, d, h1, G1, G2, e', d', h2, h3⟩ := h
    refine ⟨G1, fun b => F1 b ∨ G2 b, fun b => ?_, ?_, h2, F1, G2, fun b => Iff.rfl, fun b h h' => d b h ((e' b).2 (.inr h')), h1, h3⟩
    · rw [e b, e' b]; constructor
      · rintro (h | h | h)
        · exact .inr (.inl h)
        · exact .inl h
        · exact .inr (.inr h)
      · rintro (h | h | h)
        · exact .inr (.inl h)
        · exact .inl h
        · exact .inr (.inr h)
    · rintro b h (h' | h')
      · exact d b h' ((e' b).2 (.inl h))
      · exact d' b h h'
  | trans _ _ ih1 ih2 => intro w F h; exact ih2 (ih1 h)
theorem SCon.perm {P : Program} {f : FuncId} {args : List SV} {ret : SV} {fr : List Nat} {ti ti' to to' : List (Nat × Tok)} (h : SCon P f args ti ret to fr) (hi : ti'.Perm ti) (ho : to.Perm to') : SCon P f args ti' ret to' fr := by
  intro β w F hs
  refine (h β w F (Star_perm (hi.map _) hs)).mono (fun e w' he => ?_)
  obtain ⟨β', h1, h2, F', h3, h4, h5⟩ := he
  exact ⟨β', h1, h2, F', Star_perm (ho.map _) h3, h4, h5⟩
theorem SCon.frame {P : Program} {f : FuncId} {args : List SV} {ret : SV} {fr : List Nat} {ti to : List (Nat × Tok)} (ex : List (Nat × Tok)) (h : SCon P f args ti ret to fr) (hx : ∀ p ∈ ex, ∀ j ∈ p.2.ks, j ∉ fr) : SCon P f args (ti ++ ex) ret (to ++ ex) fr := by
  intro β w F hs
  rw [List.map_append] at hs
  obtain ⟨F1, F2, e, d, h1, h2⟩ := Star_append.1 hs
  refine (h β w F1 h1).mono (fun en w' he => ?_)
  obtain ⟨β', hb, rfl, F', h3, h4, h5⟩ := he
  have ee : (ex.map fun p => p.2.r β') = ex.map fun p => p.2.r β := List.map_congr_left (fun p hp => p.2.sup (fun j hj => hb j (hx p hp j hj)))
  refine ⟨β', hb, rfl, fun b => F' b ∨ F2 b, ?_, ?_, h5.weaken (fun b _ hb => (e b).2 (.inl hb))⟩
  · rw [List.map_append, ee]
    refine Star_append.2 ⟨F', F2, fun b => Iff.rfl, fun b h h' => ?_, h3, h2.loc (fun b hb => h5.block b (h2.lt hb) (fun h => d b h hb))⟩
    rcases h4 b h with h6 | h6
    · exact d b h6 h'
    · exact absurd (h2.lt h') (by omega)
  · rintro b (h | h)
    · rcases h4 b h with h6 | h6
      · exact .inl ((e b).2 (.inl h6))
      · exact .inr h6
    · exact .inl ((e b).2 (.inr h))
end
end Go.Proofs.YtpeoalmhccmdiaaGreat.Sx
namespace Go.Proofs.YtpeoalmhccmdiaaGreat
open Go Go.Proofs.YtpeoalmhccmdiaaGreat.Sx
structure THp where
  q : Nat
  c : Nat
def hA (A : List (Nat → Nat)) (e : THp) : Nat := A.getD e.q (fun _ => 0) e.c
def hTree (Q : List TQueue) (e : THp) : Option (TS TSlot TSize) := (Q[e.q]?).bind fun q => match e.c with
  | 4 => some q.present
  | 6 => some q.gone
  | _ => none
def hQueue (Q : List TQueue) (e : THp) : Option TQueue := if e.c = 1 then Q[e.q]? else none
structure TPart where
  shelf : THp
  floor : TTook
def eTPart (A : List (Nat → Nat)) (x : TPart) : List Value := [ptr (hA A x.shelf) 0, .bool x.floor.found, .int .i64 x.floor.item.key, .int .i64 x.floor.item.id]
theorem eTPart_len (A : List (Nat → Nat)) : ∀ x, (eTPart A x).length = 4 := fun _ => rfl
theorem eTPart_one (A : List (Nat → Nat)) : ∀ x, (eTPart A x).all Value.oneCell' = true := fun _ => rfl
def partsIn (n : Nat) (l : List TPart) : Bool := l.all fun x => decide (x.shelf.q < n)
structure TViews where
  parts : List TPart
def shelf_Above.f (k : Nat) (p1 : Pool (TNode TSlot TSize)) (rt0 : TRef) (a1 : TItem) : Option (Int) := (Tree_Len.f opsS k p1 rt0).bind fun x1 => (shelf_Of.f k a1).bind fun x2 => (Tree_Rank.f opsS k p1 rt0 x2).bind fun x3 => (shelf_Of.f k a1).bind fun x4 => (Tree_Find.f opsS k p1 rt0 x4).bind fun x5 => bif x5.2 then (some (w64 ((w64 (x1 - x3)) - 1))) else (some (w64 (x1 - x3)))
def fuse_part_ahead.f (k : Nat) (Q : List TQueue) (a0 : TPart) : Option (Int) := bif (!a0.floor.found) then (some 0) else ((hTree Q a0.shelf).bind fun x1 => (Tree_Len.f opsS k x1.p x1.r).bind fun x2 => (hTree Q a0.shelf).bind fun x3 => (shelf_Above.f k x3.p x3.r a0.floor.item).bind fun x4 => some (w64 (x2 - x4)))
def fuse_part_size.f (k : Nat) (Q : List TQueue) (a0 : TPart) : Option (Int) := (hTree Q a0.shelf).bind fun x1 => (Tree_Len.f opsS k x1.p x1.r).bind fun x2 => (fuse_part_ahead.f k Q a0).bind fun x3 => some (w64 (x2 - x3))
def fuse_part_rank.f (k : Nat) (Q : List TQueue) (a0 : TPart) (a1 : TItem) : Option (Int) := (shelf_Of.f k a1).bind fun x1 => (hTree Q a0.shelf).bind fun x2 => (Tree_Rank.f opsS k x2.p x2.r x1).bind fun x3 => (fuse_part_ahead.f k Q a0).bind fun x4 => some (gmax 0 (w64 (x3 - x4)))
def fuse_Views_Len.l0 (k : Nat) (Q : List TQueue) (a0 : TViews) : Nat → (Int × Int) → Option (Int)
  | 0, _ => none
  | n + 1, (v1, v2) => bif (decide (v2 < (a0.parts.length : Int))) then ((atL a0.parts v2).bind fun x2 => (fuse_part_size.f k Q x2).bind fun x3 => fuse_Views_Len.l0 k Q a0 n ((w64 (v1 + x3)), (w64 (v2 + 1)))) else (some v1)
def fuse_Views_Len.f (k : Nat) (Q : List TQueue) (a0 : TViews) : Option (Int) := (fuse_Views_Len.l0 k Q a0 k (0, 0)).bind fun x1 => some x1
def fuse_Views_rank.l0 (k : Nat) (Q : List TQueue) (a0 : TViews) (a1 : TItem) : Nat → (Int × Int) → Option (Int)
  | 0, _ => none
  | n + 1, (v1, v2) => bif (decide (v2 < (a0.parts.length : Int))) then ((atL a0.parts v2).bind fun x2 => (fuse_part_rank.f k Q x2 a1).bind fun x3 => fuse_Views_rank.l0 k Q a0 a1 n ((w64 (v1 + x3)), (w64 (v2 + 1)))) else (some v1)
def fuse_Views_rank.f (k : Nat) (Q : List TQueue) (a0 : TViews) (a1 : TItem) : Option (Int) := (fuse_Views_rank.l0 k Q a0 a1 k (0, 0)).bind fun x1 => some x1
def Tree_At.l0 {E A : Type} (O : Ops E A) (k : Nat) (p1 : Pool (TNode E A)) : Nat → (Int × TRef) → Option (Sum (E × Bool) (Unit))
  | 0, _ => none
  | n + 1, (v1, v2) => bif (v2.gen != 0) then ((Tree_get.f O k p1 v2).bind fun x2 => (Tree_get.f O k p1 x2.left).bind fun x3 => bif (v1 == x3.size) then (some (Sum.inl (x2.e, true))) else (bif (decide (v1 < x3.size)) then (Tree_At.l0 O k p1 n (v1, x2.left)) else (Tree_At.l0 O k p1 n ((w64 (v1 - (w64 (x3.size + 1)))), x2.right)))) else (some (Sum.inr ()))
def Tree_At.f {E A : Type} (O : Ops E A) (k : Nat) (p1 : Pool (TNode E A)) (rt0 : TRef) (a1 : Int) : Option (E × Bool) := bif (decide (a1 < 0)) then (some (O.zE, false)) else ((Tree_At.l0 O k p1 k (a1, rt0)).bind (Sum.elim (fun r => some r) (fun w1 => some (O.zE, false))))
def fuse_Views_within.l0 (k : Nat) (Q : List TQueue) (a0 : TViews) (a1 : TPart) (a2 : Int) : Nat → (Int × Int) → Option (Sum (TItem × Bool) (Unit))
  | 0, _ => none
  | n + 1, (v1, v2) => bif (decide (v1 < v2)) then ((hTree Q a1.shelf).bind fun x5 => (Tree_At.f opsS k x5.p x5.r (w64 ((w64 (v1 + v2)).tdiv 2))).bind fun x6 => (fuse_Views_rank.f k Q a0 x6.1.item).bind fun x7 => bif (x7 == a2) then (some (Sum.inl (x6.1.item, true))) else (bif (decide (x7 < a2)) then (fuse_Views_within.l0 k Q a0 a1 a2 n ((w64 ((w64 ((w64 (v1 + v2)).tdiv 2)) + 1)), v2)) else (fuse_Views_within.l0 k Q a0 a1 a2 n (v1, (w64 ((w64 (v1 + v2)).tdiv 2)))))) else (some (Sum.inr ()))
def fuse_Views_within.f (k : Nat) (Q : List TQueue) (a0 : TViews) (a1 : TPart) (a2 : Int) : Option (TItem × Bool) := (fuse_part_ahead.f k Q a1).bind fun x1 => (hTree Q a1.shelf).bind fun x2 => (Tree_Len.f opsS k x2.p x2.r).bind fun x3 => (fuse_Views_within.l0 k Q a0 a1 a2 k (x1, x3)).bind (Sum.elim (fun r => some r) (fun w4 => some (zTItem, false)))
def fuse_Views_At.l0 (k : Nat) (Q : List TQueue) (a0 : TViews) (a1 : Int) : Nat → Int → Option (Sum (TItem × Bool) (Unit))
  | 0, _ => none
  | n + 1, v1 => bif (decide (v1 < (a0.parts.length : Int))) then ((atL a0.parts v1).bind fun x2 => (fuse_Views_within.f k Q a0 x2 a1).bind fun x3 => bif x3.2 then (some (Sum.inl (x3.1, true))) else (fuse_Views_At.l0 k Q a0 a1 n (w64 (v1 + 1)))) else (some (Sum.inr ()))
def fuse_Views_At.f (k : Nat) (Q : List TQueue) (a0 : TViews) (a1 : Int) : Option (TItem × Bool) := (fuse_Views_At.l0 k Q a0 a1 k 0).bind (Sum.elim (fun r => some r) (fun w1 => some (zTItem, false)))
def fuse_part_raised.f (k : Nat) (Q : List TQueue) (a0 : TPart) (a1 : TItem) : Option (TPart) := bif (!a0.floor.found) then (some (TPart.mk a0.shelf (TTook.mk true a1))) else ((item_Compare.f k a0.floor.item a1).bind fun x1 => bif (decide (x1 < 0)) then (some (TPart.mk a0.shelf (TTook.mk true a1))) else (some a0))
def slices_Clone.f (k : Nat) (Q : List TQueue) (l0 : List TPart) : Option (List TPart) := bif decide (([] : List TPart).length + l0.length < 4294967296) then (some (([] : List TPart) ++ l0)) else none
def fuse_Views_Then.l0 (k : Nat) (Q : List TQueue) (a1 : THp) (x3 : List TPart) (x10 : TItem × Bool) : Nat → (List TPart × Int) → Option (List TPart)
  | 0, _ => none
  | n + 1, (v1, v2) => bif (decide (v2 < ((x3 ++ ([(TPart.mk (THp.mk a1.q 6) zTTook)] : List TPart)).length : Int))) then ((atL v1 v2).bind fun x11 => (fuse_part_raised.f k Q x11 x10.1).bind fun x12 => fuse_Views_Then.l0 k Q a1 x3 x10 n ((v1.set ((v2).toNat) x12), (w64 (v2 + 1)))) else (some v1)
def fuse_Views_Then.f (k : Nat) (Q : List TQueue) (a0 : TViews) (a1 : THp) : Option (TViews) := (hQueue Q a1).bind fun x1 => (partial_Queue_Present.f k x1).bind fun x2 => (slices_Clone.f k Q a0.parts).bind fun x3 => (hQueue Q a1).bind fun x4 => (partial_Queue_Gone.f k x4).bind fun x5 => bif decide (x3.length + ([(TPart.mk (THp.mk a1.q 6) zTTook)] : List TPart).length < 4294967296) then ((hQueue Q a1).bind fun x6 => (partial_Queue_Deletes.f k x6).bind fun x7 => (fuse_Views_Len.f k Q (TViews.mk (x3 ++ ([(TPart.mk (THp.mk a1.q 6) zTTook)] : List TPart)))).bind fun x8 => bif (decide (x7 ≥ x8)) then (some (TViews.mk ([(TPart.mk (THp.mk a1.q 4) zTTook)] : List TPart))) else (((fuse_Views_At.f k Q (TViews.mk (x3 ++ ([(TPart.mk (THp.mk a1.q 6) zTTook)] : List TPart))) (w64 (x7 - 1))).bind fun x10 => bif x10.2 then (fuse_Views_Then.l0 k Q a1 x3 x10 k ((x3 ++ ([(TPart.mk (THp.mk a1.q 6) zTTook)] : List TPart)), 0)) else (some (x3 ++ ([(TPart.mk (THp.mk a1.q 6) zTTook)] : List TPart)))).bind fun x9 => bif decide (x9.length + ([(TPart.mk (THp.mk a1.q 4) zTTook)] : List TPart).length < 4294967296) then (some (TViews.mk (x9 ++ ([(TPart.mk (THp.mk a1.q 4) zTTook)] : List TPart)))) else none)) else none
def fuse_Views_Min.f (k : Nat) (Q : List TQueue) (a0 : TViews) : Option (TItem × Bool) := (fuse_Views_At.f k Q a0 0).bind fun x1 => some (x1.1, x1.2)
def slices_IndexFunc.l0 (k : Nat) (l0 : List TPart) (fn1 : TPart → Option Bool) : Nat → Int → Option (Sum (Int) (Unit))
  | 0, _ => none
  | n + 1, v1 => bif (decide (v1 < (l0.length : Int))) then ((atL l0 v1).bind fun x2 => (fn1 x2).bind fun x3 => bif x3 then (some (Sum.inl v1)) else (slices_IndexFunc.l0 k l0 fn1 n (w64 (v1 + 1)))) else (some (Sum.inr ()))
def slices_IndexFunc.f (k : Nat) (Q : List TQueue) (l0 : List TPart) (fn1 : TPart → Option Bool) : Option (Int) := (slices_IndexFunc.l0 k l0 fn1 k 0).bind (Sum.elim (fun r => some r) (fun w1 => some (-1)))
def slices_ContainsFunc.f (k : Nat) (Q : List TQueue) (l0 : List TPart) (fn1 : TPart → Option Bool) : Option (Bool) := (slices_IndexFunc.f k Q l0 fn1).bind fun x1 => some (decide (x1 ≥ 0))
def fuse_Views_Has_1.f (k : Nat) (Q : List TQueue) (a0 : TPart) (c0 : TItem) : Option (Bool) := (shelf_Of.f k c0).bind fun x1 => (hTree Q a0.shelf).bind fun x2 => (Tree_Find.f opsS k x2.p x2.r x1).bind fun x3 => bif x3.2 then (bif (!a0.floor.found) then (some true) else ((item_Compare.f k a0.floor.item c0).bind fun x4 => some (decide (x4 < 0)))) else (some false)
def fuse_Views_Has.f (k : Nat) (Q : List TQueue) (a0 : TViews) (a1 : TItem) : Option (Bool) := (slices_ContainsFunc.f k Q a0.parts (fun z0 => fuse_Views_Has_1.f k Q z0 a1)).bind fun x1 => some x1
def Lw13_Queue.l0 (k : Nat) (l0 : List TOp) : Nat → (TQueue × Int) → Option (Sum (TQueue) (TQueue))
  | 0, _ => none
  | n + 1, (v1, v2) => bif (decide (v2 < (l0.length : Int))) then ((atL l0 v2).bind fun x3 => bif x3.insert then ((partial_Queue_Insert.f k v1 x3.time x3.item).bind fun x4 => bif (x4.2.1 != 0) then (none) else (Lw13_Queue.l0 k l0 n (x4.2.2, (w64 (v2 + 1))))) else ((partial_Queue_Delete.f k v1 x3.time).bind fun x5 => bif (x5.2.1 != 0) then (none) else (Lw13_Queue.l0 k l0 n (x5.2.2, (w64 (v2 + 1)))))) else (some (Sum.inr v1))
def Lw13_Queue.f (k : Nat) (l0 : List TOp) : Option (TQueue) := (partial_New.f k (l0.length : Int)).bind fun x1 => (Lw13_Queue.l0 k l0 k (x1, 0)).bind (Sum.elim (fun r => some r) (fun w2 => some w2))
def R13_Queue.l0 (k : Nat) (l0 : List Int) (a1 : Int) : Nat → (List TOp × Int) → Option (List TOp)
  | 0, _ => none
  | n + 1, (v1, v2) => bif (decide (v2 < (l0.length : Int))) then ((atL l0 v2).bind fun x2 => bif (decide (x2 < 0)) then (bif decide (v1.length + ([(TOp.mk v2 false zTItem)] : List TOp).length < 4294967296) then (R13_Queue.l0 k l0 a1 n ((v1 ++ ([(TOp.mk v2 false zTItem)] : List TOp)), (w64 (v2 + 1)))) else none) else (bif decide (v1.length + ([(TOp.mk v2 true (TItem.mk x2 (w64 (a1 + v2))))] : List TOp).length < 4294967296) then (R13_Queue.l0 k l0 a1 n ((v1 ++ ([(TOp.mk v2 true (TItem.mk x2 (w64 (a1 + v2))))] : List TOp)), (w64 (v2 + 1)))) else none)) else (some v1)
def R13_Queue.f (k : Nat) (l0 : List Int) (a1 : Int) : Option (List TOp) := (R13_Queue.l0 k l0 a1 k (([] : List TOp), 0)).bind fun x1 => some x1
def fuse_None.f (k : Nat) : Option (TViews) := some (TViews.mk ([] : List TPart))
def Lw13_awake.f (k : Nat) : Option (Bool) := (R13_Queue.f k ([4, 5] : List Int) 0).bind fun x1 => (Lw13_Queue.f k x1).bind fun x2 => (R13_Queue.f k ([(-1), 3, (-1)] : List Int) 10).bind fun x3 => (Lw13_Queue.f k x3).bind fun x4 => bif decide ((THp.mk ([] : List TQueue).length 1).q < (([] : List TQueue) ++ [x2]).length) then ((fuse_None.f k).bind fun x5 => (fuse_Views_Then.f k ((([] : List TQueue) ++ [x2]) ++ [x4]) x5 (THp.mk ([] : List TQueue).length 1)).bind fun x6 => (fuse_Views_Then.f k ((([] : List TQueue) ++ [x2]) ++ [x4]) x6 (THp.mk (([] : List TQueue) ++ [x2]).length 1)).bind fun x7 => (fuse_Views_Min.f k ((([] : List TQueue) ++ [x2]) ++ [x4]) x7).bind fun x8 => bif x8.2 then (bif (x8.1.key == 5) then ((fuse_Views_Len.f k ((([] : List TQueue) ++ [x2]) ++ [x4]) x7).bind fun x9 => some (x9 == 1)) else (some false)) else (some false)) else none
def Lw13_small.l0 (k : Nat) (l0 : List (List Int)) : Nat → Int → Option (Sum (Bool) (Unit))
  | 0, _ => none
  | n + 1, v1 => bif (decide (v1 < (l0.length : Int))) then ((atL l0 v1).bind fun x2 => bif (decide ((x2.length : Int) > 25)) then (some (Sum.inl false)) else (Lw13_small.l0 k l0 n (w64 (v1 + 1)))) else (some (Sum.inr ()))
def Lw13_small.f (k : Nat) (l0 : List (List Int)) : Option (Bool) := bif (decide ((l0.length : Int) > 8)) then (some false) else ((Lw13_small.l0 k l0 k 0).bind (Sum.elim (fun r => some r) (fun w1 => some true)))
def Lw13_FuseCounts.l0 (k : Nat) (l0 : List (List Int)) : Nat → (List TPart × Int × List TQueue) → Option (Sum (Bool) (Unit))
  | 0, _ => none
  | n + 1, (v1, v2, v3) => bif (decide (v2 < (l0.length : Int))) then ((atL l0 v2).bind fun x7 => (R13_Queue.f k x7 (w64 (100 * v2))).bind fun x8 => (Lw13_Queue.f k x8).bind fun x9 => bif decide (partsIn v3.length v1 = true) then ((fuse_Views_Len.f k (v3 ++ [x9]) (TViews.mk v1)).bind fun x10 => (hQueue (v3 ++ [x9]) (THp.mk v3.length 1)).bind fun x11 => (partial_Queue_Gone.f k x11).bind fun x12 => (hTree (v3 ++ [x9]) (THp.mk (THp.mk v3.length 1).q 6)).bind fun x13 => (Tree_Len.f opsS k x13.p x13.r).bind fun x14 => (hQueue (v3 ++ [x9]) (THp.mk v3.length 1)).bind fun x15 => (partial_Queue_Deletes.f k x15).bind fun x16 => (fuse_Views_Then.f k (v3 ++ [x9]) (TViews.mk v1) (THp.mk v3.length 1)).bind fun x17 => (fuse_Views_Len.f k (v3 ++ [x9]) x17).bind fun x18 => (hQueue (v3 ++ [x9]) (THp.mk v3.length 1)).bind fun x19 => (partial_Queue_Present.f k x19).bind fun x20 => (hTree (v3 ++ [x9]) (THp.mk (THp.mk v3.length 1).q 4)).bind fun x21 => (Tree_Len.f opsS k x21.p x21.r).bind fun x22 => bif (x18 != (w64 (x22 + (gmax (w64 ((w64 (x10 + x14)) - x16)) 0)))) then (some (Sum.inl false)) else (Lw13_FuseCounts.l0 k l0 n (x17.parts, (w64 (v2 + 1)), (v3 ++ [x9])))) else none) else (some (Sum.inr ()))
def Lw13_FuseCounts.f (k : Nat) (l0 : List (List Int)) : Option (Bool) := (Lw13_awake.f k).bind fun x1 => bif (!x1) then ((Lw13_awake.f k).bind fun x2 => some x2) else ((Lw13_small.f k l0).bind fun x3 => bif (!x3) then ((Lw13_awake.f k).bind fun x4 => some x4) else ((fuse_None.f k).bind fun x5 => (Lw13_FuseCounts.l0 k l0 k (x5.parts, 0, ([] : List TQueue))).bind (Sum.elim (fun r => some r) (fun w6 => some true))))
end Go.Proofs.YtpeoalmhccmdiaaGreat
namespace Go.Proofs.YtpeoalmhccmdiaaGreat
open Go Go.Proofs.YtpeoalmhccmdiaaGreat.Sx
abbrev qks : List Nat := [1, 2, 3, 4, 5, 6, 7, 8, 9]
abbrev tq (q : TQueue) : List (Nat × Tok) := tkQueue 1 2 3 4 5 6 7 8 9 q []
theorem tq_byB (q : TQueue) : ByB (tq q) qks := by
  intro β a h
  have h1 := h 1 (by decide)
  have h2 := h 2 (by decide)
  have h3 := h 3 (by decide)
  have h4 := h 4 (by decide)
  have h5 := h 5 (by decide)
  have h6 := h 6 (by decide)
  have h7 := h 7 (by decide)
  have h8 := h 8 (by decide)
  have h9 := h 9 (by decide)
  simp only [tq, tkQueue, List.map_cons, List.map_nil, blk, pl, Cl.den, adEnv, h1, h2, h3, h4, h5, h6, h7, h8, h9]
theorem noks {x : SV} (hx : x.ks.isEmpty = true) (β β' : Env) : x.den β = x.den β' := SV.den_congr x (fun j hj => by rw [List.isEmpty_iff] at hx; rw [hx] at hj; cases hj)
theorem perm4 {α : Type} (x1 x2 x3 x4 x5 x6 x7 x8 x9 : α) (ex : List α) : ([x1, x2, x3, x4, x5, x6, x7, x8, x9] ++ ex).Perm (([x4, x5] ++ ex) ++ [x1, x2, x3, x6, x7, x8, x9]) := by
  have h1 : ([x1, x2, x3] ++ [x4, x5]).Perm ([x4, x5] ++ [x1, x2, x3]) := List.perm_append_comm
  have h2 : ([x1, x2, x3] ++ [x4, x5] ++ ([x6, x7, x8, x9] ++ ex)).Perm ([x4, x5] ++ [x1, x2, x3] ++ ([x6, x7, x8, x9] ++ ex)) := h1.append_right _
  refine h2.trans ?_
  rw [List.append_assoc, List.append_assoc]
  refine List.Perm.append_left [x4, x5] ?_
  rw [← List.append_assoc]
  exact List.perm_append_comm
theorem perm6 {α : Type} (x1 x2 x3 x4 x5 x6 x7 x8 x9 : α) (ex : List α) : ([x1, x2, x3, x4, x5, x6, x7, x8, x9] ++ ex).Perm (([x6, x7] ++ ex) ++ [x1, x2, x3, x4, x5, x8, x9]) := by
  have h1 : ([x1, x2, x3, x4, x5] ++ [x6, x7]).Perm ([x6, x7] ++ [x1, x2, x3, x4, x5]) := List.perm_append_comm
  have h2 : ([x1, x2, x3, x4, x5] ++ [x6, x7] ++ ([x8, x9] ++ ex)).Perm ([x6, x7] ++ [x1, x2, x3, x4, x5] ++ ([x8, x9] ++ ex)) := h1.append_right _
  refine h2.trans ?_
  rw [List.append_assoc, List.append_assoc]
  refine List.Perm.append_left [x6, x7] ?_
  rw [← List.append_assoc]
  exact List.perm_append_comm
theorem onTree {f : FuncId} {args : List SV} {ret : SV} {A : List (Nat → Nat)} {Q : List TQueue} {e : THp} {t : TS TSlot TSize} {fr : List Nat} {ex : List (Nat × Tok)} (k : Nat) (hAQ : A.length = Q.length) (ht : hTree Q e = some t)
    (h4 : SCon Tryz.prog f (SV.p 4 0 :: args) [(4, blk 4 [.p 5 0, .i t.r.index, .i t.r.gen] 131), (5, plS 5 t.p)] ret ((4, blk 4 [.p 5 0, .i t.r.index, .i t.r.gen] 131) :: (5, plS 5 t.p) :: ex) fr)
    (h6 : SCon Tryz.prog f (SV.p 6 0 :: args) [(6, blk 6 [.p 7 0, .i t.r.index, .i t.r.gen] 131), (7, plS 7 t.p)] ret ((6, blk 6 [.p 7 0, .i t.r.index, .i t.r.gen] 131) :: (7, plS 7 t.p) :: ex) fr)
    (ha : args.all (fun x => x.ks.isEmpty) = true) (hr : ret.ks.all (fun j => !qks.contains j) = true) (hfr : fr.all (fun j => !qks.contains j) = true) (hex : ex.all (fun p => p.2.ks.all fun j => !qks.contains j) = true) :
    SCon Tryz.prog f (SV.raw (ptr (hA A e) 0) :: args) [(k, hp k tq A Q)] ret ((k, hp k tq A Q) :: ex) fr := by
  obtain ⟨i, c⟩ := e
  unfold hTree at ht
  obtain ⟨q, hQ, hc⟩ := Option.bind_eq_some_iff.1 ht
  simp only at hQ hc
  have hlt : i < A.length := by rw [hAQ]; exact (List.getElem?_eq_some_iff.1 hQ).1
  have hAi : A[i]? = some A[i] := List.getElem?_eq_getElem hlt
  have hAe : ∀ c, hA A ⟨i, c⟩ = A[i] c := fun c => by simp [hA, List.getD_eq_getElem?_getD, hAi]
  have hset : Q.set i q = Q := by
    apply List.ext_getElem?
    intro j
    rw [List.getElem?_set]
    by_cases hj : i = j
    · subst hj
      rw [if_pos rfl, if_pos (List.getElem?_eq_some_iff.1 hQ).1, hQ]
    · rw [if_neg hj]
  have hfr' : ∀ j ∈ qks, j ∉ fr := fun j hj hm => by
    have := List.all_eq_true.1 hfr j hm
    simp only [Bool.not_eq_true', List.contains_eq_mem, decide_eq_false_iff_not] at this
    exact this hj
  have hex' : ∀ p ∈ ex, ∀ j ∈ p.2.ks, j ∉ qks := fun p hp j hj hm => by
    have := List.all_eq_true.1 (List.all_eq_true.1 hex p hp) j hj
    simp only [Bool.not_eq_true', List.contains_eq_mem, decide_eq_false_iff_not] at this
    exact this hm
  have hr' : ∀ β β' : Env, (∀ j, j ∉ qks → β' j = β j) → ret.den β = ret.den β' := fun β β' hb => SV.den_congr ret (fun j hj => (hb j (fun hm => by
    have := List.all_eq_true.1 hr j hj
    simp only [Bool.not_eq_true', List.contains_eq_mem, decide_eq_false_iff_not] at this
    exact this hm)).symm)
  have main : ∀ m0 : Nat, m0 ∈ qks → c = m0 → SCon Tryz.prog f (SV.p m0 0 :: args) (tq q) ret (tq q ++ ex) fr → SCon Tryz.prog f (SV.raw (ptr (hA A ⟨i, c⟩) 0) :: args) [(k, hp k tq A Q)] ret ((k, hp k tq A Q) :: ex) fr := by
    intro m0 hm hcm hh
    subst hcm
    have := SCon.heap (exi := []) (exo := ex) (args' := SV.raw (ptr (hA A ⟨i, c⟩) 0) :: args) (ret' := ret) k qks hAi hQ tq_byB (by simpa using hh) hfr' (fun p hp => by cases hp) hex' (fun β β' hb _ => by
      rw [List.map_cons, List.map_cons]
      congr 1
      · rw [hAe]; simp [SV.den, Av.den, Cl.den, ptr, hb c hm]
      · exact List.map_congr_left (fun x hx => noks (List.all_eq_true.1 ha x hx) β β')) (fun β β' _ hb => hr' β β' hb)
    rw [hset] at this; exact this
  have fx : ∀ l : List (Nat × Tok), (∀ p ∈ l, ∀ j ∈ p.2.ks, j ∈ qks) → ∀ p ∈ l, ∀ j ∈ p.2.ks, j ∉ fr := fun l hl p hp j hj => hfr' j (hl p hp j hj)
  split at hc
  · cases hc
    refine main 4 (by decide) rfl ?_
    have h1 := h4.frame [(1, blk 1 [.v (.int .i64 q.capacity), .p 2 0, .p 4 0, .p 6 0, .p 8 0, .v (.int .i64 q.excess)] 98), (2, blk 2 [.p 3 0, .v (.int .i64 q.marks.r.index), .v (.int .i64 q.marks.r.gen)] 110), (3, plM 3 q.marks.p), (6, blk 6 [.p 7 0, .v (.int .i64 q.gone.r.index), .v (.int .i64 q.gone.r.gen)] 131), (7, plS 7 q.gone.p), (8, blk 8 [.p 9 0, .v (.int .i64 q.times.r.index), .v (.int .i64 q.times.r.gen)] 131), (9, plS 9 q.times.p)] (fx _ (by simp [blk, pl, Cl.ks]))
    exact h1.perm (by simpa using perm4 _ _ _ _ _ _ _ _ _ []) (perm4 _ _ _ _ _ _ _ _ _ ex).symm
  · cases hc
    refine main 6 (by decide) rfl ?_
    have h1 := h6.frame [(1, blk 1 [.v (.int .i64 q.capacity), .p 2 0, .p 4 0, .p 6 0, .p 8 0, .v (.int .i64 q.excess)] 98), (2, blk 2 [.p 3 0, .v (.int .i64 q.marks.r.index), .v (.int .i64 q.marks.r.gen)] 110), (3, plM 3 q.marks.p), (4, blk 4 [.p 5 0, .v (.int .i64 q.present.r.index), .v (.int .i64 q.present.r.gen)] 131), (5, plS 5 q.present.p), (8, blk 8 [.p 9 0, .v (.int .i64 q.times.r.index), .v (.int .i64 q.times.r.gen)] 131), (9, plS 9 q.times.p)] (fx _ (by simp [blk, pl, Cl.ks]))
    exact h1.perm (by simpa using perm6 _ _ _ _ _ _ _ _ _ []) (perm6 _ _ _ _ _ _ _ _ _ ex).symm
  · cases hc
theorem onQueueG {f : FuncId} {args : List SV} {ret ret' : SV} {A : List (Nat → Nat)} {Q : List TQueue} {e : THp} {q : TQueue} (k : Nat) (hAQ : A.length = Q.length) (hq : hQueue Q e = some q)
    (h : SCon Tryz.prog f (SV.p 1 0 :: args) (tq q) ret (tq q) []) (ha : args.all (fun x => x.ks.isEmpty) = true) (hr : ∀ β β' : Env, (∀ j ∈ qks, (β j).b = hA A ⟨e.q, j⟩) → ret.den β = ret'.den β') :
    SCon Tryz.prog f (SV.raw (ptr (hA A e) 0) :: args) [(k, hp k tq A Q)] ret' [(k, hp k tq A Q)] [] := by
  obtain ⟨i, c⟩ := e
  unfold hQueue at hq
  simp only at hq hr
  split at hq
  · rename_i hc
    subst hc
    have hlt : i < A.length := by rw [hAQ]; exact (List.getElem?_eq_some_iff.1 hq).1
    have hAi : A[i]? = some A[i] := List.getElem?_eq_getElem hlt
    have hAe : ∀ c, hA A ⟨i, c⟩ = A[i] c := fun c => by simp [hA, List.getD_eq_getElem?_getD, hAi]
    have hset : Q.set i q = Q := by
      apply List.ext_getElem?
      intro j
      rw [List.getElem?_set]
      by_cases hj : i = j
      · subst hj
        rw [if_pos rfl, if_pos (List.getElem?_eq_some_iff.1 hq).1, hq]
      · rw [if_neg hj]
    have := SCon.heap (exi := []) (exo := []) (args' := SV.raw (ptr (hA A ⟨i, 1⟩) 0) :: args) (ret' := ret') k qks hAi hq tq_byB (by simpa using h) (fun j _ => by simp) (fun p hp => by cases hp) (fun p hp => by cases hp) (fun β β' hb _ => by
      rw [List.map_cons, List.map_cons]
      congr 1
      · rw [hAe]; simp [SV.den, Av.den, Cl.den, ptr, hb 1 (by decide)]
      · exact List.map_congr_left (fun x hx => noks (List.all_eq_true.1 ha x hx) β β')) (fun β β' hb _ => hr β β' (fun j hj => by rw [hAe]; exact hb j hj))
    rw [hset] at this; exact this
  · cases hq
theorem onQueue {f : FuncId} {args : List SV} {ret : SV} {A : List (Nat → Nat)} {Q : List TQueue} {e : THp} {q : TQueue} (k : Nat) (hAQ : A.length = Q.length) (hq : hQueue Q e = some q)
    (h : SCon Tryz.prog f (SV.p 1 0 :: args) (tq q) ret (tq q) []) (ha : args.all (fun x => x.ks.isEmpty) = true) (hr : ret.ks.isEmpty = true) :
    SCon Tryz.prog f (SV.raw (ptr (hA A e) 0) :: args) [(k, hp k tq A Q)] ret [(k, hp k tq A Q)] [] :=
  onQueueG k hAQ hq h ha (fun β β' _ => noks hr β β')
theorem onQueueP {f : FuncId} {args : List SV} {A : List (Nat → Nat)} {Q : List TQueue} {e : THp} {q : TQueue} (k c : Nat) (hc : c ∈ qks) (hAQ : A.length = Q.length) (hq : hQueue Q e = some q)
    (h : SCon Tryz.prog f (SV.p 1 0 :: args) (tq q) (SV.p c 0) (tq q) []) (ha : args.all (fun x => x.ks.isEmpty) = true) :
    SCon Tryz.prog f (SV.raw (ptr (hA A e) 0) :: args) [(k, hp k tq A Q)] (SV.raw (ptr (hA A ⟨e.q, c⟩) 0)) [(k, hp k tq A Q)] [] :=
  onQueueG k hAQ hq h ha (fun β β' hb => by simp [SV.den, Av.den, Cl.den, ptr, hb c hc])
theorem lrow_grow {α : Type} {f g : α → List Value} {k T s : Nat} : ∀ {l : List α}, (∀ x ∈ l, f x = g x) → lrow k T f s l = lrow k T g s l := by
  intro l h
  have : l.flatMap f = l.flatMap g := by
    induction l with
    | nil => rfl
    | cons x l ih => rw [List.flatMap_cons, List.flatMap_cons, h x (by simp), ih (fun y hy => h y (by simp [hy]))]
  unfold lrow; rw [this]
theorem hA_grow {A : List (Nat → Nat)} {e : THp} (a : Nat → Nat) (h : e.q < A.length) : hA (A ++ [a]) e = hA A e := by
  simp [hA, List.getD_eq_getElem?_getD, List.getElem?_append_left h]
theorem parts_grow {A : List (Nat → Nat)} {Q : List TQueue} {k T s : Nat} {l : List TPart} (a : Nat → Nat) (hAQ : A.length = Q.length) (h : partsIn Q.length l = true) : lrow k T (eTPart A) s l = lrow k T (eTPart (A ++ [a])) s l := by
  refine lrow_grow (fun x hx => ?_)
  have := List.all_eq_true.1 h x hx
  unfold eTPart
  rw [hA_grow a (by rw [hAQ]; simpa using this)]
def gN (l : List Nat) (j : Nat) : Nat := l.getD (j - 1) 0
theorem tq_add {A : List (Nat → Nat)} {Q : List TQueue} (k : Nat) (n0 n1 n2 n3 n4 n5 n6 n7 n8 : Nat) (q : TQueue) (hAQ : A.length = Q.length) :
    Ent ((k, hp k tq A Q) :: tkQueue n0 n1 n2 n3 n4 n5 n6 n7 n8 q []) [(k, hpN k tq A Q qks (gN [n0, n1, n2, n3, n4, n5, n6, n7, n8]) q)] [] :=
  hp_add k qks _ hAQ (fun β => by
    have h : ∀ j ∈ qks, (adr qks (gN [n0, n1, n2, n3, n4, n5, n6, n7, n8]) β) j = (β (gN [n0, n1, n2, n3, n4, n5, n6, n7, n8] j)).b := fun j hj => by unfold adr; rw [if_pos hj]
    have h1 := h 1 (by decide)
    have h2 := h 2 (by decide)
    have h3 := h 3 (by decide)
    have h4 := h 4 (by decide)
    have h5 := h 5 (by decide)
    have h6 := h 6 (by decide)
    have h7 := h 7 (by decide)
    have h8 := h 8 (by decide)
    have h9 := h 9 (by decide)
    simp only [tq, tkQueue, List.map_cons, List.map_nil, blk, pl, Cl.den, adEnv, h1, h2, h3, h4, h5, h6, h7, h8, h9]
    rfl)
theorem len_grow {A : List (Nat → Nat)} {Q : List TQueue} (hAQ : A.length = Q.length) (a : Nat → Nat) (q : TQueue) : (A ++ [a]).length = (Q ++ [q]).length := by simp [hAQ]
theorem hA_new {A : List (Nat → Nat)} {Q : List TQueue} (a : Nat → Nat) (hAQ : A.length = Q.length) : a 1 = hA (A ++ [a]) ⟨Q.length, 1⟩ := by
  simp [hA, List.getD_eq_getElem?_getD, ← hAQ]
end Go.Proofs.YtpeoalmhccmdiaaGreat
namespace Go.Proofs.YtpeoalmhccmdiaaGreat
open Go Go.Proofs.YtpeoalmhccmdiaaGreat.Sx
abbrev Tree_RankS_st (p1 : Pool (TNode TSlot TSize)) (rt0 : TRef) (a1 : TSlot) (r : Int) (m0 : Nat) (m1 : Nat) : Prop := SCon Tryz.prog 151 [SV.p m0 0, .a (.agg ((eTSlot a1).map .v))] [(m0, blk m0 [.p m1 0, .i rt0.index, .i rt0.gen] 131), (m1, plS m1 p1)] (.a (.c (.v (.int .i64 r)))) [(m0, blk m0 [.p m1 0, .i rt0.index, .i rt0.gen] 131), (m1, plS m1 p1)] []
theorem Tree_RankS_con0 {k : Nat}  {p1 : Pool (TNode TSlot TSize)} {rt0 : TRef} {a1 : TSlot} {r : Int}  (H0 : Tree_Rank.f opsS k p1 rt0 a1 = some r) : Tree_RankS_st p1 rt0 a1 r 0 1 := by
 rw [Tree_Rank.f] at H0
 refine spec_of [(0, _), (1, _)] [(0, _), (1, _)] 36 Tryz.func151 rfl Tryz.ntmps151 rfl rfl rfl rfl (fun β W F => ?_)
 refine G.seq <| G.rg <| K.box Y 100 _ g0 rfl rfl rfl rfl rfl rfl <| K.as rfl rfl <| K.nil <| At.nr <| K.as rfl rfl <| K.nil <| At.next ?_
 obtain ⟨x1, H1, H0⟩ := bnd H0
 refine G.sJ (σ := { v : Int // x1 = v }) (fun q => [(5, .a (.c (.v (.int .i64 q.1))))]) (fun q => [(1, plS 1 p1), (0, blk 0 [.p 1 0, .v (.int .i64 rt0.index), .v (.int .i64 rt0.gen)] 131)]) ?_ ?_
 ·
  refine G.seq <| G.rg <| K.mv rfl rfl <| K.nilCheck g0 rfl rfl <| K.fieldAddr Y g0 rfl t131 rfl rfl <| K.loadS Y _ g0 rfl rfl t108 rfl rfl rfl <| K.alloc Y 101 _ g0 t108 rfl rfl rfl rfl rfl <| K.store Y _ g0 rfl rfl rfl t108 rfl rfl rfl rfl rfl <| K.nil <| At.next <| G.block <| G.lp (σ := { q : Nat × (Int × TRef) // Tree_Rank.l0 opsS k p1 a1 q.1 q.2 = some x1 }) (fun q => [(0, .a (.c (.p 0 0))), (3, .a (.c (.p 106 0))), (5, .a (.c (.v (.int .i64 q.1.2.1)))), (6, .a (.c (.p 107 0)))]) (fun q => [(1, plS 1 p1), (0, blk 0 [.p 1 0, .v (.int .i64 rt0.index), .v (.int .i64 rt0.gen)] 131), (106, blk 106 [.v (.int .i64 a1.item.key), .v (.int .i64 a1.item.id), .v (.bool a1.eaten), .v (.int .i64 a1.time)] 66), (107, blk 107 [.v (.int .i64 q.1.2.2.index), .v (.int .i64 q.1.2.2.gen)] 108)]) (fun q => q.1.1) ⟨(k, (0, rt0)), H1⟩ ?_ ?_
  · exact At.into [(106, 100), (107, 101)] [_, _, _, _] rfl ⟨rfl, rfl, rfl, rfl, trivial⟩ ⟨rfl, (pl_ren rfl), rfl, (blk_ren rfl rfl), rfl, (blk_ren rfl rfl), rfl, (blk_ren rfl rfl), trivial⟩ rfl
  ·
   rintro ⟨⟨n0, v1, v2⟩, H1⟩
   show G _ _ [(0, .a (.c (.p 0 0))), (3, .a (.c (.p 106 0))), (5, .a (.c (.v (.int .i64 v1)))), (6, .a (.c (.p 107 0)))] [(1, some (plS 1 p1)), (0, some (blk 0 [.p 1 0, .v (.int .i64 rt0.index), .v (.int .i64 rt0.gen)] 131)), (106, some (blk 106 [.v (.int .i64 a1.item.key), .v (.int .i64 a1.item.id), .v (.bool a1.eaten), .v (.int .i64 a1.time)] 66)), (107, some (blk 107 [.v (.int .i64 v2.index), .v (.int .i64 v2.gen)] 108))] _ _
   cases n0 with
   | zero => exact absurd H1 (by simp [Tree_Rank.l0])
   | succ n0 =>
    have HL0 := H1
    rw [Tree_Rank.l0] at H1
    refine G.seq <| G.seq <| G.rg <| K.fieldAddr Y g0 rfl t108 rfl rfl <| K.load1 Y g0 rfl rfl t3 rfl rfl <| K.bin (V := .bool (v2.gen != 0)) g0 rfl rfl (fun _ => rfl) rfl <| K.nil <| At.next <| G.cond rfl (fun h1 => ?_) (fun h1 => ?_)
    ·
     replace H1 := bif_t H1 h1
     refine G.skip <| At.ns <| G.block <| G.seq ?_
     obtain ⟨x2, hx2, H1⟩ := bnd H1
     refine G.rg <| K.mv rfl rfl <| K.loadS Y _ g0 rfl rfl t108 rfl rfl rfl <| K.cR (cf 79 rfl) (Tree_getS_con hx2 0 1) g0 rfl rfl rfl rfl <| K.alloc Y 108 _ g0 t127 rfl rfl rfl rfl rfl <| K.store Y _ g0 rfl rfl rfl t127 rfl rfl rfl rfl rfl <| K.nil <| At.ns <| G.seq ?_
     obtain ⟨x3, hx3, H1⟩ := bnd H1
     refine G.rg <| K.loadS Y _ g0 rfl rfl t66 rfl rfl rfl <| K.mkIface Y g0 rfl (mkI Tryz.underlying66 rfl) rfl <| K.fieldAddr Y g0 rfl t127 rfl rfl <| K.loadS Y _ g0 rfl rfl t66 rfl rfl rfl <| K.callR [((.tmp 19), _), ((.tmp 21), _)] (shelf_Slot_Compare_con (k := k) hx3) (toFn_invoke (cf 212 rfl) (me66_212) rfl) g0 ⟨rfl, rfl, trivial⟩ trivial rfl rfl rfl <| K.bin (V := .bool (decide (x3 ≤ 0))) g0 rfl rfl (fun _ => rfl) rfl <| K.nil <| At.next <| G.cond rfl (fun h2 => ?_) (fun h2 => ?_)
     ·
      replace H1 := bif_t H1 h2
      exact G.seq <| G.rg <| K.fieldAddr Y g0 rfl t127 rfl rfl <| K.loadS Y _ g0 rfl rfl t108 rfl rfl rfl <| K.store Y _ g0 rfl rfl rfl t108 rfl rfl rfl rfl rfl <| K.nil <| At.next <| G.exit <| At.over_exit <| At.block_hit <| At.nr <| K.loadS Y _ g0 rfl rfl t108 rfl rfl rfl <| K.nil <| At.next <| G.rg <| K.alloc Y 109 _ g0 t108 rfl rfl rfl rfl rfl <| K.store Y _ g0 rfl rfl rfl t108 rfl rfl rfl rfl rfl <| K.nil <| At.ag ⟨(n0, (v1, x2.left)), H1⟩ [(107, 109)] [_, _, _, _] (Nat.lt_succ_self _) rfl ⟨rfl, rfl, rfl, rfl, trivial⟩ ⟨rfl, (pl_ren rfl), rfl, (blk_ren rfl rfl), rfl, (blk_ren rfl rfl), rfl, (blk_ren rfl rfl), trivial⟩ rfl
     ·
      replace H1 := bif_f H1 h2
      refine G.skip <| At.ns ?_
      obtain ⟨x4, hx4, H1⟩ := bnd H1
      exact G.rg <| K.mv rfl rfl <| K.mv rfl rfl <| K.fieldAddr Y g0 rfl t127 rfl rfl <| K.loadS Y _ g0 rfl rfl t108 rfl rfl rfl <| K.cR (cf 144 rfl) (Tree_weightS_con hx4 0 1) g0 rfl rfl rfl rfl <| K.bin (V := .int .i64 (w64 (v1 + x4))) g0 rfl rfl (fun _ => rfl) rfl <| K.as rfl rfl <| K.nil <| At.next <| G.rg <| K.fieldAddr Y g0 rfl t127 rfl rfl <| K.loadS Y _ g0 rfl rfl t108 rfl rfl rfl <| K.store Y _ g0 rfl rfl rfl t108 rfl rfl rfl rfl rfl <| K.nil <| At.block_normal <| At.nr <| K.loadS Y _ g0 rfl rfl t108 rfl rfl rfl <| K.nil <| At.next <| G.rg <| K.alloc Y 110 _ g0 t108 rfl rfl rfl rfl rfl <| K.store Y _ g0 rfl rfl rfl t108 rfl rfl rfl rfl rfl <| K.nil <| At.ag ⟨(n0, ((w64 (v1 + x4)), x2.right)), H1⟩ [(107, 110)] [_, _, _, _] (Nat.lt_succ_self _) rfl ⟨rfl, rfl, rfl, rfl, trivial⟩ ⟨rfl, (pl_ren rfl), rfl, (blk_ren rfl rfl), rfl, (blk_ren rfl rfl), rfl, (blk_ren rfl rfl), trivial⟩ rfl
    ·
     replace H1 := bif_f H1 h1
     exact G.exit <| At.over_exit <| At.over_exit <| At.block_hit <| At.jd ⟨v1, oi H1⟩ [] [_, _] rfl ⟨rfl, trivial⟩ ⟨rfl, (pl_ren rfl), rfl, (blk_ren rfl rfl), trivial⟩ rfl
 ·
  rintro ⟨_, rfl⟩
  show G _ _ [(5, .a (.c (.v (.int .i64 x1))))] [(1, some (plS 1 p1)), (0, some (blk 0 [.p 1 0, .v (.int .i64 rt0.index), .v (.int .i64 rt0.gen)] 131))] _ _
  exact G.seq <| G.rg <| K.mv rfl rfl <| K.as rfl rfl <| K.nil <| At.next <| G.ret <| At.dr Y [4] rfl rfl (by cases H0; rfl) (by cases H0; rfl) rfl rfl rfl
theorem Tree_RankS_con {k : Nat}  {p1 : Pool (TNode TSlot TSize)} {rt0 : TRef} {a1 : TSlot} {r : Int}  (H0 : Tree_Rank.f opsS k p1 rt0 a1 = some r) (m0 m1 : Nat) : Tree_RankS_st p1 rt0 a1 r m0 m1 :=
 SCon.ren (rn [(0, m0), (1, m1)]) (Tree_RankS_con0 (k := k)   H0) ⟨(blk_ren rfl rfl), (pl_ren rfl), trivial⟩ ⟨(blk_ren rfl rfl), (pl_ren rfl), trivial⟩ (by simp) (by simp)
abbrev shelf_Above_st (p1 : Pool (TNode TSlot TSize)) (rt0 : TRef) (a1 : TItem) (r : Int) (m0 : Nat) (m1 : Nat) : Prop := SCon Tryz.prog 137 [SV.p m0 0, .a (.agg ((eTItem a1).map .v))] [(m0, blk m0 [.p m1 0, .i rt0.index, .i rt0.gen] 131), (m1, plS m1 p1)] (.a (.c (.v (.int .i64 r)))) [(m0, blk m0 [.p m1 0, .i rt0.index, .i rt0.gen] 131), (m1, plS m1 p1)] []
theorem shelf_Above_con0 {k : Nat}  {p1 : Pool (TNode TSlot TSize)} {rt0 : TRef} {a1 : TItem} {r : Int}  (H0 : shelf_Above.f k p1 rt0 a1 = some r) : shelf_Above_st p1 rt0 a1 r 0 1 := by
 rw [shelf_Above.f] at H0
 refine spec_of [(0, _), (1, _)] [(0, _), (1, _)] 28 Tryz.func137 rfl Tryz.ntmps137 rfl rfl rfl rfl (fun β W F => ?_)
 refine G.seq <| G.rg <| K.box Y 100 _ g0 rfl rfl rfl rfl rfl rfl <| K.as rfl rfl <| K.nil <| At.ns <| G.seq <| G.rg <| K.mv rfl rfl <| K.eqnil (V := false) g0 rfl rfl (pn_eql_some Tryz.underlying63) rfl <| K.nil <| At.next <| G.cond rfl (fun h1 => ?_) (fun h1 => ?_)
 · cases h1
 ·
  refine G.skip <| At.ns ?_
  obtain ⟨x1, hx1, H0⟩ := bnd H0
  obtain ⟨x2, hx2, H0⟩ := bnd H0
  obtain ⟨x3, hx3, H0⟩ := bnd H0
  refine G.rd mixed <| K.mv rfl rfl <| K.cR (cf 31 rfl) (Tree_LenS_con hx1 0 1) g0 rfl rfl rfl rfl <| K.mv rfl rfl <| K.loadS Y _ g0 rfl rfl t30 rfl rfl rfl <| K.cR (cf 65 rfl) (shelf_Of_con hx2) g0 rfl rfl rfl rfl <| K.cR (cf 151 rfl) (Tree_RankS_con hx3 0 1) g0 rfl rfl rfl rfl <| K.bin (V := .int .i64 (w64 (x1 - x3))) g0 rfl rfl (fun _ => rfl) rfl <| K.as rfl rfl <| K.nil <| And.intro (by kernel_rfl) <| At.ns <| G.seq ?_
  obtain ⟨x4, hx4, H0⟩ := bnd H0
  obtain ⟨x5, hx5, H0⟩ := bnd H0
  refine G.rg <| K.mv rfl rfl <| K.loadS Y _ g0 rfl rfl t30 rfl rfl rfl <| K.cR (cf 65 rfl) (shelf_Of_con hx4) g0 rfl rfl rfl rfl <| K.cR (cf 64 rfl) (Tree_FindS_con hx5 0 1) g0 rfl rfl rfl rfl <| K.mv rfl rfl <| K.extract g0 rfl rfl rfl <| K.extract g0 rfl rfl rfl <| K.alloc Y 101 _ g0 t66 rfl rfl rfl rfl rfl <| K.store Y _ g0 rfl rfl rfl t66 rfl rfl rfl rfl rfl <| K.as rfl rfl <| K.nil <| At.nr <| K.mv rfl rfl <| K.nil <| At.next <| G.cond rfl (fun h2 => ?_) (fun h2 => ?_)
  ·
   replace H0 := bif_t H0 h2
   exact G.rg <| K.mv rfl rfl <| K.bin (V := .int .i64 (w64 ((w64 (x1 - x3)) - 1))) g0 rfl rfl (fun _ => rfl) rfl <| K.as rfl rfl <| K.nil <| At.nr <| K.mv rfl rfl <| K.as rfl rfl <| K.nil <| At.next <| G.ret <| At.dr Y [4] rfl rfl (by cases H0; rfl) (by cases H0; rfl) rfl rfl rfl
  ·
   replace H0 := bif_f H0 h2
   exact G.skip <| At.nr <| K.mv rfl rfl <| K.as rfl rfl <| K.nil <| At.next <| G.ret <| At.dr Y [4] rfl rfl (by cases H0; rfl) (by cases H0; rfl) rfl rfl rfl
theorem shelf_Above_con {k : Nat}  {p1 : Pool (TNode TSlot TSize)} {rt0 : TRef} {a1 : TItem} {r : Int}  (H0 : shelf_Above.f k p1 rt0 a1 = some r) (m0 m1 : Nat) : shelf_Above_st p1 rt0 a1 r m0 m1 :=
 SCon.ren (rn [(0, m0), (1, m1)]) (shelf_Above_con0 (k := k)   H0) ⟨(blk_ren rfl rfl), (pl_ren rfl), trivial⟩ ⟨(blk_ren rfl rfl), (pl_ren rfl), trivial⟩ (by simp) (by simp)
abbrev fuse_part_ahead_st (A : List (Nat → Nat)) (Q : List TQueue) (a0 : TPart) (r : Int) (m0 : Nat) : Prop := SCon Tryz.prog 110 [.a (.agg (((eTPart A) a0).map .v))] [(m0, hp m0 tq A Q)] (.a (.c (.v (.int .i64 r)))) [(m0, hp m0 tq A Q)] []
theorem fuse_part_ahead_con0 {k : Nat} {A : List (Nat → Nat)} {Q : List TQueue} {a0 : TPart} {r : Int}  (hL_9 : A.length = Q.length) (H0 : fuse_part_ahead.f k Q a0 = some r) : fuse_part_ahead_st A Q a0 r 0 := by
 rw [fuse_part_ahead.f] at H0
 refine spec_of [(0, _)] [(0, _)] 17 Tryz.func110 rfl Tryz.ntmps110 rfl rfl rfl rfl (fun β W F => ?_)
 refine G.seq <| G.rg <| K.box Y 100 _ g0 rfl rfl rfl rfl rfl rfl <| K.as rfl rfl <| K.nil <| At.ns <| G.seq <| G.rg <| K.fieldAddr Y g0 rfl t140 rfl rfl <| K.fieldAddr Y g0 rfl t44 rfl rfl <| K.load1 Y g0 rfl rfl t4 rfl rfl <| K.un (V := .bool (!a0.floor.found)) g0 rfl (fun _ => rfl) rfl <| K.nil <| At.next <| G.cond rfl (fun h1 => ?_) (fun h1 => ?_)
 ·
  replace H0 := bif_t H0 h1
  exact G.seq <| G.rg <| K.as rfl rfl <| K.nil <| At.next <| G.ret <| At.over_ret <| At.dr Y [2] rfl rfl (by cases H0; rfl) (by cases H0; rfl) rfl rfl rfl
 ·
  replace H0 := bif_f H0 h1
  refine G.skip <| At.ns ?_
  obtain ⟨x1, hx1, H0⟩ := bnd H0
  obtain ⟨x2, hx2, H0⟩ := bnd H0
  obtain ⟨x3, hx3, H0⟩ := bnd H0
  obtain ⟨x4, hx4, H0⟩ := bnd H0
  exact G.rd mixed <| K.fieldAddr Y g0 rfl t140 rfl rfl <| K.load1 Y g0 rfl rfl t63 rfl rfl <| K.cR (cf 31 rfl) (onTree 0 hL_9 hx1 (Tree_LenS_con hx2 4 5) (Tree_LenS_con hx2 6 7) rfl rfl rfl rfl) g0 rfl rfl rfl rfl <| K.fieldAddr Y g0 rfl t140 rfl rfl <| K.load1 Y g0 rfl rfl t63 rfl rfl <| K.fieldAddr Y g0 rfl t140 rfl rfl <| K.fieldAddr Y g0 rfl t44 rfl rfl <| K.loadS Y _ g0 rfl rfl t30 rfl rfl rfl <| K.cR (cf 137 rfl) (onTree 0 hL_9 hx3 (shelf_Above_con hx4 4 5) (shelf_Above_con hx4 6 7) rfl rfl rfl rfl) g0 rfl rfl rfl rfl <| K.bin (V := .int .i64 (w64 (x2 - x4))) g0 rfl rfl (fun _ => rfl) rfl <| K.as rfl rfl <| K.nil <| And.intro (by kernel_rfl) <| At.next <| G.ret <| At.dr Y [2] rfl rfl (by cases H0; rfl) (by cases H0; rfl) rfl rfl rfl
theorem fuse_part_ahead_con {k : Nat} {A : List (Nat → Nat)} {Q : List TQueue} {a0 : TPart} {r : Int}  (hL_9 : A.length = Q.length) (H0 : fuse_part_ahead.f k Q a0 = some r) (m0 : Nat) : fuse_part_ahead_st A Q a0 r m0 :=
 SCon.ren (rn [(0, m0)]) (fuse_part_ahead_con0 (k := k)  hL_9 H0) ⟨(fun _ => rfl), trivial⟩ ⟨(fun _ => rfl), trivial⟩ (by simp) (by simp)
abbrev fuse_part_size_st (A : List (Nat → Nat)) (Q : List TQueue) (a0 : TPart) (r : Int) (m0 : Nat) : Prop := SCon Tryz.prog 83 [.a (.agg (((eTPart A) a0).map .v))] [(m0, hp m0 tq A Q)] (.a (.c (.v (.int .i64 r)))) [(m0, hp m0 tq A Q)] []
theorem fuse_part_size_con0 {k : Nat} {A : List (Nat → Nat)} {Q : List TQueue} {a0 : TPart} {r : Int}  (hL_9 : A.length = Q.length) (H0 : fuse_part_size.f k Q a0 = some r) : fuse_part_size_st A Q a0 r 0 := by
 rw [fuse_part_size.f] at H0
 refine spec_of [(0, _)] [(0, _)] 9 Tryz.func83 rfl Tryz.ntmps83 rfl rfl rfl rfl (fun β W F => ?_)
 refine G.seq <| G.rg <| K.box Y 100 _ g0 rfl rfl rfl rfl rfl rfl <| K.as rfl rfl <| K.nil <| At.ns ?_
 obtain ⟨x1, hx1, H0⟩ := bnd H0
 obtain ⟨x2, hx2, H0⟩ := bnd H0
 obtain ⟨x3, hx3, H0⟩ := bnd H0
 exact G.rd mixed <| K.fieldAddr Y g0 rfl t140 rfl rfl <| K.load1 Y g0 rfl rfl t63 rfl rfl <| K.cR (cf 31 rfl) (onTree 0 hL_9 hx1 (Tree_LenS_con hx2 4 5) (Tree_LenS_con hx2 6 7) rfl rfl rfl rfl) g0 rfl rfl rfl rfl <| K.loadS Y _ g0 rfl rfl t140 rfl rfl rfl <| K.cR (cf 110 rfl) (fuse_part_ahead_con hL_9 hx3 0) g0 rfl rfl rfl rfl <| K.bin (V := .int .i64 (w64 (x2 - x3))) g0 rfl rfl (fun _ => rfl) rfl <| K.as rfl rfl <| K.nil <| And.intro (by kernel_rfl) <| At.next <| G.ret <| At.dr Y [2] rfl rfl (by cases H0; rfl) (by cases H0; rfl) rfl rfl rfl
theorem fuse_part_size_con {k : Nat} {A : List (Nat → Nat)} {Q : List TQueue} {a0 : TPart} {r : Int}  (hL_9 : A.length = Q.length) (H0 : fuse_part_size.f k Q a0 = some r) (m0 : Nat) : fuse_part_size_st A Q a0 r m0 :=
 SCon.ren (rn [(0, m0)]) (fuse_part_size_con0 (k := k)  hL_9 H0) ⟨(fun _ => rfl), trivial⟩ ⟨(fun _ => rfl), trivial⟩ (by simp) (by simp)
abbrev fuse_part_rank_st (A : List (Nat → Nat)) (Q : List TQueue) (a0 : TPart) (a1 : TItem) (r : Int) (m0 : Nat) : Prop := SCon Tryz.prog 152 [.a (.agg (((eTPart A) a0).map .v)), .a (.agg ((eTItem a1).map .v))] [(m0, hp m0 tq A Q)] (.a (.c (.v (.int .i64 r)))) [(m0, hp m0 tq A Q)] []
theorem fuse_part_rank_con0 {k : Nat} {A : List (Nat → Nat)} {Q : List TQueue} {a0 : TPart} {a1 : TItem} {r : Int}  (hL_9 : A.length = Q.length) (H0 : fuse_part_rank.f k Q a0 a1 = some r) : fuse_part_rank_st A Q a0 a1 r 0 := by
 rw [fuse_part_rank.f] at H0
 refine spec_of [(0, _), (1, _)] [(0, _)] 14 Tryz.func152 rfl Tryz.ntmps152 rfl rfl rfl rfl (fun β W F => ?_)
 refine G.seq <| G.rg <| K.box Y 100 _ g0 rfl rfl rfl rfl rfl rfl <| K.box Y 101 _ g0 rfl rfl rfl rfl rfl rfl <| K.as rfl rfl <| K.nil <| At.ns ?_
 obtain ⟨x1, hx1, H0⟩ := bnd H0
 obtain ⟨x2, hx2, H0⟩ := bnd H0
 obtain ⟨x3, hx3, H0⟩ := bnd H0
 obtain ⟨x4, hx4, H0⟩ := bnd H0
 exact G.rd mixed <| K.fieldAddr Y g0 rfl t140 rfl rfl <| K.load1 Y g0 rfl rfl t63 rfl rfl <| K.loadS Y _ g0 rfl rfl t30 rfl rfl rfl <| K.cR (cf 65 rfl) (shelf_Of_con hx1) g0 rfl rfl rfl rfl <| K.cR (cf 151 rfl) (onTree 0 hL_9 hx2 (Tree_RankS_con hx3 4 5) (Tree_RankS_con hx3 6 7) rfl rfl rfl rfl) g0 rfl rfl rfl rfl <| K.loadS Y _ g0 rfl rfl t140 rfl rfl rfl <| K.cR (cf 110 rfl) (fuse_part_ahead_con hL_9 hx4 0) g0 rfl rfl rfl rfl <| K.bin (V := .int .i64 (w64 (x3 - x4))) g0 rfl rfl (fun _ => rfl) rfl <| K.bi2 (V := .int .i64 (gmax 0 (w64 (x3 - x4)))) g0 rfl rfl (fun _ _ => rfl) rfl <| K.as rfl rfl <| K.nil <| And.intro (by kernel_rfl) <| At.next <| G.ret <| At.dr Y [4] rfl rfl (by cases H0; rfl) (by cases H0; rfl) rfl rfl rfl
theorem fuse_part_rank_con {k : Nat} {A : List (Nat → Nat)} {Q : List TQueue} {a0 : TPart} {a1 : TItem} {r : Int}  (hL_9 : A.length = Q.length) (H0 : fuse_part_rank.f k Q a0 a1 = some r) (m0 : Nat) : fuse_part_rank_st A Q a0 a1 r m0 :=
 SCon.ren (rn [(0, m0)]) (fuse_part_rank_con0 (k := k)  hL_9 H0) ⟨(fun _ => rfl), trivial⟩ ⟨(fun _ => rfl), trivial⟩ (by simp) (by simp)
abbrev fuse_Views_Len_st (S : Foot) (W0 : World) (A : List (Nat → Nat)) (s0_0 : Value) (Q : List TQueue) (r : Int) (m1 : Nat) : Prop := SCon Tryz.prog 46 [.a (.agg [.v s0_0])] [(0, rd S W0), (m1, hp m1 tq A Q)] (.a (.c (.v (.int .i64 r)))) [(0, rd S W0), (m1, hp m1 tq A Q)] []
theorem fuse_Views_Len_con0 {k : Nat} {S : Foot} {W0 : World} {A : List (Nat → Nat)} {s0_0 : Value} {Q : List TQueue} {a0 : TViews} {r : Int}  (hL_9 : A.length = Q.length) (hL0_0 : LArg S W0 s0_0 (eTPart A) 4 a0.parts) (H0 : fuse_Views_Len.f k Q a0 = some r) : fuse_Views_Len_st S W0 A s0_0 Q r 1 := by
 rw [fuse_Views_Len.f] at H0
 obtain ⟨b0_0, o0_0, hI0_0⟩ := hL0_0
 obtain ⟨ao0_0, cap0_0, hE0_0, _⟩ := hI0_0.sl
 subst hE0_0
 refine spec_of [(0, _)] [(0, _), (1, _)] 19 Tryz.func46 rfl Tryz.ntmps46 rfl rfl rfl rfl (fun β W F => ?_)
 refine G.seq <| G.rg <| K.box Y 100 _ g0 rfl rfl rfl rfl rfl rfl <| K.as rfl rfl <| K.nil <| At.nr <| K.as rfl rfl <| K.nil <| At.next ?_
 obtain ⟨x1, H1, H0⟩ := bnd H0
 refine G.sJ (σ := { v : Int // x1 = v }) (fun q => [(3, .a (.c (.v (.int .i64 q.1))))]) (fun q => [(0, rd S W0), (1, hp 1 tq A Q)]) ?_ ?_
 ·
  refine G.seq <| G.rg <| K.fieldAddr Y g0 rfl t81 rfl rfl <| K.load1 Y g0 rfl rfl t79 rfl rfl <| K.lenL (rV 0 S W0 (Value.slice ao0_0 a0.parts.length cap0_0) b0_0 o0_0 (eTPart A) 4 a0.parts) (hI0_0.is 0) g0 rfl rfl Tryz.underlying79 rfl <| K.mv rfl rfl <| K.nil <| At.next <| G.block <| G.lp (σ := { q : Nat × (Int × Int) // fuse_Views_Len.l0 k Q a0 q.1 q.2 = some x1 }) (fun q => [(3, .a (.c (.v (.int .i64 q.1.2.1)))), (7, SV.raw (Value.slice ao0_0 a0.parts.length cap0_0)), (8, .a (.c (.v (.int .i64 (a0.parts.length : Int))))), (9, .a (.c (.v (.int .i64 q.1.2.2))))]) (fun q => [(0, rd S W0), (1, hp 1 tq A Q)]) (fun q => q.1.1) ⟨(k, (0, 0)), H1⟩ ?_ ?_
  · exact At.into [] [_, _] rfl ⟨rfl, rfl, rfl, rfl, trivial⟩ ⟨rfl, (fun _ => rfl), rfl, (fun _ => rfl), trivial⟩ rfl
  ·
   rintro ⟨⟨n0, v1, v2⟩, H1⟩
   show G _ _ [(3, .a (.c (.v (.int .i64 v1)))), (7, SV.raw (Value.slice ao0_0 a0.parts.length cap0_0)), (8, .a (.c (.v (.int .i64 (a0.parts.length : Int))))), (9, .a (.c (.v (.int .i64 v2))))] [(0, some (rd S W0)), (1, some (hp 1 tq A Q))] _ _
   cases n0 with
   | zero => exact absurd H1 (by simp [fuse_Views_Len.l0])
   | succ n0 =>
    have HL0 := H1
    rw [fuse_Views_Len.l0] at H1
    refine G.seq <| G.rg <| K.bin (V := .bool (decide (v2 < (a0.parts.length : Int)))) g0 rfl rfl (fun _ => rfl) rfl <| K.nil <| At.ns <| G.cond rfl (fun h1 => ?_) (fun h1 => ?_)
    ·
     replace H1 := bif_t H1 h1
     refine G.skip <| At.ns <| G.block <| G.seq ?_
     obtain ⟨x2, hx2, H1⟩ := bnd H1
     refine G.rg <| K.idxL (rV 0 S W0 (Value.slice ao0_0 a0.parts.length cap0_0) b0_0 o0_0 (eTPart A) 4 a0.parts) ((v2).toNat) (hI0_0.is 0) (atL_get hx2) (atL_nn hx2) g0 rfl rfl rfl Tryz.underlying79 el79.size_run rfl <| K.loadSL Y (rV 0 S W0 (Value.slice ao0_0 a0.parts.length cap0_0) b0_0 o0_0 (eTPart A) 4 a0.parts) ((v2).toNat) 0 [_, _, _, _] [_, _, _, _] (hI0_0.is 0) (atL_get hx2) g0 rfl rfl t140 rfl rfl rfl rfl rfl <| K.alloc Y 101 _ g0 t140 rfl rfl rfl rfl rfl <| K.store Y _ g0 rfl rfl rfl t140 rfl rfl rfl rfl rfl <| K.nil <| At.next ?_
     obtain ⟨x3, hx3, H1⟩ := bnd H1
     exact G.rg <| K.mv rfl rfl <| K.loadS Y _ g0 rfl rfl t140 rfl rfl rfl <| K.cR (cf 83 rfl) (fuse_part_size_con hL_9 hx3 1) g0 rfl rfl rfl rfl <| K.bin (V := .int .i64 (w64 (v1 + x3))) g0 rfl rfl (fun _ => rfl) rfl <| K.as rfl rfl <| K.nil <| At.block_normal <| At.next <| G.rg <| K.bin (V := .int .i64 (w64 (v2 + 1))) g0 rfl rfl (fun _ => rfl) rfl <| K.mv rfl rfl <| K.nil <| At.ag ⟨(n0, ((w64 (v1 + x3)), (w64 (v2 + 1)))), H1⟩ [] [_, _] (Nat.lt_succ_self _) rfl ⟨rfl, rfl, rfl, rfl, trivial⟩ ⟨rfl, (fun _ => rfl), rfl, (fun _ => rfl), trivial⟩ rfl
    ·
     replace H1 := bif_f H1 h1
     exact G.exit <| At.over_exit <| At.over_exit <| At.block_hit <| At.jd ⟨v1, oi H1⟩ [] [_, _] rfl ⟨rfl, trivial⟩ ⟨rfl, (fun _ => rfl), rfl, (fun _ => rfl), trivial⟩ rfl
 ·
  rintro ⟨_, rfl⟩
  show G _ _ [(3, .a (.c (.v (.int .i64 x1))))] [(0, some (rd S W0)), (1, some (hp 1 tq A Q))] _ _
  exact G.seq <| G.rg <| K.mv rfl rfl <| K.as rfl rfl <| K.nil <| At.next <| G.ret <| At.dr Y [2] rfl rfl (by cases H0; rfl) (by cases H0; rfl) rfl rfl rfl
theorem fuse_Views_Len_con {k : Nat} {S : Foot} {W0 : World} {A : List (Nat → Nat)} {s0_0 : Value} {Q : List TQueue} {a0 : TViews} {r : Int}  (hL_9 : A.length = Q.length) (hL0_0 : LArg S W0 s0_0 (eTPart A) 4 a0.parts) (H0 : fuse_Views_Len.f k Q a0 = some r) (m1 : Nat) : fuse_Views_Len_st S W0 A s0_0 Q r m1 :=
 SCon.ren (rn [(1, m1)]) (fuse_Views_Len_con0 (k := k)  hL_9 hL0_0 H0) ⟨(fun _ => rfl), (fun _ => rfl), trivial⟩ ⟨(fun _ => rfl), (fun _ => rfl), trivial⟩ (by simp) (by simp)
abbrev fuse_Views_rank_st (S : Foot) (W0 : World) (A : List (Nat → Nat)) (s0_0 : Value) (Q : List TQueue) (a1 : TItem) (r : Int) (m1 : Nat) : Prop := SCon Tryz.prog 139 [.a (.agg [.v s0_0]), .a (.agg ((eTItem a1).map .v))] [(0, rd S W0), (m1, hp m1 tq A Q)] (.a (.c (.v (.int .i64 r)))) [(0, rd S W0), (m1, hp m1 tq A Q)] []
theorem fuse_Views_rank_con0 {k : Nat} {S : Foot} {W0 : World} {A : List (Nat → Nat)} {s0_0 : Value} {Q : List TQueue} {a0 : TViews} {a1 : TItem} {r : Int}  (hL_9 : A.length = Q.length) (hL0_0 : LArg S W0 s0_0 (eTPart A) 4 a0.parts) (H0 : fuse_Views_rank.f k Q a0 a1 = some r) : fuse_Views_rank_st S W0 A s0_0 Q a1 r 1 := by
 rw [fuse_Views_rank.f] at H0
 obtain ⟨b0_0, o0_0, hI0_0⟩ := hL0_0
 obtain ⟨ao0_0, cap0_0, hE0_0, _⟩ := hI0_0.sl
 subst hE0_0
 refine spec_of [(0, _), (1, _)] [(0, _), (1, _)] 22 Tryz.func139 rfl Tryz.ntmps139 rfl rfl rfl rfl (fun β W F => ?_)
 refine G.seq <| G.rg <| K.box Y 100 _ g0 rfl rfl rfl rfl rfl rfl <| K.box Y 101 _ g0 rfl rfl rfl rfl rfl rfl <| K.as rfl rfl <| K.nil <| At.nr <| K.as rfl rfl <| K.nil <| At.next ?_
 obtain ⟨x1, H1, H0⟩ := bnd H0
 refine G.sJ (σ := { v : Int // x1 = v }) (fun q => [(5, .a (.c (.v (.int .i64 q.1))))]) (fun q => [(0, rd S W0), (1, hp 1 tq A Q)]) ?_ ?_
 ·
  refine G.seq <| G.rg <| K.fieldAddr Y g0 rfl t81 rfl rfl <| K.load1 Y g0 rfl rfl t79 rfl rfl <| K.lenL (rV 0 S W0 (Value.slice ao0_0 a0.parts.length cap0_0) b0_0 o0_0 (eTPart A) 4 a0.parts) (hI0_0.is 0) g0 rfl rfl Tryz.underlying79 rfl <| K.mv rfl rfl <| K.nil <| At.next <| G.block <| G.lp (σ := { q : Nat × (Int × Int) // fuse_Views_rank.l0 k Q a0 a1 q.1 q.2 = some x1 }) (fun q => [(3, .a (.c (.p 104 0))), (5, .a (.c (.v (.int .i64 q.1.2.1)))), (9, SV.raw (Value.slice ao0_0 a0.parts.length cap0_0)), (10, .a (.c (.v (.int .i64 (a0.parts.length : Int))))), (11, .a (.c (.v (.int .i64 q.1.2.2))))]) (fun q => [(0, rd S W0), (104, blk 104 [.v (.int .i64 a1.key), .v (.int .i64 a1.id)] 30), (1, hp 1 tq A Q)]) (fun q => q.1.1) ⟨(k, (0, 0)), H1⟩ ?_ ?_
  · exact At.into [(104, 101)] [_, _, _] rfl ⟨rfl, rfl, rfl, rfl, rfl, trivial⟩ ⟨rfl, (fun _ => rfl), rfl, (blk_ren rfl rfl), rfl, (fun _ => rfl), trivial⟩ rfl
  ·
   rintro ⟨⟨n0, v1, v2⟩, H1⟩
   show G _ _ [(3, .a (.c (.p 104 0))), (5, .a (.c (.v (.int .i64 v1)))), (9, SV.raw (Value.slice ao0_0 a0.parts.length cap0_0)), (10, .a (.c (.v (.int .i64 (a0.parts.length : Int))))), (11, .a (.c (.v (.int .i64 v2))))] [(0, some (rd S W0)), (104, some (blk 104 [.v (.int .i64 a1.key), .v (.int .i64 a1.id)] 30)), (1, some (hp 1 tq A Q))] _ _
   cases n0 with
   | zero => exact absurd H1 (by simp [fuse_Views_rank.l0])
   | succ n0 =>
    have HL0 := H1
    rw [fuse_Views_rank.l0] at H1
    refine G.seq <| G.rg <| K.bin (V := .bool (decide (v2 < (a0.parts.length : Int)))) g0 rfl rfl (fun _ => rfl) rfl <| K.nil <| At.ns <| G.cond rfl (fun h1 => ?_) (fun h1 => ?_)
    ·
     replace H1 := bif_t H1 h1
     refine G.skip <| At.ns <| G.block <| G.seq ?_
     obtain ⟨x2, hx2, H1⟩ := bnd H1
     refine G.rg <| K.idxL (rV 0 S W0 (Value.slice ao0_0 a0.parts.length cap0_0) b0_0 o0_0 (eTPart A) 4 a0.parts) ((v2).toNat) (hI0_0.is 0) (atL_get hx2) (atL_nn hx2) g0 rfl rfl rfl Tryz.underlying79 el79.size_run rfl <| K.loadSL Y (rV 0 S W0 (Value.slice ao0_0 a0.parts.length cap0_0) b0_0 o0_0 (eTPart A) 4 a0.parts) ((v2).toNat) 0 [_, _, _, _] [_, _, _, _] (hI0_0.is 0) (atL_get hx2) g0 rfl rfl t140 rfl rfl rfl rfl rfl <| K.alloc Y 105 _ g0 t140 rfl rfl rfl rfl rfl <| K.store Y _ g0 rfl rfl rfl t140 rfl rfl rfl rfl rfl <| K.nil <| At.next ?_
     obtain ⟨x3, hx3, H1⟩ := bnd H1
     exact G.rg <| K.mv rfl rfl <| K.loadS Y _ g0 rfl rfl t140 rfl rfl rfl <| K.loadS Y _ g0 rfl rfl t30 rfl rfl rfl <| K.cR (cf 152 rfl) (fuse_part_rank_con hL_9 hx3 1) g0 rfl rfl rfl rfl <| K.bin (V := .int .i64 (w64 (v1 + x3))) g0 rfl rfl (fun _ => rfl) rfl <| K.as rfl rfl <| K.nil <| At.block_normal <| At.next <| G.rg <| K.bin (V := .int .i64 (w64 (v2 + 1))) g0 rfl rfl (fun _ => rfl) rfl <| K.mv rfl rfl <| K.nil <| At.ag ⟨(n0, ((w64 (v1 + x3)), (w64 (v2 + 1)))), H1⟩ [] [_, _, _] (Nat.lt_succ_self _) rfl ⟨rfl, rfl, rfl, rfl, rfl, trivial⟩ ⟨rfl, (fun _ => rfl), rfl, (blk_ren rfl rfl), rfl, (fun _ => rfl), trivial⟩ rfl
    ·
     replace H1 := bif_f H1 h1
     exact G.exit <| At.over_exit <| At.over_exit <| At.block_hit <| At.jd ⟨v1, oi H1⟩ [] [_, _] rfl ⟨rfl, trivial⟩ ⟨rfl, (fun _ => rfl), rfl, (fun _ => rfl), trivial⟩ rfl
 ·
  rintro ⟨_, rfl⟩
  show G _ _ [(5, .a (.c (.v (.int .i64 x1))))] [(0, some (rd S W0)), (1, some (hp 1 tq A Q))] _ _
  exact G.seq <| G.rg <| K.mv rfl rfl <| K.as rfl rfl <| K.nil <| At.next <| G.ret <| At.dr Y [4] rfl rfl (by cases H0; rfl) (by cases H0; rfl) rfl rfl rfl
theorem fuse_Views_rank_con {k : Nat} {S : Foot} {W0 : World} {A : List (Nat → Nat)} {s0_0 : Value} {Q : List TQueue} {a0 : TViews} {a1 : TItem} {r : Int}  (hL_9 : A.length = Q.length) (hL0_0 : LArg S W0 s0_0 (eTPart A) 4 a0.parts) (H0 : fuse_Views_rank.f k Q a0 a1 = some r) (m1 : Nat) : fuse_Views_rank_st S W0 A s0_0 Q a1 r m1 :=
 SCon.ren (rn [(1, m1)]) (fuse_Views_rank_con0 (k := k)  hL_9 hL0_0 H0) ⟨(fun _ => rfl), (fun _ => rfl), trivial⟩ ⟨(fun _ => rfl), (fun _ => rfl), trivial⟩ (by simp) (by simp)
abbrev Tree_AtS_st (p1 : Pool (TNode TSlot TSize)) (rt0 : TRef) (a1 : Int) (r : TSlot × Bool) (m0 : Nat) (m1 : Nat) : Prop := SCon Tryz.prog 138 [SV.p m0 0, .a (.c (.v (.int .i64 a1)))] [(m0, blk m0 [.p m1 0, .i rt0.index, .i rt0.gen] 131), (m1, plS m1 p1)] (.tup [.agg ((eTSlot r.1).map .v), .c (.v (.bool r.2))]) [(m0, blk m0 [.p m1 0, .i rt0.index, .i rt0.gen] 131), (m1, plS m1 p1)] []
theorem Tree_AtS_con0 {k : Nat}  {p1 : Pool (TNode TSlot TSize)} {rt0 : TRef} {a1 : Int} {r : TSlot × Bool}  (H0 : Tree_At.f opsS k p1 rt0 a1 = some r) : Tree_AtS_st p1 rt0 a1 r 0 1 := by
 rw [Tree_At.f] at H0
 refine spec_of [(0, _), (1, _)] [(0, _), (1, _)] 48 Tryz.func138 rfl Tryz.ntmps138 rfl rfl rfl rfl (fun β W F => ?_)
 refine G.seq <| G.rg <| K.alloc Y 100 _ g0 t66 rfl rfl rfl rfl rfl <| K.as rfl rfl <| K.nil <| At.nr <| K.alloc Y 101 _ g0 t66 rfl rfl rfl rfl rfl <| K.nil <| At.ns <| G.seq <| G.rg <| K.mv rfl rfl <| K.bin (V := .bool (decide (a1 < 0))) g0 rfl rfl (fun _ => rfl) rfl <| K.nil <| At.next <| G.cond rfl (fun h1 => ?_) (fun h1 => ?_)
 ·
  replace H0 := bif_t H0 h1
  refine G.seq <| G.rg <| K.loadS Y _ g0 rfl rfl t66 rfl rfl rfl <| K.store Y _ g0 rfl rfl rfl t66 rfl rfl rfl rfl rfl <| K.as rfl rfl <| K.nil <| At.next <| G.ret <| At.over_ret <| At.done Y [(.cell 4 66, .agg [_, _, _, _]), (.tmp 5, .c _)] rfl ⟨.st rfl rfl t66 rfl rfl, .tmp rfl, trivial⟩ (to' := [(0, _), (1, _)]) ⟨rfl, rfl, trivial⟩ ?_ ?_ rfl rfl rfl (.inl rfl)
  · cases H0; rfl
  · cases H0; rfl
 ·
  replace H0 := bif_f H0 h1
  refine G.skip <| At.next ?_
  obtain ⟨x1, H1, H0⟩ := bnd H0
  refine G.sJ (σ := { v : Unit // x1 = Sum.inr v }) (fun q => [(4, .a (.c (.p 102 0))), (6, .a (.c (.p 103 0)))]) (fun q => [(102, blk 102 [.v (.int .i64 0), .v (.int .i64 0), .v (.bool false), .v (.int .i64 0)] 66), (103, blk 103 [.v (.int .i64 0), .v (.int .i64 0), .v (.bool false), .v (.int .i64 0)] 66), (1, plS 1 p1), (0, blk 0 [.p 1 0, .v (.int .i64 rt0.index), .v (.int .i64 rt0.gen)] 131)]) ?_ ?_
  ·
   refine G.seq <| G.rg <| K.mv rfl rfl <| K.nilCheck g0 rfl rfl <| K.fieldAddr Y g0 rfl t131 rfl rfl <| K.loadS Y _ g0 rfl rfl t108 rfl rfl rfl <| K.alloc Y 104 _ g0 t108 rfl rfl rfl rfl rfl <| K.store Y _ g0 rfl rfl rfl t108 rfl rfl rfl rfl rfl <| K.nil <| At.next <| G.block <| G.lp (σ := { q : Nat × (Int × TRef) // Tree_At.l0 opsS k p1 q.1 q.2 = some x1 }) (fun q => [(0, .a (.c (.p 0 0))), (1, .a (.c (.v (.int .i64 q.1.2.1)))), (4, .a (.c (.p 111 0))), (6, .a (.c (.p 112 0))), (7, .a (.c (.p 113 0)))]) (fun q => [(1, plS 1 p1), (0, blk 0 [.p 1 0, .v (.int .i64 rt0.index), .v (.int .i64 rt0.gen)] 131), (111, blk 111 [.v (.int .i64 0), .v (.int .i64 0), .v (.bool false), .v (.int .i64 0)] 66), (112, blk 112 [.v (.int .i64 0), .v (.int .i64 0), .v (.bool false), .v (.int .i64 0)] 66), (113, blk 113 [.v (.int .i64 q.1.2.2.index), .v (.int .i64 q.1.2.2.gen)] 108)]) (fun q => q.1.1) ⟨(k, (a1, rt0)), H1⟩ ?_ ?_
   · exact At.into [(111, 100), (112, 101), (113, 104)] [_, _, _, _, _] rfl ⟨rfl, rfl, rfl, rfl, rfl, trivial⟩ ⟨rfl, (pl_ren rfl), rfl, (blk_ren rfl rfl), rfl, (blk_ren rfl rfl), rfl, (blk_ren rfl rfl), rfl, (blk_ren rfl rfl), trivial⟩ rfl
   ·
    rintro ⟨⟨n0, v1, v2⟩, H1⟩
    show G _ _ [(0, .a (.c (.p 0 0))), (1, .a (.c (.v (.int .i64 v1)))), (4, .a (.c (.p 111 0))), (6, .a (.c (.p 112 0))), (7, .a (.c (.p 113 0)))] [(1, some (plS 1 p1)), (0, some (blk 0 [.p 1 0, .v (.int .i64 rt0.index), .v (.int .i64 rt0.gen)] 131)), (111, some (blk 111 [.v (.int .i64 0), .v (.int .i64 0), .v (.bool false), .v (.int .i64 0)] 66)), (112, some (blk 112 [.v (.int .i64 0), .v (.int .i64 0), .v (.bool false), .v (.int .i64 0)] 66)), (113, some (blk 113 [.v (.int .i64 v2.index), .v (.int .i64 v2.gen)] 108))] _ _
    cases n0 with
    | zero => exact absurd H1 (by simp [Tree_At.l0])
    | succ n0 =>
     have HL0 := H1
     rw [Tree_At.l0] at H1
     refine G.seq <| G.seq <| G.rg <| K.fieldAddr Y g0 rfl t108 rfl rfl <| K.load1 Y g0 rfl rfl t3 rfl rfl <| K.bin (V := .bool (v2.gen != 0)) g0 rfl rfl (fun _ => rfl) rfl <| K.nil <| At.next <| G.cond rfl (fun h2 => ?_) (fun h2 => ?_)
     ·
      replace H1 := bif_t H1 h2
      refine G.skip <| At.ns <| G.block <| G.seq ?_
      obtain ⟨x2, hx2, H1⟩ := bnd H1
      refine G.rg <| K.mv rfl rfl <| K.loadS Y _ g0 rfl rfl t108 rfl rfl rfl <| K.cR (cf 79 rfl) (Tree_getS_con hx2 0 1) g0 rfl rfl rfl rfl <| K.alloc Y 114 _ g0 t127 rfl rfl rfl rfl rfl <| K.store Y _ g0 rfl rfl rfl t127 rfl rfl rfl rfl rfl <| K.nil <| At.ns ?_
      obtain ⟨x3, hx3, H1⟩ := bnd H1
      refine G.rg <| K.mv rfl rfl <| K.fieldAddr Y g0 rfl t127 rfl rfl <| K.loadS Y _ g0 rfl rfl t108 rfl rfl rfl <| K.cR (cf 79 rfl) (Tree_getS_con hx3 0 1) g0 rfl rfl rfl rfl <| K.field1 Y g0 rfl t127 rfl t3 rfl rfl <| K.as rfl rfl <| K.nil <| At.next <| G.block <| G.seq <| G.rg <| K.mv rfl rfl <| K.mv rfl rfl <| K.bin (V := .bool (v1 == x3.size)) g0 rfl rfl (fun _ => rfl) rfl <| K.as rfl rfl <| K.nil <| At.next <| G.cond rfl (fun h3 => ?_) (fun h3 => ?_)
      ·
       replace H1 := bif_t H1 h3
       refine G.seq <| G.rg <| K.fieldAddr Y g0 rfl t127 rfl rfl <| K.loadS Y _ g0 rfl rfl t66 rfl rfl rfl <| K.store Y _ g0 rfl rfl rfl t66 rfl rfl rfl rfl rfl <| K.as rfl rfl <| K.nil <| At.next <| G.ret <| At.block_ret <| At.block_ret <| At.over_ret <| At.over_ret <| At.block_ret <| At.over_ret ?_
       cases H1
       replace H0 := sum_l H0
       refine At.done Y [(.cell 4 66, .agg [_, _, _, _]), (.tmp 5, .c _)] rfl ⟨.st rfl rfl t66 rfl rfl, .tmp rfl, trivial⟩ (to' := [(0, _), (1, _)]) ⟨rfl, rfl, trivial⟩ ?_ ?_ rfl rfl rfl (.inl rfl)
       · cases H0; rfl
       · cases H0; rfl
      ·
       replace H1 := bif_f H1 h3
       refine G.seq <| G.rg <| K.mv rfl rfl <| K.mv rfl rfl <| K.bin (V := .bool (decide (v1 < x3.size))) g0 rfl rfl (fun _ => rfl) rfl <| K.as rfl rfl <| K.nil <| At.next <| G.cond rfl (fun h4 => ?_) (fun h4 => ?_)
       ·
        replace H1 := bif_t H1 h4
        exact G.rg <| K.fieldAddr Y g0 rfl t127 rfl rfl <| K.loadS Y _ g0 rfl rfl t108 rfl rfl rfl <| K.store Y _ g0 rfl rfl rfl t108 rfl rfl rfl rfl rfl <| K.nil <| At.block_normal <| At.block_normal <| At.nr <| K.loadS Y _ g0 rfl rfl t108 rfl rfl rfl <| K.nil <| At.next <| G.rg <| K.alloc Y 115 _ g0 t108 rfl rfl rfl rfl rfl <| K.store Y _ g0 rfl rfl rfl t108 rfl rfl rfl rfl rfl <| K.nil <| At.ag ⟨(n0, (v1, x2.left)), H1⟩ [(113, 115)] [_, _, _, _, _] (Nat.lt_succ_self _) rfl ⟨rfl, rfl, rfl, rfl, rfl, trivial⟩ ⟨rfl, (pl_ren rfl), rfl, (blk_ren rfl rfl), rfl, (blk_ren rfl rfl), rfl, (blk_ren rfl rfl), rfl, (blk_ren rfl rfl), trivial⟩ rfl
       ·
        replace H1 := bif_f H1 h4
        exact G.seq <| G.rg <| K.mv rfl rfl <| K.mv rfl rfl <| K.bin (V := .int .i64 (w64 (x3.size + 1))) g0 rfl rfl (fun _ => rfl) rfl <| K.bin (V := .int .i64 (w64 (v1 - (w64 (x3.size + 1))))) g0 rfl rfl (fun _ => rfl) rfl <| K.as rfl rfl <| K.nil <| At.next <| G.rg <| K.fieldAddr Y g0 rfl t127 rfl rfl <| K.loadS Y _ g0 rfl rfl t108 rfl rfl rfl <| K.store Y _ g0 rfl rfl rfl t108 rfl rfl rfl rfl rfl <| K.nil <| At.block_normal <| At.block_normal <| At.nr <| K.loadS Y _ g0 rfl rfl t108 rfl rfl rfl <| K.nil <| At.next <| G.rg <| K.alloc Y 116 _ g0 t108 rfl rfl rfl rfl rfl <| K.store Y _ g0 rfl rfl rfl t108 rfl rfl rfl rfl rfl <| K.nil <| At.ag ⟨(n0, ((w64 (v1 - (w64 (x3.size + 1)))), x2.right)), H1⟩ [(113, 116)] [_, _, _, _, _] (Nat.lt_succ_self _) rfl ⟨rfl, rfl, rfl, rfl, rfl, trivial⟩ ⟨rfl, (pl_ren rfl), rfl, (blk_ren rfl rfl), rfl, (blk_ren rfl rfl), rfl, (blk_ren rfl rfl), rfl, (blk_ren rfl rfl), trivial⟩ rfl
     ·
      replace H1 := bif_f H1 h2
      exact G.exit <| At.over_exit <| At.over_exit <| At.block_hit <| At.jd ⟨(), oi H1⟩ [(102, 111), (103, 112)] [_, _, _, _] rfl ⟨rfl, rfl, trivial⟩ ⟨rfl, (blk_ren rfl rfl), rfl, (blk_ren rfl rfl), rfl, (pl_ren rfl), rfl, (blk_ren rfl rfl), trivial⟩ rfl
  ·
   rintro ⟨w1, rfl⟩
   replace H0 := sum_r H0
   show G _ _ [(4, .a (.c (.p 102 0))), (6, .a (.c (.p 103 0)))] [(102, some (blk 102 [.v (.int .i64 0), .v (.int .i64 0), .v (.bool false), .v (.int .i64 0)] 66)), (103, some (blk 103 [.v (.int .i64 0), .v (.int .i64 0), .v (.bool false), .v (.int .i64 0)] 66)), (1, some (plS 1 p1)), (0, some (blk 0 [.p 1 0, .v (.int .i64 rt0.index), .v (.int .i64 rt0.gen)] 131))] _ _
   refine G.seq <| G.rg <| K.loadS Y _ g0 rfl rfl t66 rfl rfl rfl <| K.store Y _ g0 rfl rfl rfl t66 rfl rfl rfl rfl rfl <| K.as rfl rfl <| K.nil <| At.next <| G.ret <| At.done Y [(.cell 4 66, .agg [_, _, _, _]), (.tmp 5, .c _)] rfl ⟨.st rfl rfl t66 rfl rfl, .tmp rfl, trivial⟩ (to' := [(0, _), (1, _)]) ⟨rfl, rfl, trivial⟩ ?_ ?_ rfl rfl rfl (.inl rfl)
   · cases H0; rfl
   · cases H0; rfl
theorem Tree_AtS_con {k : Nat}  {p1 : Pool (TNode TSlot TSize)} {rt0 : TRef} {a1 : Int} {r : TSlot × Bool}  (H0 : Tree_At.f opsS k p1 rt0 a1 = some r) (m0 m1 : Nat) : Tree_AtS_st p1 rt0 a1 r m0 m1 :=
 SCon.ren (rn [(0, m0), (1, m1)]) (Tree_AtS_con0 (k := k)   H0) ⟨(blk_ren rfl rfl), (pl_ren rfl), trivial⟩ ⟨(blk_ren rfl rfl), (pl_ren rfl), trivial⟩ (by simp) (by simp)
abbrev fuse_Views_within_st (S : Foot) (W0 : World) (A : List (Nat → Nat)) (s0_0 : Value) (Q : List TQueue) (a1 : TPart) (a2 : Int) (r : TItem × Bool) (m1 : Nat) : Prop := SCon Tryz.prog 111 [.a (.agg [.v s0_0]), .a (.agg (((eTPart A) a1).map .v)), .a (.c (.v (.int .i64 a2)))] [(0, rd S W0), (m1, hp m1 tq A Q)] (.tup [.agg ((eTItem r.1).map .v), .c (.v (.bool r.2))]) [(0, rd S W0), (m1, hp m1 tq A Q)] []
theorem fuse_Views_within_con0 {k : Nat} {S : Foot} {W0 : World} {A : List (Nat → Nat)} {s0_0 : Value} {Q : List TQueue} {a0 : TViews} {a1 : TPart} {a2 : Int} {r : TItem × Bool}  (hL_9 : A.length = Q.length) (hL0_0 : LArg S W0 s0_0 (eTPart A) 4 a0.parts) (H0 : fuse_Views_within.f k Q a0 a1 a2 = some r) : fuse_Views_within_st S W0 A s0_0 Q a1 a2 r 1 := by
 rw [fuse_Views_within.f] at H0
 obtain ⟨b0_0, o0_0, hI0_0⟩ := hL0_0
 obtain ⟨ao0_0, cap0_0, hE0_0, _⟩ := hI0_0.sl
 subst hE0_0
 refine spec_of [(0, _), (1, _), (2, _)] [(0, _), (1, _)] 51 Tryz.func111 rfl Tryz.ntmps111 rfl rfl rfl rfl (fun β W F => ?_)
 refine G.seq <| G.rg <| K.box Y 100 _ g0 rfl rfl rfl rfl rfl rfl <| K.box Y 101 _ g0 rfl rfl rfl rfl rfl rfl <| K.alloc Y 102 _ g0 t30 rfl rfl rfl rfl rfl <| K.as rfl rfl <| K.nil <| At.ns ?_
 obtain ⟨x1, hx1, H0⟩ := bnd H0
 obtain ⟨x2, hx2, H0⟩ := bnd H0
 obtain ⟨x3, hx3, H0⟩ := bnd H0
 refine G.rd mixed <| K.loadS Y _ g0 rfl rfl t140 rfl rfl rfl <| K.cR (cf 110 rfl) (fuse_part_ahead_con hL_9 hx1 1) g0 rfl rfl rfl rfl <| K.fieldAddr Y g0 rfl t140 rfl rfl <| K.load1 Y g0 rfl rfl t63 rfl rfl <| K.cR (cf 31 rfl) (onTree 1 hL_9 hx2 (Tree_LenS_con hx3 4 5) (Tree_LenS_con hx3 6 7) rfl rfl rfl rfl) g0 rfl rfl rfl rfl <| K.as rfl rfl <| K.as rfl rfl <| K.nil <| And.intro (by kernel_rfl) <| At.next ?_
 obtain ⟨x4, H1, H0⟩ := bnd H0
 refine G.sJ (σ := { v : Unit // x4 = Sum.inr v }) (fun q => [(6, .a (.c (.p 103 0)))]) (fun q => [(0, rd S W0), (103, blk 103 [.v (.int .i64 0), .v (.int .i64 0)] 30), (1, hp 1 tq A Q)]) ?_ ?_
 ·
  refine G.block <| G.lp (σ := { q : Nat × (Int × Int) // fuse_Views_within.l0 k Q a0 a1 a2 q.1 q.2 = some x4 }) (fun q => [(2, .a (.c (.v (.int .i64 a2)))), (3, .a (.c (.p 110 0))), (4, .a (.c (.p 111 0))), (6, .a (.c (.p 112 0))), (8, .a (.c (.v (.int .i64 q.1.2.1)))), (9, .a (.c (.v (.int .i64 q.1.2.2))))]) (fun q => [(0, rd S W0), (110, blk 110 [.v (Value.slice ao0_0 a0.parts.length cap0_0)] 81), (111, blk 111 [.v (ptr (hA A a1.shelf) 0), .v (.bool a1.floor.found), .v (.int .i64 a1.floor.item.key), .v (.int .i64 a1.floor.item.id)] 140), (112, blk 112 [.v (.int .i64 0), .v (.int .i64 0)] 30), (1, hp 1 tq A Q)]) (fun q => q.1.1) ⟨(k, (x1, x3)), H1⟩ ?_ ?_
  · exact At.into [(110, 100), (111, 101), (112, 102)] [_, _, _, _, _] rfl ⟨rfl, rfl, rfl, rfl, rfl, rfl, trivial⟩ ⟨rfl, (fun _ => rfl), rfl, (blk_ren rfl rfl), rfl, (blk_ren rfl rfl), rfl, (blk_ren rfl rfl), rfl, (fun _ => rfl), trivial⟩ rfl
  ·
   rintro ⟨⟨n0, v1, v2⟩, H1⟩
   show G _ _ [(2, .a (.c (.v (.int .i64 a2)))), (3, .a (.c (.p 110 0))), (4, .a (.c (.p 111 0))), (6, .a (.c (.p 112 0))), (8, .a (.c (.v (.int .i64 v1)))), (9, .a (.c (.v (.int .i64 v2))))] [(0, some (rd S W0)), (110, some (blk 110 [.v (Value.slice ao0_0 a0.parts.length cap0_0)] 81)), (111, some (blk 111 [.v (ptr (hA A a1.shelf) 0), .v (.bool a1.floor.found), .v (.int .i64 a1.floor.item.key), .v (.int .i64 a1.floor.item.id)] 140)), (112, some (blk 112 [.v (.int .i64 0), .v (.int .i64 0)] 30)), (1, some (hp 1 tq A Q))] _ _
   cases n0 with
   | zero => exact absurd H1 (by simp [fuse_Views_within.l0])
   | succ n0 =>
    have HL0 := H1
    rw [fuse_Views_within.l0] at H1
    refine G.seq <| G.seq <| G.rg <| K.mv rfl rfl <| K.mv rfl rfl <| K.bin (V := .bool (decide (v1 < v2))) g0 rfl rfl (fun _ => rfl) rfl <| K.nil <| At.next <| G.cond rfl (fun h1 => ?_) (fun h1 => ?_)
    ·
     replace H1 := bif_t H1 h1
     refine G.skip <| At.next <| G.block <| G.seq <| G.rg <| K.mv rfl rfl <| K.mv rfl rfl <| K.bin (V := .int .i64 (w64 (v1 + v2))) g0 rfl rfl (fun _ => rfl) rfl <| K.bin (V := .int .i64 (w64 ((w64 (v1 + v2)).tdiv 2))) g0 rfl rfl (quo_run (by decide)) rfl <| K.as rfl rfl <| K.nil <| At.ns ?_
     obtain ⟨x5, hx5, H1⟩ := bnd H1
     obtain ⟨x6, hx6, H1⟩ := bnd H1
     refine G.rg <| K.fieldAddr Y g0 rfl t140 rfl rfl <| K.load1 Y g0 rfl rfl t63 rfl rfl <| K.mv rfl rfl <| K.cR (cf 138 rfl) (onTree 1 hL_9 hx5 (Tree_AtS_con hx6 4 5) (Tree_AtS_con hx6 6 7) rfl rfl rfl rfl) g0 rfl rfl rfl rfl <| K.mv rfl rfl <| K.extract g0 rfl rfl rfl <| K.extract g0 rfl rfl rfl <| K.alloc Y 113 _ g0 t66 rfl rfl rfl rfl rfl <| K.store Y _ g0 rfl rfl rfl t66 rfl rfl rfl rfl rfl <| K.as rfl rfl <| K.nil <| At.ns ?_
     obtain ⟨x7, hx7, H1⟩ := bnd H1
     refine G.rg <| K.loadS Y _ g0 rfl rfl t81 rfl rfl rfl <| K.fieldAddr Y g0 rfl t66 rfl rfl <| K.loadS Y _ g0 rfl rfl t30 rfl rfl rfl <| K.cV (cf 139 rfl) [0] (fun β w S2 h => fuse_Views_rank_con (a0 := a0) hL_9 ((hI0_0.isC 0).larg ⟨_, List.mem_cons_self⟩ h) hx7 1) g0 (fun _ => rfl) rfl rfl rfl <| K.as rfl rfl <| K.nil <| At.next <| G.block <| G.seq <| G.rg <| K.mv rfl rfl <| K.mv rfl rfl <| K.bin (V := .bool (x7 == a2)) g0 rfl rfl (fun _ => rfl) rfl <| K.as rfl rfl <| K.nil <| At.next <| G.cond rfl (fun h2 => ?_) (fun h2 => ?_)
     ·
      replace H1 := bif_t H1 h2
      refine G.seq <| G.rg <| K.fieldAddr Y g0 rfl t66 rfl rfl <| K.loadS Y _ g0 rfl rfl t30 rfl rfl rfl <| K.store Y _ g0 rfl rfl rfl t30 rfl rfl rfl rfl rfl <| K.as rfl rfl <| K.nil <| At.next <| G.ret <| At.block_ret <| At.block_ret <| At.over_ret <| At.block_ret <| At.over_ret ?_
      cases H1
      replace H0 := sum_l H0
      refine At.done Y [(.cell 6 30, .agg [_, _]), (.tmp 7, .c _)] rfl ⟨.st rfl rfl t30 rfl rfl, .tmp rfl, trivial⟩ (to' := [(0, _), (1, _)]) ⟨rfl, rfl, trivial⟩ ?_ ?_ rfl rfl rfl (.inl rfl)
      · cases H0; rfl
      · cases H0; rfl
     ·
      replace H1 := bif_f H1 h2
      refine G.seq <| G.rg <| K.mv rfl rfl <| K.mv rfl rfl <| K.bin (V := .bool (decide (x7 < a2))) g0 rfl rfl (fun _ => rfl) rfl <| K.as rfl rfl <| K.nil <| At.next <| G.cond rfl (fun h3 => ?_) (fun h3 => ?_)
      ·
       replace H1 := bif_t H1 h3
       exact G.rg <| K.mv rfl rfl <| K.bin (V := .int .i64 (w64 ((w64 ((w64 (v1 + v2)).tdiv 2)) + 1))) g0 rfl rfl (fun _ => rfl) rfl <| K.as rfl rfl <| K.nil <| At.block_normal <| At.block_normal <| At.ag ⟨(n0, ((w64 ((w64 ((w64 (v1 + v2)).tdiv 2)) + 1)), v2)), H1⟩ [] [_, _, _, _, _] (Nat.lt_succ_self _) rfl ⟨rfl, rfl, rfl, rfl, rfl, rfl, trivial⟩ ⟨rfl, (fun _ => rfl), rfl, (blk_ren rfl rfl), rfl, (blk_ren rfl rfl), rfl, (blk_ren rfl rfl), rfl, (fun _ => rfl), trivial⟩ rfl
      ·
       replace H1 := bif_f H1 h3
       exact G.rg <| K.mv rfl rfl <| K.as rfl rfl <| K.nil <| At.block_normal <| At.block_normal <| At.ag ⟨(n0, (v1, (w64 ((w64 (v1 + v2)).tdiv 2)))), H1⟩ [] [_, _, _, _, _] (Nat.lt_succ_self _) rfl ⟨rfl, rfl, rfl, rfl, rfl, rfl, trivial⟩ ⟨rfl, (fun _ => rfl), rfl, (blk_ren rfl rfl), rfl, (blk_ren rfl rfl), rfl, (blk_ren rfl rfl), rfl, (fun _ => rfl), trivial⟩ rfl
    ·
     replace H1 := bif_f H1 h1
     exact G.exit <| At.over_exit <| At.over_exit <| At.block_hit <| At.jd ⟨(), oi H1⟩ [(103, 112)] [_, _, _] rfl ⟨rfl, trivial⟩ ⟨rfl, (fun _ => rfl), rfl, (blk_ren rfl rfl), rfl, (fun _ => rfl), trivial⟩ rfl
 ·
  rintro ⟨w4, rfl⟩
  replace H0 := sum_r H0
  show G _ _ [(6, .a (.c (.p 103 0)))] [(0, some (rd S W0)), (103, some (blk 103 [.v (.int .i64 0), .v (.int .i64 0)] 30)), (1, some (hp 1 tq A Q))] _ _
  refine G.seq <| G.rg <| K.build Y [] [_, _] [] g0 (AllE.spec trivial) rfl rfl t30 rfl rfl <| K.store Y _ g0 rfl rfl rfl t30 rfl rfl rfl rfl rfl <| K.as rfl rfl <| K.nil <| At.next <| G.ret <| At.done Y [(.cell 6 30, .agg [_, _]), (.tmp 7, .c _)] rfl ⟨.st rfl rfl t30 rfl rfl, .tmp rfl, trivial⟩ (to' := [(0, _), (1, _)]) ⟨rfl, rfl, trivial⟩ ?_ ?_ rfl rfl rfl (.inl rfl)
  · cases H0; rfl
  · cases H0; rfl
theorem fuse_Views_within_con {k : Nat} {S : Foot} {W0 : World} {A : List (Nat → Nat)} {s0_0 : Value} {Q : List TQueue} {a0 : TViews} {a1 : TPart} {a2 : Int} {r : TItem × Bool}  (hL_9 : A.length = Q.length) (hL0_0 : LArg S W0 s0_0 (eTPart A) 4 a0.parts) (H0 : fuse_Views_within.f k Q a0 a1 a2 = some r) (m1 : Nat) : fuse_Views_within_st S W0 A s0_0 Q a1 a2 r m1 :=
 SCon.ren (rn [(1, m1)]) (fuse_Views_within_con0 (k := k)  hL_9 hL0_0 H0) ⟨(fun _ => rfl), (fun _ => rfl), trivial⟩ ⟨(fun _ => rfl), (fun _ => rfl), trivial⟩ (by simp) (by simp)
abbrev fuse_Views_At_st (S : Foot) (W0 : World) (A : List (Nat → Nat)) (s0_0 : Value) (Q : List TQueue) (a1 : Int) (r : TItem × Bool) (m1 : Nat) : Prop := SCon Tryz.prog 85 [.a (.agg [.v s0_0]), .a (.c (.v (.int .i64 a1)))] [(0, rd S W0), (m1, hp m1 tq A Q)] (.tup [.agg ((eTItem r.1).map .v), .c (.v (.bool r.2))]) [(0, rd S W0), (m1, hp m1 tq A Q)] []
theorem fuse_Views_At_con0 {k : Nat} {S : Foot} {W0 : World} {A : List (Nat → Nat)} {s0_0 : Value} {Q : List TQueue} {a0 : TViews} {a1 : Int} {r : TItem × Bool}  (hL_9 : A.length = Q.length) (hL0_0 : LArg S W0 s0_0 (eTPart A) 4 a0.parts) (H0 : fuse_Views_At.f k Q a0 a1 = some r) : fuse_Views_At_st S W0 A s0_0 Q a1 r 1 := by
 rw [fuse_Views_At.f] at H0
 obtain ⟨b0_0, o0_0, hI0_0⟩ := hL0_0
 obtain ⟨ao0_0, cap0_0, hE0_0, _⟩ := hI0_0.sl
 subst hE0_0
 refine spec_of [(0, _), (1, _)] [(0, _), (1, _)] 28 Tryz.func85 rfl Tryz.ntmps85 rfl rfl rfl rfl (fun β W F => ?_)
 refine G.seq <| G.rg <| K.box Y 100 _ g0 rfl rfl rfl rfl rfl rfl <| K.alloc Y 101 _ g0 t30 rfl rfl rfl rfl rfl <| K.as rfl rfl <| K.nil <| At.next ?_
 obtain ⟨x1, H1, H0⟩ := bnd H0
 refine G.sJ (σ := { v : Unit // x1 = Sum.inr v }) (fun q => [(4, .a (.c (.p 102 0)))]) (fun q => [(0, rd S W0), (102, blk 102 [.v (.int .i64 0), .v (.int .i64 0)] 30), (1, hp 1 tq A Q)]) ?_ ?_
 ·
  refine G.seq <| G.rg <| K.fieldAddr Y g0 rfl t81 rfl rfl <| K.load1 Y g0 rfl rfl t79 rfl rfl <| K.lenL (rV 0 S W0 (Value.slice ao0_0 a0.parts.length cap0_0) b0_0 o0_0 (eTPart A) 4 a0.parts) (hI0_0.is 0) g0 rfl rfl Tryz.underlying79 rfl <| K.mv rfl rfl <| K.nil <| At.next <| G.block <| G.lp (σ := { q : Nat × (Int) // fuse_Views_At.l0 k Q a0 a1 q.1 q.2 = some x1 }) (fun q => [(1, .a (.c (.v (.int .i64 a1)))), (2, .a (.c (.p 107 0))), (4, .a (.c (.p 108 0))), (11, SV.raw (Value.slice ao0_0 a0.parts.length cap0_0)), (12, .a (.c (.v (.int .i64 (a0.parts.length : Int))))), (13, .a (.c (.v (.int .i64 q.1.2))))]) (fun q => [(0, rd S W0), (107, blk 107 [.v (Value.slice ao0_0 a0.parts.length cap0_0)] 81), (108, blk 108 [.v (.int .i64 0), .v (.int .i64 0)] 30), (1, hp 1 tq A Q)]) (fun q => q.1.1) ⟨(k, 0), H1⟩ ?_ ?_
  · exact At.into [(107, 100), (108, 101)] [_, _, _, _] rfl ⟨rfl, rfl, rfl, rfl, rfl, rfl, trivial⟩ ⟨rfl, (fun _ => rfl), rfl, (blk_ren rfl rfl), rfl, (blk_ren rfl rfl), rfl, (fun _ => rfl), trivial⟩ rfl
  ·
   rintro ⟨⟨n0, v1⟩, H1⟩
   show G _ _ [(1, .a (.c (.v (.int .i64 a1)))), (2, .a (.c (.p 107 0))), (4, .a (.c (.p 108 0))), (11, SV.raw (Value.slice ao0_0 a0.parts.length cap0_0)), (12, .a (.c (.v (.int .i64 (a0.parts.length : Int))))), (13, .a (.c (.v (.int .i64 v1))))] [(0, some (rd S W0)), (107, some (blk 107 [.v (Value.slice ao0_0 a0.parts.length cap0_0)] 81)), (108, some (blk 108 [.v (.int .i64 0), .v (.int .i64 0)] 30)), (1, some (hp 1 tq A Q))] _ _
   cases n0 with
   | zero => exact absurd H1 (by simp [fuse_Views_At.l0])
   | succ n0 =>
    have HL0 := H1
    rw [fuse_Views_At.l0] at H1
    refine G.seq <| G.rg <| K.bin (V := .bool (decide (v1 < (a0.parts.length : Int)))) g0 rfl rfl (fun _ => rfl) rfl <| K.nil <| At.ns <| G.cond rfl (fun h1 => ?_) (fun h1 => ?_)
    ·
     replace H1 := bif_t H1 h1
     refine G.skip <| At.ns <| G.block <| G.seq ?_
     obtain ⟨x2, hx2, H1⟩ := bnd H1
     refine G.rg <| K.idxL (rV 0 S W0 (Value.slice ao0_0 a0.parts.length cap0_0) b0_0 o0_0 (eTPart A) 4 a0.parts) ((v1).toNat) (hI0_0.is 0) (atL_get hx2) (atL_nn hx2) g0 rfl rfl rfl Tryz.underlying79 el79.size_run rfl <| K.loadSL Y (rV 0 S W0 (Value.slice ao0_0 a0.parts.length cap0_0) b0_0 o0_0 (eTPart A) 4 a0.parts) ((v1).toNat) 0 [_, _, _, _] [_, _, _, _] (hI0_0.is 0) (atL_get hx2) g0 rfl rfl t140 rfl rfl rfl rfl rfl <| K.alloc Y 109 _ g0 t140 rfl rfl rfl rfl rfl <| K.store Y _ g0 rfl rfl rfl t140 rfl rfl rfl rfl rfl <| K.nil <| At.ns ?_
     obtain ⟨x3, hx3, H1⟩ := bnd H1
     refine G.rg <| K.loadS Y _ g0 rfl rfl t81 rfl rfl rfl <| K.loadS Y _ g0 rfl rfl t140 rfl rfl rfl <| K.mv rfl rfl <| K.cV (cf 111 rfl) [0] (fun β w S2 h => fuse_Views_within_con (a0 := a0) hL_9 ((hI0_0.isC 0).larg ⟨_, List.mem_cons_self⟩ h) hx3 1) g0 (fun _ => rfl) rfl rfl rfl <| K.mv rfl rfl <| K.extract g0 rfl rfl rfl <| K.extract g0 rfl rfl rfl <| K.alloc Y 110 _ g0 t30 rfl rfl rfl rfl rfl <| K.store Y _ g0 rfl rfl rfl t30 rfl rfl rfl rfl rfl <| K.as rfl rfl <| K.nil <| At.nr <| K.mv rfl rfl <| K.nil <| At.next <| G.cond rfl (fun h2 => ?_) (fun h2 => ?_)
     ·
      replace H1 := bif_t H1 h2
      refine G.seq <| G.rg <| K.loadS Y _ g0 rfl rfl t30 rfl rfl rfl <| K.store Y _ g0 rfl rfl rfl t30 rfl rfl rfl rfl rfl <| K.as rfl rfl <| K.nil <| At.next <| G.ret <| At.block_ret <| At.over_ret <| At.over_ret <| At.block_ret <| At.over_ret ?_
      cases H1
      replace H0 := sum_l H0
      refine At.done Y [(.cell 4 30, .agg [_, _]), (.tmp 5, .c _)] rfl ⟨.st rfl rfl t30 rfl rfl, .tmp rfl, trivial⟩ (to' := [(0, _), (1, _)]) ⟨rfl, rfl, trivial⟩ ?_ ?_ rfl rfl rfl (.inl rfl)
      · cases H0; rfl
      · cases H0; rfl
     ·
      replace H1 := bif_f H1 h2
      exact G.skip <| At.block_normal <| At.next <| G.rg <| K.bin (V := .int .i64 (w64 (v1 + 1))) g0 rfl rfl (fun _ => rfl) rfl <| K.mv rfl rfl <| K.nil <| At.ag ⟨(n0, (w64 (v1 + 1))), H1⟩ [] [_, _, _, _] (Nat.lt_succ_self _) rfl ⟨rfl, rfl, rfl, rfl, rfl, rfl, trivial⟩ ⟨rfl, (fun _ => rfl), rfl, (blk_ren rfl rfl), rfl, (blk_ren rfl rfl), rfl, (fun _ => rfl), trivial⟩ rfl
    ·
     replace H1 := bif_f H1 h1
     exact G.exit <| At.over_exit <| At.over_exit <| At.block_hit <| At.jd ⟨(), oi H1⟩ [(102, 108)] [_, _, _] rfl ⟨rfl, trivial⟩ ⟨rfl, (fun _ => rfl), rfl, (blk_ren rfl rfl), rfl, (fun _ => rfl), trivial⟩ rfl
 ·
  rintro ⟨w1, rfl⟩
  replace H0 := sum_r H0
  show G _ _ [(4, .a (.c (.p 102 0)))] [(0, some (rd S W0)), (102, some (blk 102 [.v (.int .i64 0), .v (.int .i64 0)] 30)), (1, some (hp 1 tq A Q))] _ _
  refine G.seq <| G.rg <| K.build Y [] [_, _] [] g0 (AllE.spec trivial) rfl rfl t30 rfl rfl <| K.store Y _ g0 rfl rfl rfl t30 rfl rfl rfl rfl rfl <| K.as rfl rfl <| K.nil <| At.next <| G.ret <| At.done Y [(.cell 4 30, .agg [_, _]), (.tmp 5, .c _)] rfl ⟨.st rfl rfl t30 rfl rfl, .tmp rfl, trivial⟩ (to' := [(0, _), (1, _)]) ⟨rfl, rfl, trivial⟩ ?_ ?_ rfl rfl rfl (.inl rfl)
  · cases H0; rfl
  · cases H0; rfl
theorem fuse_Views_At_con {k : Nat} {S : Foot} {W0 : World} {A : List (Nat → Nat)} {s0_0 : Value} {Q : List TQueue} {a0 : TViews} {a1 : Int} {r : TItem × Bool}  (hL_9 : A.length = Q.length) (hL0_0 : LArg S W0 s0_0 (eTPart A) 4 a0.parts) (H0 : fuse_Views_At.f k Q a0 a1 = some r) (m1 : Nat) : fuse_Views_At_st S W0 A s0_0 Q a1 r m1 :=
 SCon.ren (rn [(1, m1)]) (fuse_Views_At_con0 (k := k)  hL_9 hL0_0 H0) ⟨(fun _ => rfl), (fun _ => rfl), trivial⟩ ⟨(fun _ => rfl), (fun _ => rfl), trivial⟩ (by simp) (by simp)
abbrev fuse_part_raised_st (A : List (Nat → Nat)) (Q : List TQueue) (a0 : TPart) (a1 : TItem) (r : TPart) (m0 : Nat) : Prop := SCon Tryz.prog 86 [.a (.agg (((eTPart A) a0).map .v)), .a (.agg ((eTItem a1).map .v))] [(m0, hp m0 tq A Q)] (.a (.agg (((eTPart A) r).map .v))) [(m0, hp m0 tq A Q)] []
theorem fuse_part_raised_con0 {k : Nat} {A : List (Nat → Nat)} {Q : List TQueue} {a0 : TPart} {a1 : TItem} {r : TPart}  (hL_9 : A.length = Q.length) (H0 : fuse_part_raised.f k Q a0 a1 = some r) : fuse_part_raised_st A Q a0 a1 r 0 := by
 rw [fuse_part_raised.f] at H0
 refine spec_of [(0, _), (1, _)] [(0, _)] 21 Tryz.func86 rfl Tryz.ntmps86 rfl rfl rfl rfl (fun β W F => ?_)
 refine G.seq <| G.rg <| K.box Y 100 _ g0 rfl rfl rfl rfl rfl rfl <| K.box Y 101 _ g0 rfl rfl rfl rfl rfl rfl <| K.alloc Y 102 _ g0 t140 rfl rfl rfl rfl rfl <| K.nil <| At.ns <| G.seq ?_
 rcases Bool.eq_false_or_eq_true (!a0.floor.found) with h1 | h1
 ·
  replace H0 := bif_t H0 h1
  refine G.rg <| K.fieldAddr Y g0 rfl t140 rfl rfl <| K.fieldAddr Y g0 rfl t44 rfl rfl <| K.load1 Y g0 rfl rfl t4 rfl rfl <| K.un (V := .bool (!a0.floor.found)) g0 rfl (fun _ => rfl) rfl <| K.mv rfl rfl <| K.sk rfl rfl h1 rfl <| K.sk rfl rfl h1 rfl <| K.sk rfl rfl h1 rfl <| K.sk rfl rfl h1 rfl <| K.sk rfl rfl h1 rfl <| K.sk rfl rfl h1 rfl <| K.pickT g0 rfl (h1) rfl rfl <| K.nil <| At.next <| G.cond rfl (fun h2 => ?_) (fun h2 => ?_)
  ·
   refine G.rg <| K.loadS Y _ g0 rfl rfl t30 rfl rfl rfl <| K.build Y [(0, _), (1, _)] [_, _, _] [(_, _), ((.tmp 17), _)] g0 (AllE.spec ⟨rfl, rfl, trivial⟩) rfl rfl t44 rfl rfl <| K.fieldAddr Y g0 rfl t140 rfl rfl <| K.store Y _ g0 rfl rfl rfl t44 rfl rfl rfl rfl rfl <| K.nil <| At.nr <| K.loadS Y _ g0 rfl rfl t140 rfl rfl rfl <| K.store Y _ g0 rfl rfl rfl t140 rfl rfl rfl rfl rfl <| K.nil <| At.next <| G.ret <| At.done Y [(.cell 4 140, .agg [_, _, _, _])] rfl ⟨.st rfl rfl t140 rfl rfl, trivial⟩ (to' := [(0, _)]) ⟨rfl, trivial⟩ ?_ ?_ rfl rfl rfl (.inl rfl)
   · cases H0; rfl
   · cases H0; rfl
  · cases h2
 ·
  replace H0 := bif_f H0 h1
  obtain ⟨x1, hx1, H0⟩ := bnd H0
  refine G.rg <| K.fieldAddr Y g0 rfl t140 rfl rfl <| K.fieldAddr Y g0 rfl t44 rfl rfl <| K.load1 Y g0 rfl rfl t4 rfl rfl <| K.un (V := .bool (!a0.floor.found)) g0 rfl (fun _ => rfl) rfl <| K.mv rfl rfl <| K.fieldAddr Y (g1 rfl rfl h1) rfl t140 rfl rfl <| K.fieldAddr Y (g1 rfl rfl h1) rfl t44 rfl rfl <| K.loadS Y _ (g1 rfl rfl h1) rfl rfl t30 rfl rfl rfl <| K.loadS Y _ (g1 rfl rfl h1) rfl rfl t30 rfl rfl rfl <| K.cR (cf 89 rfl) (item_Compare_con hx1) (g1 rfl rfl h1) rfl rfl rfl rfl <| K.bin (V := .bool (decide (x1 < 0))) (g1 rfl rfl h1) rfl rfl (fun _ => rfl) rfl <| K.pickF g0 rfl (h1) rfl rfl <| K.nil <| At.next <| G.cond rfl (fun h3 => ?_) (fun h3 => ?_)
  ·
   replace H0 := bif_t H0 h3
   refine G.rg <| K.loadS Y _ g0 rfl rfl t30 rfl rfl rfl <| K.build Y [(0, _), (1, _)] [_, _, _] [(_, _), ((.tmp 17), _)] g0 (AllE.spec ⟨rfl, rfl, trivial⟩) rfl rfl t44 rfl rfl <| K.fieldAddr Y g0 rfl t140 rfl rfl <| K.store Y _ g0 rfl rfl rfl t44 rfl rfl rfl rfl rfl <| K.nil <| At.nr <| K.loadS Y _ g0 rfl rfl t140 rfl rfl rfl <| K.store Y _ g0 rfl rfl rfl t140 rfl rfl rfl rfl rfl <| K.nil <| At.next <| G.ret <| At.done Y [(.cell 4 140, .agg [_, _, _, _])] rfl ⟨.st rfl rfl t140 rfl rfl, trivial⟩ (to' := [(0, _)]) ⟨rfl, trivial⟩ ?_ ?_ rfl rfl rfl (.inl rfl)
   · cases H0; rfl
   · cases H0; rfl
  ·
   replace H0 := bif_f H0 h3
   refine G.skip <| At.nr <| K.loadS Y _ g0 rfl rfl t140 rfl rfl rfl <| K.store Y _ g0 rfl rfl rfl t140 rfl rfl rfl rfl rfl <| K.nil <| At.next <| G.ret <| At.done Y [(.cell 4 140, .agg [_, _, _, _])] rfl ⟨.st rfl rfl t140 rfl rfl, trivial⟩ (to' := [(0, _)]) ⟨rfl, trivial⟩ ?_ ?_ rfl rfl rfl (.inl rfl)
   · cases H0; rfl
   · cases H0; rfl
theorem fuse_part_raised_con {k : Nat} {A : List (Nat → Nat)} {Q : List TQueue} {a0 : TPart} {a1 : TItem} {r : TPart}  (hL_9 : A.length = Q.length) (H0 : fuse_part_raised.f k Q a0 a1 = some r) (m0 : Nat) : fuse_part_raised_st A Q a0 a1 r m0 :=
 SCon.ren (rn [(0, m0)]) (fuse_part_raised_con0 (k := k)  hL_9 H0) ⟨(fun _ => rfl), trivial⟩ ⟨(fun _ => rfl), trivial⟩ (by simp) (by simp)
abbrev slices_Clone_st (S : Foot) (W0 : World) (A : List (Nat → Nat)) (s0 : Value) (Q : List TQueue) (r : List TPart) (m1 : Nat) (m30 : Nat) : Prop := SCon Tryz.prog 84 [SV.raw s0] [(0, rd S W0), (m1, hp m1 tq A Q)] (.a (.c (.nv m30))) [(0, rd S W0), (m1, hp m1 tq A Q), (m30, lrow m30 140 (eTPart A) 4 r)] [m30]
theorem slices_Clone_con0 {k : Nat} {S : Foot} {W0 : World} {A : List (Nat → Nat)} {s0 : Value} {Q : List TQueue} {l0 : List TPart} {r : List TPart}  (hL_9 : A.length = Q.length) (hL0 : LArg S W0 s0 (eTPart A) 4 l0) (H0 : slices_Clone.f k Q l0 = some r) : slices_Clone_st S W0 A s0 Q r 1 30 := by
 rw [slices_Clone.f] at H0
 obtain ⟨b0, o0, hI0⟩ := hL0
 refine spec_of [(0, _)] [(0, _), (1, _)] 8 Tryz.func84 rfl Tryz.ntmps84 rfl rfl rfl rfl (fun β W F => ?_)
 obtain ⟨ao0, cap0, hE0, hc0, hp0⟩ := hI0.sl
 subst hE0
 cases ao0 with
 | none =>
  have hl0 : l0 = [] := by
   cases l0 with
   | nil => rfl
   | cons x l => exact absurd (hp0 (by simp)) (by simp)
  replace H0 : some ([] : List TPart) = some r := by rw [hl0] at H0; simpa using H0
  refine G.seq <| G.rg <| K.nilRow 100 140 (eTPart A) 4 (.inl rfl) g0 rfl rfl rfl <| K.nil <| At.ns <| G.seq <| G.rg <| K.mv rfl rfl <| K.bin (V := .bool true) g0 rfl rfl (sn_eql Tryz.underlying79 none _ _) rfl <| K.nil <| At.next <| G.cond rfl (fun h1 => ?_) (fun h1 => ?_)
  ·
   exact G.seq <| G.rg <| K.nilRow 101 140 (eTPart A) 4 (.inl rfl) g0 rfl rfl rfl <| K.nil <| At.next <| G.ret <| At.over_ret <| At.ren (fs' := [(2, .a (.c (.nv 30)))]) (tl := [(0, rd S W0), (1, hp 1 tq A Q), (30, lrow 30 140 (eTPart A) 4 ([] : List TPart))]) [(30, 101)] [_, _, _] rfl ⟨rfl, trivial⟩ ⟨rfl, (fun _ => rfl), rfl, (fun _ => rfl), rfl, (lrow_ren rfl), trivial⟩ rfl <| At.dr Y [2] rfl rfl (by cases H0; rfl) (by cases H0; rfl) rfl rfl rfl
  · cases h1
 | some a0 =>
  refine G.seq <| G.rg <| K.nilRow 100 140 (eTPart A) 4 (.inl rfl) g0 rfl rfl rfl <| K.nil <| At.ns <| G.seq <| G.rg <| K.mv rfl rfl <| K.bin (V := .bool false) g0 rfl rfl (sn_eql Tryz.underlying79 (some a0) _ _) rfl <| K.nil <| At.next <| G.cond rfl (fun h1 => ?_) (fun h1 => ?_)
  · cases h1
  ·
   refine G.skip <| At.ns ?_
   obtain ⟨h2, H0⟩ := grd H0
   exact G.rg <| K.buildL Y 101 ([] : List TPart) [] [] (eTPart_len A) g0 (AllE.spec trivial) rfl rfl Tryz.underlying79 t140 rfl rfl rfl rfl rfl rfl rfl rfl <| K.mv rfl rfl <| K.appendL 102 (rV 0 S W0 (Value.slice (some a0) l0.length cap0) b0 o0 (eTPart A) 4 l0) _ el79 (hI0.is 0) (eTPart_one A) g0 rfl rfl rfl rfl rfl (ap_m h2) (ap_b h2 (by decide)) rfl rfl rfl rfl rfl rfl <| K.as rfl rfl <| K.nil <| At.next <| G.ret <| At.ren (fs' := [(2, .a (.c (.nv 30)))]) (tl := [(0, rd S W0), (1, hp 1 tq A Q), (30, lrow 30 140 (eTPart A) 4 (([] : List TPart) ++ l0))]) [(30, 102)] [_, _, _] rfl ⟨rfl, trivial⟩ ⟨rfl, (fun _ => rfl), rfl, (fun _ => rfl), rfl, (lrow_ren rfl), trivial⟩ rfl <| At.dr Y [2] rfl rfl (by cases H0; rfl) (by cases H0; rfl) rfl rfl rfl
theorem slices_Clone_con {k : Nat} {S : Foot} {W0 : World} {A : List (Nat → Nat)} {s0 : Value} {Q : List TQueue} {l0 : List TPart} {r : List TPart}  (hL_9 : A.length = Q.length) (hL0 : LArg S W0 s0 (eTPart A) 4 l0) (H0 : slices_Clone.f k Q l0 = some r) (m1 m30 : Nat) (hd : ndB [m1, m30] = true) : slices_Clone_st S W0 A s0 Q r m1 m30 :=
 SCon.ren (rn [(1, m1), (30, m30)]) (slices_Clone_con0 (k := k)  hL_9 hL0 H0) ⟨(fun _ => rfl), (fun _ => rfl), trivial⟩ ⟨(fun _ => rfl), (fun _ => rfl), (lrow_ren rfl), trivial⟩ (rn_nd hd rfl rfl) (rn_ks hd rfl rfl rfl)
abbrev fuse_Views_Then_st (S : Foot) (W0 : World) (A : List (Nat → Nat)) (s0_0 : Value) (Q : List TQueue) (a1 : THp) (r : TViews) (m1 : Nat) (m60 : Nat) : Prop := SCon Tryz.prog 47 [.a (.agg [.v s0_0]), .a (.c (.v (ptr (hA A a1) 0)))] [(0, rd S W0), (m1, hp m1 tq A Q)] (.a (.agg [.nv m60])) [(0, rd S W0), (m1, hp m1 tq A Q), (m60, lrow m60 140 (eTPart A) 4 (r.parts))] [m60]
theorem fuse_Views_Then_con0 {k : Nat} {S : Foot} {W0 : World} {A : List (Nat → Nat)} {s0_0 : Value} {Q : List TQueue} {a0 : TViews} {a1 : THp} {r : TViews}  (hL_9 : A.length = Q.length) (hL0_0 : LArg S W0 s0_0 (eTPart A) 4 a0.parts) (H0 : fuse_Views_Then.f k Q a0 a1 = some r) : fuse_Views_Then_st S W0 A s0_0 Q a1 r 1 60 := by
 rw [fuse_Views_Then.f] at H0
 obtain ⟨b0_0, o0_0, hI0_0⟩ := hL0_0
 obtain ⟨ao0_0, cap0_0, hE0_0, _⟩ := hI0_0.sl
 subst hE0_0
 refine spec_of [(0, _), (1, _)] [(0, _), (1, _)] 66 Tryz.func47 rfl Tryz.ntmps47 rfl rfl rfl rfl (fun β W F => ?_)
 refine G.seq <| G.rg <| K.box Y 100 _ g0 rfl rfl rfl rfl rfl rfl <| K.alloc Y 101 _ g0 t81 rfl rfl rfl rfl rfl <| K.nil <| At.nilBlk (n := 101) (l' := [_]) 0 102 140 (eTPart A) 4 rfl rfl rfl rfl rfl <| At.ns <| G.seq <| G.rg <| K.mv rfl rfl <| K.bin (V := .bool false) g0 rfl rfl (pn_eql_some Tryz.underlying24 _) rfl <| K.nil <| At.next <| G.cond rfl (fun h1 => ?_) (fun h1 => ?_)
 · cases h1
 ·
  refine G.skip <| At.ns ?_
  obtain ⟨x1, hx1, H0⟩ := bnd H0
  obtain ⟨x2, hx2, H0⟩ := bnd H0
  refine G.rg <| K.mv rfl rfl <| K.cR (cf 33 rfl) (onQueueP 1 4 (by decide) hL_9 hx1 (partial_Queue_Present_con hx2 1 2 3 4 5 6 7 8 9) rfl) g0 rfl rfl rfl rfl <| K.build Y [(0, _)] [_, _, _, _] [((.tmp 16), _)] g0 (AllE.spec ⟨rfl, trivial⟩) rfl rfl t140 rfl rfl <| K.alloc Y 103 _ g0 t140 rfl rfl rfl rfl rfl <| K.store Y _ g0 rfl rfl rfl t140 rfl rfl rfl rfl rfl <| K.nil <| At.ns ?_
  obtain ⟨x3, hx3, H0⟩ := bnd H0
  obtain ⟨x4, hx4, H0⟩ := bnd H0
  obtain ⟨x5, hx5, H0⟩ := bnd H0
  obtain ⟨h2, H0⟩ := grd H0
  refine G.rg <| K.fieldAddr Y g0 rfl t81 rfl rfl <| K.load1 Y g0 rfl rfl t79 rfl rfl <| K.cV (cf 84 rfl) [0] (fun β w S2 h => slices_Clone_con hL_9 ((hI0_0.isC 0).larg ⟨_, List.mem_cons_self⟩ h) hx3 1 104 rfl) g0 (fun _ => rfl) rfl rfl rfl <| K.mv rfl rfl <| K.cR (cf 30 rfl) (onQueueP 1 6 (by decide) hL_9 hx4 (partial_Queue_Gone_con hx5 1 2 3 4 5 6 7 8 9) rfl) g0 rfl rfl rfl rfl <| K.build Y [(0, _)] [_, _, _, _] [((.tmp 22), _)] g0 (AllE.spec ⟨rfl, trivial⟩) rfl rfl t140 rfl rfl <| K.buildL Y 105 ([(TPart.mk (THp.mk a1.q 6) zTTook)] : List TPart) [(0, _)] [((.tmp 23), _)] (eTPart_len A) g0 (AllE.spec ⟨rfl, trivial⟩) rfl rfl Tryz.underlying79 t140 rfl rfl rfl rfl rfl rfl rfl rfl <| K.appendL 106 (lrowV 105 140 (eTPart A) 4 ([(TPart.mk (THp.mk a1.q 6) zTTook)] : List TPart)) _ el79 (lrowV_is (eTPart_len A) (by decide)) (eTPart_one A) g0 rfl rfl rfl rfl rfl (ap_m h2) (ap_b h2 (by decide)) rfl rfl rfl rfl rfl rfl <| K.build Y [(0, _)] [_] [((.tmp 25), _)] g0 (AllE.spec ⟨rfl, trivial⟩) rfl rfl t81 rfl rfl <| K.alloc Y 107 _ g0 t81 rfl rfl rfl rfl rfl <| K.store Y _ g0 rfl rfl rfl t81 rfl rfl rfl rfl rfl <| K.nil <| At.ns ?_
  obtain ⟨x6, hx6, H0⟩ := bnd H0
  obtain ⟨x7, hx7, H0⟩ := bnd H0
  refine G.rg <| K.mv rfl rfl <| K.cR (cf 29 rfl) (onQueue 1 hL_9 hx6 (partial_Queue_Deletes_con hx7 1 2 3 4 5 6 7 8 9) rfl rfl) g0 rfl rfl rfl rfl <| K.as rfl rfl <| K.nil <| At.ns <| G.seq ?_
  obtain ⟨x8, hx8, H0⟩ := bnd H0
  refine G.rg <| K.mv rfl rfl <| K.loadS Y _ g0 rfl rfl t81 rfl rfl rfl <| K.cV (cf 46 rfl) [106] (fun β w S2 h => fuse_Views_Len_con (a0 := (TViews.mk (x3 ++ ([(TPart.mk (THp.mk a1.q 6) zTTook)] : List TPart)))) hL_9 (la 0 rfl (eTPart_len A) rfl h) hx8 1) g0 (fun _ => rfl) rfl rfl rfl <| K.bin (V := .bool (decide (x7 ≥ x8))) g0 rfl rfl (fun _ => rfl) rfl <| K.nil <| At.next <| G.cond rfl (fun h3 => ?_) (fun h3 => ?_)
  ·
   replace H0 := bif_t H0 h3
   refine G.seq <| G.rg <| K.loadS Y _ g0 rfl rfl t140 rfl rfl rfl <| K.buildL Y 108 ([(TPart.mk (THp.mk a1.q 4) zTTook)] : List TPart) [(0, _)] [((.tmp 33), _)] (eTPart_len A) g0 (AllE.spec ⟨rfl, trivial⟩) rfl rfl Tryz.underlying79 t140 rfl rfl rfl rfl rfl rfl rfl rfl <| K.build Y [(0, _)] [_] [((.tmp 34), _)] g0 (AllE.spec ⟨rfl, trivial⟩) rfl rfl t81 rfl rfl <| K.store Y _ g0 rfl rfl rfl t81 rfl rfl rfl rfl rfl <| K.nil <| At.next <| G.ret <| At.over_ret <| At.ren (fs' := [(4, .a (.c (.p 101 0)))]) (tl := [(0, rd S W0), (1, hp 1 tq A Q), (60, lrow 60 140 (eTPart A) 4 ([(TPart.mk (THp.mk a1.q 4) zTTook)] : List TPart)), (101, blk 101 [.nv 60] 81)]) [(60, 108)] [_, _, _, _] rfl ⟨rfl, trivial⟩ ⟨rfl, (fun _ => rfl), rfl, (fun _ => rfl), rfl, (lrow_ren rfl), rfl, (blk_ren rfl rfl), trivial⟩ rfl <| At.done Y [(.cell 4 81, .agg [_])] rfl ⟨.st rfl rfl t81 rfl rfl, trivial⟩ (to' := [(0, _), (1, _), (60, _)]) ⟨rfl, rfl, rfl, trivial⟩ ?_ ?_ rfl rfl rfl (.inl rfl)
   · cases H0; rfl
   · cases H0; rfl
  ·
   replace H0 := bif_f H0 h3
   refine G.skip <| At.next ?_
   obtain ⟨x9, H1, H0⟩ := bnd H0
   refine G.sJ (σ := { v : List TPart // x9 = v }) (fun q => [(4, .a (.c (.p 109 0))), (5, .a (.c (.p 111 0))), (6, .a (.c (.p 112 0)))]) (fun q => [(0, rd S W0), (110, lrow 110 140 (eTPart A) 4 ([] : List TPart)), (109, blk 109 [.nv 110] 81), (111, blk 111 [.v (ptr (hA A (THp.mk a1.q 4)) 0), .v (.bool false), .v (.int .i64 0), .v (.int .i64 0)] 140), (113, lrow 113 140 (eTPart A) 4 q.1), (112, blk 112 [.nv 113] 81), (1, hp 1 tq A Q)]) ?_ ?_
   ·
    refine G.seq ?_
    obtain ⟨x10, hx10, H1⟩ := bnd H1
    refine G.rg <| K.loadS Y _ g0 rfl rfl t81 rfl rfl rfl <| K.mv rfl rfl <| K.bin (V := .int .i64 (w64 (x7 - 1))) g0 rfl rfl (fun _ => rfl) rfl <| K.cV (cf 85 rfl) [106] (fun β w S2 h => fuse_Views_At_con (a0 := (TViews.mk (x3 ++ ([(TPart.mk (THp.mk a1.q 6) zTTook)] : List TPart)))) hL_9 (la 0 rfl (eTPart_len A) rfl h) hx10 1) g0 (fun _ => rfl) rfl rfl rfl <| K.mv rfl rfl <| K.extract g0 rfl rfl rfl <| K.extract g0 rfl rfl rfl <| K.alloc Y 114 _ g0 t30 rfl rfl rfl rfl rfl <| K.store Y _ g0 rfl rfl rfl t30 rfl rfl rfl rfl rfl <| K.as rfl rfl <| K.nil <| At.nr <| K.mv rfl rfl <| K.nil <| At.next <| G.cond rfl (fun h4 => ?_) (fun h4 => ?_)
    ·
     replace H1 := bif_t H1 h4
     refine G.seq <| G.rg <| K.fieldAddr Y g0 rfl t81 rfl rfl <| K.load1 Y g0 rfl rfl t79 rfl rfl <| K.lenL (lrowV 106 140 (eTPart A) 4 (x3 ++ ([(TPart.mk (THp.mk a1.q 6) zTTook)] : List TPart))) (lrowV_is (eTPart_len A) (by decide)) g0 rfl rfl Tryz.underlying79 rfl <| K.mv rfl rfl <| K.nil <| At.next <| G.block <| G.lp (σ := { q : Nat × (List TPart × Int) // fuse_Views_Then.l0 k Q a1 x3 x10 q.1 q.2 = some x9 }) (fun q => [(4, .a (.c (.p 127 0))), (5, .a (.c (.p 129 0))), (6, .a (.c (.p 130 0))), (8, .a (.c (.p 132 0))), (45, .a (.c (.nv 131))), (46, .a (.c (.v (.int .i64 ((x3 ++ ([(TPart.mk (THp.mk a1.q 6) zTTook)] : List TPart)).length : Int))))), (47, .a (.c (.v (.int .i64 q.1.2.2))))]) (fun q => [(0, rd S W0), (128, lrow 128 140 (eTPart A) 4 ([] : List TPart)), (127, blk 127 [.nv 128] 81), (129, blk 129 [.v (ptr (hA A (THp.mk a1.q 4)) 0), .v (.bool false), .v (.int .i64 0), .v (.int .i64 0)] 140), (131, lrow 131 140 (eTPart A) 4 q.1.2.1), (130, blk 130 [.nv 131] 81), (132, blk 132 [.v (.int .i64 x10.1.key), .v (.int .i64 x10.1.id)] 30), (1, hp 1 tq A Q)]) (fun q => q.1.1) ⟨(k, ((x3 ++ ([(TPart.mk (THp.mk a1.q 6) zTTook)] : List TPart)), 0)), H1⟩ ?_ ?_
     · exact At.into [(127, 101), (128, 102), (129, 103), (130, 107), (131, 106), (132, 114)] [_, _, _, _, _, _, _, _] rfl ⟨rfl, rfl, rfl, rfl, rfl, rfl, rfl, trivial⟩ ⟨rfl, (fun _ => rfl), rfl, (lrow_ren rfl), rfl, (blk_ren rfl rfl), rfl, (blk_ren rfl rfl), rfl, (lrow_ren rfl), rfl, (blk_ren rfl rfl), rfl, (blk_ren rfl rfl), rfl, (fun _ => rfl), trivial⟩ rfl
     ·
      rintro ⟨⟨n0, v1, v2⟩, H1⟩
      show G _ _ [(4, .a (.c (.p 127 0))), (5, .a (.c (.p 129 0))), (6, .a (.c (.p 130 0))), (8, .a (.c (.p 132 0))), (45, .a (.c (.nv 131))), (46, .a (.c (.v (.int .i64 ((x3 ++ ([(TPart.mk (THp.mk a1.q 6) zTTook)] : List TPart)).length : Int))))), (47, .a (.c (.v (.int .i64 v2))))] [(0, some (rd S W0)), (128, some (lrow 128 140 (eTPart A) 4 ([] : List TPart))), (127, some (blk 127 [.nv 128] 81)), (129, some (blk 129 [.v (ptr (hA A (THp.mk a1.q 4)) 0), .v (.bool false), .v (.int .i64 0), .v (.int .i64 0)] 140)), (131, some (lrow 131 140 (eTPart A) 4 v1)), (130, some (blk 130 [.nv 131] 81)), (132, some (blk 132 [.v (.int .i64 x10.1.key), .v (.int .i64 x10.1.id)] 30)), (1, some (hp 1 tq A Q))] _ _
      cases n0 with
      | zero => exact absurd H1 (by simp [fuse_Views_Then.l0])
      | succ n0 =>
       have HL0 := H1
       rw [fuse_Views_Then.l0] at H1
       refine G.seq <| G.rg <| K.bin (V := .bool (decide (v2 < ((x3 ++ ([(TPart.mk (THp.mk a1.q 6) zTTook)] : List TPart)).length : Int)))) g0 rfl rfl (fun _ => rfl) rfl <| K.nil <| At.ns <| G.cond rfl (fun h5 => ?_) (fun h5 => ?_)
       ·
        replace H1 := bif_t H1 h5
        refine G.skip <| At.ns <| G.block <| G.seq ?_
        obtain ⟨x11, hx11, H1⟩ := bnd H1
        refine G.rg <| K.mv rfl rfl <| K.idxL (lrowV 131 140 (eTPart A) 4 v1) ((v2).toNat) (lrowV_is (eTPart_len A) (by decide)) (atL_get hx11) (atL_nn hx11) g0 rfl rfl rfl Tryz.underlying79 el79.size_run rfl <| K.loadSL Y (lrowV 131 140 (eTPart A) 4 v1) ((v2).toNat) 0 [_, _, _, _] [_, _, _, _] (lrowV_is (eTPart_len A) (by decide)) (atL_get hx11) g0 rfl rfl t140 rfl rfl rfl rfl rfl <| K.alloc Y 133 _ g0 t140 rfl rfl rfl rfl rfl <| K.as rfl rfl <| K.store Y _ g0 rfl rfl rfl t140 rfl rfl rfl rfl rfl <| K.nil <| At.next ?_
        obtain ⟨x12, hx12, H1⟩ := bnd H1
        exact G.rd mixed <| K.fieldAddr Y g0 rfl t81 rfl rfl <| K.load1 Y g0 rfl rfl t79 rfl rfl <| K.mv rfl rfl <| K.loadS Y _ g0 rfl rfl t140 rfl rfl rfl <| K.loadS Y _ g0 rfl rfl t30 rfl rfl rfl <| K.cR (cf 86 rfl) (fuse_part_raised_con hL_9 hx12 1) g0 rfl rfl rfl rfl <| K.idxL (lrowV 131 140 (eTPart A) 4 v1) ((v2).toNat) (lrowV_is (eTPart_len A) (by decide)) (atL_get hx11) (atL_nn hx11) g0 rfl rfl rfl Tryz.underlying79 el79.size_run rfl <| K.storeL Y ((v2).toNat) 0 [_, _, _, _] x12 (eTPart_len A) (by decide) (atL_get hx11) g0 rfl rfl rfl t140 rfl rfl rfl rfl rfl rfl <| K.nil <| And.intro (by kernel_rfl) <| At.block_normal <| At.next <| G.rg <| K.bin (V := .int .i64 (w64 (v2 + 1))) g0 rfl rfl (fun _ => rfl) rfl <| K.mv rfl rfl <| K.nil <| At.ag ⟨(n0, ((v1.set ((v2).toNat) x12), (w64 (v2 + 1)))), H1⟩ [] [_, _, _, _, _, _, _, _] (Nat.lt_succ_self _) rfl ⟨rfl, rfl, rfl, rfl, rfl, rfl, rfl, trivial⟩ ⟨rfl, (fun _ => rfl), rfl, (lrow_ren rfl), rfl, (blk_ren rfl rfl), rfl, (blk_ren rfl rfl), rfl, (lrow_ren rfl), rfl, (blk_ren rfl rfl), rfl, (blk_ren rfl rfl), rfl, (fun _ => rfl), trivial⟩ rfl
       ·
        replace H1 := bif_f H1 h5
        exact G.exit <| At.over_exit <| At.over_exit <| At.block_hit <| At.jd ⟨v1, oi H1⟩ [(109, 127), (110, 128), (111, 129), (112, 130), (113, 131)] [_, _, _, _, _, _, _] rfl ⟨rfl, rfl, rfl, trivial⟩ ⟨rfl, (fun _ => rfl), rfl, (lrow_ren rfl), rfl, (blk_ren rfl rfl), rfl, (blk_ren rfl rfl), rfl, (lrow_ren rfl), rfl, (blk_ren rfl rfl), rfl, (fun _ => rfl), trivial⟩ rfl
    ·
     replace H1 := bif_f H1 h4
     exact G.skip <| At.jd ⟨(x3 ++ ([(TPart.mk (THp.mk a1.q 6) zTTook)] : List TPart)), oi H1⟩ [(109, 101), (110, 102), (111, 103), (112, 107), (113, 106)] [_, _, _, _, _, _, _] rfl ⟨rfl, rfl, rfl, trivial⟩ ⟨rfl, (fun _ => rfl), rfl, (lrow_ren rfl), rfl, (blk_ren rfl rfl), rfl, (blk_ren rfl rfl), rfl, (lrow_ren rfl), rfl, (blk_ren rfl rfl), rfl, (fun _ => rfl), trivial⟩ rfl
   ·
    rintro ⟨_, rfl⟩
    show G _ _ [(4, .a (.c (.p 109 0))), (5, .a (.c (.p 111 0))), (6, .a (.c (.p 112 0)))] [(0, some (rd S W0)), (110, some (lrow 110 140 (eTPart A) 4 ([] : List TPart))), (109, some (blk 109 [.nv 110] 81)), (111, some (blk 111 [.v (ptr (hA A (THp.mk a1.q 4)) 0), .v (.bool false), .v (.int .i64 0), .v (.int .i64 0)] 140)), (113, some (lrow 113 140 (eTPart A) 4 x9)), (112, some (blk 112 [.nv 113] 81)), (1, some (hp 1 tq A Q))] _ _
    refine G.seq ?_
    obtain ⟨h6, H0⟩ := grd H0
    refine G.rg <| K.fieldAddr Y g0 rfl t81 rfl rfl <| K.load1 Y g0 rfl rfl t79 rfl rfl <| K.loadS Y _ g0 rfl rfl t140 rfl rfl rfl <| K.buildL Y 134 ([(TPart.mk (THp.mk a1.q 4) zTTook)] : List TPart) [(0, _)] [((.tmp 62), _)] (eTPart_len A) g0 (AllE.spec ⟨rfl, trivial⟩) rfl rfl Tryz.underlying79 t140 rfl rfl rfl rfl rfl rfl rfl rfl <| K.appendL 135 (lrowV 134 140 (eTPart A) 4 ([(TPart.mk (THp.mk a1.q 4) zTTook)] : List TPart)) _ el79 (lrowV_is (eTPart_len A) (by decide)) (eTPart_one A) g0 rfl rfl rfl rfl rfl (ap_m h6) (ap_b h6 (by decide)) rfl rfl rfl rfl rfl rfl <| K.build Y [(0, _)] [_] [((.tmp 64), _)] g0 (AllE.spec ⟨rfl, trivial⟩) rfl rfl t81 rfl rfl <| K.store Y _ g0 rfl rfl rfl t81 rfl rfl rfl rfl rfl <| K.nil <| At.next <| G.ret <| At.ren (fs' := [(4, .a (.c (.p 109 0)))]) (tl := [(0, rd S W0), (1, hp 1 tq A Q), (60, lrow 60 140 (eTPart A) 4 (x9 ++ ([(TPart.mk (THp.mk a1.q 4) zTTook)] : List TPart))), (109, blk 109 [.nv 60] 81)]) [(60, 135)] [_, _, _, _] rfl ⟨rfl, trivial⟩ ⟨rfl, (fun _ => rfl), rfl, (fun _ => rfl), rfl, (lrow_ren rfl), rfl, (blk_ren rfl rfl), trivial⟩ rfl <| At.done Y [(.cell 4 81, .agg [_])] rfl ⟨.st rfl rfl t81 rfl rfl, trivial⟩ (to' := [(0, _), (1, _), (60, _)]) ⟨rfl, rfl, rfl, trivial⟩ ?_ ?_ rfl rfl rfl (.inl rfl)
    · cases H0; rfl
    · cases H0; rfl
theorem fuse_Views_Then_con {k : Nat} {S : Foot} {W0 : World} {A : List (Nat → Nat)} {s0_0 : Value} {Q : List TQueue} {a0 : TViews} {a1 : THp} {r : TViews}  (hL_9 : A.length = Q.length) (hL0_0 : LArg S W0 s0_0 (eTPart A) 4 a0.parts) (H0 : fuse_Views_Then.f k Q a0 a1 = some r) (m1 m60 : Nat) (hd : ndB [m1, m60] = true) : fuse_Views_Then_st S W0 A s0_0 Q a1 r m1 m60 :=
 SCon.ren (rn [(1, m1), (60, m60)]) (fuse_Views_Then_con0 (k := k)  hL_9 hL0_0 H0) ⟨(fun _ => rfl), (fun _ => rfl), trivial⟩ ⟨(fun _ => rfl), (fun _ => rfl), (lrow_ren rfl), trivial⟩ (rn_nd hd rfl rfl) (rn_ks hd rfl rfl rfl)
abbrev fuse_Views_Min_st (S : Foot) (W0 : World) (A : List (Nat → Nat)) (s0_0 : Value) (Q : List TQueue) (r : TItem × Bool) (m1 : Nat) : Prop := SCon Tryz.prog 82 [.a (.agg [.v s0_0])] [(0, rd S W0), (m1, hp m1 tq A Q)] (.tup [.agg ((eTItem r.1).map .v), .c (.v (.bool r.2))]) [(0, rd S W0), (m1, hp m1 tq A Q)] []
theorem fuse_Views_Min_con0 {k : Nat} {S : Foot} {W0 : World} {A : List (Nat → Nat)} {s0_0 : Value} {Q : List TQueue} {a0 : TViews} {r : TItem × Bool}  (hL_9 : A.length = Q.length) (hL0_0 : LArg S W0 s0_0 (eTPart A) 4 a0.parts) (H0 : fuse_Views_Min.f k Q a0 = some r) : fuse_Views_Min_st S W0 A s0_0 Q r 1 := by
 rw [fuse_Views_Min.f] at H0
 obtain ⟨b0_0, o0_0, hI0_0⟩ := hL0_0
 obtain ⟨ao0_0, cap0_0, hE0_0, _⟩ := hI0_0.sl
 subst hE0_0
 refine spec_of [(0, _)] [(0, _), (1, _)] 8 Tryz.func82 rfl Tryz.ntmps82 rfl rfl rfl rfl (fun β W F => ?_)
 refine G.seq <| G.rg <| K.box Y 100 _ g0 rfl rfl rfl rfl rfl rfl <| K.alloc Y 101 _ g0 t30 rfl rfl rfl rfl rfl <| K.as rfl rfl <| K.nil <| At.ns ?_
 obtain ⟨x1, hx1, H0⟩ := bnd H0
 refine G.rg <| K.loadS Y _ g0 rfl rfl t81 rfl rfl rfl <| K.cV (cf 85 rfl) [0] (fun β w S2 h => fuse_Views_At_con (a0 := a0) hL_9 ((hI0_0.isC 0).larg ⟨_, List.mem_cons_self⟩ h) hx1 1) g0 (fun _ => rfl) rfl rfl rfl <| K.extract g0 rfl rfl rfl <| K.extract g0 rfl rfl rfl <| K.store Y _ g0 rfl rfl rfl t30 rfl rfl rfl rfl rfl <| K.as rfl rfl <| K.nil <| At.next <| G.ret <| At.done Y [(.cell 2 30, .agg [_, _]), (.tmp 3, .c _)] rfl ⟨.st rfl rfl t30 rfl rfl, .tmp rfl, trivial⟩ (to' := [(0, _), (1, _)]) ⟨rfl, rfl, trivial⟩ ?_ ?_ rfl rfl rfl (.inl rfl)
 · cases H0; rfl
 · cases H0; rfl
theorem fuse_Views_Min_con {k : Nat} {S : Foot} {W0 : World} {A : List (Nat → Nat)} {s0_0 : Value} {Q : List TQueue} {a0 : TViews} {r : TItem × Bool}  (hL_9 : A.length = Q.length) (hL0_0 : LArg S W0 s0_0 (eTPart A) 4 a0.parts) (H0 : fuse_Views_Min.f k Q a0 = some r) (m1 : Nat) : fuse_Views_Min_st S W0 A s0_0 Q r m1 :=
 SCon.ren (rn [(1, m1)]) (fuse_Views_Min_con0 (k := k)  hL_9 hL0_0 H0) ⟨(fun _ => rfl), (fun _ => rfl), trivial⟩ ⟨(fun _ => rfl), (fun _ => rfl), trivial⟩ (by simp) (by simp)
abbrev Lw13_Queue_st (S : Foot) (W0 : World) (s0 : Value) (r : TQueue) (m80 : Nat) (m81 : Nat) (m82 : Nat) (m83 : Nat) (m84 : Nat) (m85 : Nat) (m86 : Nat) (m87 : Nat) (m88 : Nat) : Prop := SCon Tryz.prog 44 [SV.raw s0] [(0, rd S W0)] (.a (.c (.p m80 0))) ((0, rd S W0) :: (tkQueue m80 m81 m82 m83 m84 m85 m86 m87 m88 r [])) [m80, m81, m82, m83, m84, m85, m86, m87, m88]
theorem Lw13_Queue_con0 {k : Nat}  {S : Foot} {W0 : World} {s0 : Value} {l0 : List TOp} {r : TQueue} (hL0 : LArg S W0 s0 eTOp 4 l0) (H0 : Lw13_Queue.f k l0 = some r) : Lw13_Queue_st S W0 s0 r 80 81 82 83 84 85 86 87 88 := by
 rw [Lw13_Queue.f] at H0
 obtain ⟨b0, o0, hI0⟩ := hL0
 refine spec_of [(0, _)] [(0, _)] 48 Tryz.func44 rfl Tryz.ntmps44 rfl rfl rfl rfl (fun β W F => ?_)
 refine G.seq <| G.rg <| K.as rfl rfl <| K.nil <| At.ns ?_
 obtain ⟨x1, hx1, H0⟩ := bnd H0
 refine G.rg <| K.mv rfl rfl <| K.lenL (rV 0 S W0 s0 b0 o0 eTOp 4 l0) (hI0.is 0) g0 rfl rfl Tryz.underlying26 rfl <| K.c0 (cf 15 rfl) (partial_New_con hx1 100 101 102 103 104 105 106 107 108 rfl) g0 rfl rfl rfl rfl <| K.as rfl rfl <| K.nil <| At.next ?_
 obtain ⟨x2, H1, H0⟩ := bnd H0
 refine G.sJ (σ := { v : TQueue // x2 = Sum.inr v }) (fun q => [(3, .a (.c (.p 109 0)))]) (fun q => ((0, rd S W0) :: (tkQueue 109 110 111 112 113 114 115 116 117 q.1 []))) ?_ ?_
 ·
  refine G.seq <| G.rg <| K.as rfl rfl <| K.nil <| At.next <| G.block <| G.lp (σ := { q : Nat × (TQueue × Int) // Lw13_Queue.l0 k l0 q.1 q.2 = some x2 }) (fun q => [(0, SV.raw s0), (3, .a (.c (.p 136 0))), (4, .a (.c (.v (.int .i64 q.1.2.2))))]) (fun q => ((0, rd S W0) :: (tkQueue 136 137 138 139 140 141 142 143 144 q.1.2.1 []))) (fun q => q.1.1) ⟨(k, (x1, 0)), H1⟩ ?_ ?_
  · exact At.into [(136, 100), (137, 101), (138, 102), (139, 103), (140, 104), (141, 105), (142, 106), (143, 107), (144, 108)] [_, _, _, _, _, _, _, _, _, _] rfl ⟨rfl, rfl, rfl, trivial⟩ ⟨rfl, (fun _ => rfl), rfl, (blk_ren rfl rfl), rfl, (blk_ren rfl rfl), rfl, (pl_ren rfl), rfl, (blk_ren rfl rfl), rfl, (pl_ren rfl), rfl, (blk_ren rfl rfl), rfl, (pl_ren rfl), rfl, (blk_ren rfl rfl), rfl, (pl_ren rfl), trivial⟩ rfl
  ·
   rintro ⟨⟨n0, v1, v2⟩, H1⟩
   show G _ _ [(0, SV.raw s0), (3, .a (.c (.p 136 0))), (4, .a (.c (.v (.int .i64 v2))))] (sm ((0, rd S W0) :: (tkQueue 136 137 138 139 140 141 142 143 144 v1 []))) _ _
   cases n0 with
   | zero => exact absurd H1 (by simp [Lw13_Queue.l0])
   | succ n0 =>
    have HL0 := H1
    rw [Lw13_Queue.l0] at H1
    refine G.seq <| G.seq <| G.rg <| K.mv rfl rfl <| K.mv rfl rfl <| K.lenL (rV 0 S W0 s0 b0 o0 eTOp 4 l0) (hI0.is 0) g0 rfl rfl Tryz.underlying26 rfl <| K.bin (V := .bool (decide (v2 < (l0.length : Int)))) g0 rfl rfl (fun _ => rfl) rfl <| K.nil <| At.next <| G.cond rfl (fun h1 => ?_) (fun h1 => ?_)
    ·
     replace H1 := bif_t H1 h1
     refine G.skip <| At.ns <| G.block <| G.seq <| G.rg <| K.as rfl rfl <| K.nil <| At.ns <| G.seq ?_
     obtain ⟨x3, hx3, H1⟩ := bnd H1
     refine G.rg <| K.mv rfl rfl <| K.mv rfl rfl <| K.idxL (rV 0 S W0 s0 b0 o0 eTOp 4 l0) ((v2).toNat) (hI0.is 0) (atL_get hx3) (atL_nn hx3) g0 rfl rfl rfl Tryz.underlying26 el26.size_run rfl <| K.fieldL Y (rV 0 S W0 s0 b0 o0 eTOp 4 l0) ((v2).toNat) 0 1 (hI0.is 0) (atL_get hx3) g0 rfl rfl t42 rfl rfl rfl rfl <| K.load1L Y (rV 0 S W0 s0 b0 o0 eTOp 4 l0) ((v2).toNat) 1 (hI0.is 0) (atL_get hx3) g0 rfl rfl t4 rfl rfl <| K.nil <| At.next <| G.cond rfl (fun h2 => ?_) (fun h2 => ?_)
     ·
      replace H1 := bif_t H1 h2
      obtain ⟨x4, hx4, H1⟩ := bnd H1
      refine G.rd mixed <| K.mv rfl rfl <| K.mv rfl rfl <| K.mv rfl rfl <| K.idxL (rV 0 S W0 s0 b0 o0 eTOp 4 l0) ((v2).toNat) (hI0.is 0) (atL_get hx3) (atL_nn hx3) g0 rfl rfl rfl Tryz.underlying26 el26.size_run rfl <| K.fieldL Y (rV 0 S W0 s0 b0 o0 eTOp 4 l0) ((v2).toNat) 0 0 (hI0.is 0) (atL_get hx3) g0 rfl rfl t42 rfl rfl rfl rfl <| K.load1L Y (rV 0 S W0 s0 b0 o0 eTOp 4 l0) ((v2).toNat) 0 (hI0.is 0) (atL_get hx3) g0 rfl rfl t3 rfl rfl <| K.mv rfl rfl <| K.mv rfl rfl <| K.idxL (rV 0 S W0 s0 b0 o0 eTOp 4 l0) ((v2).toNat) (hI0.is 0) (atL_get hx3) (atL_nn hx3) g0 rfl rfl rfl Tryz.underlying26 el26.size_run rfl <| K.fieldL Y (rV 0 S W0 s0 b0 o0 eTOp 4 l0) ((v2).toNat) 0 2 (hI0.is 0) (atL_get hx3) g0 rfl rfl t42 rfl rfl rfl rfl <| K.loadSL Y (rV 0 S W0 s0 b0 o0 eTOp 4 l0) ((v2).toNat) 2 [_, _] [_, _] (hI0.is 0) (atL_get hx3) g0 rfl rfl t30 rfl rfl rfl rfl rfl <| K.c0 (cf 23 rfl) (partial_Queue_Insert_con hx4 136 137 138 139 140 141 142 143 144 145 146 rfl) g0 rfl rfl rfl rfl <| K.mv rfl rfl <| K.extract g0 rfl rfl rfl <| K.extract g0 rfl rfl rfl <| K.as rfl rfl <| K.nil <| And.intro (by kernel_rfl) <| At.nr <| K.mv rfl rfl <| K.bin (V := .bool (x4.2.1 != 0)) g0 rfl rfl (fun _ => rfl) rfl <| K.nil <| At.next <| G.cond rfl (fun h3 => ?_) (fun h3 => ?_)
      ·
       replace H1 := bif_t H1 h3
       refine G.seq <| G.rg <| K.as rfl rfl <| K.nil <| At.next <| G.ret <| At.block_ret <| At.over_ret <| At.over_ret <| At.block_ret <| At.over_ret ?_
       cases H1
      ·
       replace H1 := bif_f H1 h3
       exact G.skip <| At.block_normal <| At.next <| G.rg <| K.mv rfl rfl <| K.bin (V := .int .i64 (w64 (v2 + 1))) g0 rfl rfl (fun _ => rfl) rfl <| K.as rfl rfl <| K.nil <| At.ag ⟨(n0, (x4.2.2, (w64 (v2 + 1)))), H1⟩ [] [_, _, _, _, _, _, _, _, _, _] (Nat.lt_succ_self _) rfl ⟨rfl, rfl, rfl, trivial⟩ ⟨rfl, (fun _ => rfl), rfl, (blk_ren rfl rfl), rfl, (blk_ren rfl rfl), rfl, (pl_ren rfl), rfl, (blk_ren rfl rfl), rfl, (pl_ren rfl), rfl, (blk_ren rfl rfl), rfl, (pl_ren rfl), rfl, (blk_ren rfl rfl), rfl, (pl_ren rfl), trivial⟩ rfl
     ·
      replace H1 := bif_f H1 h2
      obtain ⟨x5, hx5, H1⟩ := bnd H1
      refine G.rg <| K.mv rfl rfl <| K.mv rfl rfl <| K.mv rfl rfl <| K.idxL (rV 0 S W0 s0 b0 o0 eTOp 4 l0) ((v2).toNat) (hI0.is 0) (atL_get hx3) (atL_nn hx3) g0 rfl rfl rfl Tryz.underlying26 el26.size_run rfl <| K.fieldL Y (rV 0 S W0 s0 b0 o0 eTOp 4 l0) ((v2).toNat) 0 0 (hI0.is 0) (atL_get hx3) g0 rfl rfl t42 rfl rfl rfl rfl <| K.load1L Y (rV 0 S W0 s0 b0 o0 eTOp 4 l0) ((v2).toNat) 0 (hI0.is 0) (atL_get hx3) g0 rfl rfl t3 rfl rfl <| K.c0 (cf 24 rfl) (partial_Queue_Delete_con hx5 136 137 138 139 140 141 142 143 144 147 148 rfl) g0 rfl rfl rfl rfl <| K.mv rfl rfl <| K.extract g0 rfl rfl rfl <| K.extract g0 rfl rfl rfl <| K.as rfl rfl <| K.nil <| At.nr <| K.mv rfl rfl <| K.bin (V := .bool (x5.2.1 != 0)) g0 rfl rfl (fun _ => rfl) rfl <| K.nil <| At.next <| G.cond rfl (fun h4 => ?_) (fun h4 => ?_)
      ·
       replace H1 := bif_t H1 h4
       refine G.seq <| G.rg <| K.as rfl rfl <| K.nil <| At.next <| G.ret <| At.block_ret <| At.over_ret <| At.over_ret <| At.block_ret <| At.over_ret ?_
       cases H1
      ·
       replace H1 := bif_f H1 h4
       exact G.skip <| At.block_normal <| At.next <| G.rg <| K.mv rfl rfl <| K.bin (V := .int .i64 (w64 (v2 + 1))) g0 rfl rfl (fun _ => rfl) rfl <| K.as rfl rfl <| K.nil <| At.ag ⟨(n0, (x5.2.2, (w64 (v2 + 1)))), H1⟩ [] [_, _, _, _, _, _, _, _, _, _] (Nat.lt_succ_self _) rfl ⟨rfl, rfl, rfl, trivial⟩ ⟨rfl, (fun _ => rfl), rfl, (blk_ren rfl rfl), rfl, (blk_ren rfl rfl), rfl, (pl_ren rfl), rfl, (blk_ren rfl rfl), rfl, (pl_ren rfl), rfl, (blk_ren rfl rfl), rfl, (pl_ren rfl), rfl, (blk_ren rfl rfl), rfl, (pl_ren rfl), trivial⟩ rfl
    ·
     replace H1 := bif_f H1 h1
     exact G.exit <| At.over_exit <| At.over_exit <| At.block_hit <| At.jd ⟨v1, oi H1⟩ [(109, 136), (110, 137), (111, 138), (112, 139), (113, 140), (114, 141), (115, 142), (116, 143), (117, 144)] [_, _, _, _, _, _, _, _, _, _] rfl ⟨rfl, trivial⟩ ⟨rfl, (fun _ => rfl), rfl, (blk_ren rfl rfl), rfl, (blk_ren rfl rfl), rfl, (pl_ren rfl), rfl, (blk_ren rfl rfl), rfl, (pl_ren rfl), rfl, (blk_ren rfl rfl), rfl, (pl_ren rfl), rfl, (blk_ren rfl rfl), rfl, (pl_ren rfl), trivial⟩ rfl
 ·
  rintro ⟨w2, rfl⟩
  replace H0 := sum_r H0
  show G _ _ [(3, .a (.c (.p 109 0)))] (sm ((0, rd S W0) :: (tkQueue 109 110 111 112 113 114 115 116 117 w2 []))) _ _
  exact G.seq <| G.rg <| K.mv rfl rfl <| K.as rfl rfl <| K.nil <| At.next <| G.ret <| At.ren (fs' := [(2, .a (.c (.p 80 0)))]) (tl := ((0, rd S W0) :: (tkQueue 80 81 82 83 84 85 86 87 88 w2 []))) [(80, 109), (81, 110), (82, 111), (83, 112), (84, 113), (85, 114), (86, 115), (87, 116), (88, 117)] [_, _, _, _, _, _, _, _, _, _] rfl ⟨rfl, trivial⟩ ⟨rfl, (fun _ => rfl), rfl, (blk_ren rfl rfl), rfl, (blk_ren rfl rfl), rfl, (pl_ren rfl), rfl, (blk_ren rfl rfl), rfl, (pl_ren rfl), rfl, (blk_ren rfl rfl), rfl, (pl_ren rfl), rfl, (blk_ren rfl rfl), rfl, (pl_ren rfl), trivial⟩ rfl <| At.dr Y [2] rfl rfl (by cases H0; rfl) (by cases H0; rfl) rfl rfl rfl
theorem Lw13_Queue_con {k : Nat}  {S : Foot} {W0 : World} {s0 : Value} {l0 : List TOp} {r : TQueue} (hL0 : LArg S W0 s0 eTOp 4 l0) (H0 : Lw13_Queue.f k l0 = some r) (m80 m81 m82 m83 m84 m85 m86 m87 m88 : Nat) (hd : ndB [m80, m81, m82, m83, m84, m85, m86, m87, m88] = true) : Lw13_Queue_st S W0 s0 r m80 m81 m82 m83 m84 m85 m86 m87 m88 :=
 SCon.ren (rn [(80, m80), (81, m81), (82, m82), (83, m83), (84, m84), (85, m85), (86, m86), (87, m87), (88, m88)]) (Lw13_Queue_con0 (k := k)  hL0 H0) ⟨(fun _ => rfl), trivial⟩ ⟨(fun _ => rfl), (blk_ren rfl rfl), (blk_ren rfl rfl), (pl_ren rfl), (blk_ren rfl rfl), (pl_ren rfl), (blk_ren rfl rfl), (pl_ren rfl), (blk_ren rfl rfl), (pl_ren rfl), trivial⟩ (rn_nd hd rfl rfl) (rn_ks hd rfl rfl rfl)
abbrev R13_Queue_st (S : Foot) (W0 : World) (s0 : Value) (a1 : Int) (r : List TOp) (m30 : Nat) : Prop := SCon Tryz.prog 45 [SV.raw s0, .a (.c (.v (.int .i64 a1)))] [(0, rd S W0)] (.a (.c (.nv m30))) [(0, rd S W0), (m30, lrow m30 42 eTOp 4 r)] [m30]
theorem R13_Queue_con0 {k : Nat}  {S : Foot} {W0 : World} {s0 : Value} {l0 : List Int} {a1 : Int} {r : List TOp} (hL0 : LArg S W0 s0 intE 1 l0) (H0 : R13_Queue.f k l0 a1 = some r) : R13_Queue_st S W0 s0 a1 r 30 := by
 rw [R13_Queue.f] at H0
 obtain ⟨b0, o0, hI0⟩ := hL0
 refine spec_of [(0, _), (1, _)] [(0, _)] 37 Tryz.func45 rfl Tryz.ntmps45 rfl rfl rfl rfl (fun β W F => ?_)
 refine G.seq <| G.rg <| K.nilRow 100 42 eTOp 4 (.inl rfl) g0 rfl rfl rfl <| K.nil <| At.nr <| K.nilRow 101 42 eTOp 4 (.inl rfl) g0 rfl rfl rfl <| K.nil <| At.next ?_
 obtain ⟨x1, H1, H0⟩ := bnd H0
 refine G.sJ (σ := { v : List TOp // x1 = v }) (fun q => [(5, .a (.c (.nv 102)))]) (fun q => [(0, rd S W0), (102, lrow 102 42 eTOp 4 q.1)]) ?_ ?_
 ·
  refine G.seq <| G.rg <| K.as rfl rfl <| K.nil <| At.next <| G.block <| G.lp (σ := { q : Nat × (List TOp × Int) // R13_Queue.l0 k l0 a1 q.1 q.2 = some x1 }) (fun q => [(0, SV.raw s0), (1, .a (.c (.v (.int .i64 a1)))), (5, .a (.c (.nv 105))), (6, .a (.c (.v (.int .i64 q.1.2.2))))]) (fun q => [(0, rd S W0), (105, lrow 105 42 eTOp 4 q.1.2.1)]) (fun q => q.1.1) ⟨(k, (([] : List TOp), 0)), H1⟩ ?_ ?_
  · exact At.into [(105, 101)] [_, _] rfl ⟨rfl, rfl, rfl, rfl, trivial⟩ ⟨rfl, (fun _ => rfl), rfl, (lrow_ren rfl), trivial⟩ rfl
  ·
   rintro ⟨⟨n0, v1, v2⟩, H1⟩
   show G _ _ [(0, SV.raw s0), (1, .a (.c (.v (.int .i64 a1)))), (5, .a (.c (.nv 105))), (6, .a (.c (.v (.int .i64 v2))))] [(0, some (rd S W0)), (105, some (lrow 105 42 eTOp 4 v1))] _ _
   cases n0 with
   | zero => exact absurd H1 (by simp [R13_Queue.l0])
   | succ n0 =>
    have HL0 := H1
    rw [R13_Queue.l0] at H1
    refine G.seq <| G.seq <| G.rg <| K.mv rfl rfl <| K.mv rfl rfl <| K.lenL (rV 0 S W0 s0 b0 o0 intE 1 l0) (hI0.is 0) g0 rfl rfl Tryz.underlying85 rfl <| K.bin (V := .bool (decide (v2 < (l0.length : Int)))) g0 rfl rfl (fun _ => rfl) rfl <| K.nil <| At.next <| G.cond rfl (fun h1 => ?_) (fun h1 => ?_)
    ·
     replace H1 := bif_t H1 h1
     refine G.skip <| At.ns <| G.block <| G.seq ?_
     obtain ⟨x2, hx2, H1⟩ := bnd H1
     refine G.rg <| K.mv rfl rfl <| K.mv rfl rfl <| K.idxL (rV 0 S W0 s0 b0 o0 intE 1 l0) ((v2).toNat) (hI0.is 0) (atL_get hx2) (atL_nn hx2) g0 rfl rfl rfl Tryz.underlying85 el85.size_run rfl <| K.load1L Y (rV 0 S W0 s0 b0 o0 intE 1 l0) ((v2).toNat) 0 (hI0.is 0) (atL_get hx2) g0 rfl rfl t3 rfl rfl <| K.bin (V := .bool (decide (x2 < 0))) g0 rfl rfl (fun _ => rfl) rfl <| K.nil <| At.next <| G.cond rfl (fun h2 => ?_) (fun h2 => ?_)
     ·
      replace H1 := bif_t H1 h2
      obtain ⟨h3, H1⟩ := grd H1
      exact G.rg <| K.mv rfl rfl <| K.mv rfl rfl <| K.build Y [(0, _)] [_, _, _, _] [((.tmp 19), _)] g0 (AllE.spec ⟨rfl, trivial⟩) rfl rfl t42 rfl rfl <| K.buildL Y 106 ([(TOp.mk v2 false zTItem)] : List TOp) [(0, _)] [((.tmp 20), _)] eTOp_len g0 (AllE.spec ⟨rfl, trivial⟩) rfl rfl Tryz.underlying26 t42 rfl rfl rfl rfl rfl rfl rfl rfl <| K.appendL 107 (lrowV 106 42 eTOp 4 ([(TOp.mk v2 false zTItem)] : List TOp)) _ el26 (lrowV_is eTOp_len (by decide)) eTOp_one g0 rfl rfl rfl rfl rfl (ap_m h3) (ap_b h3 (by decide)) rfl rfl rfl rfl rfl rfl <| K.as rfl rfl <| K.nil <| At.block_normal <| At.next <| G.rg <| K.mv rfl rfl <| K.bin (V := .int .i64 (w64 (v2 + 1))) g0 rfl rfl (fun _ => rfl) rfl <| K.as rfl rfl <| K.nil <| At.ag ⟨(n0, ((v1 ++ ([(TOp.mk v2 false zTItem)] : List TOp)), (w64 (v2 + 1)))), H1⟩ [(105, 107)] [_, _] (Nat.lt_succ_self _) rfl ⟨rfl, rfl, rfl, rfl, trivial⟩ ⟨rfl, (fun _ => rfl), rfl, (lrow_ren rfl), trivial⟩ rfl
     ·
      replace H1 := bif_f H1 h2
      obtain ⟨h4, H1⟩ := grd H1
      exact G.rg <| K.mv rfl rfl <| K.mv rfl rfl <| K.mv rfl rfl <| K.mv rfl rfl <| K.idxL (rV 0 S W0 s0 b0 o0 intE 1 l0) ((v2).toNat) (hI0.is 0) (atL_get hx2) (atL_nn hx2) g0 rfl rfl rfl Tryz.underlying85 el85.size_run rfl <| K.load1L Y (rV 0 S W0 s0 b0 o0 intE 1 l0) ((v2).toNat) 0 (hI0.is 0) (atL_get hx2) g0 rfl rfl t3 rfl rfl <| K.mv rfl rfl <| K.mv rfl rfl <| K.bin (V := .int .i64 (w64 (a1 + v2))) g0 rfl rfl (fun _ => rfl) rfl <| K.build Y [(0, _), (1, _)] [_, _] [((.tmp 28), _), ((.tmp 31), _)] g0 (AllE.spec ⟨rfl, rfl, trivial⟩) rfl rfl t30 rfl rfl <| K.build Y [(0, _), (1, _), (2, _)] [_, _, _, _] [((.tmp 24), _), (_, _), ((.tmp 32), _)] g0 (AllE.spec ⟨rfl, rfl, rfl, trivial⟩) rfl rfl t42 rfl rfl <| K.buildL Y 108 ([(TOp.mk v2 true (TItem.mk x2 (w64 (a1 + v2))))] : List TOp) [(0, _)] [((.tmp 33), _)] eTOp_len g0 (AllE.spec ⟨rfl, trivial⟩) rfl rfl Tryz.underlying26 t42 rfl rfl rfl rfl rfl rfl rfl rfl <| K.appendL 109 (lrowV 108 42 eTOp 4 ([(TOp.mk v2 true (TItem.mk x2 (w64 (a1 + v2))))] : List TOp)) _ el26 (lrowV_is eTOp_len (by decide)) eTOp_one g0 rfl rfl rfl rfl rfl (ap_m h4) (ap_b h4 (by decide)) rfl rfl rfl rfl rfl rfl <| K.as rfl rfl <| K.nil <| At.block_normal <| At.next <| G.rg <| K.mv rfl rfl <| K.bin (V := .int .i64 (w64 (v2 + 1))) g0 rfl rfl (fun _ => rfl) rfl <| K.as rfl rfl <| K.nil <| At.ag ⟨(n0, ((v1 ++ ([(TOp.mk v2 true (TItem.mk x2 (w64 (a1 + v2))))] : List TOp)), (w64 (v2 + 1)))), H1⟩ [(105, 109)] [_, _] (Nat.lt_succ_self _) rfl ⟨rfl, rfl, rfl, rfl, trivial⟩ ⟨rfl, (fun _ => rfl), rfl, (lrow_ren rfl), trivial⟩ rfl
    ·
     replace H1 := bif_f H1 h1
     exact G.exit <| At.over_exit <| At.over_exit <| At.block_hit <| At.jd ⟨v1, oi H1⟩ [(102, 105)] [_, _] rfl ⟨rfl, trivial⟩ ⟨rfl, (fun _ => rfl), rfl, (lrow_ren rfl), trivial⟩ rfl
 ·
  rintro ⟨_, rfl⟩
  show G _ _ [(5, .a (.c (.nv 102)))] [(0, some (rd S W0)), (102, some (lrow 102 42 eTOp 4 x1))] _ _
  exact G.seq <| G.rg <| K.mv rfl rfl <| K.as rfl rfl <| K.nil <| At.next <| G.ret <| At.ren (fs' := [(4, .a (.c (.nv 30)))]) (tl := [(0, rd S W0), (30, lrow 30 42 eTOp 4 x1)]) [(30, 102)] [_, _] rfl ⟨rfl, trivial⟩ ⟨rfl, (fun _ => rfl), rfl, (lrow_ren rfl), trivial⟩ rfl <| At.dr Y [4] rfl rfl (by cases H0; rfl) (by cases H0; rfl) rfl rfl rfl
theorem R13_Queue_con {k : Nat}  {S : Foot} {W0 : World} {s0 : Value} {l0 : List Int} {a1 : Int} {r : List TOp} (hL0 : LArg S W0 s0 intE 1 l0) (H0 : R13_Queue.f k l0 a1 = some r) (m30 : Nat) (hd : ndB [m30] = true) : R13_Queue_st S W0 s0 a1 r m30 :=
 SCon.ren (rn [(30, m30)]) (R13_Queue_con0 (k := k)  hL0 H0) ⟨(fun _ => rfl), trivial⟩ ⟨(fun _ => rfl), (lrow_ren rfl), trivial⟩ (rn_nd hd rfl rfl) (rn_ks hd rfl rfl rfl)
abbrev fuse_None_st (A : List (Nat → Nat)) (r : TViews) (m60 : Nat) : Prop := SCon Tryz.prog 43 [] [] (.a (.agg [.nv m60])) [(m60, lrow m60 140 (eTPart A) 4 (r.parts))] [m60]
theorem fuse_None_con0 {k : Nat}  {A : List (Nat → Nat)} {r : TViews}  (H0 : fuse_None.f k = some r) : fuse_None_st A r 60 := by
 rw [fuse_None.f] at H0
 refine spec_of [] [] 2 Tryz.func43 rfl Tryz.ntmps43 rfl rfl rfl rfl (fun β W F => ?_)
 refine G.seq <| G.rg <| K.alloc Y 100 _ g0 t81 rfl rfl rfl rfl rfl <| K.nil <| At.nilBlk (n := 100) (l' := [_]) 0 101 140 (eTPart A) 4 rfl rfl rfl rfl rfl <| At.nr <| K.build Y [] [_] [] g0 (AllE.spec trivial) rfl rfl t81 rfl rfl <| K.store Y _ g0 rfl rfl rfl t81 rfl rfl rfl rfl rfl <| K.nil <| At.nilAgg (t := 1) (l' := [_]) 0 102 140 (eTPart A) 4 rfl rfl rfl rfl rfl <| At.nilBlk (n := 100) (l' := [_]) 0 103 140 (eTPart A) 4 rfl rfl rfl rfl rfl <| At.next <| G.ret <| At.ren (fs' := [(0, .a (.c (.p 100 0)))]) (tl := [(60, lrow 60 140 (eTPart A) 4 ([] : List TPart)), (100, blk 100 [.nv 60] 81)]) [(60, 103)] [_, _] rfl ⟨rfl, trivial⟩ ⟨rfl, (lrow_ren rfl), rfl, (blk_ren rfl rfl), trivial⟩ rfl <| At.done Y [(.cell 0 81, .agg [_])] rfl ⟨.st rfl rfl t81 rfl rfl, trivial⟩ (to' := [(60, _)]) ⟨rfl, trivial⟩ ?_ ?_ rfl rfl rfl (.inl rfl)
 · cases H0; rfl
 · cases H0; rfl
theorem fuse_None_con {k : Nat}  {A : List (Nat → Nat)} {r : TViews}  (H0 : fuse_None.f k = some r) (m60 : Nat) (hd : ndB [m60] = true) : fuse_None_st A r m60 :=
 SCon.ren (rn [(60, m60)]) (fuse_None_con0 (k := k)   H0) trivial ⟨(lrow_ren rfl), trivial⟩ (rn_nd hd rfl rfl) (rn_ks hd rfl rfl rfl)
abbrev Lw13_awake_st (r : Bool) : Prop := SCon Tryz.prog 41 [] [] (.a (.c (.v (.bool r)))) [] []
theorem Lw13_awake_con0 {k : Nat}  {r : Bool}  (H0 : Lw13_awake.f k = some r) : Lw13_awake_st r := by
 rw [Lw13_awake.f] at H0
 refine spec_of [] [] 39 Tryz.func41 rfl Tryz.ntmps41 rfl rfl rfl rfl (fun β W F => ?_)
 refine G.seq <| G.rg <| K.as rfl rfl <| K.nil ?_
 obtain ⟨A, hA_⟩ : ∃ A : List (Nat → Nat), A = [] := ⟨_, rfl⟩
 have hL_9 : A.length = ([] : List TQueue).length := by rw [hA_]; rfl
 refine At.ent [] [(19, hp 19 tq A [])] [] (by rw [hA_]; exact hp_nil tq 19) trivial rfl rfl rfl rfl <| At.ns ?_
 obtain ⟨x1, hx1, H0⟩ := bnd H0
 obtain ⟨x2, hx2, H0⟩ := bnd H0
 obtain ⟨x3, hx3, H0⟩ := bnd H0
 obtain ⟨x4, hx4, H0⟩ := bnd H0
 refine G.rg <| K.buildL Y 100 ([4, 5] : List Int) [(0, _), (1, _)] [(_, _), (_, _)] intE_len g0 (AllE.spec ⟨rfl, rfl, trivial⟩) rfl rfl Tryz.underlying85 t3 rfl rfl rfl rfl rfl rfl rfl rfl <| K.cV (cf 45 rfl) [100] (fun β w S2 h => R13_Queue_con (la 0 rfl intE_len rfl h) hx1 101 rfl) g0 (fun _ => rfl) rfl rfl rfl <| K.cV (cf 44 rfl) [101] (fun β w S2 h => Lw13_Queue_con (la 0 rfl eTOp_len rfl h) hx2 102 103 104 105 106 107 108 109 110 rfl) g0 (fun _ => rfl) rfl rfl rfl <| K.buildL Y 111 ([(-1), 3, (-1)] : List Int) [(0, _), (1, _), (2, _)] [(_, _), (_, _), (_, _)] intE_len g0 (AllE.spec ⟨rfl, rfl, rfl, trivial⟩) rfl rfl Tryz.underlying85 t3 rfl rfl rfl rfl rfl rfl rfl rfl <| K.cV (cf 45 rfl) [111] (fun β w S2 h => R13_Queue_con (la 0 rfl intE_len rfl h) hx3 112 rfl) g0 (fun _ => rfl) rfl rfl rfl <| K.cV (cf 44 rfl) [112] (fun β w S2 h => Lw13_Queue_con (la 0 rfl eTOp_len rfl h) hx4 113 114 115 116 117 118 119 120 121 rfl) g0 (fun _ => rfl) rfl rfl rfl <| K.as rfl rfl <| K.as rfl rfl <| K.nil <| At.ent ((19, hp 19 tq A ([] : List TQueue)) :: tkQueue 102 103 104 105 106 107 108 109 110 x2 []) _ [] (tq_add 19 102 103 104 105 106 107 108 109 110 x2 hL_9) ⟨rfl, rfl, rfl, rfl, rfl, rfl, rfl, rfl, rfl, rfl, trivial⟩ rfl rfl rfl rfl <| At.fix (j0 := 1) (t := 1) 19 rfl rfl (by decide) (fun a_ => ?_)
 rw [hA_new a_ hL_9]
 have hL_9 := len_grow hL_9 a_ x2
 obtain ⟨A, hA_⟩ : ∃ B, B = A ++ [a_] := ⟨_, rfl⟩
 rw [← hA_] at hL_9 ⊢
 obtain ⟨h1, H0⟩ := grd H0
 refine At.ent ((19, hp 19 tq A (([] : List TQueue) ++ [x2])) :: tkQueue 113 114 115 116 117 118 119 120 121 x4 []) _ [] (tq_add 19 113 114 115 116 117 118 119 120 121 x4 hL_9) ⟨rfl, rfl, rfl, rfl, rfl, rfl, rfl, rfl, rfl, rfl, trivial⟩ rfl rfl rfl rfl <| At.fix (j0 := 1) (t := 2) 19 rfl rfl (by decide) (fun a_ => ?_)
 rw [show hA A (THp.mk ([] : List TQueue).length 1) = hA (A ++ [a_]) (THp.mk ([] : List TQueue).length 1) from (hA_grow a_ (by rw [hL_9]; exact h1)).symm]
 rw [hA_new a_ hL_9]
 have hL_9 := len_grow hL_9 a_ x4
 obtain ⟨A, hA_⟩ : ∃ B, B = A ++ [a_] := ⟨_, rfl⟩
 rw [← hA_] at hL_9 ⊢
 refine At.ns <| G.seq <| G.rg <| K.mv rfl rfl <| K.bin (V := .bool false) g0 rfl rfl (pn_eql_some Tryz.underlying24 _) rfl <| K.mv rfl rfl <| K.move (.inl rfl) (g1 rfl rfl rfl) rfl rfl <| K.bin (V := .bool false) (g1 rfl rfl rfl) rfl rfl (pn_eql_some Tryz.underlying24 _) rfl <| K.pickF g0 rfl (rfl) rfl rfl <| K.nil <| At.next <| G.cond rfl (fun h2 => ?_) (fun h2 => ?_)
 · cases h2
 ·
  refine G.skip <| At.ns ?_
  obtain ⟨x5, hx5, H0⟩ := bnd H0
  obtain ⟨x6, hx6, H0⟩ := bnd H0
  obtain ⟨x7, hx7, H0⟩ := bnd H0
  refine G.rg <| K.c0 (cf 43 rfl) (fuse_None_con (A := A) (k := k) hx5 122 rfl) g0 rfl rfl rfl rfl <| K.mv rfl rfl <| K.cV (cf 47 rfl) [122] (fun β w S2 h => fuse_Views_Then_con (a0 := x5) hL_9 (la 0 rfl (eTPart_len A) rfl h) hx6 19 123 rfl) g0 (fun _ => rfl) rfl rfl rfl <| K.mv rfl rfl <| K.cV (cf 47 rfl) [123] (fun β w S2 h => fuse_Views_Then_con (a0 := x6) hL_9 (la 0 rfl (eTPart_len A) rfl h) hx7 19 124 rfl) g0 (fun _ => rfl) rfl rfl rfl <| K.alloc Y 125 _ g0 t81 rfl rfl rfl rfl rfl <| K.store Y _ g0 rfl rfl rfl t81 rfl rfl rfl rfl rfl <| K.nil <| At.ns ?_
  obtain ⟨x8, hx8, H0⟩ := bnd H0
  refine G.rg <| K.loadS Y _ g0 rfl rfl t81 rfl rfl rfl <| K.cV (cf 82 rfl) [124] (fun β w S2 h => fuse_Views_Min_con (a0 := x7) hL_9 (la 0 rfl (eTPart_len A) rfl h) hx8 19) g0 (fun _ => rfl) rfl rfl rfl <| K.mv rfl rfl <| K.extract g0 rfl rfl rfl <| K.extract g0 rfl rfl rfl <| K.alloc Y 126 _ g0 t30 rfl rfl rfl rfl rfl <| K.store Y _ g0 rfl rfl rfl t30 rfl rfl rfl rfl rfl <| K.as rfl rfl <| K.nil <| At.ns ?_
  rcases Bool.eq_false_or_eq_true x8.2 with h3 | h3
  ·
   replace H0 := bif_t H0 h3
   rcases Bool.eq_false_or_eq_true (x8.1.key == 5) with h4 | h4
   ·
    replace H0 := bif_t H0 h4
    obtain ⟨x9, hx9, H0⟩ := bnd H0
    exact G.rg <| K.mv rfl rfl <| K.mv rfl rfl <| K.fieldAddr Y (g1 rfl rfl h3) rfl t30 rfl rfl <| K.load1 Y (g1 rfl rfl h3) rfl rfl t3 rfl rfl <| K.bin (V := .bool (x8.1.key == 5)) (g1 rfl rfl h3) rfl rfl (fun _ => rfl) rfl <| K.pickT g0 rfl (h3) rfl rfl <| K.mv rfl rfl <| K.loadS Y _ (g1 rfl rfl h4) rfl rfl t81 rfl rfl rfl <| K.cV (cf 46 rfl) [124] (fun β w S2 h => fuse_Views_Len_con (a0 := x7) hL_9 (la 0 rfl (eTPart_len A) rfl h) hx9 19) (g1 rfl rfl h4) (fun _ => rfl) rfl rfl rfl <| K.bin (V := .bool (x9 == 1)) (g1 rfl rfl h4) rfl rfl (fun _ => rfl) rfl <| K.pickT g0 rfl (h4) rfl rfl <| K.as rfl rfl <| K.nil <| At.next <| G.ret <| At.dr Y [0] rfl rfl (by cases H0; rfl) (by cases H0; rfl) rfl rfl rfl
   ·
    replace H0 := bif_f H0 h4
    exact G.rg <| K.mv rfl rfl <| K.mv rfl rfl <| K.fieldAddr Y (g1 rfl rfl h3) rfl t30 rfl rfl <| K.load1 Y (g1 rfl rfl h3) rfl rfl t3 rfl rfl <| K.bin (V := .bool (x8.1.key == 5)) (g1 rfl rfl h3) rfl rfl (fun _ => rfl) rfl <| K.pickT g0 rfl (h3) rfl rfl <| K.mv rfl rfl <| K.sk rfl rfl h4 rfl <| K.sk rfl rfl h4 rfl <| K.sk rfl rfl h4 rfl <| K.pickF g0 rfl (h4) rfl rfl <| K.as rfl rfl <| K.nil <| At.next <| G.ret <| At.dr Y [0] rfl rfl (by cases H0; rfl) (by cases H0; rfl) rfl rfl rfl
  ·
   replace H0 := bif_f H0 h3
   exact G.rg <| K.mv rfl rfl <| K.mv rfl rfl <| K.sk rfl rfl h3 rfl <| K.sk rfl rfl h3 rfl <| K.sk rfl rfl h3 rfl <| K.pickF g0 rfl (h3) rfl rfl <| K.mv rfl rfl <| K.sk rfl rfl rfl rfl <| K.sk rfl rfl rfl rfl <| K.sk rfl rfl rfl rfl <| K.pickF g0 rfl (rfl) rfl rfl <| K.as rfl rfl <| K.nil <| At.next <| G.ret <| At.dr Y [0] rfl rfl (by cases H0; rfl) (by cases H0; rfl) rfl rfl rfl
theorem Lw13_awake_con {k : Nat}  {r : Bool}  (H0 : Lw13_awake.f k = some r) : Lw13_awake_st r :=
 SCon.ren (rn []) (Lw13_awake_con0 (k := k)   H0) trivial trivial (by simp) (by simp)
abbrev Lw13_small_st (S : Foot) (W0 : World) (s0 : Value) (r : Bool) : Prop := SCon Tryz.prog 42 [SV.raw s0] [(0, rd S W0)] (.a (.c (.v (.bool r)))) [(0, rd S W0)] []
theorem Lw13_small_con0 {k : Nat}  {S : Foot} {W0 : World} {s0 : Value} {l0 : List (List Int)} {r : Bool} (hL0 : LL S W0 s0 intE 1 l0) (H0 : Lw13_small.f k l0 = some r) : Lw13_small_st S W0 s0 r := by
 rw [Lw13_small.f] at H0
 obtain ⟨vs0, ⟨b0, o0, hI0⟩, hin0⟩ := hL0
 refine spec_of [(0, _)] [(0, _)] 19 Tryz.func42 rfl Tryz.ntmps42 rfl rfl rfl rfl (fun β W F => ?_)
 refine G.seq <| G.rg <| K.as rfl rfl <| K.nil <| At.ns <| G.seq <| G.rg <| K.mv rfl rfl <| K.lenE (rV 0 S W0 s0 b0 o0 vE 1 vs0) (l0.length : Int) (hI0.is 0) hin0.len g0 rfl rfl Tryz.underlying77 rfl <| K.bin (V := .bool (decide ((l0.length : Int) > 8))) g0 rfl rfl (fun _ => rfl) rfl <| K.nil <| At.next <| G.cond rfl (fun h1 => ?_) (fun h1 => ?_)
 ·
  replace H0 := bif_t H0 h1
  exact G.seq <| G.rg <| K.as rfl rfl <| K.nil <| At.next <| G.ret <| At.over_ret <| At.dr Y [2] rfl rfl (by cases H0; rfl) (by cases H0; rfl) rfl rfl rfl
 ·
  replace H0 := bif_f H0 h1
  refine G.skip <| At.next ?_
  obtain ⟨x1, H1, H0⟩ := bnd H0
  refine G.sJ (σ := { v : Unit // x1 = Sum.inr v }) (fun q => []) (fun q => [(0, rd S W0)]) ?_ ?_
  ·
   refine G.seq <| G.rg <| K.as rfl rfl <| K.nil <| At.next <| G.block <| G.lp (σ := { q : Nat × (Int) // Lw13_small.l0 k l0 q.1 q.2 = some x1 }) (fun q => [(0, SV.raw s0), (3, .a (.c (.v (.int .i64 q.1.2))))]) (fun q => [(0, rd S W0)]) (fun q => q.1.1) ⟨(k, 0), H1⟩ ?_ ?_
   · exact At.into [] [_] rfl ⟨rfl, rfl, trivial⟩ ⟨rfl, (fun _ => rfl), trivial⟩ rfl
   ·
    rintro ⟨⟨n0, v1⟩, H1⟩
    show G _ _ [(0, SV.raw s0), (3, .a (.c (.v (.int .i64 v1))))] [(0, some (rd S W0))] _ _
    cases n0 with
    | zero => exact absurd H1 (by simp [Lw13_small.l0])
    | succ n0 =>
     have HL0 := H1
     rw [Lw13_small.l0] at H1
     refine G.seq <| G.seq <| G.rg <| K.mv rfl rfl <| K.mv rfl rfl <| K.lenE (rV 0 S W0 s0 b0 o0 vE 1 vs0) (l0.length : Int) (hI0.is 0) hin0.len g0 rfl rfl Tryz.underlying77 rfl <| K.bin (V := .bool (decide (v1 < (l0.length : Int)))) g0 rfl rfl (fun _ => rfl) rfl <| K.nil <| At.next <| G.cond rfl (fun h2 => ?_) (fun h2 => ?_)
     ·
      replace H1 := bif_t H1 h2
      refine G.skip <| At.ns <| G.block <| G.seq ?_
      obtain ⟨x2, hx2, H1⟩ := bnd H1
      obtain ⟨ao_h3, cap_h3, b_h3, o_h3, hw_h3, hI_h3⟩ := hin0.at hx2
      refine G.rg <| K.mv rfl rfl <| K.mv rfl rfl <| K.idxL (rV 0 S W0 s0 b0 o0 vE 1 vs0) ((v1).toNat) (hI0.is 0) hw_h3 (atL_nn hx2) g0 rfl rfl rfl Tryz.underlying77 el77.size_run rfl <| K.load1L Y (rV 0 S W0 s0 b0 o0 vE 1 vs0) ((v1).toNat) 0 (hI0.is 0) hw_h3 g0 rfl rfl t85 rfl rfl <| K.lenL (rV 0 S W0 (Value.slice ao_h3 x2.length cap_h3) b_h3 o_h3 intE 1 x2) (hI_h3.is 0) g0 rfl rfl Tryz.underlying85 rfl <| K.bin (V := .bool (decide ((x2.length : Int) > 25))) g0 rfl rfl (fun _ => rfl) rfl <| K.nil <| At.next <| G.cond rfl (fun h5 => ?_) (fun h5 => ?_)
      ·
       replace H1 := bif_t H1 h5
       refine G.seq <| G.rg <| K.as rfl rfl <| K.nil <| At.next <| G.ret <| At.block_ret <| At.over_ret <| At.over_ret <| At.block_ret <| At.over_ret ?_
       cases H1
       replace H0 := sum_l H0
       exact At.dr Y [2] rfl rfl (by cases H0; rfl) (by cases H0; rfl) rfl rfl rfl
      ·
       replace H1 := bif_f H1 h5
       exact G.skip <| At.block_normal <| At.next <| G.rg <| K.mv rfl rfl <| K.bin (V := .int .i64 (w64 (v1 + 1))) g0 rfl rfl (fun _ => rfl) rfl <| K.as rfl rfl <| K.nil <| At.ag ⟨(n0, (w64 (v1 + 1))), H1⟩ [] [_] (Nat.lt_succ_self _) rfl ⟨rfl, rfl, trivial⟩ ⟨rfl, (fun _ => rfl), trivial⟩ rfl
     ·
      replace H1 := bif_f H1 h2
      exact G.exit <| At.over_exit <| At.over_exit <| At.block_hit <| At.jd ⟨(), oi H1⟩ [] [_] rfl trivial ⟨rfl, (fun _ => rfl), trivial⟩ rfl
  ·
   rintro ⟨w1, rfl⟩
   replace H0 := sum_r H0
   show G _ _ [] [(0, some (rd S W0))] _ _
   exact G.seq <| G.rg <| K.as rfl rfl <| K.nil <| At.next <| G.ret <| At.dr Y [2] rfl rfl (by cases H0; rfl) (by cases H0; rfl) rfl rfl rfl
theorem Lw13_small_con {k : Nat}  {S : Foot} {W0 : World} {s0 : Value} {l0 : List (List Int)} {r : Bool} (hL0 : LL S W0 s0 intE 1 l0) (H0 : Lw13_small.f k l0 = some r) : Lw13_small_st S W0 s0 r :=
 SCon.ren (rn []) (Lw13_small_con0 (k := k)  hL0 H0) ⟨(fun _ => rfl), trivial⟩ ⟨(fun _ => rfl), trivial⟩ (by simp) (by simp)
abbrev Lw13_FuseCounts_st (S : Foot) (W0 : World) (s0 : Value) (r : Bool) : Prop := SCon Tryz.prog 9 [SV.raw s0] [(0, rd S W0)] (.a (.c (.v (.bool r)))) [(0, rd S W0)] []
theorem Lw13_FuseCounts_con0 {k : Nat}  {S : Foot} {W0 : World} {s0 : Value} {l0 : List (List Int)} {r : Bool} (hL0 : LL S W0 s0 intE 1 l0) (H0 : Lw13_FuseCounts.f k l0 = some r) : Lw13_FuseCounts_st S W0 s0 r := by
 rw [Lw13_FuseCounts.f] at H0
 obtain ⟨vs0, ⟨b0, o0, hI0⟩, hin0⟩ := hL0
 refine spec_of [(0, _)] [(0, _)] 53 Tryz.func9 rfl Tryz.ntmps9 rfl rfl rfl rfl (fun β W F => ?_)
 refine G.seq <| G.rg <| K.as rfl rfl <| K.nil ?_
 obtain ⟨A, hA_⟩ : ∃ A : List (Nat → Nat), A = [] := ⟨_, rfl⟩
 have hL_9 : A.length = ([] : List TQueue).length := by rw [hA_]; rfl
 refine At.ent [] [(19, hp 19 tq A [])] [] (by rw [hA_]; exact hp_nil tq 19) trivial rfl rfl rfl rfl <| At.ns <| G.seq ?_
 obtain ⟨x1, hx1, H0⟩ := bnd H0
 rcases Bool.eq_false_or_eq_true (!x1) with h1 | h1
 ·
  replace H0 := bif_t H0 h1
  refine G.rg <| K.cR (cf 41 rfl) (Lw13_awake_con hx1) g0 rfl rfl rfl rfl <| K.un (V := .bool (!x1)) g0 rfl (fun _ => rfl) rfl <| K.mv rfl rfl <| K.sk rfl rfl h1 rfl <| K.sk rfl rfl h1 rfl <| K.sk rfl rfl h1 rfl <| K.pickT g0 rfl (h1) rfl rfl <| K.nil <| At.next <| G.cond rfl (fun h2 => ?_) (fun h2 => ?_)
  ·
   refine G.seq ?_
   obtain ⟨x2, hx2, H0⟩ := bnd H0
   exact G.rg <| K.cR (cf 41 rfl) (Lw13_awake_con hx2) g0 rfl rfl rfl rfl <| K.as rfl rfl <| K.nil <| At.next <| G.ret <| At.over_ret <| At.dr Y [2] rfl rfl (by cases H0; rfl) (by cases H0; rfl) rfl rfl rfl
  · cases h2
 ·
  replace H0 := bif_f H0 h1
  obtain ⟨x3, hx3, H0⟩ := bnd H0
  refine G.rg <| K.cR (cf 41 rfl) (Lw13_awake_con hx1) g0 rfl rfl rfl rfl <| K.un (V := .bool (!x1)) g0 rfl (fun _ => rfl) rfl <| K.mv rfl rfl <| K.move (.inl rfl) (g1 rfl rfl h1) rfl rfl <| K.cV (cf 42 rfl) [0] (fun β w S2 h => Lw13_small_con (rd_ll 0 rfl h ⟨_, ⟨_, _, hI0⟩, hin0⟩) hx3) (g1 rfl rfl h1) (fun _ => rfl) rfl rfl rfl <| K.un (V := .bool (!x3)) (g1 rfl rfl h1) rfl (fun _ => rfl) rfl <| K.pickF g0 rfl (h1) rfl rfl <| K.nil <| At.next <| G.cond rfl (fun h3 => ?_) (fun h3 => ?_)
  ·
   replace H0 := bif_t H0 h3
   refine G.seq ?_
   obtain ⟨x4, hx4, H0⟩ := bnd H0
   exact G.rg <| K.cR (cf 41 rfl) (Lw13_awake_con hx4) g0 rfl rfl rfl rfl <| K.as rfl rfl <| K.nil <| At.next <| G.ret <| At.over_ret <| At.dr Y [2] rfl rfl (by cases H0; rfl) (by cases H0; rfl) rfl rfl rfl
  ·
   replace H0 := bif_f H0 h3
   refine G.skip <| At.ns ?_
   obtain ⟨x5, hx5, H0⟩ := bnd H0
   refine G.rg <| K.c0 (cf 43 rfl) (fuse_None_con (A := A) (k := k) hx5 100 rfl) g0 rfl rfl rfl rfl <| K.alloc Y 101 _ g0 t81 rfl rfl rfl rfl rfl <| K.store Y _ g0 rfl rfl rfl t81 rfl rfl rfl rfl rfl <| K.nil <| At.next ?_
   obtain ⟨x6, H1, H0⟩ := bnd H0
   refine G.sJ (σ := { v : Unit // x6 = Sum.inr v }) (fun q => []) (fun q => [(0, rd S W0)]) ?_ ?_
   ·
    refine G.seq <| G.rg <| K.as rfl rfl <| K.nil <| At.next <| G.block <| G.lp (σ := { q : Nat × (List TPart × Int × List TQueue) × List (Nat → Nat) // Lw13_FuseCounts.l0 k l0 q.1 q.2.1 = some x6 ∧ q.2.2.length = q.2.1.2.2.length }) (fun q => [(0, SV.raw s0), (3, .a (.c (.p 106 0))), (4, .a (.c (.v (.int .i64 q.1.2.1.2.1))))]) (fun q => [(0, rd S W0), (107, lrow 107 140 (eTPart q.1.2.2) 4 q.1.2.1.1), (106, blk 106 [.nv 107] 81), (19, hp 19 tq q.1.2.2 q.1.2.1.2.2)]) (fun q => q.1.1) ⟨(k, (x5.parts, 0, ([] : List TQueue)), A), H1, hL_9⟩ ?_ ?_
    · exact At.into [(106, 101), (107, 100)] [_, _, _, _] rfl ⟨rfl, rfl, rfl, trivial⟩ ⟨rfl, (fun _ => rfl), rfl, (lrow_ren rfl), rfl, (blk_ren rfl rfl), rfl, (fun _ => rfl), trivial⟩ rfl
    ·
     rintro ⟨⟨n0, ⟨v1, v2, v3⟩, A⟩, H1, hL_9⟩
     show G _ _ [(0, SV.raw s0), (3, .a (.c (.p 106 0))), (4, .a (.c (.v (.int .i64 v2))))] [(0, some (rd S W0)), (107, some (lrow 107 140 (eTPart A) 4 v1)), (106, some (blk 106 [.nv 107] 81)), (19, some (hp 19 tq A v3))] _ _
     cases n0 with
     | zero => exact absurd H1 (by simp [Lw13_FuseCounts.l0])
     | succ n0 =>
      have HL0 := H1
      rw [Lw13_FuseCounts.l0] at H1
      refine G.seq <| G.seq <| G.rg <| K.mv rfl rfl <| K.mv rfl rfl <| K.lenE (rV 0 S W0 s0 b0 o0 vE 1 vs0) (l0.length : Int) (hI0.is 0) hin0.len g0 rfl rfl Tryz.underlying77 rfl <| K.bin (V := .bool (decide (v2 < (l0.length : Int)))) g0 rfl rfl (fun _ => rfl) rfl <| K.nil <| At.next <| G.cond rfl (fun h4 => ?_) (fun h4 => ?_)
      ·
       replace H1 := bif_t H1 h4
       refine G.skip <| At.ns <| G.block <| G.seq ?_
       obtain ⟨x7, hx7, H1⟩ := bnd H1
       obtain ⟨ao_h5, cap_h5, b_h5, o_h5, hw_h5, hI_h5⟩ := hin0.at hx7
       obtain ⟨x8, hx8, H1⟩ := bnd H1
       obtain ⟨x9, hx9, H1⟩ := bnd H1
       refine G.rg <| K.mv rfl rfl <| K.mv rfl rfl <| K.idxL (rV 0 S W0 s0 b0 o0 vE 1 vs0) ((v2).toNat) (hI0.is 0) hw_h5 (atL_nn hx7) g0 rfl rfl rfl Tryz.underlying77 el77.size_run rfl <| K.load1L Y (rV 0 S W0 s0 b0 o0 vE 1 vs0) ((v2).toNat) 0 (hI0.is 0) hw_h5 g0 rfl rfl t85 rfl rfl <| K.mv rfl rfl <| K.bin (V := .int .i64 (w64 (100 * v2))) g0 rfl rfl (fun _ => rfl) rfl <| K.cV (cf 45 rfl) [0] (fun β w S2 h => R13_Queue_con ((hI_h5.isC 0).larg ⟨_, List.mem_cons_self⟩ h) hx8 108 rfl) g0 (fun _ => rfl) rfl rfl rfl <| K.cV (cf 44 rfl) [108] (fun β w S2 h => Lw13_Queue_con (la 0 rfl eTOp_len rfl h) hx9 109 110 111 112 113 114 115 116 117 rfl) g0 (fun _ => rfl) rfl rfl rfl <| K.as rfl rfl <| K.nil ?_
       obtain ⟨h7, H1⟩ := grd H1
       refine At.ent ((19, hp 19 tq A v3) :: tkQueue 109 110 111 112 113 114 115 116 117 x9 []) _ [] (tq_add 19 109 110 111 112 113 114 115 116 117 x9 hL_9) ⟨rfl, rfl, rfl, rfl, rfl, rfl, rfl, rfl, rfl, rfl, trivial⟩ rfl rfl rfl rfl <| At.fix (j0 := 1) (t := 5) 19 rfl rfl (by decide) (fun a_ => ?_)
       rw [parts_grow (k := 107) (l := v1) a_ hL_9 h7]
       rw [hA_new a_ hL_9]
       have hL_9 := len_grow hL_9 a_ x9
       obtain ⟨A, hA_⟩ : ∃ B, B = A ++ [a_] := ⟨_, rfl⟩
       rw [← hA_] at hL_9 ⊢
       refine At.ns <| G.seq <| G.rg <| K.mv rfl rfl <| K.bin (V := .bool false) g0 rfl rfl (pn_eql_some Tryz.underlying24 _) rfl <| K.nil <| At.next <| G.cond rfl (fun h8 => ?_) (fun h8 => ?_)
       · cases h8
       ·
        refine G.skip <| At.ns ?_
        obtain ⟨x10, hx10, H1⟩ := bnd H1
        obtain ⟨x11, hx11, H1⟩ := bnd H1
        obtain ⟨x12, hx12, H1⟩ := bnd H1
        obtain ⟨x13, hx13, H1⟩ := bnd H1
        obtain ⟨x14, hx14, H1⟩ := bnd H1
        obtain ⟨x15, hx15, H1⟩ := bnd H1
        obtain ⟨x16, hx16, H1⟩ := bnd H1
        refine G.rg <| K.loadS Y _ g0 rfl rfl t81 rfl rfl rfl <| K.cV (cf 46 rfl) [107] (fun β w S2 h => fuse_Views_Len_con (a0 := (TViews.mk v1)) hL_9 (la 0 rfl (eTPart_len A) rfl h) hx10 19) g0 (fun _ => rfl) rfl rfl rfl <| K.mv rfl rfl <| K.cR (cf 30 rfl) (onQueueP 19 6 (by decide) hL_9 hx11 (partial_Queue_Gone_con hx12 1 2 3 4 5 6 7 8 9) rfl) g0 rfl rfl rfl rfl <| K.cR (cf 31 rfl) (onTree 19 hL_9 hx13 (Tree_LenS_con hx14 4 5) (Tree_LenS_con hx14 6 7) rfl rfl rfl rfl) g0 rfl rfl rfl rfl <| K.bin (V := .int .i64 (w64 (x10 + x14))) g0 rfl rfl (fun _ => rfl) rfl <| K.mv rfl rfl <| K.cR (cf 29 rfl) (onQueue 19 hL_9 hx15 (partial_Queue_Deletes_con hx16 1 2 3 4 5 6 7 8 9) rfl rfl) g0 rfl rfl rfl rfl <| K.bin (V := .int .i64 (w64 ((w64 (x10 + x14)) - x16))) g0 rfl rfl (fun _ => rfl) rfl <| K.as rfl rfl <| K.nil <| At.ns ?_
        obtain ⟨x17, hx17, H1⟩ := bnd H1
        refine G.rg <| K.loadS Y _ g0 rfl rfl t81 rfl rfl rfl <| K.mv rfl rfl <| K.cV (cf 47 rfl) [107] (fun β w S2 h => fuse_Views_Then_con (a0 := (TViews.mk v1)) hL_9 (la 0 rfl (eTPart_len A) rfl h) hx17 19 118 rfl) g0 (fun _ => rfl) rfl rfl rfl <| K.store Y _ g0 rfl rfl rfl t81 rfl rfl rfl rfl rfl <| K.nil <| At.ns ?_
        obtain ⟨x18, hx18, H1⟩ := bnd H1
        obtain ⟨x19, hx19, H1⟩ := bnd H1
        obtain ⟨x20, hx20, H1⟩ := bnd H1
        obtain ⟨x21, hx21, H1⟩ := bnd H1
        obtain ⟨x22, hx22, H1⟩ := bnd H1
        refine G.rg <| K.loadS Y _ g0 rfl rfl t81 rfl rfl rfl <| K.cV (cf 46 rfl) [118] (fun β w S2 h => fuse_Views_Len_con (a0 := x17) hL_9 (la 0 rfl (eTPart_len A) rfl h) hx18 19) g0 (fun _ => rfl) rfl rfl rfl <| K.mv rfl rfl <| K.cR (cf 33 rfl) (onQueueP 19 4 (by decide) hL_9 hx19 (partial_Queue_Present_con hx20 1 2 3 4 5 6 7 8 9) rfl) g0 rfl rfl rfl rfl <| K.cR (cf 31 rfl) (onTree 19 hL_9 hx21 (Tree_LenS_con hx22 4 5) (Tree_LenS_con hx22 6 7) rfl rfl rfl rfl) g0 rfl rfl rfl rfl <| K.mv rfl rfl <| K.bi2 (V := .int .i64 (gmax (w64 ((w64 (x10 + x14)) - x16)) 0)) g0 rfl rfl (fun _ _ => rfl) rfl <| K.bin (V := .int .i64 (w64 (x22 + (gmax (w64 ((w64 (x10 + x14)) - x16)) 0)))) g0 rfl rfl (fun _ => rfl) rfl <| K.bin (V := .bool (x18 != (w64 (x22 + (gmax (w64 ((w64 (x10 + x14)) - x16)) 0))))) g0 rfl rfl (fun _ => rfl) rfl <| K.nil <| At.next <| G.cond rfl (fun h9 => ?_) (fun h9 => ?_)
        ·
         replace H1 := bif_t H1 h9
         refine G.seq <| G.rg <| K.as rfl rfl <| K.nil <| At.next <| G.ret <| At.block_ret <| At.over_ret <| At.over_ret <| At.block_ret <| At.over_ret ?_
         cases H1
         replace H0 := sum_l H0
         exact At.dr Y [2] rfl rfl (by cases H0; rfl) (by cases H0; rfl) rfl rfl rfl
        ·
         replace H1 := bif_f H1 h9
         exact G.skip <| At.block_normal <| At.next <| G.rg <| K.mv rfl rfl <| K.bin (V := .int .i64 (w64 (v2 + 1))) g0 rfl rfl (fun _ => rfl) rfl <| K.as rfl rfl <| K.nil <| At.ag ⟨(n0, (x17.parts, (w64 (v2 + 1)), (v3 ++ [x9])), A), H1, hL_9⟩ [(107, 118)] [_, _, _, _] (Nat.lt_succ_self _) rfl ⟨rfl, rfl, rfl, trivial⟩ ⟨rfl, (fun _ => rfl), rfl, (lrow_ren rfl), rfl, (blk_ren rfl rfl), rfl, (fun _ => rfl), trivial⟩ rfl
      ·
       replace H1 := bif_f H1 h4
       exact G.exit <| At.over_exit <| At.over_exit <| At.block_hit <| At.jd ⟨(), oi H1⟩ [] [_] rfl trivial ⟨rfl, (fun _ => rfl), trivial⟩ rfl
   ·
    rintro ⟨w6, rfl⟩
    replace H0 := sum_r H0
    show G _ _ [] [(0, some (rd S W0))] _ _
    refine G.seq <| G.rg <| K.as rfl rfl <| K.nil ?_
    obtain ⟨A, hA_⟩ : ∃ A : List (Nat → Nat), A = [] := ⟨_, rfl⟩
    have hL_9 : A.length = ([] : List TQueue).length := by rw [hA_]; rfl
    exact At.ent [] [(19, hp 19 tq A [])] [] (by rw [hA_]; exact hp_nil tq 19) trivial rfl rfl rfl rfl <| At.next <| G.ret <| At.dr Y [2] rfl rfl (by cases H0; rfl) (by cases H0; rfl) rfl rfl rfl
end Go.Proofs.YtpeoalmhccmdiaaGreat
namespace Go.Proofs.YtpeoalmhccmdiaaGreat.PQ
structure Cert (n : Nat) (G S : Nat → Prop) (lt : Nat → Nat → Prop) (H : Nat → Int) : Prop where
  low : ∀ p, p ≤ n → 0 ≤ H p
  fin : H n = 0
  two : ∀ i j, i < n → j < n → G i → S j → lt j i → ∃ b, i < b ∧ b ≤ j ∧ H b = 0
  free : 0 < H 0 → ∀ j, j < n → S j → ∃ b, b ≤ j ∧ H b = 0
structure More (n t : Nat) (G S : Nat → Prop) (lt : Nat → Nat → Prop) (H : Nat → Int) : Prop where
  le : t ≤ n
  low : ∀ p, p ≤ n → (if p < t then 0 else 1) ≤ H p
  fin : H n = 1
  two : ∀ i j, i < n → j < n → i + 1 ≠ t → G i → S j → lt j i → ∃ b, i < b ∧ b ≤ j ∧ H b = if b < t then 0 else 1
  free : 0 < H 0 → ∀ j, j < n → S j → ∃ b, b ≤ j ∧ H b = if b < t then 0 else 1
theorem More.none {n t : Nat} {G S : Nat → Prop} {lt : Nat → Nat → Prop} {H : Nat → Int} (h : More n t G S lt H) (hb : ∀ b, b < t → H b ≠ 0) : Cert n G S lt (fun p => H p - 1) := by
  have pos : ∀ p, p ≤ n → 1 ≤ H p := fun p hp => by
    have := h.low p hp
    by_cases e : p < t
    · rw [if_pos e] at this; have := hb p e; omega
    · rw [if_neg e] at this; exact this
  have lv : ∀ b, (H b = if b < t then 0 else 1) → H b - 1 = 0 ∧ t ≤ b := fun b hb' => by
    by_cases e : b < t
    · rw [if_pos e] at hb'; exact absurd hb' (hb b e)
    · rw [if_neg e] at hb'; omega
  refine ⟨fun p hp => by have := pos p hp; show 0 ≤ H p - 1; omega, by show H n - 1 = 0; rw [h.fin]; rfl, fun i j hi hj hg hs hl => ?_, fun _ j hj hs => ?_⟩
  · by_cases e : i + 1 = t
    · obtain ⟨b, h1, h2⟩ := h.free (by have := pos 0 (Nat.zero_le _); omega) j hj hs
      have := lv b h2
      exact ⟨b, by omega, h1, this.1⟩
    · obtain ⟨b, h1, h2, h3⟩ := h.two i j hi hj e hg hs hl
      exact ⟨b, h1, h2, (lv b h3).1⟩
  · obtain ⟨b, h1, h2⟩ := h.free (by have := pos 0 (Nat.zero_le _); omega) j hj hs
    exact ⟨b, h1, (lv b h2).1⟩
theorem More.some {n t : Nat} {G S : Nat → Prop} {lt : Nat → Nat → Prop} {H : Nat → Int} (tr : ∀ a b c, lt a b → lt b c → lt a c) (ir : ∀ a, ¬ lt a a) (h : More n t G S lt H) {b z : Nat} (hb : b < t) (hb0 : H b = 0) (hb1 : ∀ q, b < q → q < t → H q ≠ 0)
    (hz : b ≤ z) (hzn : z < n) (hzG : G z) (hzm : ∀ i, i < n → b ≤ i → G i → i = z ∨ lt i z) (hGS : ∀ i, G i → ¬ S i) :
    Cert n (fun i => G i ∧ i ≠ z) (fun i => S i ∨ i = z) lt (fun p => H p - if z < p then 1 else 0) := by
  have last : ∀ q, q < t → H q = 0 → q ≤ b := fun q h1 h2 => Classical.byContradiction fun hn => hb1 q (by omega) h1 h2
  refine ⟨fun p hp => ?_, ?_, fun i j hi hj hg hs hl => ?_, fun h0 j hj hs => ?_⟩
  · have h1 := h.low p hp
    show 0 ≤ H p - _
    by_cases e : z < p
    · rw [if_pos e]
      by_cases e' : p < t
      · have := hb1 p (by omega) e'; rw [if_pos e'] at h1; omega
      · rw [if_neg e'] at h1; omega
    · rw [if_neg e]; split at h1 <;> omega
  · show H n - _ = 0
    rw [if_pos hzn, h.fin]; rfl
  · show ∃ c, i < c ∧ c ≤ j ∧ H c - (if z < c then 1 else 0) = 0
    have hbr : ∀ c, z < c → (H c = if c < t then 0 else 1) → H c - (if z < c then 1 else 0) = 0 ∧ t ≤ c := fun c h1 h2 => by
      by_cases e : c < t
      · rw [if_pos e] at h2; have := last c e h2; omega
      · rw [if_neg e] at h2; rw [if_pos h1]; omega
    have b0 : H b - (if z < b then 1 else 0) = 0 := by rw [if_neg (by omega)]; omega
    have zj : z + 1 ≠ t → ∀ j, j < n → S j → lt j z → ∃ c, z < c ∧ c ≤ j ∧ t ≤ c ∧ H c - (if z < c then 1 else 0) = 0 := fun e j hj hs hl => by
      obtain ⟨c, h1, h2, h3⟩ := h.two z j hzn hj e hzG hs hl
      have := hbr c h1 h3; exact ⟨c, h1, h2, this.2, this.1⟩
    rcases hs with hs | rfl
    · by_cases e : i + 1 = t
      · have hiz : lt i z := (hzm i hi (by omega) hg.1).resolve_left hg.2
        obtain ⟨c, h1, h2, h3, h4⟩ := zj (fun e' => hg.2 (by omega)) j hj hs (tr _ _ _ hl hiz)
        exact ⟨c, by omega, h2, h4⟩
      · obtain ⟨c, h1, h2, h3⟩ := h.two i j hi hj e hg.1 hs hl
        by_cases e1 : z < c
        · exact ⟨c, h1, h2, (hbr c e1 h3).1⟩
        · by_cases e2 : c < t
          · rw [if_pos e2] at h3; exact ⟨c, h1, h2, by rw [if_neg e1]; omega⟩
          · by_cases e3 : b ≤ i
            · have hiz : lt i z := (hzm i hi e3 hg.1).resolve_left hg.2
              obtain ⟨c', h1', h2', h3', h4'⟩ := zj (by omega) j hj hs (tr _ _ _ hl hiz)
              exact ⟨c', by omega, h2', h4'⟩
            · exact ⟨b, by omega, by omega, b0⟩
    · by_cases e : b ≤ i
      · exact absurd (tr _ _ _ hl ((hzm i hi e hg.1).resolve_left hg.2)) (ir _)
      · exact ⟨b, by omega, hz, b0⟩
  · show ∃ c, c ≤ j ∧ H c - (if z < c then 1 else 0) = 0
    have b0 : H b - (if z < b then 1 else 0) = 0 := by rw [if_neg (by omega)]; omega
    have h0' : 0 < H 0 := by have h0 : 0 < H 0 - (if z < 0 then 1 else 0) := h0; rw [if_neg (by omega)] at h0; omega
    rcases hs with hs | rfl
    · obtain ⟨c, h1, h2⟩ := h.free h0' j hj hs
      by_cases e1 : z < c
      · by_cases e : c < t
        · rw [if_pos e] at h2; have := last c e h2; omega
        · rw [if_neg e] at h2; exact ⟨c, h1, by rw [if_pos e1]; omega⟩
      · by_cases e2 : c < t
        · rw [if_pos e2] at h2; exact ⟨c, h1, by rw [if_neg e1]; omega⟩
        · exact ⟨b, by omega, b0⟩
    · exact ⟨b, hz, b0⟩
structure Less (n t : Nat) (G S : Nat → Prop) (lt : Nat → Nat → Prop) (H : Nat → Int) : Prop where
  le : t ≤ n
  low : ∀ p, p ≤ n → (if p < t then 0 else -1) ≤ H p
  fin : H n = -1
  two : ∀ i j, i < n → j < n → G i → S j → lt j i → ∃ b, i < b ∧ b ≤ j ∧ H b = if b < t then 0 else -1
  free : 0 < H 0 → ∀ j, j < n → S j → ∃ b, b ≤ j ∧ H b = if b < t then 0 else -1
theorem Less.none {n t : Nat} {G S : Nat → Prop} {lt : Nat → Nat → Prop} {H : Nat → Int} (h : Less n t G S lt H) {b : Nat} (hb : t ≤ b) (hbn : b ≤ n) (hb0 : H b = -1) (hb1 : ∀ q, t ≤ q → q < b → H q ≠ -1)
    (hS : ∀ j, j < b → ¬ S j) : Cert n G S lt (fun p => H p + 1) := by
  have lv : ∀ c j, S j → c ≤ j → (H c = if c < t then 0 else -1) → ∃ c', c ≤ c' ∧ c' ≤ j ∧ H c' + 1 = 0 := fun c j hs h1 h2 => by
    by_cases e : c < t
    · have : b ≤ j := Classical.byContradiction fun hn => hS j (by omega) hs
      exact ⟨b, by omega, this, by omega⟩
    · rw [if_neg e] at h2; exact ⟨c, Nat.le_refl _, h1, by omega⟩
  refine ⟨fun p hp => ?_, by show H n + 1 = 0; rw [h.fin]; rfl, fun i j hi hj hg hs hl => ?_, fun _ j hj hs => ?_⟩
  · have := h.low p hp; show 0 ≤ H p + 1; split at this <;> omega
  · obtain ⟨c, h1, h2, h3⟩ := h.two i j hi hj hg hs hl
    obtain ⟨c', h4, h5, h6⟩ := lv c j hs h2 h3
    exact ⟨c', by omega, h5, h6⟩
  · have : b ≤ j := Classical.byContradiction fun hn => hS j (by omega) hs
    exact ⟨b, this, by show H b + 1 = 0; omega⟩
theorem Less.some {n t : Nat} {G S : Nat → Prop} {lt : Nat → Nat → Prop} {H : Nat → Int} (tr : ∀ a b c, lt a b → lt b c → lt a c) (ir : ∀ a, ¬ lt a a) (h : Less n t G S lt H) {b z : Nat} (hb : t ≤ b) (hbn : b ≤ n) (hb0 : H b = -1) (hb1 : ∀ q, t ≤ q → q < b → H q ≠ -1)
    (hzb : z < b) (hzS : S z) (hzm : ∀ j, j < b → S j → j = z ∨ lt z j) :
    Cert n (fun i => G i ∨ i = z) (fun i => S i ∧ i ≠ z) lt (fun p => H p + if z < p then 1 else 0) := by
  have low' : ∀ c, t ≤ c → H c = -1 → H c + (if z < c then 1 else 0) = 0 := fun c h1 h2 => by
    have : b ≤ c := Classical.byContradiction fun hn => hb1 c h1 (by omega) h2
    rw [if_pos (by omega)]; omega
  have b0 := low' b hb hb0
  refine ⟨fun p hp => ?_, ?_, fun i j hi hj hg hs hl => ?_, fun h0 j hj hs => ?_⟩
  · have h1 := h.low p hp
    show 0 ≤ H p + _
    by_cases e : p < t
    · rw [if_pos e] at h1; split <;> omega
    · rw [if_neg e] at h1
      by_cases e' : z < p
      · rw [if_pos e']; omega
      · have := hb1 p (by omega) (by omega); rw [if_neg e']; omega
  · show H n + _ = 0
    rw [if_pos (by omega), h.fin]; rfl
  · show ∃ c, i < c ∧ c ≤ j ∧ H c + (if z < c then 1 else 0) = 0
    by_cases ei : i = z
    · subst ei
      have : b ≤ j := Classical.byContradiction fun hn => by
        rcases hzm j (by omega) hs.1 with e | e
        · exact hs.2 e
        · exact ir _ (tr _ _ _ hl e)
      exact ⟨b, hzb, this, b0⟩
    · have hg := hg.resolve_right ei
      obtain ⟨c, h1, h2, h3⟩ := h.two i j hi hj hg hs.1 hl
      by_cases e : c < t
      · rw [if_pos e] at h3
        by_cases e1 : z < c
        · by_cases e2 : b ≤ j
          · exact ⟨b, by omega, e2, b0⟩
          · have hzj := (hzm j (by omega) hs.1).resolve_left hs.2
            obtain ⟨c2, h4, h5, h6⟩ := h.two i z hi (by omega) hg hzS (tr _ _ _ hzj hl)
            rw [if_pos (by omega)] at h6
            exact ⟨c2, h4, by omega, by rw [if_neg (by omega)]; omega⟩
        · exact ⟨c, h1, h2, by rw [if_neg e1]; omega⟩
      · rw [if_neg e] at h3
        exact ⟨c, h1, h2, low' c (by omega) h3⟩
  · show ∃ c, c ≤ j ∧ H c + (if z < c then 1 else 0) = 0
    have h0' : 0 < H 0 := by have h0 : 0 < H 0 + (if z < 0 then 1 else 0) := h0; rw [if_neg (by omega)] at h0; omega
    obtain ⟨c, h2, h3⟩ := h.free h0' j hj hs.1
    by_cases e : c < t
    · rw [if_pos e] at h3
      by_cases e1 : z < c
      · by_cases e2 : b ≤ j
        · exact ⟨b, e2, b0⟩
        · obtain ⟨c2, h5, h6⟩ := h.free h0' z (by omega) hzS
          rw [if_pos (by omega)] at h6
          exact ⟨c2, by omega, by rw [if_neg (by omega)]; omega⟩
      · exact ⟨c, h2, by rw [if_neg e1]; omega⟩
    · rw [if_neg e] at h3
      exact ⟨c, h2, low' c (by omega) h3⟩
def sh (a i : Nat) : Nat := if i < a then i else i + 1
theorem sh_lt {a i : Nat} (h : i < a) : sh a i = i := if_pos h
theorem sh_ge {a i : Nat} (h : a ≤ i) : sh a i = i + 1 := if_neg (by omega)
theorem sh_cases (a i : Nat) : (i < a ∧ sh a i = i) ∨ (a ≤ i ∧ sh a i = i + 1) := by
  by_cases h : i < a
  · exact .inl ⟨h, sh_lt h⟩
  · exact .inr ⟨by omega, sh_ge (by omega)⟩
theorem sh_ex {a i : Nat} (h : i ≠ a) : ∃ q, i = sh a q := by
  by_cases e : i < a
  · exact ⟨i, (sh_lt e).symm⟩
  · exact ⟨i - 1, by rw [sh_ge (by omega)]; omega⟩
structure Ins (n a : Nat) (w : Int) (G1 S1 : Nat → Prop) (lt1 : Nat → Nat → Prop) (H1 : Nat → Int) (G2 S2 : Nat → Prop) (lt2 : Nat → Nat → Prop) (H2 : Nat → Int) : Prop where
  le : a ≤ n
  g : ∀ i, G2 (sh a i) ↔ G1 i
  s : ∀ i, S2 (sh a i) ↔ S1 i
  l : ∀ i j, lt2 (sh a i) (sh a j) ↔ lt1 i j
  lo : ∀ p, p ≤ a → H2 p = H1 p
  hi : ∀ p, a ≤ p → H2 (p + 1) = H1 p + w
section
variable {n a : Nat} {w : Int} {G1 S1 : Nat → Prop} {lt1 : Nat → Nat → Prop} {H1 : Nat → Int} {G2 S2 : Nat → Prop} {lt2 : Nat → Nat → Prop} {H2 : Nat → Int}
theorem Ins.up (h : Ins n a w G1 S1 lt1 H1 G2 S2 lt2 H2) {i j b : Nat} (h1 : i < b) (h2 : b ≤ j) (hb : H1 b = 0) : ∃ c, sh a i < c ∧ c ≤ sh a j ∧ H2 c = if c < a + 1 then 0 else w := by
  have hi := sh_cases a i
  have hj := sh_cases a j
  by_cases e : b ≤ a
  · exact ⟨b, by omega, by omega, by rw [if_pos (by omega), h.lo b e, hb]⟩
  · exact ⟨b + 1, by omega, by omega, by rw [if_neg (by omega), h.hi b (by omega), hb]; omega⟩
theorem Ins.up0 (h : Ins n a w G1 S1 lt1 H1 G2 S2 lt2 H2) {j b : Nat} (h2 : b ≤ j) (hb : H1 b = 0) : ∃ c, c ≤ sh a j ∧ H2 c = if c < a + 1 then 0 else w := by
  have hj := sh_cases a j
  by_cases e : b ≤ a
  · exact ⟨b, by omega, by rw [if_pos (by omega), h.lo b e, hb]⟩
  · exact ⟨b + 1, by omega, by rw [if_neg (by omega), h.hi b (by omega), hb]; omega⟩
theorem sh_bd {n a i : Nat} (ha : a ≤ n) : sh a i < n + 1 ↔ i < n := by
  have := sh_cases a i; omega
theorem Ins.more (h : Ins n a 1 G1 S1 lt1 H1 G2 S2 lt2 H2) (hS : ¬ S2 a) (c : Cert n G1 S1 lt1 H1) : More (n + 1) (a + 1) G2 S2 lt2 H2 := by
  have hle := h.le
  have h0 := h.lo 0 (Nat.zero_le _)
  refine ⟨by omega, fun p hp => ?_, ?_, fun i j hi hj hia hg hs hl => ?_, fun hf j hj hs => ?_⟩
  · by_cases e : p ≤ a
    · rw [if_pos (by omega), h.lo p e]; exact c.low p (by omega)
    · rw [if_neg (by omega)]
      have := h.hi (p - 1) (by omega); rw [show p - 1 + 1 = p by omega] at this
      have := c.low (p - 1) (by omega); omega
  · rw [h.hi n hle, c.fin]; rfl
  · obtain ⟨i', rfl⟩ := sh_ex (a := a) (i := i) (by omega)
    obtain ⟨j', rfl⟩ := sh_ex (a := a) (i := j) (by rintro rfl; exact hS hs)
    obtain ⟨b, h1, h2, h3⟩ := c.two i' j' ((sh_bd hle).1 hi) ((sh_bd hle).1 hj) ((h.g _).1 hg) ((h.s _).1 hs) ((h.l _ _).1 hl)
    exact h.up h1 h2 h3
  · obtain ⟨j', rfl⟩ := sh_ex (a := a) (i := j) (by rintro rfl; exact hS hs)
    obtain ⟨b, h1, h2⟩ := c.free (by omega) j' ((sh_bd hle).1 hj) ((h.s _).1 hs)
    exact h.up0 h1 h2
theorem Ins.less (h : Ins n a (-1) G1 S1 lt1 H1 G2 S2 lt2 H2) (hG : ¬ G2 a) (hS : ¬ S2 a) (c : Cert n G1 S1 lt1 H1) : Less (n + 1) (a + 1) G2 S2 lt2 H2 := by
  have hle := h.le
  have h0 := h.lo 0 (Nat.zero_le _)
  refine ⟨by omega, fun p hp => ?_, ?_, fun i j hi hj hg hs hl => ?_, fun hf j hj hs => ?_⟩
  · by_cases e : p ≤ a
    · rw [if_pos (by omega), h.lo p e]; exact c.low p (by omega)
    · rw [if_neg (by omega)]
      have := h.hi (p - 1) (by omega); rw [show p - 1 + 1 = p by omega] at this
      have := c.low (p - 1) (by omega); omega
  · rw [h.hi n hle, c.fin]; rfl
  · obtain ⟨i', rfl⟩ := sh_ex (a := a) (i := i) (by rintro rfl; exact hG hg)
    obtain ⟨j', rfl⟩ := sh_ex (a := a) (i := j) (by rintro rfl; exact hS hs)
    obtain ⟨b, h1, h2, h3⟩ := c.two i' j' ((sh_bd hle).1 hi) ((sh_bd hle).1 hj) ((h.g _).1 hg) ((h.s _).1 hs) ((h.l _ _).1 hl)
    exact h.up h1 h2 h3
  · obtain ⟨j', rfl⟩ := sh_ex (a := a) (i := j) (by rintro rfl; exact hS hs)
    obtain ⟨b, h1, h2⟩ := c.free (by omega) j' ((sh_bd hle).1 hj) ((h.s _).1 hs)
    exact h.up0 h1 h2
end
end Go.Proofs.YtpeoalmhccmdiaaGreat.PQ
namespace Go.Proofs.YtpeoalmhccmdiaaGreat
open Go Go.Proofs.YtpeoalmhccmdiaaGreat.Sx
theorem w64_id {x : Int} (h0 : -9223372036854775808 ≤ x) (h1 : x < 9223372036854775808) : w64 x = x := by simp only [w64, IntKind.wrap_i64]; omega
theorem w64_succ {i : Nat} (h : i < 4611686018427387904) : w64 ((i : Int) + 1) = ((i + 1 : Nat) : Int) := by rw [w64_id (by omega) (by omega)]; omega
theorem atL_nat {α : Type} {l : List α} {i : Nat} {x : α} (h : l[i]? = some x) : atL l (i : Int) = some x := by
  unfold atL
  have : ¬ ((i : Int) < 0) := by omega
  simp [this, h]
theorem drop_cons {α : Type} {l : List α} {i : Nat} (h : i < l.length) : ∃ x, l[i]? = some x ∧ l.drop i = x :: l.drop (i + 1) :=
  ⟨l[i], List.getElem?_eq_getElem h, List.drop_eq_getElem_cons h⟩
theorem dec_lt {i n : Nat} (h : i < n) : decide ((i : Int) < (n : Int)) = true := by simp; omega
theorem dec_nlt {i n : Nat} (h : n ≤ i) : decide ((i : Int) < (n : Int)) = false := by simp; omega
end Go.Proofs.YtpeoalmhccmdiaaGreat
namespace Go.Proofs.YtpeoalmhccmdiaaGreat
open Go Go.Proofs.YtpeoalmhccmdiaaGreat.Sx
def lowF : List Int → Int
  | [] => 0
  | [x] => x
  | x :: y :: l => min x (x + lowF (y :: l))
def tideF (ns : List Int) : TTide := ⟨ns.length, ns.sum, lowF ns⟩
theorem lowF_append : ∀ (a b : List Int), a ≠ [] → b ≠ [] → lowF (a ++ b) = min (lowF a) (a.sum + lowF b)
  | [x], b, _, hb => by
    cases b with
    | nil => exact absurd rfl hb
    | cons y l => simp [lowF]
  | x :: y :: l, b, _, hb => by
    have ih := lowF_append (y :: l) b (by simp) hb
    have e : lowF (x :: y :: l ++ b) = min x (x + lowF (y :: l ++ b)) := by simp [lowF]
    rw [e, ih]
    have e2 : lowF (x :: y :: l) = min x (x + lowF (y :: l)) := rfl
    have e3 : (x :: y :: l).sum = x + (y :: l).sum := by simp
    rw [e2, e3]
    omega
  | [], _, h, _ => absurd rfl h
def smallN (ns : List Int) : Prop := ∀ x ∈ ns, -1099511627776 ≤ x ∧ x ≤ 1099511627776
theorem smallN.append {a b : List Int} (ha : smallN a) (hb : smallN b) : smallN (a ++ b) := fun x hx => (List.mem_append.1 hx).elim (ha x) (hb x)
theorem smallN.left {a b : List Int} (h : smallN (a ++ b)) : smallN a := fun x hx => h x (List.mem_append_left _ hx)
theorem smallN.right {a b : List Int} (h : smallN (a ++ b)) : smallN b := fun x hx => h x (List.mem_append_right _ hx)
theorem smallN.take {a : List Int} (h : smallN a) (i : Nat) : smallN (a.take i) := fun x hx => h x (List.mem_of_mem_take hx)
theorem sum_bound : ∀ {ns : List Int}, smallN ns → -1099511627776 * (ns.length : Int) ≤ ns.sum ∧ ns.sum ≤ 1099511627776 * (ns.length : Int)
  | [], _ => by simp
  | x :: l, h => by
    have h1 := h x List.mem_cons_self
    have h2 := sum_bound (ns := l) (fun y hy => h y (List.mem_cons_of_mem _ hy))
    simp only [List.sum_cons, List.length_cons]
    omega
theorem low_bound : ∀ {ns : List Int}, smallN ns → -1099511627776 * (ns.length : Int) ≤ lowF ns ∧ lowF ns ≤ 1099511627776 * (ns.length : Int)
  | [], _ => by simp [lowF]
  | [x], h => by have := h x List.mem_cons_self; simp [lowF]; omega
  | x :: y :: l, h => by
    have h1 := h x List.mem_cons_self
    have h2 := low_bound (ns := y :: l) (fun z hz => h z (List.mem_cons_of_mem _ hz))
    have e : lowF (x :: y :: l) = min x (x + lowF (y :: l)) := rfl
    simp only [List.length_cons] at h2 ⊢
    rw [e]
    omega
theorem tidePlus_eq (k : Nat) {a b : List Int} (h : smallN (a ++ b)) (hl : (a ++ b).length < 1000000) : tide_Tide_Plus.f k (tideF a) (tideF b) = some (tideF (a ++ b)) := by
  have ha := sum_bound h.left
  have hb := sum_bound h.right
  have la := low_bound h.left
  have lb := low_bound h.right
  simp only [List.length_append] at hl
  unfold tide_Tide_Plus.f
  by_cases h1 : a = []
  · subst h1; simp [tideF]
  · have p1 : a.length ≠ 0 := fun e => h1 (List.eq_nil_of_length_eq_zero e)
    by_cases h2 : b = []
    · subst h2
      have : ((tideF a).n == 0) = false := by simp [tideF]; exact h1
      simp only [this, cond_false]; simp [tideF]
    · have p2 : b.length ≠ 0 := fun e => h2 (List.eq_nil_of_length_eq_zero e)
      have e1 : ((a.length : Int) == 0) = false := by simp; exact h1
      have e2 : ((b.length : Int) == 0) = false := by simp; exact h2
      simp only [tideF, e1, e2, cond_false]
      rw [w64_id (by omega) (by omega), w64_id (by omega) (by omega), w64_id (by omega) (by omega), lowF_append a b h1 h2, List.sum_append, List.length_append]
      have e : gmin (lowF a) (a.sum + lowF b) = min (lowF a) (a.sum + lowF b) := by unfold gmin; split <;> omega
      rw [e, Int.natCast_add]
theorem tideOf_loop (k : Nat) (l : List Int) (hs : smallN l) (hl : l.length < 1000000) : ∀ (d i n : Nat), i + d = l.length → d < n → tide_Of.l0 k l n (tideF (l.take i), (i : Int)) = some (tideF l)
  | d, i, 0, _, h => by omega
  | 0, i, n + 1, hi, _ => by
    simp only [tide_Of.l0]
    rw [dec_nlt (by omega), List.take_of_length_le (by omega)]; rfl
  | d + 1, i, n + 1, hi, hn => by
    obtain ⟨x, hx, hdr⟩ := drop_cons (l := l) (i := i) (by omega)
    have ht : l.take (i + 1) = l.take i ++ [x] := by rw [List.take_add_one, hx]; rfl
    have e1 : (⟨1, x, x⟩ : TTide) = tideF [x] := by simp [tideF, lowF]
    simp only [tide_Of.l0]
    rw [dec_lt (by omega)]
    simp only [cond_true, atL_nat hx, Option.bind_some, e1]
    rw [tidePlus_eq k (by rw [← ht]; exact hs.take _) (by rw [← ht]; simp; omega)]
    simp only [Option.bind_some, w64_succ (i := i) (by omega), ← ht]
    exact tideOf_loop k l hs hl d (i + 1) n (by omega) (by omega)
theorem tideOf_eq (k : Nat) {l : List Int} (hs : smallN l) (hl : l.length < 1000000) (hk : l.length < k) : tide_Of.f k l = some (tideF l) := by
  have := tideOf_loop k l hs hl l.length 0 k (by omega) hk
  have e : tide_Of.l0 k l k (zTTide, 0) = some (tideF l) := this
  unfold tide_Of.f; rw [e]; rfl
end Go.Proofs.YtpeoalmhccmdiaaGreat
namespace Go.Proofs.YtpeoalmhccmdiaaGreat
open Go Go.Proofs.YtpeoalmhccmdiaaGreat.Sx
def ilt (a b : TItem) : Prop := a.key < b.key ∨ (a.key = b.key ∧ a.id < b.id)
def ile (a b : TItem) : Prop := a.key < b.key ∨ (a.key = b.key ∧ a.id ≤ b.id)
instance (a b : TItem) : Decidable (ilt a b) := by unfold ilt; infer_instance
instance (a b : TItem) : Decidable (ile a b) := by unfold ile; infer_instance
theorem item_ext {a b : TItem} (h1 : a.key = b.key) (h2 : a.id = b.id) : a = b := by cases a; cases b; simp_all
theorem ile_refl (a : TItem) : ile a a := by unfold ile; omega
theorem ile_trans {a b c : TItem} (h : ile a b) (h' : ile b c) : ile a c := by unfold ile at *; omega
theorem ile_antisymm {a b : TItem} (h : ile a b) (h' : ile b a) : a = b := by unfold ile at *; exact item_ext (by omega) (by omega)
theorem not_ilt {a b : TItem} : ¬ ilt a b ↔ ile b a := by unfold ilt ile; omega
theorem ilt_ile {a b : TItem} (h : ilt a b) : ile a b := by unfold ilt at h; unfold ile; omega
theorem ilt_iff {a b : TItem} : ilt a b ↔ ile a b ∧ a ≠ b := by
  constructor
  · intro h; exact ⟨ilt_ile h, fun e => by subst e; unfold ilt at h; omega⟩
  · rintro ⟨h, hn⟩
    rcases Classical.em (ilt a b) with h1 | h1
    · exact h1
    · exact absurd (ile_antisymm h (not_ilt.1 h1)) hn
theorem ilt_trans_le {a b c : TItem} (h : ilt a b) (h' : ile b c) : ilt a c := by unfold ilt ile at *; omega
theorem ile_trans_lt {a b c : TItem} (h : ile a b) (h' : ilt b c) : ilt a c := by unfold ilt ile at *; omega
theorem ilt_irrefl (a : TItem) : ¬ ilt a a := by unfold ilt; omega
def isgn (a b : TItem) : Int := if ilt a b then -1 else if ilt b a then 1 else 0
def csgn (a b : Int) : Int := if a < b then -1 else if b < a then 1 else 0
theorem cmpCompare_eq (k : Nat) (a b : Int) : cmp_Compare.f k a b = some (csgn a b) := by
  unfold cmp_Compare.f cmp_isNaN.f csgn
  by_cases h1 : a < b
  · simp [h1]
  · by_cases h2 : b < a
    · simp [h1, h2]
    · simp [h1, h2]
theorem cmpOr_eq (k : Nat) (hk : 3 ≤ k) (a b : Int) : cmp_Or.f k [a, b] = some (if a ≠ 0 then a else b) := by
  obtain ⟨m, rfl⟩ : ∃ m, k = m + 3 := ⟨k - 3, by omega⟩
  unfold cmp_Or.f
  have e1 : w64 (0 + 1) = 1 := by decide
  have e2 : w64 1 = 1 := by decide
  have e3 : w64 2 = 2 := by decide
  by_cases h1 : a = 0
  · subst h1
    by_cases h2 : b = 0
    · subst h2; simp [cmp_Or.l0, atL, e1, e2, e3]
    · have h3 : (b != 0) = true := by simpa using h2
      simp [cmp_Or.l0, atL, e1, e2, e3, h2, h3]
  · have h3 : (a != 0) = true := by simpa using h1
    simp [cmp_Or.l0, atL, e1, e2, e3, h1, h3]
theorem itemCompare_eq (k : Nat) (hk : 3 ≤ k) (a b : TItem) : item_Compare.f k a b = some (isgn a b) := by
  unfold item_Compare.f
  simp only [cmpCompare_eq, Option.bind_some, cmpOr_eq k hk]
  congr 1
  unfold csgn isgn ilt
  by_cases h1 : a.key < b.key
  · simp [h1]
  · by_cases h2 : b.key < a.key
    · have h3 : ¬ a.key = b.key := by omega
      have h4 : ¬ b.key = a.key := by omega
      simp [h1, h2, h3, h4]
    · have h3 : a.key = b.key := by omega
      simp [h3]
abbrev Sorted (l : List TItem) : Prop := l.Pairwise ile
theorem sorted_perm_eq : ∀ {l l' : List TItem}, Sorted l → Sorted l' → l.Perm l' → l = l' := by
  intro l l' h h' hp
  exact hp.eq_of_pairwise (le := fun a b => ile a b) (fun a b _ _ h1 h2 => ile_antisymm h1 h2) h h'
end Go.Proofs.YtpeoalmhccmdiaaGreat
namespace Go.Proofs.YtpeoalmhccmdiaaGreat
open Go Go.Proofs.YtpeoalmhccmdiaaGreat.Sx
def IsMax (xs : List TItem) (t : TTook) : Prop := (xs = [] ∧ t = zTTook) ∨ (t.found = true ∧ t.item ∈ xs ∧ ∀ y ∈ xs, ile y t.item)
def IsMin (xs : List TItem) (t : TTook) : Prop := (xs = [] ∧ t = zTTook) ∨ (t.found = true ∧ t.item ∈ xs ∧ ∀ y ∈ xs, ile t.item y)
theorem IsMax.nil : IsMax [] zTTook := .inl ⟨rfl, rfl⟩
theorem IsMin.nil : IsMin [] zTTook := .inl ⟨rfl, rfl⟩
theorem IsMax.one (x : TItem) : IsMax [x] ⟨true, x⟩ := .inr ⟨rfl, by simp, fun y hy => by simp at hy; subst hy; exact ile_refl _⟩
theorem IsMin.one (x : TItem) : IsMin [x] ⟨true, x⟩ := .inr ⟨rfl, by simp, fun y hy => by simp at hy; subst hy; exact ile_refl _⟩
theorem isgn_lt {a b : TItem} : isgn a b < 0 ↔ ilt a b := by
  unfold isgn
  by_cases h1 : ilt a b
  · simp [h1]
  · by_cases h2 : ilt b a <;> simp [h1, h2]
theorem isgn_gt {a b : TItem} : isgn a b > 0 ↔ ilt b a := by
  unfold isgn
  by_cases h1 : ilt a b
  · have : ¬ ilt b a := fun h => ilt_irrefl a (ilt_trans_le h1 (ilt_ile h))
    simp [h1, this]
  · by_cases h2 : ilt b a <;> simp [h1, h2]
theorem isgn_cases (a b : TItem) : isgn a b = -1 ∨ isgn a b = 0 ∨ isgn a b = 1 := by
  unfold isgn; split
  · exact .inl rfl
  · split
    · exact .inr (.inr rfl)
    · exact .inr (.inl rfl)
theorem betterMax (k : Nat) (hk : 3 ≤ k) {xs ys : List TItem} {a b : TTook} (ha : IsMax xs a) (hb : IsMax ys b) : ∃ c, wave_better.f k (-1) a b = some c ∧ IsMax (xs ++ ys) c := by
  unfold wave_better.f
  rcases ha with ⟨rfl, rfl⟩ | ⟨h1, h2, h3⟩
  · exact ⟨b, rfl, hb⟩
  · simp only [h1, Bool.not_true, cond_false]
    rcases hb with ⟨rfl, rfl⟩ | ⟨g1, g2, g3⟩
    · exact ⟨a, rfl, .inr ⟨h1, by simpa using h2, by simpa using h3⟩⟩
    · simp only [g1, cond_true, itemCompare_eq k hk, Option.bind_some]
      have e : w64 (-1 * isgn b.item a.item) = -1 * isgn b.item a.item := by rcases isgn_cases b.item a.item with h | h | h <;> rw [h] <;> rfl
      rw [e]
      by_cases hc : isgn b.item a.item > 0
      · have : decide (-1 * isgn b.item a.item < 0) = true := by simp; omega
        rw [this]
        have hlt := isgn_gt.1 hc
        refine ⟨b, rfl, .inr ⟨g1, List.mem_append_right _ g2, fun y hy => ?_⟩⟩
        rcases List.mem_append.1 hy with hy | hy
        · exact ile_trans (h3 y hy) (ilt_ile hlt)
        · exact g3 y hy
      · have : decide (-1 * isgn b.item a.item < 0) = false := by simp; omega
        rw [this]
        have hle : ile b.item a.item := not_ilt.1 (fun h => hc (isgn_gt.2 h))
        refine ⟨a, rfl, .inr ⟨h1, List.mem_append_left _ h2, fun y hy => ?_⟩⟩
        rcases List.mem_append.1 hy with hy | hy
        · exact h3 y hy
        · exact ile_trans (g3 y hy) hle
theorem betterMin (k : Nat) (hk : 3 ≤ k) {xs ys : List TItem} {a b : TTook} (ha : IsMin xs a) (hb : IsMin ys b) : ∃ c, wave_better.f k 1 a b = some c ∧ IsMin (xs ++ ys) c := by
  unfold wave_better.f
  rcases ha with ⟨rfl, rfl⟩ | ⟨h1, h2, h3⟩
  · exact ⟨b, rfl, hb⟩
  · simp only [h1, Bool.not_true, cond_false]
    rcases hb with ⟨rfl, rfl⟩ | ⟨g1, g2, g3⟩
    · exact ⟨a, rfl, .inr ⟨h1, by simpa using h2, by simpa using h3⟩⟩
    · simp only [g1, cond_true, itemCompare_eq k hk, Option.bind_some]
      have e : w64 (1 * isgn b.item a.item) = isgn b.item a.item := by rcases isgn_cases b.item a.item with h | h | h <;> rw [h] <;> rfl
      rw [e]
      by_cases hc : isgn b.item a.item < 0
      · have : decide (isgn b.item a.item < 0) = true := by simpa using hc
        rw [this]
        have hlt := isgn_lt.1 hc
        refine ⟨b, rfl, .inr ⟨g1, List.mem_append_right _ g2, fun y hy => ?_⟩⟩
        rcases List.mem_append.1 hy with hy | hy
        · exact ile_trans (ilt_ile hlt) (h3 y hy)
        · exact g3 y hy
      · have : decide (isgn b.item a.item < 0) = false := by simpa using hc
        rw [this]
        have hle : ile a.item b.item := not_ilt.1 (fun h => hc (isgn_lt.2 h))
        refine ⟨a, rfl, .inr ⟨h1, List.mem_append_left _ h2, fun y hy => ?_⟩⟩
        rcases List.mem_append.1 hy with hy | hy
        · exact h3 y hy
        · exact ile_trans hle (g3 y hy)
def mcnt (m : TMark) : Int := if m.op.insert then 1 else -1
def mwt (m : TMark) : Int := if m.op.insert then (if m.here then 0 else 1) else -1
def dels (l : List TMark) : List TMark := l.filter (fun m => !m.op.insert)
def frees (l : List TMark) : List TMark := l.filter (fun m => !m.op.insert && !m.took.found)
def tookI (l : List TMark) : List TItem := (l.filter (fun m => !m.op.insert && m.took.found)).map (·.took.item)
def goneI (l : List TMark) : List TItem := (l.filter (fun m => m.op.insert && !m.here)).map (·.op.item)
def hereI (l : List TMark) : List TItem := (l.filter (fun m => m.op.insert && m.here)).map (·.op.item)
structure IsSwell (s : TSwell) (l : List TMark) : Prop where
  count : s.count = tideF (l.map mcnt)
  weight : s.weight = tideF (l.map mwt)
  deletes : s.deletes = ((dels l).length : Int)
  free : s.free = ((frees l).length : Int)
  most : ∃ t, IsMax (tookI l) t ∧ s.most = t.item
  gone : IsMax (goneI l) s.gone
  least : IsMin (hereI l) s.least
theorem IsSwell.nil : IsSwell zTSwell [] := ⟨rfl, rfl, rfl, rfl, ⟨_, IsMax.nil, rfl⟩, IsMax.nil, IsMin.nil⟩
theorem small_cnt (l : List TMark) : smallN (l.map mcnt) := by
  intro x hx
  obtain ⟨m, _, rfl⟩ := List.mem_map.1 hx
  unfold mcnt; split <;> omega
theorem small_wt (l : List TMark) : smallN (l.map mwt) := by
  intro x hx
  obtain ⟨m, _, rfl⟩ := List.mem_map.1 hx
  unfold mwt
  split
  · split <;> omega
  · omega
theorem dels_len (l : List TMark) : (dels l).length = (frees l).length + (tookI l).length := by
  induction l with
  | nil => rfl
  | cons m l ih =>
    unfold dels frees tookI at *
    cases h1 : m.op.insert <;> cases h2 : m.took.found <;> simp [List.filter_cons, h1, h2] at ih ⊢ <;> omega
theorem taken_max (k : Nat) {s : TSwell} {l : List TMark} (h : IsSwell s l) : ∃ t, wave_Swell_taken.f k s = some t ∧ IsMax (tookI l) t := by
  obtain ⟨a, ha, ha'⟩ := h.most
  have hl := dels_len l
  unfold wave_Swell_taken.f
  rw [h.deletes, h.free]
  by_cases h0 : tookI l = []
  · have : (((dels l).length : Int) == ((frees l).length : Int)) = true := by rw [hl, h0]; simp
    rw [this]; exact ⟨_, rfl, .inl ⟨h0, rfl⟩⟩
  · have hp : (tookI l).length ≠ 0 := fun e => h0 (List.eq_nil_of_length_eq_zero e)
    have : (((dels l).length : Int) == ((frees l).length : Int)) = false := by simp; omega
    rw [this]
    refine ⟨_, rfl, ?_⟩
    rcases ha with ⟨h1, _⟩ | ⟨h1, h2, h3⟩
    · exact absurd h1 h0
    · rw [ha']; exact .inr ⟨rfl, h2, h3⟩
theorem swellPlus (k : Nat) (hk : 3 ≤ k) {s t : TSwell} {l r : List TMark} (h : IsSwell s l) (g : IsSwell t r) (hl : (l ++ r).length < 1000000) : ∃ c, wave_Swell_Plus.f k s t = some c ∧ IsSwell c (l ++ r) := by
  obtain ⟨a, a1, a2⟩ := taken_max k h
  obtain ⟨b, b1, b2⟩ := taken_max k g
  obtain ⟨x5, c1, c2⟩ := betterMax k hk a2 b2
  obtain ⟨x6, d1, d2⟩ := betterMax k hk h.gone g.gone
  obtain ⟨x7, e1, e2⟩ := betterMin k hk h.least g.least
  have q1 : (dels l).length ≤ l.length := List.length_filter_le _ _
  have q2 : (dels r).length ≤ r.length := List.length_filter_le _ _
  have q3 : (frees l).length ≤ l.length := List.length_filter_le _ _
  have q4 : (frees r).length ≤ r.length := List.length_filter_le _ _
  rw [List.length_append] at hl
  unfold wave_Swell_Plus.f
  rw [h.count, g.count, h.weight, g.weight, tidePlus_eq k (by rw [← List.map_append]; exact small_cnt _) (by simp; omega), tidePlus_eq k (by rw [← List.map_append]; exact small_wt _) (by simp; omega), a1, b1]
  simp only [Option.bind_some, c1, d1, e1]
  refine ⟨_, rfl, ?_⟩
  constructor
  · show tideF _ = _; rw [List.map_append]
  · show tideF _ = _; rw [List.map_append]
  · show w64 _ = _; rw [h.deletes, g.deletes, w64_id (by omega) (by omega)]; simp [dels]
  · show w64 _ = _; rw [h.free, g.free, w64_id (by omega) (by omega)]; simp [frees]
  · refine ⟨x5, ?_, rfl⟩; simpa [tookI] using c2
  · simpa [goneI] using d2
  · simpa [hereI] using e2
theorem smallN1 {x : Int} (h : -1099511627776 ≤ x ∧ x ≤ 1099511627776) : smallN [x] := fun y hy => by simp at hy; subst hy; exact h
theorem markSum (k : Nat) (hk : 3 ≤ k) (m : TMark) : ∃ s, wave_Mark_Sum.f k m = some s ∧ IsSwell s [m] := by
  have t1 : tide_Of.f k [1] = some (tideF [1]) := tideOf_eq k (smallN1 (by omega)) (by simp) (by simp; omega)
  have t0 : tide_Of.f k [0] = some (tideF [0]) := tideOf_eq k (smallN1 (by omega)) (by simp) (by simp; omega)
  have tm : tide_Of.f k [-1] = some (tideF [-1]) := tideOf_eq k (smallN1 (by omega)) (by simp) (by simp; omega)
  unfold wave_Mark_Sum.f
  cases h1 : m.op.insert
  · cases h2 : m.took.found
    · simp only [cond_false, Option.bind_some, Sum.elim_inr, tm]
      exact ⟨_, rfl, by simp [mcnt, h1], by simp [mwt, h1], by simp [dels, h1], by simp [frees, h1, h2], ⟨_, by simp [tookI, h1, h2]; exact IsMax.nil, rfl⟩, by simp [goneI, h1]; exact IsMax.nil, by simp [hereI, h1]; exact IsMin.nil⟩
    · simp only [cond_false, cond_true, Option.bind_some, Sum.elim_inr, tm]
      exact ⟨_, rfl, by simp [mcnt, h1], by simp [mwt, h1], by simp [dels, h1], by simp [frees, h1, h2], ⟨⟨true, m.took.item⟩, by simp [tookI, h1, h2]; exact IsMax.one _, rfl⟩, by simp [goneI, h1]; exact IsMax.nil, by simp [hereI, h1]; exact IsMin.nil⟩
  · cases h2 : m.here
    · simp only [cond_false, cond_true, Option.bind_some, Sum.elim_inl, t1]
      exact ⟨_, rfl, by simp [mcnt, h1], by simp [mwt, h1, h2], by simp [dels, h1], by simp [frees, h1], ⟨_, by simp [tookI, h1]; exact IsMax.nil, rfl⟩, by simp [goneI, h1, h2]; exact IsMax.one _, by simp [hereI, h1, h2]; exact IsMin.nil⟩
    · simp only [cond_true, Option.bind_some, Sum.elim_inl, t1, t0]
      exact ⟨_, rfl, by simp [mcnt, h1], by simp [mwt, h1, h2], by simp [dels, h1], by simp [frees, h1], ⟨_, by simp [tookI, h1]; exact IsMax.nil, rfl⟩, by simp [goneI, h1, h2]; exact IsMax.nil, by simp [hereI, h1, h2]; exact IsMin.one _⟩
end Go.Proofs.YtpeoalmhccmdiaaGreat
namespace Go.Proofs.YtpeoalmhccmdiaaGreat
open Go Go.Proofs.YtpeoalmhccmdiaaGreat.Sx
theorem item_eq {a b : TItem} (h1 : ¬ ilt a b) (h2 : ¬ ilt b a) : a = b := by
  unfold ilt at *; exact item_ext (by omega) (by omega)
instance : DecidableEq TItem := fun a b => if h : a.key = b.key ∧ a.id = b.id then .isTrue (item_ext h.1 h.2) else .isFalse (fun e => h (by rw [e]; exact ⟨rfl, rfl⟩))
def wts (m : List TMark) : List Int := m.map mwt
def hgt (m : List TMark) (base : Int) (n : Nat) : Int := base + ((wts m).take n).sum
def isG (x : TMark) : Prop := x.op.insert = true ∧ x.here = false
def isS (x : TMark) : Prop := x.op.insert = true ∧ x.here = true
def atG (m : List TMark) (i : Nat) : Prop := ∃ x, m[i]? = some x ∧ isG x
def atS (m : List TMark) (i : Nat) : Prop := ∃ x, m[i]? = some x ∧ isS x
def ltI (m : List TMark) (i j : Nat) : Prop := ∃ x y, m[i]? = some x ∧ m[j]? = some y ∧ ilt x.op.item y.op.item
def CertM (m : List TMark) (E : Int) : Prop := PQ.Cert m.length (atG m) (atS m) (ltI m) (hgt m E)
def Dist (m : List TMark) : Prop := ∀ (i j : Nat) (x y : TMark), m[i]? = some x → m[j]? = some y → x.op.insert = true → y.op.insert = true → x.op.item = y.op.item → i = j
def sins (x : TItem) : List TItem → List TItem
  | [] => [x]
  | y :: t => if ilt x y then x :: y :: t else y :: sins x t
theorem sins_perm (x : TItem) : ∀ l, (sins x l).Perm (x :: l)
  | [] => List.Perm.refl _
  | y :: t => by
    unfold sins
    split
    · exact List.Perm.refl _
    · exact ((sins_perm x t).cons y).trans (List.Perm.swap x y t)
theorem sins_sorted (x : TItem) : ∀ l, Sorted l → Sorted (sins x l)
  | [], _ => by simp [sins]
  | y :: t, h => by
    have h' := List.pairwise_cons.1 h
    unfold sins
    split
    · rename_i hx
      refine List.pairwise_cons.2 ⟨fun z hz => ?_, h⟩
      rcases List.mem_cons.1 hz with rfl | hz
      · exact ilt_ile hx
      · exact ile_trans (ilt_ile hx) (h'.1 z hz)
    · rename_i hx
      refine List.pairwise_cons.2 ⟨fun z hz => ?_, sins_sorted x t h'.2⟩
      rcases List.mem_cons.1 ((sins_perm x t).mem_iff.1 hz) with rfl | hz
      · exact not_ilt.1 hx
      · exact h'.1 z hz
structure RS where
  here : List TItem
  gone : List TItem
  free : Int
  took : List TTook
def stepR (s : RS) (o : TOp) : RS := if o.insert then ⟨sins o.item s.here, s.gone, s.free, s.took ++ [zTTook]⟩ else match s.here with
  | x :: t => ⟨t, s.gone ++ [x], s.free, s.took ++ [⟨true, x⟩]⟩
  | [] => ⟨[], s.gone, s.free + 1, s.took ++ [zTTook]⟩
def runR (l : List TOp) : RS := l.foldl stepR ⟨[], [], 0, []⟩
theorem runR_succ {l : List TOp} {i : Nat} {o : TOp} (h : l[i]? = some o) : runR (l.take (i + 1)) = stepR (runR (l.take i)) o := by
  unfold runR
  rw [List.take_add_one, h, List.foldl_append]; rfl
theorem hgt_succ {m : List TMark} {E : Int} {i : Nat} {x : TMark} (h : m[i]? = some x) : hgt m E (i + 1) = hgt m E i + mwt x := by
  unfold hgt
  have : (wts m)[i]? = some (mwt x) := by simp [wts, h]
  rw [List.take_add_one, this, List.sum_append]; simp [Int.add_assoc]
theorem hereI_app (a b : List TMark) : hereI (a ++ b) = hereI a ++ hereI b := by simp [hereI]
theorem goneI_app (a b : List TMark) : goneI (a ++ b) = goneI a ++ goneI b := by simp [goneI]
theorem mem_hereI {m : List TMark} {x : TItem} : x ∈ hereI m ↔ ∃ (i : Nat) (y : TMark), m[i]? = some y ∧ isS y ∧ y.op.item = x := by
  unfold hereI isS
  simp only [List.mem_map, List.mem_filter, Bool.and_eq_true]
  constructor
  · rintro ⟨y, ⟨h1, h2⟩, h3⟩
    obtain ⟨i, hi⟩ := List.mem_iff_getElem?.1 h1
    exact ⟨i, y, hi, h2, h3⟩
  · rintro ⟨i, y, h1, h2, h3⟩; exact ⟨y, ⟨List.mem_of_getElem? h1, h2⟩, h3⟩
theorem mem_goneI {m : List TMark} {x : TItem} : x ∈ goneI m ↔ ∃ (i : Nat) (y : TMark), m[i]? = some y ∧ isG y ∧ y.op.item = x := by
  unfold goneI isG
  simp only [List.mem_map, List.mem_filter, Bool.and_eq_true, Bool.not_eq_true']
  constructor
  · rintro ⟨y, ⟨h1, h2⟩, h3⟩
    obtain ⟨i, hi⟩ := List.mem_iff_getElem?.1 h1
    exact ⟨i, y, hi, h2, h3⟩
  · rintro ⟨i, y, h1, h2, h3⟩; exact ⟨y, ⟨List.mem_of_getElem? h1, h2⟩, h3⟩
theorem take_get {α : Type} {l : List α} {p i : Nat} {x : α} (h : (l.take p)[i]? = some x) : i < p ∧ l[i]? = some x := by
  rw [List.getElem?_take] at h
  split at h
  · rename_i hi; exact ⟨hi, h⟩
  · cases h
abbrev SP (m : List TMark) (p : Nat) : RS := runR ((m.take p).map (·.op))
theorem SP_succ {m : List TMark} {p : Nat} {x : TMark} (h : m[p]? = some x) : SP m (p + 1) = stepR (SP m p) x.op := by
  have : (m.map (·.op))[p]? = some x.op := by simp [h]
  unfold SP; rw [List.map_take, List.map_take, runR_succ this]
theorem stepR_mem {s : RS} {o : TOp} {x : TItem} (h : x ∈ (stepR s o).here) : x ∈ s.here ∨ (o.insert = true ∧ x = o.item) := by
  unfold stepR at h
  split at h
  · rename_i hi
    rcases List.mem_cons.1 ((sins_perm _ _).mem_iff.1 h) with h | h
    · exact .inr ⟨hi, h⟩
    · exact .inl h
  · split at h
    · rename_i hs; rw [hs]; exact .inl (List.mem_cons_of_mem _ h)
    · cases h
theorem stepR_free (s : RS) (o : TOp) : s.free ≤ (stepR s o).free := by
  unfold stepR
  split
  · exact Int.le_refl _
  · split
    · exact Int.le_refl _
    · show s.free ≤ s.free + 1; omega
theorem SP_free {m : List TMark} {b : Nat} : ∀ d, b + d ≤ m.length → (SP m b).free ≤ (SP m (b + d)).free
  | 0, _ => Int.le_refl _
  | d + 1, h => by
    obtain ⟨x, hx⟩ : ∃ x, m[b + d]? = some x := ⟨_, List.getElem?_eq_getElem (by omega)⟩
    have := SP_succ hx
    rw [show b + (d + 1) = b + d + 1 by omega, this]
    exact Int.le_trans (SP_free d (by omega)) (stepR_free _ _)
theorem SP_since {m : List TMark} (hd : Dist m) {i b : Nat} {x : TMark} (hx : m[i]? = some x) (hi : x.op.insert = true) (hb : i < b) : ∀ d, b + d ≤ m.length → x.op.item ∈ (SP m (b + d)).here → x.op.item ∈ (SP m b).here
  | 0, _, h => h
  | d + 1, hl, h => by
    obtain ⟨y, hy⟩ : ∃ y, m[b + d]? = some y := ⟨_, List.getElem?_eq_getElem (by omega)⟩
    rw [show b + (d + 1) = b + d + 1 by omega, SP_succ hy] at h
    rcases stepR_mem h with h | ⟨h1, h2⟩
    · exact SP_since hd hx hi hb d (by omega) h
    · have := hd _ _ _ _ hx hy hi h1 h2; omega
structure RInv (m : List TMark) (E : Int) (p : Nat) (gq : List TItem) : Prop where
  here : (SP m p).here.Perm (hereI (m.take p) ++ gq)
  gone : ((SP m p).gone ++ gq).Perm (goneI (m.take p))
  cnt : (gq.length : Int) + (E - (SP m p).free) = hgt m E p
  free : (SP m p).free ≤ E
  srt : Sorted (SP m p).here
theorem take_succ' {m : List TMark} {p : Nat} {x : TMark} (h : m[p]? = some x) : m.take (p + 1) = m.take p ++ [x] := by rw [List.take_add_one, h]; rfl
theorem inv_all {m : List TMark} {E : Int} (hd : Dist m) (hc : CertM m E) : ∀ p, p ≤ m.length → ∃ gq, RInv m E p gq := by
  intro p
  induction p using Nat.strongRecOn with
  | ind p ih =>
    intro hp
    cases p with
    | zero =>
      have h0 := hc.low 0 (Nat.zero_le _)
      have e : hgt m E 0 = E := by simp [hgt]
      exact ⟨[], by simp [SP, runR, hereI], by simp [SP, runR, goneI], by simp [SP, runR, e], by rw [e] at h0; simpa [SP, runR] using h0, by simp [SP, runR]⟩
    | succ p =>
      obtain ⟨gq, hI⟩ := ih p (Nat.lt_succ_self _) (by omega)
      obtain ⟨x, hx⟩ : ∃ x, m[p]? = some x := ⟨_, List.getElem?_eq_getElem (by omega)⟩
      have hs := SP_succ hx
      have ht := take_succ' hx
      have hh := hgt_succ (E := E) hx
      by_cases hi : x.op.insert = true
      · have e : stepR (SP m p) x.op = ⟨sins x.op.item (SP m p).here, (SP m p).gone, (SP m p).free, (SP m p).took ++ [zTTook]⟩ := by unfold stepR; rw [if_pos hi]
        rw [e] at hs
        by_cases hg : x.here = true
        · refine ⟨gq, ?_, ?_, ?_, ?_, ?_⟩
          · rw [hs, ht, hereI_app]
            have : hereI [x] = [x.op.item] := by simp [hereI, hi, hg]
            rw [this]
            refine (sins_perm _ _).trans ((hI.here.cons x.op.item).trans ?_)
            rw [List.append_assoc]
            exact (List.perm_middle (a := x.op.item) (l₁ := hereI (m.take p)) (l₂ := gq)).symm
          · rw [hs, ht, goneI_app]
            have : goneI [x] = [] := by simp [goneI, hi, hg]
            rw [this, List.append_nil]; exact hI.gone
          · rw [hs, hh]; show _ + (E - (SP m p).free) = _
            rw [hI.cnt]; simp [mwt, hi, hg]
          · rw [hs]; exact hI.free
          · rw [hs]; exact sins_sorted _ _ hI.srt
        · have hg : x.here = false := by simpa using hg
          refine ⟨x.op.item :: gq, ?_, ?_, ?_, ?_, ?_⟩
          · rw [hs, ht, hereI_app]
            have : hereI [x] = [] := by simp [hereI, hi, hg]
            rw [this, List.append_nil]
            refine (sins_perm _ _).trans ((hI.here.cons x.op.item).trans ?_)
            exact (List.perm_middle (a := x.op.item) (l₁ := hereI (m.take p)) (l₂ := gq)).symm
          · rw [hs, ht, goneI_app]
            have : goneI [x] = [x.op.item] := by simp [goneI, hi, hg]
            rw [this]
            refine (List.perm_middle (a := x.op.item)).trans ?_
            exact (hI.gone.cons x.op.item).trans (List.perm_append_comm (l₁ := [x.op.item]))
          · rw [hs, hh]; show _ + (E - (SP m p).free) = _
            have := hI.cnt
            simp [mwt, hi, hg]; omega
          · rw [hs]; exact hI.free
          · rw [hs]; exact sins_sorted _ _ hI.srt
      · have hi : x.op.insert = false := by simpa using hi
        have hw : mwt x = -1 := by simp [mwt, hi]
        have h1 := hc.low (p + 1) hp
        have hpos : 1 ≤ hgt m E p := by rw [hh, hw] at h1; omega
        have eh : hereI [x] = [] := by simp [hereI, hi]
        have eg : goneI [x] = [] := by simp [goneI, hi]
        have en : (gq = [] → (SP m p).free < E) := fun e => by have := hI.cnt; subst e; simp at this; omega
        cases hH : (SP m p).here with
        | nil =>
          have e : stepR (SP m p) x.op = ⟨[], (SP m p).gone, (SP m p).free + 1, (SP m p).took ++ [zTTook]⟩ := by unfold stepR; rw [hi]; simp [hH]
          rw [e] at hs
          have hq := hI.here
          rw [hH] at hq
          have hq2 := List.append_eq_nil_iff.1 (List.nil_perm.1 hq)
          have hgq := hq2.2
          subst hgq
          refine ⟨[], ?_, ?_, ?_, ?_, ?_⟩
          · rw [hs, ht, hereI_app, eh, hq2.1]; exact List.Perm.refl _
          · rw [hs, ht, goneI_app, eg]; simpa using hI.gone
          · rw [hs, hh, hw]; have := hI.cnt; show _ + (E - ((SP m p).free + 1)) = _; simp at this ⊢; omega
          · rw [hs]; show (SP m p).free + 1 ≤ E; have := en rfl; omega
          · rw [hs]; exact List.Pairwise.nil
        | cons y t =>
          have e : stepR (SP m p) x.op = ⟨t, (SP m p).gone ++ [y], (SP m p).free, (SP m p).took ++ [⟨true, y⟩]⟩ := by unfold stepR; rw [hi]; simp [hH]
          rw [e] at hs
          have hq := hI.here
          rw [hH] at hq
          have hsr := hI.srt
          rw [hH] at hsr
          have hmin : ∀ z ∈ y :: t, ile y z := fun z hz => by
            rcases List.mem_cons.1 hz with rfl | hz
            · exact ile_refl _
            · exact (List.pairwise_cons.1 hsr).1 z hz
          have hyg : y ∈ gq := by
            refine (List.mem_append.1 (hq.mem_iff.1 List.mem_cons_self)).elim (fun hy => ?_) id
            exfalso
            obtain ⟨j, my, hj, hjS, hjy⟩ := mem_hereI.1 hy
            obtain ⟨hjp, hj⟩ := take_get hj
            cases hgq : gq with
            | nil =>
              have hfree := en hgq
              have hE0 : 0 < hgt m E 0 := by
                have h0 := SP_free (m := m) (b := 0) p (by omega)
                rw [Nat.zero_add] at h0
                have e0 : (SP m 0).free = 0 := rfl
                have : hgt m E 0 = E := by simp [hgt]
                omega
              obtain ⟨b, hb1, hb2⟩ := hc.free hE0 j (by omega) ⟨my, hj, hjS⟩
              obtain ⟨gb, hB⟩ := ih b (by omega) (by omega)
              have h3 := hB.cnt
              have h4 := hB.free
              have h5 := SP_free (m := m) (b := b) (p - b) (by omega)
              rw [show b + (p - b) = p by omega] at h5
              omega
            | cons g gr =>
              have hgm : g ∈ y :: t := hq.mem_iff.2 (List.mem_append_right _ (by rw [hgq]; exact List.mem_cons_self))
              have hgg : g ∈ goneI (m.take p) := hI.gone.mem_iff.1 (List.mem_append_right _ (by rw [hgq]; exact List.mem_cons_self))
              obtain ⟨i, mg, hig, hiG, rfl⟩ := mem_goneI.1 hgg
              obtain ⟨hip, hig⟩ := take_get hig
              have hne : y ≠ mg.op.item := fun e => by
                have := hd j i my mg hj hig hjS.1 hiG.1 (hjy.trans e)
                subst this
                rw [hig] at hj; cases hj
                exact absurd (hiG.2.symm.trans hjS.2) (by decide)
              have hlt : ilt y mg.op.item := ilt_iff.2 ⟨hmin _ hgm, hne⟩
              obtain ⟨b, hb1, hb2, hb3⟩ := hc.two i j (by omega) (by omega) ⟨mg, hig, hiG⟩ ⟨my, hj, hjS⟩ ⟨my, mg, hj, hig, hjy ▸ hlt⟩
              obtain ⟨gb, hB⟩ := ih b (by omega) (by omega)
              have h3 := hB.cnt
              have h4 := hB.free
              have h5 : gb = [] := List.eq_nil_of_length_eq_zero (by omega)
              subst h5
              have h6 := SP_since hd hig hiG.1 hb1 (p - b) (by omega) (by rw [show b + (p - b) = p by omega, hH]; exact hgm)
              have h7 := hB.here.mem_iff.1 h6
              rw [List.append_nil] at h7
              obtain ⟨k, mk, hk, hkS, hke⟩ := mem_hereI.1 h7
              obtain ⟨_, hk⟩ := take_get hk
              have := hd k i mk mg hk hig hkS.1 hiG.1 hke
              subst this
              rw [hig] at hk; cases hk
              exact absurd (hiG.2.symm.trans hkS.2) (by decide)
          have hpe := List.perm_cons_erase hyg
          refine ⟨gq.erase y, ?_, ?_, ?_, ?_, ?_⟩
          · rw [hs, ht, hereI_app, eh, List.append_nil]
            show t.Perm _
            have : (y :: t).Perm (y :: (hereI (m.take p) ++ gq.erase y)) := hq.trans ((hpe.append_left _).trans (List.perm_middle (a := y)))
            exact this.cons_inv
          · rw [hs, ht, goneI_app, eg, List.append_nil]
            show ((SP m p).gone ++ [y] ++ gq.erase y).Perm _
            rw [List.append_assoc]
            exact (hpe.symm.append_left _).trans hI.gone
          · rw [hs, hh, hw]
            have := hI.cnt
            have hl := hpe.length_eq
            simp only [List.length_cons] at hl
            show ((gq.erase y).length : Int) + (E - (SP m p).free) = _
            omega
          · rw [hs]; exact hI.free
          · rw [hs]; exact (List.pairwise_cons.1 hsr).2
theorem run_cert {m : List TMark} {E : Int} (hd : Dist m) (hc : CertM m E) : let s := runR (m.map (·.op)); s.here.Perm (hereI m) ∧ s.gone.Perm (goneI m) ∧ s.free = E ∧ Sorted s.here := by
  obtain ⟨gq, hI⟩ := inv_all hd hc m.length (Nat.le_refl _)
  have h1 := hI.cnt
  rw [hc.fin] at h1
  have h2 := hI.free
  have h3 : gq = [] := List.eq_nil_of_length_eq_zero (by omega)
  subst h3
  have e : SP m m.length = runR (m.map (·.op)) := by unfold SP; rw [List.take_length]
  have h4 := hI.here; have h5 := hI.gone
  rw [List.take_length, List.append_nil, e] at h4 h5
  rw [e] at h1 h2
  refine ⟨h4, h5, by simp at h1; omega, ?_⟩
  have := hI.srt; rwa [e] at this
end Go.Proofs.YtpeoalmhccmdiaaGreat

/- My texts that the proof of PartialOne rests on, part 5: a calculus of walks, the walks, and the plain law. -/
import Derived.KernelRfl
import Derived.Test.YtpeoalmhccmdiaaGreatZdd
set_option linter.unusedVariables false
set_option linter.unusedSimpArgs false
namespace Go.Proofs.YtpeoalmhccmdiaaGreat
open Go Go.Proofs.YtpeoalmhccmdiaaGreat.Sx
abbrev tkQueue (n0 n1 n2 n3 n4 n5 n6 n7 n8 : Nat) (q : TQueue) (l : List (Nat × Tok)) : List (Nat × Tok) := (n0, blk n0 [.v (.int .i64 q.capacity), .p n1 0, .p n3 0, .p n5 0, .p n7 0, .v (.int .i64 q.excess)] 98) :: (n1, blk n1 [.p n2 0, .v (.int .i64 q.marks.r.index), .v (.int .i64 q.marks.r.gen)] 110) :: (n2, plM n2 (q.marks.p)) :: (n3, blk n3 [.p n4 0, .v (.int .i64 q.present.r.index), .v (.int .i64 q.present.r.gen)] 131) :: (n4, plS n4 (q.present.p)) :: (n5, blk n5 [.p n6 0, .v (.int .i64 q.gone.r.index), .v (.int .i64 q.gone.r.gen)] 131) :: (n6, plS n6 (q.gone.p)) :: (n7, blk n7 [.p n8 0, .v (.int .i64 q.times.r.index), .v (.int .i64 q.times.r.gen)] 131) :: (n8, plS n8 (q.times.p)) :: l
abbrev wave_New_st (a0 : Int) (r : TRef × Pool (TNode TMark TSwell)) (m40 : Nat) (m41 : Nat) : Prop := SCon Tryz.prog 52 [.a (.c (.v (.int .i64 a0)))] [] (.a (.c (.p m40 0))) [(m40, blk m40 [.p m41 0, .i r.1.index, .i r.1.gen] 110), (m41, plM m41 r.2)] [m40, m41]
theorem wave_New_con0 {k : Nat}  {a0 : Int} {r : TRef × Pool (TNode TMark TSwell)}  (H0 : wave_New.f k a0 = some r) : wave_New_st a0 r 40 41 := by
 rw [wave_New.f] at H0
 refine spec_of [(0, _)] [] 5 Tryz.func52 rfl Tryz.ntmps52 rfl rfl rfl rfl (fun β W F => ?_)
 refine G.seq <| G.rg <| K.as rfl rfl <| K.nil <| At.ns ?_
 obtain ⟨x1, hx1, H0⟩ := bnd H0
 exact G.rg <| K.mv rfl rfl <| K.c0 (cf 91 rfl) (Tree_NewM_con hx1 100 101 rfl) g0 rfl rfl rfl rfl <| K.as rfl rfl <| K.nil <| At.next <| G.ret <| At.ren (fs' := [(2, .a (.c (.p 40 0)))]) (tl := [(40, blk 40 [.p 41 0, .v (.int .i64 x1.1.index), .v (.int .i64 x1.1.gen)] 110), (41, plM 41 x1.2)]) [(40, 100), (41, 101)] [_, _] rfl ⟨rfl, trivial⟩ ⟨rfl, (blk_ren rfl rfl), rfl, (pl_ren rfl), trivial⟩ rfl <| At.dr Y [2] rfl rfl (by cases H0; rfl) (by cases H0; rfl) rfl rfl rfl
theorem wave_New_con {k : Nat}  {a0 : Int} {r : TRef × Pool (TNode TMark TSwell)}  (H0 : wave_New.f k a0 = some r) (m40 m41 : Nat) (hd : ndB [m40, m41] = true) : wave_New_st a0 r m40 m41 :=
 SCon.ren (rn [(40, m40), (41, m41)]) (wave_New_con0 (k := k)   H0) trivial ⟨(blk_ren rfl rfl), (pl_ren rfl), trivial⟩ (rn_nd hd rfl rfl) (rn_ks hd rfl rfl rfl)
abbrev shelf_New_st (a0 : Int) (r : TRef × Pool (TNode TSlot TSize)) (m40 : Nat) (m41 : Nat) : Prop := SCon Tryz.prog 53 [.a (.c (.v (.int .i64 a0)))] [] (.a (.c (.p m40 0))) [(m40, blk m40 [.p m41 0, .i r.1.index, .i r.1.gen] 131), (m41, plS m41 r.2)] [m40, m41]
theorem shelf_New_con0 {k : Nat}  {a0 : Int} {r : TRef × Pool (TNode TSlot TSize)}  (H0 : shelf_New.f k a0 = some r) : shelf_New_st a0 r 40 41 := by
 rw [shelf_New.f] at H0
 refine spec_of [(0, _)] [] 5 Tryz.func53 rfl Tryz.ntmps53 rfl rfl rfl rfl (fun β W F => ?_)
 refine G.seq <| G.rg <| K.as rfl rfl <| K.nil <| At.ns ?_
 obtain ⟨x1, hx1, H0⟩ := bnd H0
 exact G.rg <| K.mv rfl rfl <| K.c0 (cf 92 rfl) (Tree_NewS_con hx1 100 101 rfl) g0 rfl rfl rfl rfl <| K.as rfl rfl <| K.nil <| At.next <| G.ret <| At.ren (fs' := [(2, .a (.c (.p 40 0)))]) (tl := [(40, blk 40 [.p 41 0, .v (.int .i64 x1.1.index), .v (.int .i64 x1.1.gen)] 131), (41, plS 41 x1.2)]) [(40, 100), (41, 101)] [_, _] rfl ⟨rfl, trivial⟩ ⟨rfl, (blk_ren rfl rfl), rfl, (pl_ren rfl), trivial⟩ rfl <| At.dr Y [2] rfl rfl (by cases H0; rfl) (by cases H0; rfl) rfl rfl rfl
theorem shelf_New_con {k : Nat}  {a0 : Int} {r : TRef × Pool (TNode TSlot TSize)}  (H0 : shelf_New.f k a0 = some r) (m40 m41 : Nat) (hd : ndB [m40, m41] = true) : shelf_New_st a0 r m40 m41 :=
 SCon.ren (rn [(40, m40), (41, m41)]) (shelf_New_con0 (k := k)   H0) trivial ⟨(blk_ren rfl rfl), (pl_ren rfl), trivial⟩ (rn_nd hd rfl rfl) (rn_ks hd rfl rfl rfl)
abbrev partial_New_st (a0 : Int) (r : TQueue) (m80 : Nat) (m81 : Nat) (m82 : Nat) (m83 : Nat) (m84 : Nat) (m85 : Nat) (m86 : Nat) (m87 : Nat) (m88 : Nat) : Prop := SCon Tryz.prog 15 [.a (.c (.v (.int .i64 a0)))] [] (.a (.c (.p m80 0))) (tkQueue m80 m81 m82 m83 m84 m85 m86 m87 m88 r []) [m80, m81, m82, m83, m84, m85, m86, m87, m88]
theorem partial_New_con0 {k : Nat}  {a0 : Int} {r : TQueue}  (H0 : partial_New.f k a0 = some r) : partial_New_st a0 r 80 81 82 83 84 85 86 87 88 := by
 rw [partial_New.f] at H0
 refine spec_of [(0, _)] [] 18 Tryz.func15 rfl Tryz.ntmps15 rfl rfl rfl rfl (fun β W F => ?_)
 refine G.seq <| G.rg <| K.as rfl rfl <| K.nil <| At.nr <| K.mv rfl rfl <| K.bi2 (V := .int .i64 (gmax a0 0)) g0 rfl rfl (fun _ _ => rfl) rfl <| K.bi2 (V := .int .i64 (gmin (gmax a0 0) 65536)) g0 rfl rfl (fun _ _ => rfl) rfl <| K.as rfl rfl <| K.nil <| At.ns ?_
 obtain ⟨x1, hx1, H0⟩ := bnd H0
 obtain ⟨x2, hx2, H0⟩ := bnd H0
 obtain ⟨x3, hx3, H0⟩ := bnd H0
 obtain ⟨x4, hx4, H0⟩ := bnd H0
 exact G.rg <| K.mv rfl rfl <| K.mv rfl rfl <| K.c0 (cf 52 rfl) (wave_New_con hx1 100 101 rfl) g0 rfl rfl rfl rfl <| K.mv rfl rfl <| K.c0 (cf 53 rfl) (shelf_New_con hx2 102 103 rfl) g0 rfl rfl rfl rfl <| K.mv rfl rfl <| K.c0 (cf 53 rfl) (shelf_New_con hx3 104 105 rfl) g0 rfl rfl rfl rfl <| K.mv rfl rfl <| K.c0 (cf 53 rfl) (shelf_New_con hx4 106 107 rfl) g0 rfl rfl rfl rfl <| K.build Y [(0, _), (1, _), (2, _), (3, _), (4, _)] [_, _, _, _, _, _] [((.tmp 7), _), ((.tmp 9), _), ((.tmp 11), _), ((.tmp 13), _), ((.tmp 15), _)] g0 (AllE.spec ⟨rfl, rfl, rfl, rfl, rfl, trivial⟩) rfl rfl t98 rfl rfl <| K.box Y 108 _ g0 rfl rfl rfl rfl rfl rfl <| K.as rfl rfl <| K.nil <| At.next <| G.ret <| At.ren (fs' := [(2, .a (.c (.p 80 0)))]) (tl := (tkQueue 80 81 82 83 84 85 86 87 88 (TQueue.mk (gmin (gmax a0 0) 65536) (TS.mk x1.2 x1.1) (TS.mk x2.2 x2.1) (TS.mk x3.2 x3.1) (TS.mk x4.2 x4.1) 0) [])) [(80, 108), (81, 100), (82, 101), (83, 102), (84, 103), (85, 104), (86, 105), (87, 106), (88, 107)] [_, _, _, _, _, _, _, _, _] rfl ⟨rfl, trivial⟩ ⟨rfl, (blk_ren rfl rfl), rfl, (blk_ren rfl rfl), rfl, (pl_ren rfl), rfl, (blk_ren rfl rfl), rfl, (pl_ren rfl), rfl, (blk_ren rfl rfl), rfl, (pl_ren rfl), rfl, (blk_ren rfl rfl), rfl, (pl_ren rfl), trivial⟩ rfl <| At.dr Y [2] rfl rfl (by cases H0; rfl) (by cases H0; rfl) rfl rfl rfl
theorem partial_New_con {k : Nat}  {a0 : Int} {r : TQueue}  (H0 : partial_New.f k a0 = some r) (m80 m81 m82 m83 m84 m85 m86 m87 m88 : Nat) (hd : ndB [m80, m81, m82, m83, m84, m85, m86, m87, m88] = true) : partial_New_st a0 r m80 m81 m82 m83 m84 m85 m86 m87 m88 :=
 SCon.ren (rn [(80, m80), (81, m81), (82, m82), (83, m83), (84, m84), (85, m85), (86, m86), (87, m87), (88, m88)]) (partial_New_con0 (k := k)   H0) trivial ⟨(blk_ren rfl rfl), (blk_ren rfl rfl), (pl_ren rfl), (blk_ren rfl rfl), (pl_ren rfl), (blk_ren rfl rfl), (pl_ren rfl), (blk_ren rfl rfl), (pl_ren rfl), trivial⟩ (rn_nd hd rfl rfl) (rn_ks hd rfl rfl rfl)
abbrev wave_Key_st (a0 : Int) (r : TMark) : Prop := SCon Tryz.prog 67 [.a (.c (.v (.int .i64 a0)))] [] (.a (.agg ((eTMark r).map .v))) [] []
theorem wave_Key_con0 {k : Nat}  {a0 : Int} {r : TMark}  (H0 : wave_Key.f k a0 = some r) : wave_Key_st a0 r := by
 rw [wave_Key.f] at H0
 refine spec_of [(0, _)] [] 6 Tryz.func67 rfl Tryz.ntmps67 rfl rfl rfl rfl (fun β W F => ?_)
 refine G.seq <| G.rg <| K.alloc Y 100 _ g0 t46 rfl rfl rfl rfl rfl <| K.nil <| At.nr <| K.mv rfl rfl <| K.build Y [(0, _)] [_, _, _, _] [((.tmp 3), _)] g0 (AllE.spec ⟨rfl, trivial⟩) rfl rfl t42 rfl rfl <| K.build Y [(0, _)] [_, _, _, _, _, _, _, _] [((.tmp 4), _)] g0 (AllE.spec ⟨rfl, trivial⟩) rfl rfl t46 rfl rfl <| K.store Y _ g0 rfl rfl rfl t46 rfl rfl rfl rfl rfl <| K.nil <| At.next <| G.ret <| At.done Y [(.cell 2 46, .agg [_, _, _, _, _, _, _, _])] rfl ⟨.st rfl rfl t46 rfl rfl, trivial⟩ (to' := []) trivial ?_ ?_ rfl rfl rfl (.inl rfl)
 · cases H0; rfl
 · cases H0; rfl
theorem wave_Key_con {k : Nat}  {a0 : Int} {r : TMark}  (H0 : wave_Key.f k a0 = some r) : wave_Key_st a0 r :=
 SCon.ren (rn []) (wave_Key_con0 (k := k)   H0) trivial trivial (by simp) (by simp)
abbrev partial_Queue_may_st (q0 : TQueue) (a1 : Int) (r : Int) (m0 : Nat) (m1 : Nat) (m2 : Nat) (m3 : Nat) (m4 : Nat) (m5 : Nat) (m6 : Nat) (m7 : Nat) (m8 : Nat) : Prop := SCon Tryz.prog 63 [SV.p m0 0, .a (.c (.v (.int .i64 a1)))] (tkQueue m0 m1 m2 m3 m4 m5 m6 m7 m8 q0 []) (.a (.c (.v (.int .i64 r)))) (tkQueue m0 m1 m2 m3 m4 m5 m6 m7 m8 q0 []) []
theorem partial_Queue_may_con0 {k : Nat}  {q0 : TQueue} {a1 : Int} {r : Int}  (H0 : partial_Queue_may.f k q0 a1 = some r) : partial_Queue_may_st q0 a1 r 0 1 2 3 4 5 6 7 8 := by
 rw [partial_Queue_may.f] at H0
 refine spec_of [(0, _), (1, _)] [(0, _), (1, _), (2, _), (3, _), (4, _), (5, _), (6, _), (7, _), (8, _)] 28 Tryz.func63 rfl Tryz.ntmps63 rfl rfl rfl rfl (fun β W F => ?_)
 refine G.seq <| G.rg <| K.as rfl rfl <| K.nil <| At.ns <| G.seq ?_
 obtain ⟨x1, hx1, H0⟩ := bnd H0
 refine G.rd mixed <| K.mv rfl rfl <| K.nilCheck g0 rfl rfl <| K.fieldAddr Y g0 rfl t98 rfl rfl <| K.load1 Y g0 rfl rfl t38 rfl rfl <| K.cR (cf 34 rfl) (Tree_LenM_con hx1 1 2) g0 rfl rfl rfl rfl <| K.mv rfl rfl <| K.nilCheck g0 rfl rfl <| K.fieldAddr Y g0 rfl t98 rfl rfl <| K.load1 Y g0 rfl rfl t3 rfl rfl <| K.bin (V := .bool (x1 == q0.capacity)) g0 rfl rfl (fun _ => rfl) rfl <| K.nil <| And.intro (by kernel_rfl) <| At.next <| G.cond rfl (fun h1 => ?_) (fun h1 => ?_)
 ·
  replace H0 := bif_t H0 h1
  exact G.seq <| G.rg <| K.as rfl rfl <| K.nil <| At.next <| G.ret <| At.over_ret <| At.dr Y [4] rfl rfl (by cases H0; rfl) (by cases H0; rfl) rfl rfl rfl
 ·
  replace H0 := bif_f H0 h1
  refine G.skip <| At.ns <| G.seq ?_
  obtain ⟨x2, hx2, H0⟩ := bnd H0
  obtain ⟨x3, hx3, H0⟩ := bnd H0
  refine G.rd mixed <| K.mv rfl rfl <| K.nilCheck g0 rfl rfl <| K.fieldAddr Y g0 rfl t98 rfl rfl <| K.load1 Y g0 rfl rfl t38 rfl rfl <| K.mv rfl rfl <| K.cR (cf 67 rfl) (wave_Key_con hx2) g0 rfl rfl rfl rfl <| K.cR (cf 74 rfl) (Tree_FindM_con hx3 1 2) g0 rfl rfl rfl rfl <| K.mv rfl rfl <| K.extract g0 rfl rfl rfl <| K.extract g0 rfl rfl rfl <| K.alloc Y 100 _ g0 t46 rfl rfl rfl rfl rfl <| K.store Y _ g0 rfl rfl rfl t46 rfl rfl rfl rfl rfl <| K.as rfl rfl <| K.nil <| And.intro (by kernel_rfl) <| At.nr <| K.mv rfl rfl <| K.nil <| At.next <| G.cond rfl (fun h2 => ?_) (fun h2 => ?_)
  ·
   replace H0 := bif_t H0 h2
   exact G.seq <| G.rg <| K.as rfl rfl <| K.nil <| At.next <| G.ret <| At.over_ret <| At.dr Y [4] rfl rfl (by cases H0; rfl) (by cases H0; rfl) rfl rfl rfl
  ·
   replace H0 := bif_f H0 h2
   exact G.skip <| At.nr <| K.as rfl rfl <| K.nil <| At.next <| G.ret <| At.dr Y [4] rfl rfl (by cases H0; rfl) (by cases H0; rfl) rfl rfl rfl
theorem partial_Queue_may_con {k : Nat}  {q0 : TQueue} {a1 : Int} {r : Int}  (H0 : partial_Queue_may.f k q0 a1 = some r) (m0 m1 m2 m3 m4 m5 m6 m7 m8 : Nat) : partial_Queue_may_st q0 a1 r m0 m1 m2 m3 m4 m5 m6 m7 m8 :=
 SCon.ren (rn [(0, m0), (1, m1), (2, m2), (3, m3), (4, m4), (5, m5), (6, m6), (7, m7), (8, m8)]) (partial_Queue_may_con0 (k := k)   H0) ⟨(blk_ren rfl rfl), (blk_ren rfl rfl), (pl_ren rfl), (blk_ren rfl rfl), (pl_ren rfl), (blk_ren rfl rfl), (pl_ren rfl), (blk_ren rfl rfl), (pl_ren rfl), trivial⟩ ⟨(blk_ren rfl rfl), (blk_ren rfl rfl), (pl_ren rfl), (blk_ren rfl rfl), (pl_ren rfl), (blk_ren rfl rfl), (pl_ren rfl), (blk_ren rfl rfl), (pl_ren rfl), trivial⟩ (by simp) (by simp)
abbrev shelf_Of_st (a0 : TItem) (r : TSlot) : Prop := SCon Tryz.prog 65 [.a (.agg ((eTItem a0).map .v))] [] (.a (.agg ((eTSlot r).map .v))) [] []
theorem shelf_Of_con0 {k : Nat}  {a0 : TItem} {r : TSlot}  (H0 : shelf_Of.f k a0 = some r) : shelf_Of_st a0 r := by
 rw [shelf_Of.f] at H0
 refine spec_of [(0, _)] [] 5 Tryz.func65 rfl Tryz.ntmps65 rfl rfl rfl rfl (fun β W F => ?_)
 refine G.seq <| G.rg <| K.box Y 100 _ g0 rfl rfl rfl rfl rfl rfl <| K.alloc Y 101 _ g0 t66 rfl rfl rfl rfl rfl <| K.nil <| At.nr <| K.loadS Y _ g0 rfl rfl t30 rfl rfl rfl <| K.build Y [(0, _)] [_, _, _, _] [((.tmp 3), _)] g0 (AllE.spec ⟨rfl, trivial⟩) rfl rfl t66 rfl rfl <| K.store Y _ g0 rfl rfl rfl t66 rfl rfl rfl rfl rfl <| K.nil <| At.next <| G.ret <| At.done Y [(.cell 2 66, .agg [_, _, _, _])] rfl ⟨.st rfl rfl t66 rfl rfl, trivial⟩ (to' := []) trivial ?_ ?_ rfl rfl rfl (.inl rfl)
 · cases H0; rfl
 · cases H0; rfl
theorem shelf_Of_con {k : Nat}  {a0 : TItem} {r : TSlot}  (H0 : shelf_Of.f k a0 = some r) : shelf_Of_st a0 r :=
 SCon.ren (rn []) (shelf_Of_con0 (k := k)   H0) trivial trivial (by simp) (by simp)
abbrev bridge_clamp_st (p1 : Pool (TNode TMark TSwell)) (rt0 : TRef) (a1 : Int) (r : Int) (m0 : Nat) (m1 : Nat) : Prop := SCon Tryz.prog 98 [SV.p m0 0, .a (.c (.v (.int .i64 a1)))] [(m0, blk m0 [.p m1 0, .i rt0.index, .i rt0.gen] 110), (m1, plM m1 p1)] (.a (.c (.v (.int .i64 r)))) [(m0, blk m0 [.p m1 0, .i rt0.index, .i rt0.gen] 110), (m1, plM m1 p1)] []
theorem bridge_clamp_con0 {k : Nat}  {p1 : Pool (TNode TMark TSwell)} {rt0 : TRef} {a1 : Int} {r : Int}  (H0 : bridge_clamp.f k p1 rt0 a1 = some r) : bridge_clamp_st p1 rt0 a1 r 0 1 := by
 rw [bridge_clamp.f] at H0
 refine spec_of [(0, _), (1, _)] [(0, _), (1, _)] 10 Tryz.func98 rfl Tryz.ntmps98 rfl rfl rfl rfl (fun β W F => ?_)
 refine G.seq <| G.rg <| K.as rfl rfl <| K.nil <| At.ns ?_
 obtain ⟨x1, hx1, H0⟩ := bnd H0
 exact G.rg <| K.mv rfl rfl <| K.bi2 (V := .int .i64 (gmax a1 0)) g0 rfl rfl (fun _ _ => rfl) rfl <| K.mv rfl rfl <| K.cR (cf 34 rfl) (Tree_LenM_con hx1 0 1) g0 rfl rfl rfl rfl <| K.bi2 (V := .int .i64 (gmin (gmax a1 0) x1)) g0 rfl rfl (fun _ _ => rfl) rfl <| K.as rfl rfl <| K.nil <| At.next <| G.ret <| At.dr Y [4] rfl rfl (by cases H0; rfl) (by cases H0; rfl) rfl rfl rfl
theorem bridge_clamp_con {k : Nat}  {p1 : Pool (TNode TMark TSwell)} {rt0 : TRef} {a1 : Int} {r : Int}  (H0 : bridge_clamp.f k p1 rt0 a1 = some r) (m0 m1 : Nat) : bridge_clamp_st p1 rt0 a1 r m0 m1 :=
 SCon.ren (rn [(0, m0), (1, m1)]) (bridge_clamp_con0 (k := k)   H0) ⟨(blk_ren rfl rfl), (pl_ren rfl), trivial⟩ ⟨(blk_ren rfl rfl), (pl_ren rfl), trivial⟩ (by simp) (by simp)
abbrev bridge_low_st (a0 : Int) (r : Int) (m50 : Nat) : Prop := SCon Tryz.prog 99 [.a (.c (.v (.int .i64 a0)))] [] (.a (.c (.fn (.func 119) [m50]))) [(m50, blk m50 [.v (.int .i64 r)] 3)] [m50]
theorem bridge_low_con0 {k : Nat}  {a0 : Int} {r : Int}  (H0 : bridge_low.f k a0 = some r) : bridge_low_st a0 r 50 := by
 rw [bridge_low.f] at H0
 refine spec_of [(0, _)] [] 4 Tryz.func99 rfl Tryz.ntmps99 rfl rfl rfl rfl (fun β W F => ?_)
 exact G.seq <| G.rg <| K.box Y 100 _ g0 rfl rfl rfl rfl rfl rfl <| K.as rfl rfl <| K.nil <| At.nr <| K.mkFn1 g0 rfl rfl <| K.as rfl rfl <| K.nil <| At.next <| G.ret <| At.ren (fs' := [(2, .a (.c (.fn (.func 119) [50])))]) (tl := [(50, blk 50 [.v (.int .i64 a0)] 3)]) [(50, 100)] [_] rfl ⟨rfl, trivial⟩ ⟨rfl, (blk_ren rfl rfl), trivial⟩ rfl <| At.dr Y [2] rfl rfl (by cases H0; rfl) (by cases H0; rfl) rfl rfl rfl
theorem bridge_low_con {k : Nat}  {a0 : Int} {r : Int}  (H0 : bridge_low.f k a0 = some r) (m50 : Nat) (hd : ndB [m50] = true) : bridge_low_st a0 r m50 :=
 SCon.ren (rn [(50, m50)]) (bridge_low_con0 (k := k)   H0) trivial ⟨(blk_ren rfl rfl), trivial⟩ (rn_nd hd rfl rfl) (rn_ks hd rfl rfl rfl)
abbrev bridge_low_1_st (a0 : TSwell) (a1 : TSwell) (c0 : Int) (r : Bool) (m0 : Nat) : Prop := SCon Tryz.prog 119 [.a (.agg ((eTSwell a0).map .v)), .a (.agg ((eTSwell a1).map .v)), SV.p m0 0] [(m0, blk m0 [.v (.int .i64 c0)] 3)] (.a (.c (.v (.bool r)))) [(m0, blk m0 [.v (.int .i64 c0)] 3)] []
theorem bridge_low_1_con0 {k : Nat}  {a0 : TSwell} {a1 : TSwell} {c0 : Int} {r : Bool}  (H0 : bridge_low_1.f k a0 a1 c0 = some r) : bridge_low_1_st a0 a1 c0 r 0 := by
 rw [bridge_low_1.f] at H0
 refine spec_of [(0, _), (1, _), (2, _)] [(0, _)] 22 Tryz.func119 rfl Tryz.ntmps119 rfl rfl rfl rfl (fun β W F => ?_)
 refine G.seq <| G.rg <| K.box Y 100 _ g0 rfl rfl rfl rfl rfl rfl <| K.box Y 101 _ g0 rfl rfl rfl rfl rfl rfl <| K.as rfl rfl <| K.nil <| At.ns ?_
 rcases Bool.eq_false_or_eq_true (decide (a1.weight.n > 0)) with h1 | h1
 ·
  replace H0 := bif_t H0 h1
  exact G.rg <| K.fieldAddr Y g0 rfl t50 rfl rfl <| K.fieldAddr Y g0 rfl t48 rfl rfl <| K.load1 Y g0 rfl rfl t3 rfl rfl <| K.bin (V := .bool (decide (a1.weight.n > 0))) g0 rfl rfl (fun _ => rfl) rfl <| K.mv rfl rfl <| K.load1 Y (g1 rfl rfl h1) rfl rfl t3 rfl rfl <| K.fieldAddr Y (g1 rfl rfl h1) rfl t50 rfl rfl <| K.fieldAddr Y (g1 rfl rfl h1) rfl t48 rfl rfl <| K.load1 Y (g1 rfl rfl h1) rfl rfl t3 rfl rfl <| K.bin (V := .int .i64 (w64 (c0 + a0.weight.sum))) (g1 rfl rfl h1) rfl rfl (fun _ => rfl) rfl <| K.fieldAddr Y (g1 rfl rfl h1) rfl t50 rfl rfl <| K.fieldAddr Y (g1 rfl rfl h1) rfl t48 rfl rfl <| K.load1 Y (g1 rfl rfl h1) rfl rfl t3 rfl rfl <| K.bin (V := .int .i64 (w64 ((w64 (c0 + a0.weight.sum)) + a1.weight.low))) (g1 rfl rfl h1) rfl rfl (fun _ => rfl) rfl <| K.bin (V := .bool (decide ((w64 ((w64 (c0 + a0.weight.sum)) + a1.weight.low)) ≤ 0))) (g1 rfl rfl h1) rfl rfl (fun _ => rfl) rfl <| K.pickT g0 rfl (h1) rfl rfl <| K.as rfl rfl <| K.nil <| At.next <| G.ret <| At.dr Y [5] rfl rfl (by cases H0; rfl) (by cases H0; rfl) rfl rfl rfl
 ·
  replace H0 := bif_f H0 h1
  exact G.rg <| K.fieldAddr Y g0 rfl t50 rfl rfl <| K.fieldAddr Y g0 rfl t48 rfl rfl <| K.load1 Y g0 rfl rfl t3 rfl rfl <| K.bin (V := .bool (decide (a1.weight.n > 0))) g0 rfl rfl (fun _ => rfl) rfl <| K.mv rfl rfl <| K.sk rfl rfl h1 rfl <| K.sk rfl rfl h1 rfl <| K.sk rfl rfl h1 rfl <| K.sk rfl rfl h1 rfl <| K.sk rfl rfl h1 rfl <| K.sk rfl rfl h1 rfl <| K.sk rfl rfl h1 rfl <| K.sk rfl rfl h1 rfl <| K.sk rfl rfl h1 rfl <| K.sk rfl rfl h1 rfl <| K.pickF g0 rfl (h1) rfl rfl <| K.as rfl rfl <| K.nil <| At.next <| G.ret <| At.dr Y [5] rfl rfl (by cases H0; rfl) (by cases H0; rfl) rfl rfl rfl
theorem bridge_low_1_con {k : Nat}  {a0 : TSwell} {a1 : TSwell} {c0 : Int} {r : Bool}  (H0 : bridge_low_1.f k a0 a1 c0 = some r) (m0 : Nat) : bridge_low_1_st a0 a1 c0 r m0 :=
 SCon.ren (rn [(0, m0)]) (bridge_low_1_con0 (k := k)   H0) ⟨(blk_ren rfl rfl), trivial⟩ ⟨(blk_ren rfl rfl), trivial⟩ (by simp) (by simp)
abbrev bridge_Prior_st (p1 : Pool (TNode TMark TSwell)) (rt0 : TRef) (a1 : Int) (a2 : Int) (r : Int) (m0 : Nat) (m1 : Nat) : Prop := SCon Tryz.prog 68 [SV.p m0 0, .a (.c (.v (.int .i64 a1))), .a (.c (.v (.int .i64 a2)))] [(m0, blk m0 [.p m1 0, .i rt0.index, .i rt0.gen] 110), (m1, plM m1 p1)] (.a (.c (.v (.int .i64 r)))) [(m0, blk m0 [.p m1 0, .i rt0.index, .i rt0.gen] 110), (m1, plM m1 p1)] []
theorem bridge_Prior_con0 {k : Nat}  {p1 : Pool (TNode TMark TSwell)} {rt0 : TRef} {a1 : Int} {a2 : Int} {r : Int}  (H0 : bridge_Prior.f k p1 rt0 a1 a2 = some r) : bridge_Prior_st p1 rt0 a1 a2 r 0 1 := by
 rw [bridge_Prior.f] at H0
 refine spec_of [(0, _), (1, _), (2, _)] [(0, _), (1, _)] 21 Tryz.func68 rfl Tryz.ntmps68 rfl rfl rfl rfl (fun β W F => ?_)
 refine G.seq <| G.rg <| K.as rfl rfl <| K.nil <| At.ns <| G.seq ?_
 obtain ⟨x1, hx1, H0⟩ := bnd H0
 obtain ⟨x2, hx2, H0⟩ := bnd H0
 obtain ⟨x3, hx3, H0⟩ := bnd H0
 refine G.rg <| K.mv rfl rfl <| K.mv rfl rfl <| K.mv rfl rfl <| K.cR (cf 98 rfl) (bridge_clamp_con hx1 0 1) g0 rfl rfl rfl rfl <| K.mv rfl rfl <| K.c0 (cf 99 rfl) (bridge_low_con hx2 100 rfl) g0 rfl rfl rfl rfl <| K.cR (cf 97 rfl) (Tree_LastM_f12_con (cv2 := [(.int .i64 x2)]) (Tc2 := 3) (cf 119 rfl) (fun c _ _ _ h => bridge_low_1_con h c) hx3 0 1 100) g0 rfl rfl rfl rfl <| K.as rfl rfl <| K.nil <| At.nr <| K.mv rfl rfl <| K.bin (V := .bool (decide (x3 ≥ 0))) g0 rfl rfl (fun _ => rfl) rfl <| K.nil <| At.next <| G.cond rfl (fun h1 => ?_) (fun h1 => ?_)
 ·
  replace H0 := bif_t H0 h1
  exact G.seq <| G.rg <| K.mv rfl rfl <| K.bin (V := .int .i64 (w64 (x3 + 1))) g0 rfl rfl (fun _ => rfl) rfl <| K.as rfl rfl <| K.nil <| At.next <| G.ret <| At.over_ret <| At.dr Y [6] rfl rfl (by cases H0; rfl) (by cases H0; rfl) rfl rfl rfl
 ·
  replace H0 := bif_f H0 h1
  refine G.skip <| At.ns <| G.seq <| G.rg <| K.mv rfl rfl <| K.bin (V := .bool (decide (a2 ≤ 0))) g0 rfl rfl (fun _ => rfl) rfl <| K.nil <| At.next <| G.cond rfl (fun h2 => ?_) (fun h2 => ?_)
  ·
   replace H0 := bif_t H0 h2
   exact G.seq <| G.rg <| K.as rfl rfl <| K.nil <| At.next <| G.ret <| At.over_ret <| At.dr Y [6] rfl rfl (by cases H0; rfl) (by cases H0; rfl) rfl rfl rfl
  ·
   replace H0 := bif_f H0 h2
   exact G.skip <| At.nr <| K.as rfl rfl <| K.nil <| At.next <| G.ret <| At.dr Y [6] rfl rfl (by cases H0; rfl) (by cases H0; rfl) rfl rfl rfl
theorem bridge_Prior_con {k : Nat}  {p1 : Pool (TNode TMark TSwell)} {rt0 : TRef} {a1 : Int} {a2 : Int} {r : Int}  (H0 : bridge_Prior.f k p1 rt0 a1 a2 = some r) (m0 m1 : Nat) : bridge_Prior_st p1 rt0 a1 a2 r m0 m1 :=
 SCon.ren (rn [(0, m0), (1, m1)]) (bridge_Prior_con0 (k := k)   H0) ⟨(blk_ren rfl rfl), (pl_ren rfl), trivial⟩ ⟨(blk_ren rfl rfl), (pl_ren rfl), trivial⟩ (by simp) (by simp)
abbrev bridge_Best_st (p1 : Pool (TNode TMark TSwell)) (rt0 : TRef) (a1 : Int) (r : TTook) (m0 : Nat) (m1 : Nat) : Prop := SCon Tryz.prog 71 [SV.p m0 0, .a (.c (.v (.int .i64 a1)))] [(m0, blk m0 [.p m1 0, .i rt0.index, .i rt0.gen] 110), (m1, plM m1 p1)] (.a (.agg ((eTTook r).map .v))) [(m0, blk m0 [.p m1 0, .i rt0.index, .i rt0.gen] 110), (m1, plM m1 p1)] []
theorem bridge_Best_con0 {k : Nat}  {p1 : Pool (TNode TMark TSwell)} {rt0 : TRef} {a1 : Int} {r : TTook}  (H0 : bridge_Best.f k p1 rt0 a1 = some r) : bridge_Best_st p1 rt0 a1 r 0 1 := by
 rw [bridge_Best.f] at H0
 refine spec_of [(0, _), (1, _)] [(0, _), (1, _)] 13 Tryz.func71 rfl Tryz.ntmps71 rfl rfl rfl rfl (fun β W F => ?_)
 refine G.seq <| G.rg <| K.alloc Y 100 _ g0 t44 rfl rfl rfl rfl rfl <| K.nil <| At.ns ?_
 obtain ⟨x1, hx1, H0⟩ := bnd H0
 obtain ⟨x2, hx2, H0⟩ := bnd H0
 obtain ⟨x3, hx3, H0⟩ := bnd H0
 refine G.rg <| K.mv rfl rfl <| K.mv rfl rfl <| K.mv rfl rfl <| K.cR (cf 98 rfl) (bridge_clamp_con hx1 0 1) g0 rfl rfl rfl rfl <| K.mv rfl rfl <| K.cR (cf 34 rfl) (Tree_LenM_con hx2 0 1) g0 rfl rfl rfl rfl <| K.cR (cf 102 rfl) (Tree_BetweenM_con hx3 0 1) g0 rfl rfl rfl rfl <| K.fieldS Y _ g0 rfl t50 rfl t44 rfl rfl <| K.store Y _ g0 rfl rfl rfl t44 rfl rfl rfl rfl rfl <| K.nil <| At.next <| G.ret <| At.done Y [(.cell 4 44, .agg [_, _, _])] rfl ⟨.st rfl rfl t44 rfl rfl, trivial⟩ (to' := [(0, _), (1, _)]) ⟨rfl, rfl, trivial⟩ ?_ ?_ rfl rfl rfl (.inl rfl)
 · cases H0; rfl
 · cases H0; rfl
theorem bridge_Best_con {k : Nat}  {p1 : Pool (TNode TMark TSwell)} {rt0 : TRef} {a1 : Int} {r : TTook}  (H0 : bridge_Best.f k p1 rt0 a1 = some r) (m0 m1 : Nat) : bridge_Best_st p1 rt0 a1 r m0 m1 :=
 SCon.ren (rn [(0, m0), (1, m1)]) (bridge_Best_con0 (k := k)   H0) ⟨(blk_ren rfl rfl), (pl_ren rfl), trivial⟩ ⟨(blk_ren rfl rfl), (pl_ren rfl), trivial⟩ (by simp) (by simp)
abbrev partial_Queue_turn_st (q0 : TQueue) (a1 : TItem) (a2 : Bool) (r : TQueue) (m0 : Nat) (m1 : Nat) (m2 : Nat) (m3 : Nat) (m4 : Nat) (m5 : Nat) (m6 : Nat) (m7 : Nat) (m8 : Nat) : Prop := SCon Tryz.prog 72 [SV.p m0 0, .a (.agg ((eTItem a1).map .v)), .a (.c (.v (.bool a2)))] (tkQueue m0 m1 m2 m3 m4 m5 m6 m7 m8 q0 []) (.tup []) (tkQueue m0 m1 m2 m3 m4 m5 m6 m7 m8 r []) []
theorem partial_Queue_turn_con0 {k : Nat}  {q0 : TQueue} {a1 : TItem} {a2 : Bool} {r : TQueue}  (H0 : partial_Queue_turn.f k q0 a1 a2 = some r) : partial_Queue_turn_st q0 a1 a2 r 0 1 2 3 4 5 6 7 8 := by
 rw [partial_Queue_turn.f] at H0
 refine spec_of [(0, _), (1, _), (2, _)] [(0, _), (1, _), (2, _), (3, _), (4, _), (5, _), (6, _), (7, _), (8, _)] 60 Tryz.func72 rfl Tryz.ntmps72 rfl rfl rfl rfl (fun β W F => ?_)
 refine G.seq <| G.rg <| K.box Y 100 _ g0 rfl rfl rfl rfl rfl rfl <| K.nil <| At.ns ?_
 obtain ⟨x1, hx1, H0⟩ := bnd H0
 obtain ⟨x2, hx2, H0⟩ := bnd H0
 refine G.rd mixed <| K.mv rfl rfl <| K.nilCheck g0 rfl rfl <| K.fieldAddr Y g0 rfl t98 rfl rfl <| K.load1 Y g0 rfl rfl t63 rfl rfl <| K.loadS Y _ g0 rfl rfl t30 rfl rfl rfl <| K.cR (cf 65 rfl) (shelf_Of_con hx1) g0 rfl rfl rfl rfl <| K.cR (cf 64 rfl) (Tree_FindS_con hx2 7 8) g0 rfl rfl rfl rfl <| K.mv rfl rfl <| K.extract g0 rfl rfl rfl <| K.extract g0 rfl rfl rfl <| K.alloc Y 101 _ g0 t66 rfl rfl rfl rfl rfl <| K.store Y _ g0 rfl rfl rfl t66 rfl rfl rfl rfl rfl <| K.as rfl rfl <| K.nil <| And.intro (by kernel_rfl) <| At.ns ?_
 obtain ⟨x3, hx3, H0⟩ := bnd H0
 obtain ⟨x4, hx4, H0⟩ := bnd H0
 refine G.rd mixed <| K.mv rfl rfl <| K.nilCheck g0 rfl rfl <| K.fieldAddr Y g0 rfl t98 rfl rfl <| K.load1 Y g0 rfl rfl t38 rfl rfl <| K.fieldAddr Y g0 rfl t66 rfl rfl <| K.load1 Y g0 rfl rfl t3 rfl rfl <| K.cR (cf 67 rfl) (wave_Key_con hx3) g0 rfl rfl rfl rfl <| K.cR (cf 74 rfl) (Tree_FindM_con hx4 1 2) g0 rfl rfl rfl rfl <| K.mv rfl rfl <| K.extract g0 rfl rfl rfl <| K.extract g0 rfl rfl rfl <| K.alloc Y 102 _ g0 t46 rfl rfl rfl rfl rfl <| K.store Y _ g0 rfl rfl rfl t46 rfl rfl rfl rfl rfl <| K.as rfl rfl <| K.nil <| And.intro (by kernel_rfl) <| At.nr <| K.mv rfl rfl <| K.fieldAddr Y g0 rfl t46 rfl rfl <| K.store Y _ g0 rfl rfl rfl t4 rfl rfl rfl rfl rfl <| K.nil <| At.ns ?_
 obtain ⟨x5, hx5, H0⟩ := bnd H0
 refine G.rd mixed <| K.mv rfl rfl <| K.nilCheck g0 rfl rfl <| K.fieldAddr Y g0 rfl t98 rfl rfl <| K.load1 Y g0 rfl rfl t38 rfl rfl <| K.loadS Y _ g0 rfl rfl t46 rfl rfl rfl <| K.c0 (cf 70 rfl) (Tree_PutM_con hx5 1 2) g0 rfl rfl rfl rfl <| K.nil <| And.intro (by kernel_rfl) <| At.ns <| G.rd mixed <| K.mv rfl rfl <| K.nilCheck g0 rfl rfl <| K.fieldAddr Y g0 rfl t98 rfl rfl <| K.load1 Y g0 rfl rfl t63 rfl rfl <| K.mv rfl rfl <| K.nilCheck g0 rfl rfl <| K.fieldAddr Y g0 rfl t98 rfl rfl <| K.load1 Y g0 rfl rfl t63 rfl rfl <| K.as rfl rfl <| K.as rfl rfl <| K.nil <| And.intro (by kernel_rfl) <| At.ns <| G.seq <| G.rg <| K.mv rfl rfl <| K.nil <| At.next <| G.cond rfl (fun h1 => ?_) (fun h1 => ?_)
 ·
  replace H0 := bif_t H0 h1
  refine G.rg <| K.mv rfl rfl <| K.mv rfl rfl <| K.as rfl rfl <| K.as rfl rfl <| K.nil <| At.ns ?_
  obtain ⟨x6, hx6, H0⟩ := bnd H0
  obtain ⟨x7, hx7, H0⟩ := bnd H0
  refine G.rg <| K.mv rfl rfl <| K.loadS Y _ g0 rfl rfl t30 rfl rfl rfl <| K.cR (cf 65 rfl) (shelf_Of_con hx6) g0 rfl rfl rfl rfl <| K.c0 (cf 77 rfl) (Tree_DropS_con hx7 5 6) g0 rfl rfl rfl rfl <| K.nil <| At.next ?_
  obtain ⟨x8, hx8, H0⟩ := bnd H0
  obtain ⟨x9, hx9, H0⟩ := bnd H0
  exact G.rg <| K.mv rfl rfl <| K.loadS Y _ g0 rfl rfl t30 rfl rfl rfl <| K.cR (cf 65 rfl) (shelf_Of_con hx8) g0 rfl rfl rfl rfl <| K.c0 (cf 69 rfl) (Tree_PutS_con hx9 3 4) g0 rfl rfl rfl rfl <| K.nil <| At.dn Y [] rfl rfl (by cases H0; rfl) (by cases H0; rfl) rfl rfl rfl
 ·
  replace H0 := bif_f H0 h1
  refine G.skip <| At.ns ?_
  obtain ⟨x10, hx10, H0⟩ := bnd H0
  obtain ⟨x11, hx11, H0⟩ := bnd H0
  refine G.rg <| K.mv rfl rfl <| K.loadS Y _ g0 rfl rfl t30 rfl rfl rfl <| K.cR (cf 65 rfl) (shelf_Of_con hx10) g0 rfl rfl rfl rfl <| K.c0 (cf 77 rfl) (Tree_DropS_con hx11 3 4) g0 rfl rfl rfl rfl <| K.nil <| At.next ?_
  obtain ⟨x12, hx12, H0⟩ := bnd H0
  obtain ⟨x13, hx13, H0⟩ := bnd H0
  exact G.rg <| K.mv rfl rfl <| K.loadS Y _ g0 rfl rfl t30 rfl rfl rfl <| K.cR (cf 65 rfl) (shelf_Of_con hx12) g0 rfl rfl rfl rfl <| K.c0 (cf 69 rfl) (Tree_PutS_con hx13 5 6) g0 rfl rfl rfl rfl <| K.nil <| At.dn Y [] rfl rfl (by cases H0; rfl) (by cases H0; rfl) rfl rfl rfl
theorem partial_Queue_turn_con {k : Nat}  {q0 : TQueue} {a1 : TItem} {a2 : Bool} {r : TQueue}  (H0 : partial_Queue_turn.f k q0 a1 a2 = some r) (m0 m1 m2 m3 m4 m5 m6 m7 m8 : Nat) : partial_Queue_turn_st q0 a1 a2 r m0 m1 m2 m3 m4 m5 m6 m7 m8 :=
 SCon.ren (rn [(0, m0), (1, m1), (2, m2), (3, m3), (4, m4), (5, m5), (6, m6), (7, m7), (8, m8)]) (partial_Queue_turn_con0 (k := k)   H0) ⟨(blk_ren rfl rfl), (blk_ren rfl rfl), (pl_ren rfl), (blk_ren rfl rfl), (pl_ren rfl), (blk_ren rfl rfl), (pl_ren rfl), (blk_ren rfl rfl), (pl_ren rfl), trivial⟩ ⟨(blk_ren rfl rfl), (blk_ren rfl rfl), (pl_ren rfl), (blk_ren rfl rfl), (pl_ren rfl), (blk_ren rfl rfl), (pl_ren rfl), (blk_ren rfl rfl), (pl_ren rfl), trivial⟩ (by simp) (by simp)
abbrev partial_Queue_Insert_st (q0 : TQueue) (a1 : Int) (a2 : TItem) (r : TChange × Int × TQueue) (m0 : Nat) (m1 : Nat) (m2 : Nat) (m3 : Nat) (m4 : Nat) (m5 : Nat) (m6 : Nat) (m7 : Nat) (m8 : Nat) (m60 : Nat) (m61 : Nat) : Prop := SCon Tryz.prog 23 [SV.p m0 0, .a (.c (.v (.int .i64 a1))), .a (.agg ((eTItem a2).map .v))] (tkQueue m0 m1 m2 m3 m4 m5 m6 m7 m8 q0 []) (.tup [.agg [.nv m60, .nv m61], .c (.v (.int .i64 r.2.1))]) (tkQueue m0 m1 m2 m3 m4 m5 m6 m7 m8 r.2.2 [(m60, lrow m60 30 eTItem 2 (r.1.in_)), (m61, lrow m61 30 eTItem 2 (r.1.out))]) [m60, m61]
set_option maxHeartbeats 4000000 in
theorem partial_Queue_Insert_con0 {k : Nat}  {q0 : TQueue} {a1 : Int} {a2 : TItem} {r : TChange × Int × TQueue}  (H0 : partial_Queue_Insert.f k q0 a1 a2 = some r) : partial_Queue_Insert_st q0 a1 a2 r 0 1 2 3 4 5 6 7 8 60 61 := by
 rw [partial_Queue_Insert.f] at H0
 refine spec_of [(0, _), (1, _), (2, _)] [(0, _), (1, _), (2, _), (3, _), (4, _), (5, _), (6, _), (7, _), (8, _)] 98 Tryz.func23 rfl Tryz.ntmps23 rfl rfl rfl rfl (fun β W F => ?_)
 refine G.seq <| G.rg <| K.box Y 100 _ g0 rfl rfl rfl rfl rfl rfl <| K.alloc Y 101 _ g0 t56 rfl rfl rfl rfl rfl <| K.as rfl rfl <| K.nil <| At.nilBlk (n := 101) (l' := [_, _]) 0 102 30 eTItem 2 rfl rfl rfl rfl rfl <| At.nilBlk (n := 101) (l' := [_, _]) 1 103 30 eTItem 2 rfl rfl rfl rfl rfl <| At.ns <| G.seq ?_
 obtain ⟨x1, hx1, H0⟩ := bnd H0
 refine G.rg <| K.mv rfl rfl <| K.mv rfl rfl <| K.cR (cf 63 rfl) (partial_Queue_may_con hx1 0 1 2 3 4 5 6 7 8) g0 rfl rfl rfl rfl <| K.as rfl rfl <| K.nil <| At.nr <| K.mv rfl rfl <| K.bin (V := .bool (x1 != 0)) g0 rfl rfl (fun _ => rfl) rfl <| K.nil <| At.next <| G.cond rfl (fun h1 => ?_) (fun h1 => ?_)
 ·
  replace H0 := bif_t H0 h1
  refine G.seq <| G.rg <| K.build Y [] [_, _] [] g0 (AllE.spec trivial) rfl rfl t56 rfl rfl <| K.mv rfl rfl <| K.store Y _ g0 rfl rfl rfl t56 rfl rfl rfl rfl rfl <| K.as rfl rfl <| K.nil <| At.nilAgg (t := 19) (l' := [_, _]) 0 104 30 eTItem 2 rfl rfl rfl rfl rfl <| At.nilAgg (t := 19) (l' := [_, _]) 1 105 30 eTItem 2 rfl rfl rfl rfl rfl <| At.nilBlk (n := 101) (l' := [_, _]) 0 106 30 eTItem 2 rfl rfl rfl rfl rfl <| At.nilBlk (n := 101) (l' := [_, _]) 1 107 30 eTItem 2 rfl rfl rfl rfl rfl <| At.next <| G.ret <| At.over_ret <| At.ren (fs' := [(6, .a (.c (.p 101 0))), (7, .a (.c (.v (.int .i64 x1))))]) (tl := (tkQueue 0 1 2 3 4 5 6 7 8 q0 [(60, lrow 60 30 eTItem 2 ([] : List TItem)), (61, lrow 61 30 eTItem 2 ([] : List TItem)), (101, blk 101 [.nv 60, .nv 61] 56)])) [(60, 106), (61, 107)] [_, _, _, _, _, _, _, _, _, _, _, _] rfl ⟨rfl, rfl, trivial⟩ ⟨rfl, (blk_ren rfl rfl), rfl, (blk_ren rfl rfl), rfl, (pl_ren rfl), rfl, (blk_ren rfl rfl), rfl, (pl_ren rfl), rfl, (blk_ren rfl rfl), rfl, (pl_ren rfl), rfl, (blk_ren rfl rfl), rfl, (pl_ren rfl), rfl, (lrow_ren rfl), rfl, (lrow_ren rfl), rfl, (blk_ren rfl rfl), trivial⟩ rfl <| At.done Y [(.cell 6 56, .agg [_, _]), (.tmp 7, .c _)] rfl ⟨.st rfl rfl t56 rfl rfl, .tmp rfl, trivial⟩ (to' := [(0, _), (1, _), (2, _), (3, _), (4, _), (5, _), (6, _), (7, _), (8, _), (60, _), (61, _)]) ⟨rfl, rfl, rfl, rfl, rfl, rfl, rfl, rfl, rfl, rfl, rfl, trivial⟩ ?_ ?_ rfl rfl rfl (.inl rfl)
  · cases H0; rfl
  · cases H0; rfl
 ·
  replace H0 := bif_f H0 h1
  refine G.skip <| At.ns <| G.seq ?_
  obtain ⟨x2, hx2, H0⟩ := bnd H0
  obtain ⟨x3, hx3, H0⟩ := bnd H0
  refine G.rd mixed <| K.mv rfl rfl <| K.nilCheck g0 rfl rfl <| K.fieldAddr Y g0 rfl t98 rfl rfl <| K.load1 Y g0 rfl rfl t63 rfl rfl <| K.loadS Y _ g0 rfl rfl t30 rfl rfl rfl <| K.cR (cf 65 rfl) (shelf_Of_con hx2) g0 rfl rfl rfl rfl <| K.cR (cf 64 rfl) (Tree_FindS_con hx3 7 8) g0 rfl rfl rfl rfl <| K.mv rfl rfl <| K.extract g0 rfl rfl rfl <| K.extract g0 rfl rfl rfl <| K.alloc Y 108 _ g0 t66 rfl rfl rfl rfl rfl <| K.store Y _ g0 rfl rfl rfl t66 rfl rfl rfl rfl rfl <| K.as rfl rfl <| K.nil <| And.intro (by kernel_rfl) <| At.nr <| K.mv rfl rfl <| K.nil <| At.next <| G.cond rfl (fun h2 => ?_) (fun h2 => ?_)
  ·
   replace H0 := bif_t H0 h2
   refine G.seq <| G.rg <| K.build Y [] [_, _] [] g0 (AllE.spec trivial) rfl rfl t56 rfl rfl <| K.store Y _ g0 rfl rfl rfl t56 rfl rfl rfl rfl rfl <| K.as rfl rfl <| K.nil <| At.nilAgg (t := 32) (l' := [_, _]) 0 109 30 eTItem 2 rfl rfl rfl rfl rfl <| At.nilAgg (t := 32) (l' := [_, _]) 1 110 30 eTItem 2 rfl rfl rfl rfl rfl <| At.nilBlk (n := 101) (l' := [_, _]) 0 111 30 eTItem 2 rfl rfl rfl rfl rfl <| At.nilBlk (n := 101) (l' := [_, _]) 1 112 30 eTItem 2 rfl rfl rfl rfl rfl <| At.next <| G.ret <| At.over_ret <| At.ren (fs' := [(6, .a (.c (.p 101 0))), (7, .a (.c (.v (.int .i64 2))))]) (tl := (tkQueue 0 1 2 3 4 5 6 7 8 q0 [(60, lrow 60 30 eTItem 2 ([] : List TItem)), (61, lrow 61 30 eTItem 2 ([] : List TItem)), (101, blk 101 [.nv 60, .nv 61] 56)])) [(60, 111), (61, 112)] [_, _, _, _, _, _, _, _, _, _, _, _] rfl ⟨rfl, rfl, trivial⟩ ⟨rfl, (blk_ren rfl rfl), rfl, (blk_ren rfl rfl), rfl, (pl_ren rfl), rfl, (blk_ren rfl rfl), rfl, (pl_ren rfl), rfl, (blk_ren rfl rfl), rfl, (pl_ren rfl), rfl, (blk_ren rfl rfl), rfl, (pl_ren rfl), rfl, (lrow_ren rfl), rfl, (lrow_ren rfl), rfl, (blk_ren rfl rfl), trivial⟩ rfl <| At.done Y [(.cell 6 56, .agg [_, _]), (.tmp 7, .c _)] rfl ⟨.st rfl rfl t56 rfl rfl, .tmp rfl, trivial⟩ (to' := [(0, _), (1, _), (2, _), (3, _), (4, _), (5, _), (6, _), (7, _), (8, _), (60, _), (61, _)]) ⟨rfl, rfl, rfl, rfl, rfl, rfl, rfl, rfl, rfl, rfl, rfl, trivial⟩ ?_ ?_ rfl rfl rfl (.inl rfl)
   · cases H0; rfl
   · cases H0; rfl
  ·
   replace H0 := bif_f H0 h2
   refine G.skip <| At.ns ?_
   obtain ⟨x4, hx4, H0⟩ := bnd H0
   obtain ⟨x5, hx5, H0⟩ := bnd H0
   refine G.rd mixed <| K.mv rfl rfl <| K.nilCheck g0 rfl rfl <| K.fieldAddr Y g0 rfl t98 rfl rfl <| K.load1 Y g0 rfl rfl t38 rfl rfl <| K.mv rfl rfl <| K.cR (cf 67 rfl) (wave_Key_con hx4) g0 rfl rfl rfl rfl <| K.cR (cf 66 rfl) (Tree_RankM_con hx5 1 2) g0 rfl rfl rfl rfl <| K.as rfl rfl <| K.nil <| And.intro (by kernel_rfl) <| At.ns ?_
   obtain ⟨x6, hx6, H0⟩ := bnd H0
   refine G.rd mixed <| K.mv rfl rfl <| K.nilCheck g0 rfl rfl <| K.fieldAddr Y g0 rfl t98 rfl rfl <| K.load1 Y g0 rfl rfl t38 rfl rfl <| K.mv rfl rfl <| K.mv rfl rfl <| K.nilCheck g0 rfl rfl <| K.fieldAddr Y g0 rfl t98 rfl rfl <| K.load1 Y g0 rfl rfl t3 rfl rfl <| K.cR (cf 68 rfl) (bridge_Prior_con hx6 1 2) g0 rfl rfl rfl rfl <| K.as rfl rfl <| K.nil <| And.intro (by kernel_rfl) <| At.ns ?_
   obtain ⟨x7, hx7, H0⟩ := bnd H0
   refine G.rd mixed <| K.mv rfl rfl <| K.nilCheck g0 rfl rfl <| K.fieldAddr Y g0 rfl t98 rfl rfl <| K.load1 Y g0 rfl rfl t63 rfl rfl <| K.loadS Y _ g0 rfl rfl t30 rfl rfl rfl <| K.mv rfl rfl <| K.build Y [(0, _), (1, _), (2, _)] [_, _, _, _] [((.tmp 54), _), (_, _), ((.tmp 55), _)] g0 (AllE.spec ⟨rfl, rfl, rfl, trivial⟩) rfl rfl t66 rfl rfl <| K.c0 (cf 69 rfl) (Tree_PutS_con hx7 7 8) g0 rfl rfl rfl rfl <| K.nil <| And.intro (by kernel_rfl) <| At.ns ?_
   obtain ⟨x8, hx8, H0⟩ := bnd H0
   refine G.rd mixed <| K.mv rfl rfl <| K.nilCheck g0 rfl rfl <| K.fieldAddr Y g0 rfl t98 rfl rfl <| K.load1 Y g0 rfl rfl t38 rfl rfl <| K.mv rfl rfl <| K.loadS Y _ g0 rfl rfl t30 rfl rfl rfl <| K.build Y [(0, _), (1, _), (2, _)] [_, _, _, _] [((.tmp 62), _), (_, _), ((.tmp 63), _)] g0 (AllE.spec ⟨rfl, rfl, rfl, trivial⟩) rfl rfl t42 rfl rfl <| K.build Y [(0, _)] [_, _, _, _, _, _, _, _] [((.tmp 64), _)] g0 (AllE.spec ⟨rfl, trivial⟩) rfl rfl t46 rfl rfl <| K.c0 (cf 70 rfl) (Tree_PutM_con hx8 1 2) g0 rfl rfl rfl rfl <| K.nil <| And.intro (by kernel_rfl) <| At.ns ?_
   obtain ⟨x9, hx9, H0⟩ := bnd H0
   obtain ⟨x10, hx10, H0⟩ := bnd H0
   refine G.rd mixed <| K.mv rfl rfl <| K.nilCheck g0 rfl rfl <| K.fieldAddr Y g0 rfl t98 rfl rfl <| K.load1 Y g0 rfl rfl t63 rfl rfl <| K.loadS Y _ g0 rfl rfl t30 rfl rfl rfl <| K.cR (cf 65 rfl) (shelf_Of_con hx9) g0 rfl rfl rfl rfl <| K.c0 (cf 69 rfl) (Tree_PutS_con hx10 5 6) g0 rfl rfl rfl rfl <| K.nil <| And.intro (by kernel_rfl) <| At.ns <| G.seq <| G.rg <| K.mv rfl rfl <| K.bin (V := .bool (decide (x6 < 0))) g0 rfl rfl (fun _ => rfl) rfl <| K.nil <| At.next <| G.cond rfl (fun h3 => ?_) (fun h3 => ?_)
   ·
    replace H0 := bif_t H0 h3
    refine G.seq <| G.rg <| K.mv rfl rfl <| K.nilCheck g0 rfl rfl <| K.fieldAddr Y g0 rfl t98 rfl rfl <| K.load1 Y g0 rfl rfl t3 rfl rfl <| K.bin (V := .int .i64 (w64 (q0.excess - 1))) g0 rfl rfl (fun _ => rfl) rfl <| K.nilCheck g0 rfl rfl <| K.fieldAddr Y g0 rfl t98 rfl rfl <| K.store Y _ g0 rfl rfl rfl t3 rfl rfl rfl rfl rfl <| K.nil <| At.nr <| K.build Y [] [_, _] [] g0 (AllE.spec trivial) rfl rfl t56 rfl rfl <| K.store Y _ g0 rfl rfl rfl t56 rfl rfl rfl rfl rfl <| K.as rfl rfl <| K.nil <| At.nilAgg (t := 83) (l' := [_, _]) 0 113 30 eTItem 2 rfl rfl rfl rfl rfl <| At.nilAgg (t := 83) (l' := [_, _]) 1 114 30 eTItem 2 rfl rfl rfl rfl rfl <| At.nilBlk (n := 101) (l' := [_, _]) 0 115 30 eTItem 2 rfl rfl rfl rfl rfl <| At.nilBlk (n := 101) (l' := [_, _]) 1 116 30 eTItem 2 rfl rfl rfl rfl rfl <| At.next <| G.ret <| At.over_ret <| At.ren (fs' := [(6, .a (.c (.p 101 0))), (7, .a (.c (.v (.int .i64 0))))]) (tl := (tkQueue 0 1 2 3 4 5 6 7 8 (TQueue.mk q0.capacity (TS.mk x8.2.2 x8.2.1) q0.present (TS.mk x10.2.2 x10.2.1) (TS.mk x7.2.2 x7.2.1) (w64 (q0.excess - 1))) [(60, lrow 60 30 eTItem 2 ([] : List TItem)), (61, lrow 61 30 eTItem 2 ([] : List TItem)), (101, blk 101 [.nv 60, .nv 61] 56)])) [(60, 115), (61, 116)] [_, _, _, _, _, _, _, _, _, _, _, _] rfl ⟨rfl, rfl, trivial⟩ ⟨rfl, (blk_ren rfl rfl), rfl, (blk_ren rfl rfl), rfl, (pl_ren rfl), rfl, (blk_ren rfl rfl), rfl, (pl_ren rfl), rfl, (blk_ren rfl rfl), rfl, (pl_ren rfl), rfl, (blk_ren rfl rfl), rfl, (pl_ren rfl), rfl, (lrow_ren rfl), rfl, (lrow_ren rfl), rfl, (blk_ren rfl rfl), trivial⟩ rfl <| At.done Y [(.cell 6 56, .agg [_, _]), (.tmp 7, .c _)] rfl ⟨.st rfl rfl t56 rfl rfl, .tmp rfl, trivial⟩ (to' := [(0, _), (1, _), (2, _), (3, _), (4, _), (5, _), (6, _), (7, _), (8, _), (60, _), (61, _)]) ⟨rfl, rfl, rfl, rfl, rfl, rfl, rfl, rfl, rfl, rfl, rfl, trivial⟩ ?_ ?_ rfl rfl rfl (.inl rfl)
    · cases H0; rfl
    · cases H0; rfl
   ·
    replace H0 := bif_f H0 h3
    refine G.skip <| At.ns ?_
    obtain ⟨x11, hx11, H0⟩ := bnd H0
    refine G.rg <| K.mv rfl rfl <| K.nilCheck g0 rfl rfl <| K.fieldAddr Y g0 rfl t98 rfl rfl <| K.load1 Y g0 rfl rfl t38 rfl rfl <| K.mv rfl rfl <| K.cR (cf 71 rfl) (bridge_Best_con hx11 1 2) g0 rfl rfl rfl rfl <| K.alloc Y 117 _ g0 t44 rfl rfl rfl rfl rfl <| K.store Y _ g0 rfl rfl rfl t44 rfl rfl rfl rfl rfl <| K.nil <| At.ns ?_
    obtain ⟨x12, hx12, H0⟩ := bnd H0
    refine G.rg <| K.mv rfl rfl <| K.fieldAddr Y g0 rfl t44 rfl rfl <| K.loadS Y _ g0 rfl rfl t30 rfl rfl rfl <| K.c0 (cf 72 rfl) (partial_Queue_turn_con hx12 0 1 2 3 4 5 6 7 8) g0 rfl rfl rfl rfl <| K.nil <| At.nr <| K.fieldAddr Y g0 rfl t44 rfl rfl <| K.loadS Y _ g0 rfl rfl t30 rfl rfl rfl <| K.buildL Y 118 ([x11.item] : List TItem) [(0, _)] [((.tmp 95), _)] eTItem_len g0 (AllE.spec ⟨rfl, trivial⟩) rfl rfl Tryz.underlying33 t30 rfl rfl rfl rfl rfl rfl rfl rfl <| K.build Y [(0, _)] [_, _] [((.tmp 96), _)] g0 (AllE.spec ⟨rfl, trivial⟩) rfl rfl t56 rfl rfl <| K.store Y _ g0 rfl rfl rfl t56 rfl rfl rfl rfl rfl <| K.as rfl rfl <| K.nil <| At.nilAgg (t := 97) (l' := [_, _]) 1 119 30 eTItem 2 rfl rfl rfl rfl rfl <| At.nilBlk (n := 101) (l' := [_, _]) 1 120 30 eTItem 2 rfl rfl rfl rfl rfl <| At.next <| G.ret <| At.ren (fs' := [(6, .a (.c (.p 101 0))), (7, .a (.c (.v (.int .i64 0))))]) (tl := (tkQueue 0 1 2 3 4 5 6 7 8 x12 [(60, lrow 60 30 eTItem 2 ([x11.item] : List TItem)), (61, lrow 61 30 eTItem 2 ([] : List TItem)), (101, blk 101 [.nv 60, .nv 61] 56)])) [(60, 118), (61, 120)] [_, _, _, _, _, _, _, _, _, _, _, _] rfl ⟨rfl, rfl, trivial⟩ ⟨rfl, (blk_ren rfl rfl), rfl, (blk_ren rfl rfl), rfl, (pl_ren rfl), rfl, (blk_ren rfl rfl), rfl, (pl_ren rfl), rfl, (blk_ren rfl rfl), rfl, (pl_ren rfl), rfl, (blk_ren rfl rfl), rfl, (pl_ren rfl), rfl, (lrow_ren rfl), rfl, (lrow_ren rfl), rfl, (blk_ren rfl rfl), trivial⟩ rfl <| At.done Y [(.cell 6 56, .agg [_, _]), (.tmp 7, .c _)] rfl ⟨.st rfl rfl t56 rfl rfl, .tmp rfl, trivial⟩ (to' := [(0, _), (1, _), (2, _), (3, _), (4, _), (5, _), (6, _), (7, _), (8, _), (60, _), (61, _)]) ⟨rfl, rfl, rfl, rfl, rfl, rfl, rfl, rfl, rfl, rfl, rfl, trivial⟩ ?_ ?_ rfl rfl rfl (.inl rfl)
    · cases H0; rfl
    · cases H0; rfl
theorem partial_Queue_Insert_con {k : Nat}  {q0 : TQueue} {a1 : Int} {a2 : TItem} {r : TChange × Int × TQueue}  (H0 : partial_Queue_Insert.f k q0 a1 a2 = some r) (m0 m1 m2 m3 m4 m5 m6 m7 m8 m60 m61 : Nat) (hd : ndB [m0, m1, m2, m3, m4, m5, m6, m7, m8, m60, m61] = true) : partial_Queue_Insert_st q0 a1 a2 r m0 m1 m2 m3 m4 m5 m6 m7 m8 m60 m61 :=
 SCon.ren (rn [(0, m0), (1, m1), (2, m2), (3, m3), (4, m4), (5, m5), (6, m6), (7, m7), (8, m8), (60, m60), (61, m61)]) (partial_Queue_Insert_con0 (k := k)   H0) ⟨(blk_ren rfl rfl), (blk_ren rfl rfl), (pl_ren rfl), (blk_ren rfl rfl), (pl_ren rfl), (blk_ren rfl rfl), (pl_ren rfl), (blk_ren rfl rfl), (pl_ren rfl), trivial⟩ ⟨(blk_ren rfl rfl), (blk_ren rfl rfl), (pl_ren rfl), (blk_ren rfl rfl), (pl_ren rfl), (blk_ren rfl rfl), (pl_ren rfl), (blk_ren rfl rfl), (pl_ren rfl), (lrow_ren rfl), (lrow_ren rfl), trivial⟩ (rn_nd hd rfl rfl) (rn_ks hd rfl rfl rfl)
abbrev bridge_Height_st (p1 : Pool (TNode TMark TSwell)) (rt0 : TRef) (a1 : Int) (a2 : Int) (r : Int) (m0 : Nat) (m1 : Nat) : Prop := SCon Tryz.prog 129 [SV.p m0 0, .a (.c (.v (.int .i64 a1))), .a (.c (.v (.int .i64 a2)))] [(m0, blk m0 [.p m1 0, .i rt0.index, .i rt0.gen] 110), (m1, plM m1 p1)] (.a (.c (.v (.int .i64 r)))) [(m0, blk m0 [.p m1 0, .i rt0.index, .i rt0.gen] 110), (m1, plM m1 p1)] []
theorem bridge_Height_con0 {k : Nat}  {p1 : Pool (TNode TMark TSwell)} {rt0 : TRef} {a1 : Int} {a2 : Int} {r : Int}  (H0 : bridge_Height.f k p1 rt0 a1 a2 = some r) : bridge_Height_st p1 rt0 a1 a2 r 0 1 := by
 rw [bridge_Height.f] at H0
 refine spec_of [(0, _), (1, _), (2, _)] [(0, _), (1, _)] 14 Tryz.func129 rfl Tryz.ntmps129 rfl rfl rfl rfl (fun β W F => ?_)
 refine G.seq <| G.rg <| K.as rfl rfl <| K.nil <| At.ns ?_
 obtain ⟨x1, hx1, H0⟩ := bnd H0
 exact G.rg <| K.mv rfl rfl <| K.mv rfl rfl <| K.mv rfl rfl <| K.cR (cf 102 rfl) (Tree_BetweenM_con hx1 0 1) g0 rfl rfl rfl rfl <| K.fieldS Y _ g0 rfl t50 rfl t48 rfl rfl <| K.field1 Y g0 rfl t48 rfl t3 rfl rfl <| K.bin (V := .int .i64 (w64 (a2 + x1.weight.sum))) g0 rfl rfl (fun _ => rfl) rfl <| K.as rfl rfl <| K.nil <| At.next <| G.ret <| At.dr Y [6] rfl rfl (by cases H0; rfl) (by cases H0; rfl) rfl rfl rfl
theorem bridge_Height_con {k : Nat}  {p1 : Pool (TNode TMark TSwell)} {rt0 : TRef} {a1 : Int} {a2 : Int} {r : Int}  (H0 : bridge_Height.f k p1 rt0 a1 a2 = some r) (m0 m1 : Nat) : bridge_Height_st p1 rt0 a1 a2 r m0 m1 :=
 SCon.ren (rn [(0, m0), (1, m1)]) (bridge_Height_con0 (k := k)   H0) ⟨(blk_ren rfl rfl), (pl_ren rfl), trivial⟩ ⟨(blk_ren rfl rfl), (pl_ren rfl), trivial⟩ (by simp) (by simp)
abbrev bridge_Next_st (p1 : Pool (TNode TMark TSwell)) (rt0 : TRef) (a1 : Int) (a2 : Int) (r : Int) (m0 : Nat) (m1 : Nat) : Prop := SCon Tryz.prog 104 [SV.p m0 0, .a (.c (.v (.int .i64 a1))), .a (.c (.v (.int .i64 a2)))] [(m0, blk m0 [.p m1 0, .i rt0.index, .i rt0.gen] 110), (m1, plM m1 p1)] (.a (.c (.v (.int .i64 r)))) [(m0, blk m0 [.p m1 0, .i rt0.index, .i rt0.gen] 110), (m1, plM m1 p1)] []
theorem bridge_Next_con0 {k : Nat}  {p1 : Pool (TNode TMark TSwell)} {rt0 : TRef} {a1 : Int} {a2 : Int} {r : Int}  (H0 : bridge_Next.f k p1 rt0 a1 a2 = some r) : bridge_Next_st p1 rt0 a1 a2 r 0 1 := by
 rw [bridge_Next.f] at H0
 refine spec_of [(0, _), (1, _), (2, _)] [(0, _), (1, _)] 26 Tryz.func104 rfl Tryz.ntmps104 rfl rfl rfl rfl (fun β W F => ?_)
 refine G.seq <| G.rg <| K.as rfl rfl <| K.nil <| At.ns ?_
 obtain ⟨x1, hx1, H0⟩ := bnd H0
 refine G.rg <| K.mv rfl rfl <| K.mv rfl rfl <| K.cR (cf 98 rfl) (bridge_clamp_con hx1 0 1) g0 rfl rfl rfl rfl <| K.as rfl rfl <| K.nil <| At.ns <| G.seq ?_
 obtain ⟨x2, hx2, H0⟩ := bnd H0
 refine G.rg <| K.mv rfl rfl <| K.mv rfl rfl <| K.mv rfl rfl <| K.cR (cf 129 rfl) (bridge_Height_con hx2 0 1) g0 rfl rfl rfl rfl <| K.bin (V := .bool (decide (x2 ≤ 0))) g0 rfl rfl (fun _ => rfl) rfl <| K.nil <| At.next <| G.cond rfl (fun h1 => ?_) (fun h1 => ?_)
 ·
  replace H0 := bif_t H0 h1
  exact G.seq <| G.rg <| K.mv rfl rfl <| K.as rfl rfl <| K.nil <| At.next <| G.ret <| At.over_ret <| At.dr Y [6] rfl rfl (by cases H0; rfl) (by cases H0; rfl) rfl rfl rfl
 ·
  replace H0 := bif_f H0 h1
  refine G.skip <| At.ns <| G.seq ?_
  obtain ⟨x3, hx3, H0⟩ := bnd H0
  obtain ⟨x4, hx4, H0⟩ := bnd H0
  refine G.rg <| K.mv rfl rfl <| K.mv rfl rfl <| K.mv rfl rfl <| K.c0 (cf 99 rfl) (bridge_low_con hx3 100 rfl) g0 rfl rfl rfl rfl <| K.cR (cf 130 rfl) (Tree_FirstM_f12_con (cv2 := [(.int .i64 x3)]) (Tc2 := 3) (cf 119 rfl) (fun c _ _ _ h => bridge_low_1_con h c) hx4 0 1 100) g0 rfl rfl rfl rfl <| K.as rfl rfl <| K.nil <| At.nr <| K.mv rfl rfl <| K.bin (V := .bool (decide (x4 ≥ 0))) g0 rfl rfl (fun _ => rfl) rfl <| K.nil <| At.next <| G.cond rfl (fun h2 => ?_) (fun h2 => ?_)
  ·
   replace H0 := bif_t H0 h2
   exact G.seq <| G.rg <| K.mv rfl rfl <| K.bin (V := .int .i64 (w64 (x4 + 1))) g0 rfl rfl (fun _ => rfl) rfl <| K.as rfl rfl <| K.nil <| At.next <| G.ret <| At.over_ret <| At.dr Y [6] rfl rfl (by cases H0; rfl) (by cases H0; rfl) rfl rfl rfl
  ·
   replace H0 := bif_f H0 h2
   exact G.skip <| At.nr <| K.as rfl rfl <| K.nil <| At.next <| G.ret <| At.dr Y [6] rfl rfl (by cases H0; rfl) (by cases H0; rfl) rfl rfl rfl
theorem bridge_Next_con {k : Nat}  {p1 : Pool (TNode TMark TSwell)} {rt0 : TRef} {a1 : Int} {a2 : Int} {r : Int}  (H0 : bridge_Next.f k p1 rt0 a1 a2 = some r) (m0 m1 : Nat) : bridge_Next_st p1 rt0 a1 a2 r m0 m1 :=
 SCon.ren (rn [(0, m0), (1, m1)]) (bridge_Next_con0 (k := k)   H0) ⟨(blk_ren rfl rfl), (pl_ren rfl), trivial⟩ ⟨(blk_ren rfl rfl), (pl_ren rfl), trivial⟩ (by simp) (by simp)
abbrev bridge_Least_st (p1 : Pool (TNode TMark TSwell)) (rt0 : TRef) (a1 : Int) (r : TTook) (m0 : Nat) (m1 : Nat) : Prop := SCon Tryz.prog 103 [SV.p m0 0, .a (.c (.v (.int .i64 a1)))] [(m0, blk m0 [.p m1 0, .i rt0.index, .i rt0.gen] 110), (m1, plM m1 p1)] (.a (.agg ((eTTook r).map .v))) [(m0, blk m0 [.p m1 0, .i rt0.index, .i rt0.gen] 110), (m1, plM m1 p1)] []
theorem bridge_Least_con0 {k : Nat}  {p1 : Pool (TNode TMark TSwell)} {rt0 : TRef} {a1 : Int} {r : TTook}  (H0 : bridge_Least.f k p1 rt0 a1 = some r) : bridge_Least_st p1 rt0 a1 r 0 1 := by
 rw [bridge_Least.f] at H0
 refine spec_of [(0, _), (1, _)] [(0, _), (1, _)] 11 Tryz.func103 rfl Tryz.ntmps103 rfl rfl rfl rfl (fun β W F => ?_)
 refine G.seq <| G.rg <| K.alloc Y 100 _ g0 t44 rfl rfl rfl rfl rfl <| K.nil <| At.ns ?_
 obtain ⟨x1, hx1, H0⟩ := bnd H0
 obtain ⟨x2, hx2, H0⟩ := bnd H0
 refine G.rg <| K.mv rfl rfl <| K.mv rfl rfl <| K.mv rfl rfl <| K.cR (cf 98 rfl) (bridge_clamp_con hx1 0 1) g0 rfl rfl rfl rfl <| K.cR (cf 102 rfl) (Tree_BetweenM_con hx2 0 1) g0 rfl rfl rfl rfl <| K.fieldS Y _ g0 rfl t50 rfl t44 rfl rfl <| K.store Y _ g0 rfl rfl rfl t44 rfl rfl rfl rfl rfl <| K.nil <| At.next <| G.ret <| At.done Y [(.cell 4 44, .agg [_, _, _])] rfl ⟨.st rfl rfl t44 rfl rfl, trivial⟩ (to' := [(0, _), (1, _)]) ⟨rfl, rfl, trivial⟩ ?_ ?_ rfl rfl rfl (.inl rfl)
 · cases H0; rfl
 · cases H0; rfl
theorem bridge_Least_con {k : Nat}  {p1 : Pool (TNode TMark TSwell)} {rt0 : TRef} {a1 : Int} {r : TTook}  (H0 : bridge_Least.f k p1 rt0 a1 = some r) (m0 m1 : Nat) : bridge_Least_st p1 rt0 a1 r m0 m1 :=
 SCon.ren (rn [(0, m0), (1, m1)]) (bridge_Least_con0 (k := k)   H0) ⟨(blk_ren rfl rfl), (pl_ren rfl), trivial⟩ ⟨(blk_ren rfl rfl), (pl_ren rfl), trivial⟩ (by simp) (by simp)
abbrev partial_Queue_leave_st (q0 : TQueue) (a1 : Int) (r : TChange × TQueue) (m0 : Nat) (m1 : Nat) (m2 : Nat) (m3 : Nat) (m4 : Nat) (m5 : Nat) (m6 : Nat) (m7 : Nat) (m8 : Nat) (m60 : Nat) (m61 : Nat) : Prop := SCon Tryz.prog 73 [SV.p m0 0, .a (.c (.v (.int .i64 a1)))] (tkQueue m0 m1 m2 m3 m4 m5 m6 m7 m8 q0 []) (.a (.agg [.nv m60, .nv m61])) (tkQueue m0 m1 m2 m3 m4 m5 m6 m7 m8 r.2 [(m60, lrow m60 30 eTItem 2 (r.1.in_)), (m61, lrow m61 30 eTItem 2 (r.1.out))]) [m60, m61]
theorem partial_Queue_leave_con0 {k : Nat}  {q0 : TQueue} {a1 : Int} {r : TChange × TQueue}  (H0 : partial_Queue_leave.f k q0 a1 = some r) : partial_Queue_leave_st q0 a1 r 0 1 2 3 4 5 6 7 8 60 61 := by
 rw [partial_Queue_leave.f] at H0
 refine spec_of [(0, _), (1, _)] [(0, _), (1, _), (2, _), (3, _), (4, _), (5, _), (6, _), (7, _), (8, _)] 40 Tryz.func73 rfl Tryz.ntmps73 rfl rfl rfl rfl (fun β W F => ?_)
 refine G.seq <| G.rg <| K.alloc Y 100 _ g0 t56 rfl rfl rfl rfl rfl <| K.nil <| At.nilBlk (n := 100) (l' := [_, _]) 0 101 30 eTItem 2 rfl rfl rfl rfl rfl <| At.nilBlk (n := 100) (l' := [_, _]) 1 102 30 eTItem 2 rfl rfl rfl rfl rfl <| At.ns ?_
 obtain ⟨x1, hx1, H0⟩ := bnd H0
 obtain ⟨x2, hx2, H0⟩ := bnd H0
 refine G.rd mixed <| K.mv rfl rfl <| K.nilCheck g0 rfl rfl <| K.fieldAddr Y g0 rfl t98 rfl rfl <| K.load1 Y g0 rfl rfl t38 rfl rfl <| K.mv rfl rfl <| K.nilCheck g0 rfl rfl <| K.fieldAddr Y g0 rfl t98 rfl rfl <| K.load1 Y g0 rfl rfl t38 rfl rfl <| K.mv rfl rfl <| K.mv rfl rfl <| K.nilCheck g0 rfl rfl <| K.fieldAddr Y g0 rfl t98 rfl rfl <| K.load1 Y g0 rfl rfl t3 rfl rfl <| K.cR (cf 104 rfl) (bridge_Next_con hx1 1 2) g0 rfl rfl rfl rfl <| K.cR (cf 103 rfl) (bridge_Least_con hx2 1 2) g0 rfl rfl rfl rfl <| K.alloc Y 103 _ g0 t44 rfl rfl rfl rfl rfl <| K.store Y _ g0 rfl rfl rfl t44 rfl rfl rfl rfl rfl <| K.nil <| And.intro (by kernel_rfl) <| At.ns <| G.seq <| G.rg <| K.fieldAddr Y g0 rfl t44 rfl rfl <| K.load1 Y g0 rfl rfl t4 rfl rfl <| K.un (V := .bool (!x2.found)) g0 rfl (fun _ => rfl) rfl <| K.nil <| At.next <| G.cond rfl (fun h1 => ?_) (fun h1 => ?_)
 ·
  replace H0 := bif_t H0 h1
  refine G.seq <| G.rg <| K.mv rfl rfl <| K.nilCheck g0 rfl rfl <| K.fieldAddr Y g0 rfl t98 rfl rfl <| K.load1 Y g0 rfl rfl t3 rfl rfl <| K.bin (V := .int .i64 (w64 (q0.excess + 1))) g0 rfl rfl (fun _ => rfl) rfl <| K.nilCheck g0 rfl rfl <| K.fieldAddr Y g0 rfl t98 rfl rfl <| K.store Y _ g0 rfl rfl rfl t3 rfl rfl rfl rfl rfl <| K.nil <| At.nr <| K.build Y [] [_, _] [] g0 (AllE.spec trivial) rfl rfl t56 rfl rfl <| K.store Y _ g0 rfl rfl rfl t56 rfl rfl rfl rfl rfl <| K.nil <| At.nilAgg (t := 31) (l' := [_, _]) 0 104 30 eTItem 2 rfl rfl rfl rfl rfl <| At.nilAgg (t := 31) (l' := [_, _]) 1 105 30 eTItem 2 rfl rfl rfl rfl rfl <| At.nilBlk (n := 100) (l' := [_, _]) 0 106 30 eTItem 2 rfl rfl rfl rfl rfl <| At.nilBlk (n := 100) (l' := [_, _]) 1 107 30 eTItem 2 rfl rfl rfl rfl rfl <| At.next <| G.ret <| At.over_ret <| At.ren (fs' := [(4, .a (.c (.p 100 0)))]) (tl := (tkQueue 0 1 2 3 4 5 6 7 8 (TQueue.mk q0.capacity q0.marks q0.present q0.gone q0.times (w64 (q0.excess + 1))) [(60, lrow 60 30 eTItem 2 ([] : List TItem)), (61, lrow 61 30 eTItem 2 ([] : List TItem)), (100, blk 100 [.nv 60, .nv 61] 56)])) [(60, 106), (61, 107)] [_, _, _, _, _, _, _, _, _, _, _, _] rfl ⟨rfl, trivial⟩ ⟨rfl, (blk_ren rfl rfl), rfl, (blk_ren rfl rfl), rfl, (pl_ren rfl), rfl, (blk_ren rfl rfl), rfl, (pl_ren rfl), rfl, (blk_ren rfl rfl), rfl, (pl_ren rfl), rfl, (blk_ren rfl rfl), rfl, (pl_ren rfl), rfl, (lrow_ren rfl), rfl, (lrow_ren rfl), rfl, (blk_ren rfl rfl), trivial⟩ rfl <| At.done Y [(.cell 4 56, .agg [_, _])] rfl ⟨.st rfl rfl t56 rfl rfl, trivial⟩ (to' := [(0, _), (1, _), (2, _), (3, _), (4, _), (5, _), (6, _), (7, _), (8, _), (60, _), (61, _)]) ⟨rfl, rfl, rfl, rfl, rfl, rfl, rfl, rfl, rfl, rfl, rfl, trivial⟩ ?_ ?_ rfl rfl rfl (.inl rfl)
  · cases H0; rfl
  · cases H0; rfl
 ·
  replace H0 := bif_f H0 h1
  refine G.skip <| At.ns ?_
  obtain ⟨x3, hx3, H0⟩ := bnd H0
  refine G.rg <| K.mv rfl rfl <| K.fieldAddr Y g0 rfl t44 rfl rfl <| K.loadS Y _ g0 rfl rfl t30 rfl rfl rfl <| K.c0 (cf 72 rfl) (partial_Queue_turn_con hx3 0 1 2 3 4 5 6 7 8) g0 rfl rfl rfl rfl <| K.nil <| At.nr <| K.fieldAddr Y g0 rfl t44 rfl rfl <| K.loadS Y _ g0 rfl rfl t30 rfl rfl rfl <| K.buildL Y 108 ([x2.item] : List TItem) [(0, _)] [((.tmp 37), _)] eTItem_len g0 (AllE.spec ⟨rfl, trivial⟩) rfl rfl Tryz.underlying33 t30 rfl rfl rfl rfl rfl rfl rfl rfl <| K.build Y [(1, _)] [_, _] [((.tmp 38), _)] g0 (AllE.spec ⟨rfl, trivial⟩) rfl rfl t56 rfl rfl <| K.store Y _ g0 rfl rfl rfl t56 rfl rfl rfl rfl rfl <| K.nil <| At.nilAgg (t := 39) (l' := [_, _]) 0 109 30 eTItem 2 rfl rfl rfl rfl rfl <| At.nilBlk (n := 100) (l' := [_, _]) 0 110 30 eTItem 2 rfl rfl rfl rfl rfl <| At.next <| G.ret <| At.ren (fs' := [(4, .a (.c (.p 100 0)))]) (tl := (tkQueue 0 1 2 3 4 5 6 7 8 x3 [(60, lrow 60 30 eTItem 2 ([] : List TItem)), (61, lrow 61 30 eTItem 2 ([x2.item] : List TItem)), (100, blk 100 [.nv 60, .nv 61] 56)])) [(60, 110), (61, 108)] [_, _, _, _, _, _, _, _, _, _, _, _] rfl ⟨rfl, trivial⟩ ⟨rfl, (blk_ren rfl rfl), rfl, (blk_ren rfl rfl), rfl, (pl_ren rfl), rfl, (blk_ren rfl rfl), rfl, (pl_ren rfl), rfl, (blk_ren rfl rfl), rfl, (pl_ren rfl), rfl, (blk_ren rfl rfl), rfl, (pl_ren rfl), rfl, (lrow_ren rfl), rfl, (lrow_ren rfl), rfl, (blk_ren rfl rfl), trivial⟩ rfl <| At.done Y [(.cell 4 56, .agg [_, _])] rfl ⟨.st rfl rfl t56 rfl rfl, trivial⟩ (to' := [(0, _), (1, _), (2, _), (3, _), (4, _), (5, _), (6, _), (7, _), (8, _), (60, _), (61, _)]) ⟨rfl, rfl, rfl, rfl, rfl, rfl, rfl, rfl, rfl, rfl, rfl, trivial⟩ ?_ ?_ rfl rfl rfl (.inl rfl)
  · cases H0; rfl
  · cases H0; rfl
theorem partial_Queue_leave_con {k : Nat}  {q0 : TQueue} {a1 : Int} {r : TChange × TQueue}  (H0 : partial_Queue_leave.f k q0 a1 = some r) (m0 m1 m2 m3 m4 m5 m6 m7 m8 m60 m61 : Nat) (hd : ndB [m0, m1, m2, m3, m4, m5, m6, m7, m8, m60, m61] = true) : partial_Queue_leave_st q0 a1 r m0 m1 m2 m3 m4 m5 m6 m7 m8 m60 m61 :=
 SCon.ren (rn [(0, m0), (1, m1), (2, m2), (3, m3), (4, m4), (5, m5), (6, m6), (7, m7), (8, m8), (60, m60), (61, m61)]) (partial_Queue_leave_con0 (k := k)   H0) ⟨(blk_ren rfl rfl), (blk_ren rfl rfl), (pl_ren rfl), (blk_ren rfl rfl), (pl_ren rfl), (blk_ren rfl rfl), (pl_ren rfl), (blk_ren rfl rfl), (pl_ren rfl), trivial⟩ ⟨(blk_ren rfl rfl), (blk_ren rfl rfl), (pl_ren rfl), (blk_ren rfl rfl), (pl_ren rfl), (blk_ren rfl rfl), (pl_ren rfl), (blk_ren rfl rfl), (pl_ren rfl), (lrow_ren rfl), (lrow_ren rfl), trivial⟩ (rn_nd hd rfl rfl) (rn_ks hd rfl rfl rfl)
abbrev partial_Queue_Delete_st (q0 : TQueue) (a1 : Int) (r : TChange × Int × TQueue) (m0 : Nat) (m1 : Nat) (m2 : Nat) (m3 : Nat) (m4 : Nat) (m5 : Nat) (m6 : Nat) (m7 : Nat) (m8 : Nat) (m60 : Nat) (m61 : Nat) : Prop := SCon Tryz.prog 24 [SV.p m0 0, .a (.c (.v (.int .i64 a1)))] (tkQueue m0 m1 m2 m3 m4 m5 m6 m7 m8 q0 []) (.tup [.agg [.nv m60, .nv m61], .c (.v (.int .i64 r.2.1))]) (tkQueue m0 m1 m2 m3 m4 m5 m6 m7 m8 r.2.2 [(m60, lrow m60 30 eTItem 2 (r.1.in_)), (m61, lrow m61 30 eTItem 2 (r.1.out))]) [m60, m61]
theorem partial_Queue_Delete_con0 {k : Nat}  {q0 : TQueue} {a1 : Int} {r : TChange × Int × TQueue}  (H0 : partial_Queue_Delete.f k q0 a1 = some r) : partial_Queue_Delete_st q0 a1 r 0 1 2 3 4 5 6 7 8 60 61 := by
 rw [partial_Queue_Delete.f] at H0
 refine spec_of [(0, _), (1, _)] [(0, _), (1, _), (2, _), (3, _), (4, _), (5, _), (6, _), (7, _), (8, _)] 32 Tryz.func24 rfl Tryz.ntmps24 rfl rfl rfl rfl (fun β W F => ?_)
 refine G.seq <| G.rg <| K.alloc Y 100 _ g0 t56 rfl rfl rfl rfl rfl <| K.as rfl rfl <| K.nil <| At.nilBlk (n := 100) (l' := [_, _]) 0 101 30 eTItem 2 rfl rfl rfl rfl rfl <| At.nilBlk (n := 100) (l' := [_, _]) 1 102 30 eTItem 2 rfl rfl rfl rfl rfl <| At.ns <| G.seq ?_
 obtain ⟨x1, hx1, H0⟩ := bnd H0
 refine G.rg <| K.mv rfl rfl <| K.mv rfl rfl <| K.cR (cf 63 rfl) (partial_Queue_may_con hx1 0 1 2 3 4 5 6 7 8) g0 rfl rfl rfl rfl <| K.as rfl rfl <| K.nil <| At.nr <| K.mv rfl rfl <| K.bin (V := .bool (x1 != 0)) g0 rfl rfl (fun _ => rfl) rfl <| K.nil <| At.next <| G.cond rfl (fun h1 => ?_) (fun h1 => ?_)
 ·
  replace H0 := bif_t H0 h1
  refine G.seq <| G.rg <| K.build Y [] [_, _] [] g0 (AllE.spec trivial) rfl rfl t56 rfl rfl <| K.mv rfl rfl <| K.store Y _ g0 rfl rfl rfl t56 rfl rfl rfl rfl rfl <| K.as rfl rfl <| K.nil <| At.nilAgg (t := 13) (l' := [_, _]) 0 103 30 eTItem 2 rfl rfl rfl rfl rfl <| At.nilAgg (t := 13) (l' := [_, _]) 1 104 30 eTItem 2 rfl rfl rfl rfl rfl <| At.nilBlk (n := 100) (l' := [_, _]) 0 105 30 eTItem 2 rfl rfl rfl rfl rfl <| At.nilBlk (n := 100) (l' := [_, _]) 1 106 30 eTItem 2 rfl rfl rfl rfl rfl <| At.next <| G.ret <| At.over_ret <| At.ren (fs' := [(4, .a (.c (.p 100 0))), (5, .a (.c (.v (.int .i64 x1))))]) (tl := (tkQueue 0 1 2 3 4 5 6 7 8 q0 [(60, lrow 60 30 eTItem 2 ([] : List TItem)), (61, lrow 61 30 eTItem 2 ([] : List TItem)), (100, blk 100 [.nv 60, .nv 61] 56)])) [(60, 105), (61, 106)] [_, _, _, _, _, _, _, _, _, _, _, _] rfl ⟨rfl, rfl, trivial⟩ ⟨rfl, (blk_ren rfl rfl), rfl, (blk_ren rfl rfl), rfl, (pl_ren rfl), rfl, (blk_ren rfl rfl), rfl, (pl_ren rfl), rfl, (blk_ren rfl rfl), rfl, (pl_ren rfl), rfl, (blk_ren rfl rfl), rfl, (pl_ren rfl), rfl, (lrow_ren rfl), rfl, (lrow_ren rfl), rfl, (blk_ren rfl rfl), trivial⟩ rfl <| At.done Y [(.cell 4 56, .agg [_, _]), (.tmp 5, .c _)] rfl ⟨.st rfl rfl t56 rfl rfl, .tmp rfl, trivial⟩ (to' := [(0, _), (1, _), (2, _), (3, _), (4, _), (5, _), (6, _), (7, _), (8, _), (60, _), (61, _)]) ⟨rfl, rfl, rfl, rfl, rfl, rfl, rfl, rfl, rfl, rfl, rfl, trivial⟩ ?_ ?_ rfl rfl rfl (.inl rfl)
  · cases H0; rfl
  · cases H0; rfl
 ·
  replace H0 := bif_f H0 h1
  refine G.skip <| At.ns ?_
  obtain ⟨x2, hx2, H0⟩ := bnd H0
  obtain ⟨x3, hx3, H0⟩ := bnd H0
  obtain ⟨x4, hx4, H0⟩ := bnd H0
  refine G.rd mixed <| K.mv rfl rfl <| K.mv rfl rfl <| K.nilCheck g0 rfl rfl <| K.fieldAddr Y g0 rfl t98 rfl rfl <| K.load1 Y g0 rfl rfl t38 rfl rfl <| K.mv rfl rfl <| K.cR (cf 67 rfl) (wave_Key_con hx2) g0 rfl rfl rfl rfl <| K.cR (cf 66 rfl) (Tree_RankM_con hx3 1 2) g0 rfl rfl rfl rfl <| K.c0 (cf 73 rfl) (partial_Queue_leave_con hx4 0 1 2 3 4 5 6 7 8 107 108 rfl) g0 rfl rfl rfl rfl <| K.alloc Y 109 _ g0 t56 rfl rfl rfl rfl rfl <| K.store Y _ g0 rfl rfl rfl t56 rfl rfl rfl rfl rfl <| K.nil <| And.intro (by kernel_rfl) <| At.ns ?_
  obtain ⟨x5, hx5, H0⟩ := bnd H0
  obtain ⟨x6, hx6, H0⟩ := bnd H0
  refine G.rd mixed <| K.mv rfl rfl <| K.nilCheck g0 rfl rfl <| K.fieldAddr Y g0 rfl t98 rfl rfl <| K.load1 Y g0 rfl rfl t38 rfl rfl <| K.mv rfl rfl <| K.cR (cf 67 rfl) (wave_Key_con hx5) g0 rfl rfl rfl rfl <| K.c0 (cf 70 rfl) (Tree_PutM_con hx6 1 2) g0 rfl rfl rfl rfl <| K.nil <| And.intro (by kernel_rfl) <| At.nr <| K.loadS Y _ g0 rfl rfl t56 rfl rfl rfl <| K.store Y _ g0 rfl rfl rfl t56 rfl rfl rfl rfl rfl <| K.as rfl rfl <| K.nil <| At.next <| G.ret <| At.ren (fs' := [(4, .a (.c (.p 100 0))), (5, .a (.c (.v (.int .i64 0))))]) (tl := (tkQueue 0 1 2 3 4 5 6 7 8 (TQueue.mk x4.2.capacity (TS.mk x6.2.2 x6.2.1) x4.2.present x4.2.gone x4.2.times x4.2.excess) [(60, lrow 60 30 eTItem 2 x4.1.in_), (61, lrow 61 30 eTItem 2 x4.1.out), (100, blk 100 [.nv 60, .nv 61] 56)])) [(60, 107), (61, 108)] [_, _, _, _, _, _, _, _, _, _, _, _] rfl ⟨rfl, rfl, trivial⟩ ⟨rfl, (blk_ren rfl rfl), rfl, (blk_ren rfl rfl), rfl, (pl_ren rfl), rfl, (blk_ren rfl rfl), rfl, (pl_ren rfl), rfl, (blk_ren rfl rfl), rfl, (pl_ren rfl), rfl, (blk_ren rfl rfl), rfl, (pl_ren rfl), rfl, (lrow_ren rfl), rfl, (lrow_ren rfl), rfl, (blk_ren rfl rfl), trivial⟩ rfl <| At.done Y [(.cell 4 56, .agg [_, _]), (.tmp 5, .c _)] rfl ⟨.st rfl rfl t56 rfl rfl, .tmp rfl, trivial⟩ (to' := [(0, _), (1, _), (2, _), (3, _), (4, _), (5, _), (6, _), (7, _), (8, _), (60, _), (61, _)]) ⟨rfl, rfl, rfl, rfl, rfl, rfl, rfl, rfl, rfl, rfl, rfl, trivial⟩ ?_ ?_ rfl rfl rfl (.inl rfl)
  · cases H0; rfl
  · cases H0; rfl
theorem partial_Queue_Delete_con {k : Nat}  {q0 : TQueue} {a1 : Int} {r : TChange × Int × TQueue}  (H0 : partial_Queue_Delete.f k q0 a1 = some r) (m0 m1 m2 m3 m4 m5 m6 m7 m8 m60 m61 : Nat) (hd : ndB [m0, m1, m2, m3, m4, m5, m6, m7, m8, m60, m61] = true) : partial_Queue_Delete_st q0 a1 r m0 m1 m2 m3 m4 m5 m6 m7 m8 m60 m61 :=
 SCon.ren (rn [(0, m0), (1, m1), (2, m2), (3, m3), (4, m4), (5, m5), (6, m6), (7, m7), (8, m8), (60, m60), (61, m61)]) (partial_Queue_Delete_con0 (k := k)   H0) ⟨(blk_ren rfl rfl), (blk_ren rfl rfl), (pl_ren rfl), (blk_ren rfl rfl), (pl_ren rfl), (blk_ren rfl rfl), (pl_ren rfl), (blk_ren rfl rfl), (pl_ren rfl), trivial⟩ ⟨(blk_ren rfl rfl), (blk_ren rfl rfl), (pl_ren rfl), (blk_ren rfl rfl), (pl_ren rfl), (blk_ren rfl rfl), (pl_ren rfl), (blk_ren rfl rfl), (pl_ren rfl), (lrow_ren rfl), (lrow_ren rfl), trivial⟩ (rn_nd hd rfl rfl) (rn_ks hd rfl rfl rfl)
abbrev partial_Queue_enter_st (q0 : TQueue) (a1 : Int) (r : TChange × TQueue) (m0 : Nat) (m1 : Nat) (m2 : Nat) (m3 : Nat) (m4 : Nat) (m5 : Nat) (m6 : Nat) (m7 : Nat) (m8 : Nat) (m60 : Nat) (m61 : Nat) : Prop := SCon Tryz.prog 75 [SV.p m0 0, .a (.c (.v (.int .i64 a1)))] (tkQueue m0 m1 m2 m3 m4 m5 m6 m7 m8 q0 []) (.a (.agg [.nv m60, .nv m61])) (tkQueue m0 m1 m2 m3 m4 m5 m6 m7 m8 r.2 [(m60, lrow m60 30 eTItem 2 (r.1.in_)), (m61, lrow m61 30 eTItem 2 (r.1.out))]) [m60, m61]
theorem partial_Queue_enter_con0 {k : Nat}  {q0 : TQueue} {a1 : Int} {r : TChange × TQueue}  (H0 : partial_Queue_enter.f k q0 a1 = some r) : partial_Queue_enter_st q0 a1 r 0 1 2 3 4 5 6 7 8 60 61 := by
 rw [partial_Queue_enter.f] at H0
 refine spec_of [(0, _), (1, _)] [(0, _), (1, _), (2, _), (3, _), (4, _), (5, _), (6, _), (7, _), (8, _)] 45 Tryz.func75 rfl Tryz.ntmps75 rfl rfl rfl rfl (fun β W F => ?_)
 refine G.seq <| G.rg <| K.alloc Y 100 _ g0 t56 rfl rfl rfl rfl rfl <| K.nil <| At.nilBlk (n := 100) (l' := [_, _]) 0 101 30 eTItem 2 rfl rfl rfl rfl rfl <| At.nilBlk (n := 100) (l' := [_, _]) 1 102 30 eTItem 2 rfl rfl rfl rfl rfl <| At.ns ?_
 obtain ⟨x1, hx1, H0⟩ := bnd H0
 refine G.rd mixed <| K.mv rfl rfl <| K.nilCheck g0 rfl rfl <| K.fieldAddr Y g0 rfl t98 rfl rfl <| K.load1 Y g0 rfl rfl t38 rfl rfl <| K.mv rfl rfl <| K.mv rfl rfl <| K.nilCheck g0 rfl rfl <| K.fieldAddr Y g0 rfl t98 rfl rfl <| K.load1 Y g0 rfl rfl t3 rfl rfl <| K.cR (cf 68 rfl) (bridge_Prior_con hx1 1 2) g0 rfl rfl rfl rfl <| K.as rfl rfl <| K.nil <| And.intro (by kernel_rfl) <| At.ns <| G.seq <| G.rg <| K.mv rfl rfl <| K.bin (V := .bool (decide (x1 < 0))) g0 rfl rfl (fun _ => rfl) rfl <| K.nil <| At.next <| G.cond rfl (fun h1 => ?_) (fun h1 => ?_)
 ·
  replace H0 := bif_t H0 h1
  refine G.seq <| G.rg <| K.mv rfl rfl <| K.nilCheck g0 rfl rfl <| K.fieldAddr Y g0 rfl t98 rfl rfl <| K.load1 Y g0 rfl rfl t3 rfl rfl <| K.bin (V := .int .i64 (w64 (q0.excess - 1))) g0 rfl rfl (fun _ => rfl) rfl <| K.nilCheck g0 rfl rfl <| K.fieldAddr Y g0 rfl t98 rfl rfl <| K.store Y _ g0 rfl rfl rfl t3 rfl rfl rfl rfl rfl <| K.nil <| At.nr <| K.build Y [] [_, _] [] g0 (AllE.spec trivial) rfl rfl t56 rfl rfl <| K.store Y _ g0 rfl rfl rfl t56 rfl rfl rfl rfl rfl <| K.nil <| At.nilAgg (t := 26) (l' := [_, _]) 0 103 30 eTItem 2 rfl rfl rfl rfl rfl <| At.nilAgg (t := 26) (l' := [_, _]) 1 104 30 eTItem 2 rfl rfl rfl rfl rfl <| At.nilBlk (n := 100) (l' := [_, _]) 0 105 30 eTItem 2 rfl rfl rfl rfl rfl <| At.nilBlk (n := 100) (l' := [_, _]) 1 106 30 eTItem 2 rfl rfl rfl rfl rfl <| At.next <| G.ret <| At.over_ret <| At.ren (fs' := [(4, .a (.c (.p 100 0)))]) (tl := (tkQueue 0 1 2 3 4 5 6 7 8 (TQueue.mk q0.capacity q0.marks q0.present q0.gone q0.times (w64 (q0.excess - 1))) [(60, lrow 60 30 eTItem 2 ([] : List TItem)), (61, lrow 61 30 eTItem 2 ([] : List TItem)), (100, blk 100 [.nv 60, .nv 61] 56)])) [(60, 105), (61, 106)] [_, _, _, _, _, _, _, _, _, _, _, _] rfl ⟨rfl, trivial⟩ ⟨rfl, (blk_ren rfl rfl), rfl, (blk_ren rfl rfl), rfl, (pl_ren rfl), rfl, (blk_ren rfl rfl), rfl, (pl_ren rfl), rfl, (blk_ren rfl rfl), rfl, (pl_ren rfl), rfl, (blk_ren rfl rfl), rfl, (pl_ren rfl), rfl, (lrow_ren rfl), rfl, (lrow_ren rfl), rfl, (blk_ren rfl rfl), trivial⟩ rfl <| At.done Y [(.cell 4 56, .agg [_, _])] rfl ⟨.st rfl rfl t56 rfl rfl, trivial⟩ (to' := [(0, _), (1, _), (2, _), (3, _), (4, _), (5, _), (6, _), (7, _), (8, _), (60, _), (61, _)]) ⟨rfl, rfl, rfl, rfl, rfl, rfl, rfl, rfl, rfl, rfl, rfl, trivial⟩ ?_ ?_ rfl rfl rfl (.inl rfl)
  · cases H0; rfl
  · cases H0; rfl
 ·
  replace H0 := bif_f H0 h1
  refine G.skip <| At.ns ?_
  obtain ⟨x2, hx2, H0⟩ := bnd H0
  refine G.rg <| K.mv rfl rfl <| K.nilCheck g0 rfl rfl <| K.fieldAddr Y g0 rfl t98 rfl rfl <| K.load1 Y g0 rfl rfl t38 rfl rfl <| K.mv rfl rfl <| K.cR (cf 71 rfl) (bridge_Best_con hx2 1 2) g0 rfl rfl rfl rfl <| K.alloc Y 107 _ g0 t44 rfl rfl rfl rfl rfl <| K.store Y _ g0 rfl rfl rfl t44 rfl rfl rfl rfl rfl <| K.nil <| At.ns <| G.seq <| G.rg <| K.fieldAddr Y g0 rfl t44 rfl rfl <| K.load1 Y g0 rfl rfl t4 rfl rfl <| K.un (V := .bool (!x2.found)) g0 rfl (fun _ => rfl) rfl <| K.nil <| At.next <| G.cond rfl (fun h2 => ?_) (fun h2 => ?_)
  ·
   replace H0 := bif_t H0 h2
   refine G.seq <| G.rg <| K.build Y [] [_, _] [] g0 (AllE.spec trivial) rfl rfl t56 rfl rfl <| K.store Y _ g0 rfl rfl rfl t56 rfl rfl rfl rfl rfl <| K.nil <| At.nilAgg (t := 36) (l' := [_, _]) 0 108 30 eTItem 2 rfl rfl rfl rfl rfl <| At.nilAgg (t := 36) (l' := [_, _]) 1 109 30 eTItem 2 rfl rfl rfl rfl rfl <| At.nilBlk (n := 100) (l' := [_, _]) 0 110 30 eTItem 2 rfl rfl rfl rfl rfl <| At.nilBlk (n := 100) (l' := [_, _]) 1 111 30 eTItem 2 rfl rfl rfl rfl rfl <| At.next <| G.ret <| At.over_ret <| At.ren (fs' := [(4, .a (.c (.p 100 0)))]) (tl := (tkQueue 0 1 2 3 4 5 6 7 8 q0 [(60, lrow 60 30 eTItem 2 ([] : List TItem)), (61, lrow 61 30 eTItem 2 ([] : List TItem)), (100, blk 100 [.nv 60, .nv 61] 56)])) [(60, 110), (61, 111)] [_, _, _, _, _, _, _, _, _, _, _, _] rfl ⟨rfl, trivial⟩ ⟨rfl, (blk_ren rfl rfl), rfl, (blk_ren rfl rfl), rfl, (pl_ren rfl), rfl, (blk_ren rfl rfl), rfl, (pl_ren rfl), rfl, (blk_ren rfl rfl), rfl, (pl_ren rfl), rfl, (blk_ren rfl rfl), rfl, (pl_ren rfl), rfl, (lrow_ren rfl), rfl, (lrow_ren rfl), rfl, (blk_ren rfl rfl), trivial⟩ rfl <| At.done Y [(.cell 4 56, .agg [_, _])] rfl ⟨.st rfl rfl t56 rfl rfl, trivial⟩ (to' := [(0, _), (1, _), (2, _), (3, _), (4, _), (5, _), (6, _), (7, _), (8, _), (60, _), (61, _)]) ⟨rfl, rfl, rfl, rfl, rfl, rfl, rfl, rfl, rfl, rfl, rfl, trivial⟩ ?_ ?_ rfl rfl rfl (.inl rfl)
   · cases H0; rfl
   · cases H0; rfl
  ·
   replace H0 := bif_f H0 h2
   refine G.skip <| At.ns ?_
   obtain ⟨x3, hx3, H0⟩ := bnd H0
   refine G.rg <| K.mv rfl rfl <| K.fieldAddr Y g0 rfl t44 rfl rfl <| K.loadS Y _ g0 rfl rfl t30 rfl rfl rfl <| K.c0 (cf 72 rfl) (partial_Queue_turn_con hx3 0 1 2 3 4 5 6 7 8) g0 rfl rfl rfl rfl <| K.nil <| At.nr <| K.fieldAddr Y g0 rfl t44 rfl rfl <| K.loadS Y _ g0 rfl rfl t30 rfl rfl rfl <| K.buildL Y 112 ([x2.item] : List TItem) [(0, _)] [((.tmp 42), _)] eTItem_len g0 (AllE.spec ⟨rfl, trivial⟩) rfl rfl Tryz.underlying33 t30 rfl rfl rfl rfl rfl rfl rfl rfl <| K.build Y [(0, _)] [_, _] [((.tmp 43), _)] g0 (AllE.spec ⟨rfl, trivial⟩) rfl rfl t56 rfl rfl <| K.store Y _ g0 rfl rfl rfl t56 rfl rfl rfl rfl rfl <| K.nil <| At.nilAgg (t := 44) (l' := [_, _]) 1 113 30 eTItem 2 rfl rfl rfl rfl rfl <| At.nilBlk (n := 100) (l' := [_, _]) 1 114 30 eTItem 2 rfl rfl rfl rfl rfl <| At.next <| G.ret <| At.ren (fs' := [(4, .a (.c (.p 100 0)))]) (tl := (tkQueue 0 1 2 3 4 5 6 7 8 x3 [(60, lrow 60 30 eTItem 2 ([x2.item] : List TItem)), (61, lrow 61 30 eTItem 2 ([] : List TItem)), (100, blk 100 [.nv 60, .nv 61] 56)])) [(60, 112), (61, 114)] [_, _, _, _, _, _, _, _, _, _, _, _] rfl ⟨rfl, trivial⟩ ⟨rfl, (blk_ren rfl rfl), rfl, (blk_ren rfl rfl), rfl, (pl_ren rfl), rfl, (blk_ren rfl rfl), rfl, (pl_ren rfl), rfl, (blk_ren rfl rfl), rfl, (pl_ren rfl), rfl, (blk_ren rfl rfl), rfl, (pl_ren rfl), rfl, (lrow_ren rfl), rfl, (lrow_ren rfl), rfl, (blk_ren rfl rfl), trivial⟩ rfl <| At.done Y [(.cell 4 56, .agg [_, _])] rfl ⟨.st rfl rfl t56 rfl rfl, trivial⟩ (to' := [(0, _), (1, _), (2, _), (3, _), (4, _), (5, _), (6, _), (7, _), (8, _), (60, _), (61, _)]) ⟨rfl, rfl, rfl, rfl, rfl, rfl, rfl, rfl, rfl, rfl, rfl, trivial⟩ ?_ ?_ rfl rfl rfl (.inl rfl)
   · cases H0; rfl
   · cases H0; rfl
theorem partial_Queue_enter_con {k : Nat}  {q0 : TQueue} {a1 : Int} {r : TChange × TQueue}  (H0 : partial_Queue_enter.f k q0 a1 = some r) (m0 m1 m2 m3 m4 m5 m6 m7 m8 m60 m61 : Nat) (hd : ndB [m0, m1, m2, m3, m4, m5, m6, m7, m8, m60, m61] = true) : partial_Queue_enter_st q0 a1 r m0 m1 m2 m3 m4 m5 m6 m7 m8 m60 m61 :=
 SCon.ren (rn [(0, m0), (1, m1), (2, m2), (3, m3), (4, m4), (5, m5), (6, m6), (7, m7), (8, m8), (60, m60), (61, m61)]) (partial_Queue_enter_con0 (k := k)   H0) ⟨(blk_ren rfl rfl), (blk_ren rfl rfl), (pl_ren rfl), (blk_ren rfl rfl), (pl_ren rfl), (blk_ren rfl rfl), (pl_ren rfl), (blk_ren rfl rfl), (pl_ren rfl), trivial⟩ ⟨(blk_ren rfl rfl), (blk_ren rfl rfl), (pl_ren rfl), (blk_ren rfl rfl), (pl_ren rfl), (blk_ren rfl rfl), (pl_ren rfl), (blk_ren rfl rfl), (pl_ren rfl), (lrow_ren rfl), (lrow_ren rfl), trivial⟩ (rn_nd hd rfl rfl) (rn_ks hd rfl rfl rfl)
abbrev partial_Queue_Revoke_st (q0 : TQueue) (a1 : Int) (r : TChange × Int × TQueue) (m0 : Nat) (m1 : Nat) (m2 : Nat) (m3 : Nat) (m4 : Nat) (m5 : Nat) (m6 : Nat) (m7 : Nat) (m8 : Nat) (m60 : Nat) (m61 : Nat) : Prop := SCon Tryz.prog 25 [SV.p m0 0, .a (.c (.v (.int .i64 a1)))] (tkQueue m0 m1 m2 m3 m4 m5 m6 m7 m8 q0 []) (.tup [.agg [.nv m60, .nv m61], .c (.v (.int .i64 r.2.1))]) (tkQueue m0 m1 m2 m3 m4 m5 m6 m7 m8 r.2.2 [(m60, lrow m60 30 eTItem 2 (r.1.in_)), (m61, lrow m61 30 eTItem 2 (r.1.out))]) [m60, m61]
theorem partial_Queue_Revoke_con0 {k : Nat}  {q0 : TQueue} {a1 : Int} {r : TChange × Int × TQueue}  (H0 : partial_Queue_Revoke.f k q0 a1 = some r) : partial_Queue_Revoke_st q0 a1 r 0 1 2 3 4 5 6 7 8 60 61 := by
 rw [partial_Queue_Revoke.f] at H0
 refine spec_of [(0, _), (1, _)] [(0, _), (1, _), (2, _), (3, _), (4, _), (5, _), (6, _), (7, _), (8, _)] 93 Tryz.func25 rfl Tryz.ntmps25 rfl rfl rfl rfl (fun β W F => ?_)
 refine G.seq <| G.rg <| K.alloc Y 100 _ g0 t56 rfl rfl rfl rfl rfl <| K.as rfl rfl <| K.nil <| At.nilBlk (n := 100) (l' := [_, _]) 0 101 30 eTItem 2 rfl rfl rfl rfl rfl <| At.nilBlk (n := 100) (l' := [_, _]) 1 102 30 eTItem 2 rfl rfl rfl rfl rfl <| At.ns ?_
 obtain ⟨x1, hx1, H0⟩ := bnd H0
 obtain ⟨x2, hx2, H0⟩ := bnd H0
 refine G.rd mixed <| K.mv rfl rfl <| K.nilCheck g0 rfl rfl <| K.fieldAddr Y g0 rfl t98 rfl rfl <| K.load1 Y g0 rfl rfl t38 rfl rfl <| K.mv rfl rfl <| K.cR (cf 67 rfl) (wave_Key_con hx1) g0 rfl rfl rfl rfl <| K.cR (cf 74 rfl) (Tree_FindM_con hx2 1 2) g0 rfl rfl rfl rfl <| K.mv rfl rfl <| K.extract g0 rfl rfl rfl <| K.extract g0 rfl rfl rfl <| K.alloc Y 103 _ g0 t46 rfl rfl rfl rfl rfl <| K.store Y _ g0 rfl rfl rfl t46 rfl rfl rfl rfl rfl <| K.as rfl rfl <| K.nil <| And.intro (by kernel_rfl) <| At.ns <| G.seq <| G.rg <| K.mv rfl rfl <| K.un (V := .bool (!x2.2)) g0 rfl (fun _ => rfl) rfl <| K.nil <| At.next <| G.cond rfl (fun h1 => ?_) (fun h1 => ?_)
 ·
  replace H0 := bif_t H0 h1
  refine G.seq <| G.rg <| K.build Y [] [_, _] [] g0 (AllE.spec trivial) rfl rfl t56 rfl rfl <| K.store Y _ g0 rfl rfl rfl t56 rfl rfl rfl rfl rfl <| K.as rfl rfl <| K.nil <| At.nilAgg (t := 23) (l' := [_, _]) 0 104 30 eTItem 2 rfl rfl rfl rfl rfl <| At.nilAgg (t := 23) (l' := [_, _]) 1 105 30 eTItem 2 rfl rfl rfl rfl rfl <| At.nilBlk (n := 100) (l' := [_, _]) 0 106 30 eTItem 2 rfl rfl rfl rfl rfl <| At.nilBlk (n := 100) (l' := [_, _]) 1 107 30 eTItem 2 rfl rfl rfl rfl rfl <| At.next <| G.ret <| At.over_ret <| At.ren (fs' := [(4, .a (.c (.p 100 0))), (5, .a (.c (.v (.int .i64 14))))]) (tl := (tkQueue 0 1 2 3 4 5 6 7 8 q0 [(60, lrow 60 30 eTItem 2 ([] : List TItem)), (61, lrow 61 30 eTItem 2 ([] : List TItem)), (100, blk 100 [.nv 60, .nv 61] 56)])) [(60, 106), (61, 107)] [_, _, _, _, _, _, _, _, _, _, _, _] rfl ⟨rfl, rfl, trivial⟩ ⟨rfl, (blk_ren rfl rfl), rfl, (blk_ren rfl rfl), rfl, (pl_ren rfl), rfl, (blk_ren rfl rfl), rfl, (pl_ren rfl), rfl, (blk_ren rfl rfl), rfl, (pl_ren rfl), rfl, (blk_ren rfl rfl), rfl, (pl_ren rfl), rfl, (lrow_ren rfl), rfl, (lrow_ren rfl), rfl, (blk_ren rfl rfl), trivial⟩ rfl <| At.done Y [(.cell 4 56, .agg [_, _]), (.tmp 5, .c _)] rfl ⟨.st rfl rfl t56 rfl rfl, .tmp rfl, trivial⟩ (to' := [(0, _), (1, _), (2, _), (3, _), (4, _), (5, _), (6, _), (7, _), (8, _), (60, _), (61, _)]) ⟨rfl, rfl, rfl, rfl, rfl, rfl, rfl, rfl, rfl, rfl, rfl, trivial⟩ ?_ ?_ rfl rfl rfl (.inl rfl)
  · cases H0; rfl
  · cases H0; rfl
 ·
  replace H0 := bif_f H0 h1
  refine G.skip <| At.ns ?_
  obtain ⟨x3, hx3, H0⟩ := bnd H0
  obtain ⟨x4, hx4, H0⟩ := bnd H0
  refine G.rd mixed <| K.mv rfl rfl <| K.nilCheck g0 rfl rfl <| K.fieldAddr Y g0 rfl t98 rfl rfl <| K.load1 Y g0 rfl rfl t38 rfl rfl <| K.mv rfl rfl <| K.cR (cf 67 rfl) (wave_Key_con hx3) g0 rfl rfl rfl rfl <| K.cR (cf 66 rfl) (Tree_RankM_con hx4 1 2) g0 rfl rfl rfl rfl <| K.as rfl rfl <| K.nil <| And.intro (by kernel_rfl) <| At.ns <| G.seq <| G.rg <| K.fieldAddr Y g0 rfl t46 rfl rfl <| K.fieldAddr Y g0 rfl t42 rfl rfl <| K.load1 Y g0 rfl rfl t4 rfl rfl <| K.un (V := .bool (!x2.1.op.insert)) g0 rfl (fun _ => rfl) rfl <| K.nil <| At.next <| G.cond rfl (fun h2 => ?_) (fun h2 => ?_)
  ·
   replace H0 := bif_t H0 h2
   refine G.seq ?_
   obtain ⟨x5, hx5, H0⟩ := bnd H0
   refine G.rg <| K.mv rfl rfl <| K.mv rfl rfl <| K.c0 (cf 75 rfl) (partial_Queue_enter_con hx5 0 1 2 3 4 5 6 7 8 108 109 rfl) g0 rfl rfl rfl rfl <| K.alloc Y 110 _ g0 t56 rfl rfl rfl rfl rfl <| K.store Y _ g0 rfl rfl rfl t56 rfl rfl rfl rfl rfl <| K.nil <| At.ns ?_
   obtain ⟨x6, hx6, H0⟩ := bnd H0
   obtain ⟨x7, hx7, H0⟩ := bnd H0
   refine G.rd mixed <| K.mv rfl rfl <| K.nilCheck g0 rfl rfl <| K.fieldAddr Y g0 rfl t98 rfl rfl <| K.load1 Y g0 rfl rfl t38 rfl rfl <| K.mv rfl rfl <| K.cR (cf 67 rfl) (wave_Key_con hx6) g0 rfl rfl rfl rfl <| K.c0 (cf 76 rfl) (Tree_DropM_con hx7 1 2) g0 rfl rfl rfl rfl <| K.nil <| And.intro (by kernel_rfl) <| At.nr <| K.loadS Y _ g0 rfl rfl t56 rfl rfl rfl <| K.store Y _ g0 rfl rfl rfl t56 rfl rfl rfl rfl rfl <| K.as rfl rfl <| K.nil <| At.next <| G.ret <| At.over_ret <| At.ren (fs' := [(4, .a (.c (.p 100 0))), (5, .a (.c (.v (.int .i64 0))))]) (tl := (tkQueue 0 1 2 3 4 5 6 7 8 (TQueue.mk x5.2.capacity (TS.mk x7.2.2.2 x7.2.2.1) x5.2.present x5.2.gone x5.2.times x5.2.excess) [(60, lrow 60 30 eTItem 2 x5.1.in_), (61, lrow 61 30 eTItem 2 x5.1.out), (100, blk 100 [.nv 60, .nv 61] 56)])) [(60, 108), (61, 109)] [_, _, _, _, _, _, _, _, _, _, _, _] rfl ⟨rfl, rfl, trivial⟩ ⟨rfl, (blk_ren rfl rfl), rfl, (blk_ren rfl rfl), rfl, (pl_ren rfl), rfl, (blk_ren rfl rfl), rfl, (pl_ren rfl), rfl, (blk_ren rfl rfl), rfl, (pl_ren rfl), rfl, (blk_ren rfl rfl), rfl, (pl_ren rfl), rfl, (lrow_ren rfl), rfl, (lrow_ren rfl), rfl, (blk_ren rfl rfl), trivial⟩ rfl <| At.done Y [(.cell 4 56, .agg [_, _]), (.tmp 5, .c _)] rfl ⟨.st rfl rfl t56 rfl rfl, .tmp rfl, trivial⟩ (to' := [(0, _), (1, _), (2, _), (3, _), (4, _), (5, _), (6, _), (7, _), (8, _), (60, _), (61, _)]) ⟨rfl, rfl, rfl, rfl, rfl, rfl, rfl, rfl, rfl, rfl, rfl, trivial⟩ ?_ ?_ rfl rfl rfl (.inl rfl)
   · cases H0; rfl
   · cases H0; rfl
  ·
   replace H0 := bif_f H0 h2
   refine G.skip <| At.nr <| K.fieldAddr Y g0 rfl t46 rfl rfl <| K.fieldAddr Y g0 rfl t42 rfl rfl <| K.loadS Y _ g0 rfl rfl t30 rfl rfl rfl <| K.buildL Y 111 ([x2.1.op.item] : List TItem) [(0, _)] [((.tmp 48), _)] eTItem_len g0 (AllE.spec ⟨rfl, trivial⟩) rfl rfl Tryz.underlying33 t30 rfl rfl rfl rfl rfl rfl rfl rfl <| K.build Y [(1, _)] [_, _] [((.tmp 49), _)] g0 (AllE.spec ⟨rfl, trivial⟩) rfl rfl t56 rfl rfl <| K.alloc Y 112 _ g0 t56 rfl rfl rfl rfl rfl <| K.store Y _ g0 rfl rfl rfl t56 rfl rfl rfl rfl rfl <| K.nil <| At.nilAgg (t := 50) (l' := [_, _]) 0 113 30 eTItem 2 rfl rfl rfl rfl rfl <| At.nilBlk (n := 112) (l' := [_, _]) 0 114 30 eTItem 2 rfl rfl rfl rfl rfl <| At.next ?_
   obtain ⟨x8, H1, H0⟩ := bnd H0
   refine G.sJ (σ := { v : TQueue × List TItem × List TItem // x8 = v }) (fun q => [(0, .a (.c (.p 0 0))), (1, .a (.c (.v (.int .i64 a1)))), (4, .a (.c (.p 115 0))), (6, .a (.c (.p 118 0))), (10, .a (.c (.p 119 0)))]) (fun q => (tkQueue 0 1 2 3 4 5 6 7 8 q.1.1 [(116, lrow 116 30 eTItem 2 ([] : List TItem)), (117, lrow 117 30 eTItem 2 ([] : List TItem)), (115, blk 115 [.nv 116, .nv 117] 56), (118, blk 118 [.v (.int .i64 x2.1.op.time), .v (.bool x2.1.op.insert), .v (.int .i64 x2.1.op.item.key), .v (.int .i64 x2.1.op.item.id), .v (.bool x2.1.here), .v (.bool x2.1.took.found), .v (.int .i64 x2.1.took.item.key), .v (.int .i64 x2.1.took.item.id)] 46), (120, lrow 120 30 eTItem 2 q.1.2.1), (121, lrow 121 30 eTItem 2 q.1.2.2), (119, blk 119 [.nv 120, .nv 121] 56)])) ?_ ?_
   ·
    refine G.seq <| G.rg <| K.fieldAddr Y g0 rfl t46 rfl rfl <| K.load1 Y g0 rfl rfl t4 rfl rfl <| K.un (V := .bool (!x2.1.here)) g0 rfl (fun _ => rfl) rfl <| K.nil <| At.next <| G.cond rfl (fun h3 => ?_) (fun h3 => ?_)
    ·
     replace H1 := bif_t H1 h3
     obtain ⟨x9, hx9, H1⟩ := bnd H1
     exact G.rg <| K.mv rfl rfl <| K.mv rfl rfl <| K.bin (V := .int .i64 (w64 (x4 + 1))) g0 rfl rfl (fun _ => rfl) rfl <| K.c0 (cf 73 rfl) (partial_Queue_leave_con hx9 0 1 2 3 4 5 6 7 8 122 123 rfl) g0 rfl rfl rfl rfl <| K.store Y _ g0 rfl rfl rfl t56 rfl rfl rfl rfl rfl <| K.nil <| At.jd ⟨(x9.2, x9.1.in_, x9.1.out), oi H1⟩ [(115, 100), (116, 101), (117, 102), (118, 103), (119, 112), (120, 122), (121, 123)] [_, _, _, _, _, _, _, _, _, _, _, _, _, _, _, _] rfl ⟨rfl, rfl, rfl, rfl, rfl, trivial⟩ ⟨rfl, (blk_ren rfl rfl), rfl, (blk_ren rfl rfl), rfl, (pl_ren rfl), rfl, (blk_ren rfl rfl), rfl, (pl_ren rfl), rfl, (blk_ren rfl rfl), rfl, (pl_ren rfl), rfl, (blk_ren rfl rfl), rfl, (pl_ren rfl), rfl, (lrow_ren rfl), rfl, (lrow_ren rfl), rfl, (blk_ren rfl rfl), rfl, (blk_ren rfl rfl), rfl, (lrow_ren rfl), rfl, (lrow_ren rfl), rfl, (blk_ren rfl rfl), trivial⟩ rfl
    ·
     replace H1 := bif_f H1 h3
     exact G.skip <| At.jd ⟨(q0, ([] : List TItem), ([x2.1.op.item] : List TItem)), oi H1⟩ [(115, 100), (116, 101), (117, 102), (118, 103), (119, 112), (120, 114), (121, 111)] [_, _, _, _, _, _, _, _, _, _, _, _, _, _, _, _] rfl ⟨rfl, rfl, rfl, rfl, rfl, trivial⟩ ⟨rfl, (blk_ren rfl rfl), rfl, (blk_ren rfl rfl), rfl, (pl_ren rfl), rfl, (blk_ren rfl rfl), rfl, (pl_ren rfl), rfl, (blk_ren rfl rfl), rfl, (pl_ren rfl), rfl, (blk_ren rfl rfl), rfl, (pl_ren rfl), rfl, (lrow_ren rfl), rfl, (lrow_ren rfl), rfl, (blk_ren rfl rfl), rfl, (blk_ren rfl rfl), rfl, (lrow_ren rfl), rfl, (lrow_ren rfl), rfl, (blk_ren rfl rfl), trivial⟩ rfl
   ·
    rintro ⟨_, rfl⟩
    show G _ _ [(0, .a (.c (.p 0 0))), (1, .a (.c (.v (.int .i64 a1)))), (4, .a (.c (.p 115 0))), (6, .a (.c (.p 118 0))), (10, .a (.c (.p 119 0)))] (sm (tkQueue 0 1 2 3 4 5 6 7 8 x8.1 [(116, lrow 116 30 eTItem 2 ([] : List TItem)), (117, lrow 117 30 eTItem 2 ([] : List TItem)), (115, blk 115 [.nv 116, .nv 117] 56), (118, blk 118 [.v (.int .i64 x2.1.op.time), .v (.bool x2.1.op.insert), .v (.int .i64 x2.1.op.item.key), .v (.int .i64 x2.1.op.item.id), .v (.bool x2.1.here), .v (.bool x2.1.took.found), .v (.int .i64 x2.1.took.item.key), .v (.int .i64 x2.1.took.item.id)] 46), (120, lrow 120 30 eTItem 2 x8.2.1), (121, lrow 121 30 eTItem 2 x8.2.2), (119, blk 119 [.nv 120, .nv 121] 56)])) _ _
    refine G.seq ?_
    obtain ⟨x10, hx10, H0⟩ := bnd H0
    obtain ⟨x11, hx11, H0⟩ := bnd H0
    refine G.rd mixed <| K.mv rfl rfl <| K.nilCheck g0 rfl rfl <| K.fieldAddr Y g0 rfl t98 rfl rfl <| K.load1 Y g0 rfl rfl t38 rfl rfl <| K.mv rfl rfl <| K.cR (cf 67 rfl) (wave_Key_con hx10) g0 rfl rfl rfl rfl <| K.c0 (cf 76 rfl) (Tree_DropM_con hx11 1 2) g0 rfl rfl rfl rfl <| K.nil <| And.intro (by kernel_rfl) <| At.ns ?_
    obtain ⟨x12, hx12, H0⟩ := bnd H0
    obtain ⟨x13, hx13, H0⟩ := bnd H0
    refine G.rd mixed <| K.mv rfl rfl <| K.nilCheck g0 rfl rfl <| K.fieldAddr Y g0 rfl t98 rfl rfl <| K.load1 Y g0 rfl rfl t63 rfl rfl <| K.fieldAddr Y g0 rfl t46 rfl rfl <| K.fieldAddr Y g0 rfl t42 rfl rfl <| K.loadS Y _ g0 rfl rfl t30 rfl rfl rfl <| K.cR (cf 65 rfl) (shelf_Of_con hx12) g0 rfl rfl rfl rfl <| K.c0 (cf 77 rfl) (Tree_DropS_con hx13 3 4) g0 rfl rfl rfl rfl <| K.nil <| And.intro (by kernel_rfl) <| At.ns ?_
    obtain ⟨x14, hx14, H0⟩ := bnd H0
    obtain ⟨x15, hx15, H0⟩ := bnd H0
    refine G.rd mixed <| K.mv rfl rfl <| K.nilCheck g0 rfl rfl <| K.fieldAddr Y g0 rfl t98 rfl rfl <| K.load1 Y g0 rfl rfl t63 rfl rfl <| K.fieldAddr Y g0 rfl t46 rfl rfl <| K.fieldAddr Y g0 rfl t42 rfl rfl <| K.loadS Y _ g0 rfl rfl t30 rfl rfl rfl <| K.cR (cf 65 rfl) (shelf_Of_con hx14) g0 rfl rfl rfl rfl <| K.c0 (cf 77 rfl) (Tree_DropS_con hx15 5 6) g0 rfl rfl rfl rfl <| K.nil <| And.intro (by kernel_rfl) <| At.ns ?_
    obtain ⟨x16, hx16, H0⟩ := bnd H0
    obtain ⟨x17, hx17, H0⟩ := bnd H0
    refine G.rd mixed <| K.mv rfl rfl <| K.nilCheck g0 rfl rfl <| K.fieldAddr Y g0 rfl t98 rfl rfl <| K.load1 Y g0 rfl rfl t63 rfl rfl <| K.fieldAddr Y g0 rfl t46 rfl rfl <| K.fieldAddr Y g0 rfl t42 rfl rfl <| K.loadS Y _ g0 rfl rfl t30 rfl rfl rfl <| K.cR (cf 65 rfl) (shelf_Of_con hx16) g0 rfl rfl rfl rfl <| K.c0 (cf 77 rfl) (Tree_DropS_con hx17 7 8) g0 rfl rfl rfl rfl <| K.nil <| And.intro (by kernel_rfl) <| At.nr <| K.loadS Y _ g0 rfl rfl t56 rfl rfl rfl <| K.store Y _ g0 rfl rfl rfl t56 rfl rfl rfl rfl rfl <| K.as rfl rfl <| K.nil <| At.next <| G.ret <| At.ren (fs' := [(4, .a (.c (.p 115 0))), (5, .a (.c (.v (.int .i64 0))))]) (tl := (tkQueue 0 1 2 3 4 5 6 7 8 (TQueue.mk x8.1.capacity (TS.mk x11.2.2.2 x11.2.2.1) (TS.mk x13.2.2.2 x13.2.2.1) (TS.mk x15.2.2.2 x15.2.2.1) (TS.mk x17.2.2.2 x17.2.2.1) x8.1.excess) [(60, lrow 60 30 eTItem 2 x8.2.1), (61, lrow 61 30 eTItem 2 x8.2.2), (115, blk 115 [.nv 60, .nv 61] 56)])) [(60, 120), (61, 121)] [_, _, _, _, _, _, _, _, _, _, _, _] rfl ⟨rfl, rfl, trivial⟩ ⟨rfl, (blk_ren rfl rfl), rfl, (blk_ren rfl rfl), rfl, (pl_ren rfl), rfl, (blk_ren rfl rfl), rfl, (pl_ren rfl), rfl, (blk_ren rfl rfl), rfl, (pl_ren rfl), rfl, (blk_ren rfl rfl), rfl, (pl_ren rfl), rfl, (lrow_ren rfl), rfl, (lrow_ren rfl), rfl, (blk_ren rfl rfl), trivial⟩ rfl <| At.done Y [(.cell 4 56, .agg [_, _]), (.tmp 5, .c _)] rfl ⟨.st rfl rfl t56 rfl rfl, .tmp rfl, trivial⟩ (to' := [(0, _), (1, _), (2, _), (3, _), (4, _), (5, _), (6, _), (7, _), (8, _), (60, _), (61, _)]) ⟨rfl, rfl, rfl, rfl, rfl, rfl, rfl, rfl, rfl, rfl, rfl, trivial⟩ ?_ ?_ rfl rfl rfl (.inl rfl)
    · cases H0; rfl
    · cases H0; rfl
theorem partial_Queue_Revoke_con {k : Nat}  {q0 : TQueue} {a1 : Int} {r : TChange × Int × TQueue}  (H0 : partial_Queue_Revoke.f k q0 a1 = some r) (m0 m1 m2 m3 m4 m5 m6 m7 m8 m60 m61 : Nat) (hd : ndB [m0, m1, m2, m3, m4, m5, m6, m7, m8, m60, m61] = true) : partial_Queue_Revoke_st q0 a1 r m0 m1 m2 m3 m4 m5 m6 m7 m8 m60 m61 :=
 SCon.ren (rn [(0, m0), (1, m1), (2, m2), (3, m3), (4, m4), (5, m5), (6, m6), (7, m7), (8, m8), (60, m60), (61, m61)]) (partial_Queue_Revoke_con0 (k := k)   H0) ⟨(blk_ren rfl rfl), (blk_ren rfl rfl), (pl_ren rfl), (blk_ren rfl rfl), (pl_ren rfl), (blk_ren rfl rfl), (pl_ren rfl), (blk_ren rfl rfl), (pl_ren rfl), trivial⟩ ⟨(blk_ren rfl rfl), (blk_ren rfl rfl), (pl_ren rfl), (blk_ren rfl rfl), (pl_ren rfl), (blk_ren rfl rfl), (pl_ren rfl), (blk_ren rfl rfl), (pl_ren rfl), (lrow_ren rfl), (lrow_ren rfl), trivial⟩ (rn_nd hd rfl rfl) (rn_ks hd rfl rfl rfl)
abbrev partial_Queue_Excess_st (q0 : TQueue) (r : Int) (m0 : Nat) (m1 : Nat) (m2 : Nat) (m3 : Nat) (m4 : Nat) (m5 : Nat) (m6 : Nat) (m7 : Nat) (m8 : Nat) : Prop := SCon Tryz.prog 32 [SV.p m0 0] (tkQueue m0 m1 m2 m3 m4 m5 m6 m7 m8 q0 []) (.a (.c (.v (.int .i64 r)))) (tkQueue m0 m1 m2 m3 m4 m5 m6 m7 m8 q0 []) []
theorem partial_Queue_Excess_con0 {k : Nat}  {q0 : TQueue} {r : Int}  (H0 : partial_Queue_Excess.f k q0 = some r) : partial_Queue_Excess_st q0 r 0 1 2 3 4 5 6 7 8 := by
 rw [partial_Queue_Excess.f] at H0
 refine spec_of [(0, _)] [(0, _), (1, _), (2, _), (3, _), (4, _), (5, _), (6, _), (7, _), (8, _)] 7 Tryz.func32 rfl Tryz.ntmps32 rfl rfl rfl rfl (fun β W F => ?_)
 exact G.seq <| G.rg <| K.as rfl rfl <| K.nil <| At.nr <| K.mv rfl rfl <| K.nilCheck g0 rfl rfl <| K.fieldAddr Y g0 rfl t98 rfl rfl <| K.load1 Y g0 rfl rfl t3 rfl rfl <| K.as rfl rfl <| K.nil <| At.next <| G.ret <| At.dr Y [2] rfl rfl (by cases H0; rfl) (by cases H0; rfl) rfl rfl rfl
theorem partial_Queue_Excess_con {k : Nat}  {q0 : TQueue} {r : Int}  (H0 : partial_Queue_Excess.f k q0 = some r) (m0 m1 m2 m3 m4 m5 m6 m7 m8 : Nat) : partial_Queue_Excess_st q0 r m0 m1 m2 m3 m4 m5 m6 m7 m8 :=
 SCon.ren (rn [(0, m0), (1, m1), (2, m2), (3, m3), (4, m4), (5, m5), (6, m6), (7, m7), (8, m8)]) (partial_Queue_Excess_con0 (k := k)   H0) ⟨(blk_ren rfl rfl), (blk_ren rfl rfl), (pl_ren rfl), (blk_ren rfl rfl), (pl_ren rfl), (blk_ren rfl rfl), (pl_ren rfl), (blk_ren rfl rfl), (pl_ren rfl), trivial⟩ ⟨(blk_ren rfl rfl), (blk_ren rfl rfl), (pl_ren rfl), (blk_ren rfl rfl), (pl_ren rfl), (blk_ren rfl rfl), (pl_ren rfl), (blk_ren rfl rfl), (pl_ren rfl), trivial⟩ (by simp) (by simp)
abbrev Lw12_awake_st (r : Bool) : Prop := SCon Tryz.prog 14 [] [] (.a (.c (.v (.bool r)))) [] []
set_option maxHeartbeats 4000000 in
theorem Lw12_awake_con0 {k : Nat}  {r : Bool}  (H0 : Lw12_awake.f k = some r) : Lw12_awake_st r := by
 rw [Lw12_awake.f] at H0
 refine spec_of [] [] 62 Tryz.func14 rfl Tryz.ntmps14 rfl rfl rfl rfl (fun β W F => ?_)
 refine G.seq <| G.rg <| K.as rfl rfl <| K.nil <| At.ns ?_
 obtain ⟨x1, hx1, H0⟩ := bnd H0
 refine G.rg <| K.c0 (cf 15 rfl) (partial_New_con hx1 100 101 102 103 104 105 106 107 108 rfl) g0 rfl rfl rfl rfl <| K.as rfl rfl <| K.nil <| At.ns <| G.seq <| G.rg <| K.mv rfl rfl <| K.eqnil (V := false) g0 rfl rfl (pn_eql_some Tryz.underlying24) rfl <| K.nil <| At.next <| G.cond rfl (fun h1 => ?_) (fun h1 => ?_)
 · cases h1
 ·
  refine G.skip <| At.ns ?_
  obtain ⟨x2, hx2, H0⟩ := bnd H0
  refine G.rg <| K.mv rfl rfl <| K.build Y [(0, _)] [_, _] [(_, _)] g0 (AllE.spec ⟨rfl, trivial⟩) rfl rfl t30 rfl rfl <| K.c0 (cf 23 rfl) (partial_Queue_Insert_con hx2 100 101 102 103 104 105 106 107 108 109 110 rfl) g0 rfl rfl rfl rfl <| K.nil <| At.ns ?_
  obtain ⟨x3, hx3, H0⟩ := bnd H0
  refine G.rg <| K.mv rfl rfl <| K.build Y [(0, _)] [_, _] [(_, _)] g0 (AllE.spec ⟨rfl, trivial⟩) rfl rfl t30 rfl rfl <| K.c0 (cf 23 rfl) (partial_Queue_Insert_con hx3 100 101 102 103 104 105 106 107 108 111 112 rfl) g0 rfl rfl rfl rfl <| K.nil <| At.ns ?_
  obtain ⟨x4, hx4, H0⟩ := bnd H0
  refine G.rg <| K.mv rfl rfl <| K.c0 (cf 24 rfl) (partial_Queue_Delete_con hx4 100 101 102 103 104 105 106 107 108 113 114 rfl) g0 rfl rfl rfl rfl <| K.nil <| At.ns ?_
  obtain ⟨x5, hx5, H0⟩ := bnd H0
  refine G.rg <| K.mv rfl rfl <| K.c0 (cf 25 rfl) (partial_Queue_Revoke_con hx5 100 101 102 103 104 105 106 107 108 115 116 rfl) g0 rfl rfl rfl rfl <| K.mv rfl rfl <| K.extract g0 rfl rfl rfl <| K.extract g0 rfl rfl rfl <| K.alloc Y 117 _ g0 t56 rfl rfl rfl rfl rfl <| K.store Y _ g0 rfl rfl rfl t56 rfl rfl rfl rfl rfl <| K.as rfl rfl <| K.nil <| At.ns ?_
  obtain ⟨x6, hx6, H0⟩ := bnd H0
  refine G.rg <| K.mv rfl rfl <| K.c0 (cf 24 rfl) (partial_Queue_Delete_con hx6 100 101 102 103 104 105 106 107 108 118 119 rfl) g0 rfl rfl rfl rfl <| K.mv rfl rfl <| K.extract g0 rfl rfl rfl <| K.extract g0 rfl rfl rfl <| K.alloc Y 120 _ g0 t56 rfl rfl rfl rfl rfl <| K.store Y _ g0 rfl rfl rfl t56 rfl rfl rfl rfl rfl <| K.as rfl rfl <| K.nil <| At.ns ?_
  rcases Bool.eq_false_or_eq_true (x5.2.1 == 0) with h2 | h2
  ·
   replace H0 := bif_t H0 h2
   rcases Bool.eq_false_or_eq_true (x6.2.1 == 0) with h3 | h3
   ·
    replace H0 := bif_t H0 h3
    rcases Bool.eq_false_or_eq_true ((x5.1.out.length : Int) == 1) with h4 | h4
    ·
     replace H0 := bif_t H0 h4
     obtain ⟨x7, hx7, H0⟩ := bnd H0
     rcases Bool.eq_false_or_eq_true (x7.key == 5) with h5 | h5
     ·
      replace H0 := bif_t H0 h5
      rcases Bool.eq_false_or_eq_true ((w64 ((x6.1.in_.length : Int) + (x6.1.out.length : Int))) == 0) with h6 | h6
      ·
       replace H0 := bif_t H0 h6
       obtain ⟨x8, hx8, H0⟩ := bnd H0
       exact G.rg <| K.mv rfl rfl <| K.bin (V := .bool (x5.2.1 == 0)) g0 rfl rfl (fun _ => rfl) rfl <| K.mv rfl rfl <| K.move (.inl rfl) (g1 rfl rfl h2) rfl rfl <| K.bin (V := .bool (x6.2.1 == 0)) (g1 rfl rfl h2) rfl rfl (fun _ => rfl) rfl <| K.pickT g0 rfl (h2) rfl rfl <| K.mv rfl rfl <| K.fieldAddr Y (g1 rfl rfl h3) rfl t56 rfl rfl <| K.load1 Y (g1 rfl rfl h3) rfl rfl t33 rfl rfl <| K.lenL (lrowV 116 30 eTItem 2 x5.1.out) (lrowV_is eTItem_len (by decide)) (g1 rfl rfl h3) rfl rfl Tryz.underlying33 rfl <| K.bin (V := .bool ((x5.1.out.length : Int) == 1)) (g1 rfl rfl h3) rfl rfl (fun _ => rfl) rfl <| K.pickT g0 rfl (h3) rfl rfl <| K.mv rfl rfl <| K.fieldAddr Y (g1 rfl rfl h4) rfl t56 rfl rfl <| K.load1 Y (g1 rfl rfl h4) rfl rfl t33 rfl rfl <| K.idxL (lrowV 116 30 eTItem 2 x5.1.out) ((0 : Int).toNat) (lrowV_is eTItem_len (by decide)) (atL_get hx7) (atL_nn hx7) (g1 rfl rfl h4) rfl rfl rfl Tryz.underlying33 el33.size_run rfl <| K.fieldL Y (lrowV 116 30 eTItem 2 x5.1.out) ((0 : Int).toNat) 0 0 (lrowV_is eTItem_len (by decide)) (atL_get hx7) (g1 rfl rfl h4) rfl rfl t30 rfl rfl rfl rfl <| K.load1L Y (lrowV 116 30 eTItem 2 x5.1.out) ((0 : Int).toNat) 0 (lrowV_is eTItem_len (by decide)) (atL_get hx7) (g1 rfl rfl h4) rfl rfl t3 rfl rfl <| K.bin (V := .bool (x7.key == 5)) (g1 rfl rfl h4) rfl rfl (fun _ => rfl) rfl <| K.pickT g0 rfl (h4) rfl rfl <| K.mv rfl rfl <| K.fieldAddr Y (g1 rfl rfl h5) rfl t56 rfl rfl <| K.load1 Y (g1 rfl rfl h5) rfl rfl t33 rfl rfl <| K.lenL (lrowV 118 30 eTItem 2 x6.1.in_) (lrowV_is eTItem_len (by decide)) (g1 rfl rfl h5) rfl rfl Tryz.underlying33 rfl <| K.fieldAddr Y (g1 rfl rfl h5) rfl t56 rfl rfl <| K.load1 Y (g1 rfl rfl h5) rfl rfl t33 rfl rfl <| K.lenL (lrowV 119 30 eTItem 2 x6.1.out) (lrowV_is eTItem_len (by decide)) (g1 rfl rfl h5) rfl rfl Tryz.underlying33 rfl <| K.bin (V := .int .i64 (w64 ((x6.1.in_.length : Int) + (x6.1.out.length : Int)))) (g1 rfl rfl h5) rfl rfl (fun _ => rfl) rfl <| K.bin (V := .bool ((w64 ((x6.1.in_.length : Int) + (x6.1.out.length : Int))) == 0)) (g1 rfl rfl h5) rfl rfl (fun _ => rfl) rfl <| K.pickT g0 rfl (h5) rfl rfl <| K.mv rfl rfl <| K.move (.inl rfl) (g1 rfl rfl h6) rfl rfl <| K.cR (cf 32 rfl) (partial_Queue_Excess_con hx8 100 101 102 103 104 105 106 107 108) (g1 rfl rfl h6) rfl rfl rfl rfl <| K.bin (V := .bool (x8 == 1)) (g1 rfl rfl h6) rfl rfl (fun _ => rfl) rfl <| K.pickT g0 rfl (h6) rfl rfl <| K.as rfl rfl <| K.nil <| At.next <| G.ret <| At.dr Y [0] rfl rfl (by cases H0; rfl) (by cases H0; rfl) rfl rfl rfl
      ·
       replace H0 := bif_f H0 h6
       exact G.rg <| K.mv rfl rfl <| K.bin (V := .bool (x5.2.1 == 0)) g0 rfl rfl (fun _ => rfl) rfl <| K.mv rfl rfl <| K.move (.inl rfl) (g1 rfl rfl h2) rfl rfl <| K.bin (V := .bool (x6.2.1 == 0)) (g1 rfl rfl h2) rfl rfl (fun _ => rfl) rfl <| K.pickT g0 rfl (h2) rfl rfl <| K.mv rfl rfl <| K.fieldAddr Y (g1 rfl rfl h3) rfl t56 rfl rfl <| K.load1 Y (g1 rfl rfl h3) rfl rfl t33 rfl rfl <| K.lenL (lrowV 116 30 eTItem 2 x5.1.out) (lrowV_is eTItem_len (by decide)) (g1 rfl rfl h3) rfl rfl Tryz.underlying33 rfl <| K.bin (V := .bool ((x5.1.out.length : Int) == 1)) (g1 rfl rfl h3) rfl rfl (fun _ => rfl) rfl <| K.pickT g0 rfl (h3) rfl rfl <| K.mv rfl rfl <| K.fieldAddr Y (g1 rfl rfl h4) rfl t56 rfl rfl <| K.load1 Y (g1 rfl rfl h4) rfl rfl t33 rfl rfl <| K.idxL (lrowV 116 30 eTItem 2 x5.1.out) ((0 : Int).toNat) (lrowV_is eTItem_len (by decide)) (atL_get hx7) (atL_nn hx7) (g1 rfl rfl h4) rfl rfl rfl Tryz.underlying33 el33.size_run rfl <| K.fieldL Y (lrowV 116 30 eTItem 2 x5.1.out) ((0 : Int).toNat) 0 0 (lrowV_is eTItem_len (by decide)) (atL_get hx7) (g1 rfl rfl h4) rfl rfl t30 rfl rfl rfl rfl <| K.load1L Y (lrowV 116 30 eTItem 2 x5.1.out) ((0 : Int).toNat) 0 (lrowV_is eTItem_len (by decide)) (atL_get hx7) (g1 rfl rfl h4) rfl rfl t3 rfl rfl <| K.bin (V := .bool (x7.key == 5)) (g1 rfl rfl h4) rfl rfl (fun _ => rfl) rfl <| K.pickT g0 rfl (h4) rfl rfl <| K.mv rfl rfl <| K.fieldAddr Y (g1 rfl rfl h5) rfl t56 rfl rfl <| K.load1 Y (g1 rfl rfl h5) rfl rfl t33 rfl rfl <| K.lenL (lrowV 118 30 eTItem 2 x6.1.in_) (lrowV_is eTItem_len (by decide)) (g1 rfl rfl h5) rfl rfl Tryz.underlying33 rfl <| K.fieldAddr Y (g1 rfl rfl h5) rfl t56 rfl rfl <| K.load1 Y (g1 rfl rfl h5) rfl rfl t33 rfl rfl <| K.lenL (lrowV 119 30 eTItem 2 x6.1.out) (lrowV_is eTItem_len (by decide)) (g1 rfl rfl h5) rfl rfl Tryz.underlying33 rfl <| K.bin (V := .int .i64 (w64 ((x6.1.in_.length : Int) + (x6.1.out.length : Int)))) (g1 rfl rfl h5) rfl rfl (fun _ => rfl) rfl <| K.bin (V := .bool ((w64 ((x6.1.in_.length : Int) + (x6.1.out.length : Int))) == 0)) (g1 rfl rfl h5) rfl rfl (fun _ => rfl) rfl <| K.pickT g0 rfl (h5) rfl rfl <| K.mv rfl rfl <| K.sk rfl rfl h6 rfl <| K.sk rfl rfl h6 rfl <| K.sk rfl rfl h6 rfl <| K.pickF g0 rfl (h6) rfl rfl <| K.as rfl rfl <| K.nil <| At.next <| G.ret <| At.dr Y [0] rfl rfl (by cases H0; rfl) (by cases H0; rfl) rfl rfl rfl
     ·
      replace H0 := bif_f H0 h5
      exact G.rg <| K.mv rfl rfl <| K.bin (V := .bool (x5.2.1 == 0)) g0 rfl rfl (fun _ => rfl) rfl <| K.mv rfl rfl <| K.move (.inl rfl) (g1 rfl rfl h2) rfl rfl <| K.bin (V := .bool (x6.2.1 == 0)) (g1 rfl rfl h2) rfl rfl (fun _ => rfl) rfl <| K.pickT g0 rfl (h2) rfl rfl <| K.mv rfl rfl <| K.fieldAddr Y (g1 rfl rfl h3) rfl t56 rfl rfl <| K.load1 Y (g1 rfl rfl h3) rfl rfl t33 rfl rfl <| K.lenL (lrowV 116 30 eTItem 2 x5.1.out) (lrowV_is eTItem_len (by decide)) (g1 rfl rfl h3) rfl rfl Tryz.underlying33 rfl <| K.bin (V := .bool ((x5.1.out.length : Int) == 1)) (g1 rfl rfl h3) rfl rfl (fun _ => rfl) rfl <| K.pickT g0 rfl (h3) rfl rfl <| K.mv rfl rfl <| K.fieldAddr Y (g1 rfl rfl h4) rfl t56 rfl rfl <| K.load1 Y (g1 rfl rfl h4) rfl rfl t33 rfl rfl <| K.idxL (lrowV 116 30 eTItem 2 x5.1.out) ((0 : Int).toNat) (lrowV_is eTItem_len (by decide)) (atL_get hx7) (atL_nn hx7) (g1 rfl rfl h4) rfl rfl rfl Tryz.underlying33 el33.size_run rfl <| K.fieldL Y (lrowV 116 30 eTItem 2 x5.1.out) ((0 : Int).toNat) 0 0 (lrowV_is eTItem_len (by decide)) (atL_get hx7) (g1 rfl rfl h4) rfl rfl t30 rfl rfl rfl rfl <| K.load1L Y (lrowV 116 30 eTItem 2 x5.1.out) ((0 : Int).toNat) 0 (lrowV_is eTItem_len (by decide)) (atL_get hx7) (g1 rfl rfl h4) rfl rfl t3 rfl rfl <| K.bin (V := .bool (x7.key == 5)) (g1 rfl rfl h4) rfl rfl (fun _ => rfl) rfl <| K.pickT g0 rfl (h4) rfl rfl <| K.mv rfl rfl <| K.sk rfl rfl h5 rfl <| K.sk rfl rfl h5 rfl <| K.sk rfl rfl h5 rfl <| K.sk rfl rfl h5 rfl <| K.sk rfl rfl h5 rfl <| K.sk rfl rfl h5 rfl <| K.sk rfl rfl h5 rfl <| K.sk rfl rfl h5 rfl <| K.pickF g0 rfl (h5) rfl rfl <| K.mv rfl rfl <| K.sk rfl rfl rfl rfl <| K.sk rfl rfl rfl rfl <| K.sk rfl rfl rfl rfl <| K.pickF g0 rfl (rfl) rfl rfl <| K.as rfl rfl <| K.nil <| At.next <| G.ret <| At.dr Y [0] rfl rfl (by cases H0; rfl) (by cases H0; rfl) rfl rfl rfl
    ·
     replace H0 := bif_f H0 h4
     exact G.rg <| K.mv rfl rfl <| K.bin (V := .bool (x5.2.1 == 0)) g0 rfl rfl (fun _ => rfl) rfl <| K.mv rfl rfl <| K.move (.inl rfl) (g1 rfl rfl h2) rfl rfl <| K.bin (V := .bool (x6.2.1 == 0)) (g1 rfl rfl h2) rfl rfl (fun _ => rfl) rfl <| K.pickT g0 rfl (h2) rfl rfl <| K.mv rfl rfl <| K.fieldAddr Y (g1 rfl rfl h3) rfl t56 rfl rfl <| K.load1 Y (g1 rfl rfl h3) rfl rfl t33 rfl rfl <| K.lenL (lrowV 116 30 eTItem 2 x5.1.out) (lrowV_is eTItem_len (by decide)) (g1 rfl rfl h3) rfl rfl Tryz.underlying33 rfl <| K.bin (V := .bool ((x5.1.out.length : Int) == 1)) (g1 rfl rfl h3) rfl rfl (fun _ => rfl) rfl <| K.pickT g0 rfl (h3) rfl rfl <| K.mv rfl rfl <| K.sk rfl rfl h4 rfl <| K.sk rfl rfl h4 rfl <| K.sk rfl rfl h4 rfl <| K.sk rfl rfl h4 rfl <| K.sk rfl rfl h4 rfl <| K.sk rfl rfl h4 rfl <| K.pickF g0 rfl (h4) rfl rfl <| K.mv rfl rfl <| K.sk rfl rfl rfl rfl <| K.sk rfl rfl rfl rfl <| K.sk rfl rfl rfl rfl <| K.sk rfl rfl rfl rfl <| K.sk rfl rfl rfl rfl <| K.sk rfl rfl rfl rfl <| K.sk rfl rfl rfl rfl <| K.sk rfl rfl rfl rfl <| K.pickF g0 rfl (rfl) rfl rfl <| K.mv rfl rfl <| K.sk rfl rfl rfl rfl <| K.sk rfl rfl rfl rfl <| K.sk rfl rfl rfl rfl <| K.pickF g0 rfl (rfl) rfl rfl <| K.as rfl rfl <| K.nil <| At.next <| G.ret <| At.dr Y [0] rfl rfl (by cases H0; rfl) (by cases H0; rfl) rfl rfl rfl
   ·
    replace H0 := bif_f H0 h3
    exact G.rg <| K.mv rfl rfl <| K.bin (V := .bool (x5.2.1 == 0)) g0 rfl rfl (fun _ => rfl) rfl <| K.mv rfl rfl <| K.move (.inl rfl) (g1 rfl rfl h2) rfl rfl <| K.bin (V := .bool (x6.2.1 == 0)) (g1 rfl rfl h2) rfl rfl (fun _ => rfl) rfl <| K.pickT g0 rfl (h2) rfl rfl <| K.mv rfl rfl <| K.sk rfl rfl h3 rfl <| K.sk rfl rfl h3 rfl <| K.sk rfl rfl h3 rfl <| K.sk rfl rfl h3 rfl <| K.pickF g0 rfl (h3) rfl rfl <| K.mv rfl rfl <| K.sk rfl rfl rfl rfl <| K.sk rfl rfl rfl rfl <| K.sk rfl rfl rfl rfl <| K.sk rfl rfl rfl rfl <| K.sk rfl rfl rfl rfl <| K.sk rfl rfl rfl rfl <| K.pickF g0 rfl (rfl) rfl rfl <| K.mv rfl rfl <| K.sk rfl rfl rfl rfl <| K.sk rfl rfl rfl rfl <| K.sk rfl rfl rfl rfl <| K.sk rfl rfl rfl rfl <| K.sk rfl rfl rfl rfl <| K.sk rfl rfl rfl rfl <| K.sk rfl rfl rfl rfl <| K.sk rfl rfl rfl rfl <| K.pickF g0 rfl (rfl) rfl rfl <| K.mv rfl rfl <| K.sk rfl rfl rfl rfl <| K.sk rfl rfl rfl rfl <| K.sk rfl rfl rfl rfl <| K.pickF g0 rfl (rfl) rfl rfl <| K.as rfl rfl <| K.nil <| At.next <| G.ret <| At.dr Y [0] rfl rfl (by cases H0; rfl) (by cases H0; rfl) rfl rfl rfl
  ·
   replace H0 := bif_f H0 h2
   exact G.rg <| K.mv rfl rfl <| K.bin (V := .bool (x5.2.1 == 0)) g0 rfl rfl (fun _ => rfl) rfl <| K.mv rfl rfl <| K.sk rfl rfl h2 rfl <| K.sk rfl rfl h2 rfl <| K.pickF g0 rfl (h2) rfl rfl <| K.mv rfl rfl <| K.sk rfl rfl rfl rfl <| K.sk rfl rfl rfl rfl <| K.sk rfl rfl rfl rfl <| K.sk rfl rfl rfl rfl <| K.pickF g0 rfl (rfl) rfl rfl <| K.mv rfl rfl <| K.sk rfl rfl rfl rfl <| K.sk rfl rfl rfl rfl <| K.sk rfl rfl rfl rfl <| K.sk rfl rfl rfl rfl <| K.sk rfl rfl rfl rfl <| K.sk rfl rfl rfl rfl <| K.pickF g0 rfl (rfl) rfl rfl <| K.mv rfl rfl <| K.sk rfl rfl rfl rfl <| K.sk rfl rfl rfl rfl <| K.sk rfl rfl rfl rfl <| K.sk rfl rfl rfl rfl <| K.sk rfl rfl rfl rfl <| K.sk rfl rfl rfl rfl <| K.sk rfl rfl rfl rfl <| K.sk rfl rfl rfl rfl <| K.pickF g0 rfl (rfl) rfl rfl <| K.mv rfl rfl <| K.sk rfl rfl rfl rfl <| K.sk rfl rfl rfl rfl <| K.sk rfl rfl rfl rfl <| K.pickF g0 rfl (rfl) rfl rfl <| K.as rfl rfl <| K.nil <| At.next <| G.ret <| At.dr Y [0] rfl rfl (by cases H0; rfl) (by cases H0; rfl) rfl rfl rfl
theorem Lw12_awake_con {k : Nat}  {r : Bool}  (H0 : Lw12_awake.f k = some r) : Lw12_awake_st r :=
 SCon.ren (rn []) (Lw12_awake_con0 (k := k)   H0) trivial trivial (by simp) (by simp)
abbrev R01_Rest_st (a0 : Int) (a1 : Int) (r : Int) : Prop := SCon Tryz.prog 22 [.a (.c (.v (.int .i64 a0))), .a (.c (.v (.int .i64 a1)))] [] (.a (.c (.v (.int .i64 r)))) [] []
theorem R01_Rest_con0 {k : Nat}  {a0 : Int} {a1 : Int} {r : Int}  (H0 : R01_Rest.f k a0 a1 = some r) : R01_Rest_st a0 a1 r := by
 rw [R01_Rest.f] at H0
 refine spec_of [(0, _), (1, _)] [] 12 Tryz.func22 rfl Tryz.ntmps22 rfl rfl rfl rfl (fun β W F => ?_)
 refine G.seq <| G.rg <| K.as rfl rfl <| K.nil <| At.ns ?_
 obtain ⟨h1, H0⟩ := grd H0
 obtain ⟨h2, H0⟩ := grd H0
 exact G.rg <| K.mv rfl rfl <| K.mv rfl rfl <| K.bin (V := .int .i64 (a0.tmod a1)) g0 rfl rfl (rem_run h1) rfl <| K.mv rfl rfl <| K.bin (V := .int .i64 (w64 ((a0.tmod a1) + a1))) g0 rfl rfl (fun _ => rfl) rfl <| K.mv rfl rfl <| K.bin (V := .int .i64 ((w64 ((a0.tmod a1) + a1)).tmod a1)) g0 rfl rfl (rem_run h2) rfl <| K.as rfl rfl <| K.nil <| At.next <| G.ret <| At.dr Y [4] rfl rfl (by cases H0; rfl) (by cases H0; rfl) rfl rfl rfl
theorem R01_Rest_con {k : Nat}  {a0 : Int} {a1 : Int} {r : Int}  (H0 : R01_Rest.f k a0 a1 = some r) : R01_Rest_st a0 a1 r :=
 SCon.ren (rn []) (R01_Rest_con0 (k := k)   H0) trivial trivial (by simp) (by simp)
abbrev Lw12_Act_time_st (S : Foot) (W0 : World) (s1 : Value) (a0 : TL12Act) (r : Int) : Prop := SCon Tryz.prog 21 [.a (.agg ((eTL12Act a0).map .v)), SV.raw s1] [(0, rd S W0)] (.a (.c (.v (.int .i64 r)))) [(0, rd S W0)] []
theorem Lw12_Act_time_con0 {k : Nat}  {S : Foot} {W0 : World} {s1 : Value} {a0 : TL12Act} {l1 : List TOp} {r : Int} (hL1 : LArg S W0 s1 eTOp 4 l1) (H0 : Lw12_Act_time.f k a0 l1 = some r) : Lw12_Act_time_st S W0 s1 a0 r := by
 rw [Lw12_Act_time.f] at H0
 obtain ⟨b1, o1, hI1⟩ := hL1
 refine spec_of [(0, _), (1, _)] [(0, _)] 24 Tryz.func21 rfl Tryz.ntmps21 rfl rfl rfl rfl (fun β W F => ?_)
 refine G.seq <| G.rg <| K.box Y 100 _ g0 rfl rfl rfl rfl rfl rfl <| K.as rfl rfl <| K.nil <| At.ns <| G.seq ?_
 rcases Bool.eq_false_or_eq_true (!a0.told) with h1 | h1
 ·
  replace H0 := bif_t H0 h1
  refine G.rg <| K.fieldAddr Y g0 rfl t32 rfl rfl <| K.load1 Y g0 rfl rfl t4 rfl rfl <| K.un (V := .bool (!a0.told)) g0 rfl (fun _ => rfl) rfl <| K.mv rfl rfl <| K.sk rfl rfl h1 rfl <| K.sk rfl rfl h1 rfl <| K.sk rfl rfl h1 rfl <| K.pickT g0 rfl (h1) rfl rfl <| K.nil <| At.next <| G.cond rfl (fun h2 => ?_) (fun h2 => ?_)
  ·
   exact G.seq <| G.rg <| K.fieldAddr Y g0 rfl t32 rfl rfl <| K.load1 Y g0 rfl rfl t3 rfl rfl <| K.as rfl rfl <| K.nil <| At.next <| G.ret <| At.over_ret <| At.dr Y [4] rfl rfl (by cases H0; rfl) (by cases H0; rfl) rfl rfl rfl
  · cases h2
 ·
  replace H0 := bif_f H0 h1
  refine G.rg <| K.fieldAddr Y g0 rfl t32 rfl rfl <| K.load1 Y g0 rfl rfl t4 rfl rfl <| K.un (V := .bool (!a0.told)) g0 rfl (fun _ => rfl) rfl <| K.mv rfl rfl <| K.move (.inl rfl) (g1 rfl rfl h1) rfl rfl <| K.lenL (rV 0 S W0 s1 b1 o1 eTOp 4 l1) (hI1.is 0) (g1 rfl rfl h1) rfl rfl Tryz.underlying26 rfl <| K.bin (V := .bool ((l1.length : Int) == 0)) (g1 rfl rfl h1) rfl rfl (fun _ => rfl) rfl <| K.pickF g0 rfl (h1) rfl rfl <| K.nil <| At.next <| G.cond rfl (fun h3 => ?_) (fun h3 => ?_)
  ·
   replace H0 := bif_t H0 h3
   exact G.seq <| G.rg <| K.fieldAddr Y g0 rfl t32 rfl rfl <| K.load1 Y g0 rfl rfl t3 rfl rfl <| K.as rfl rfl <| K.nil <| At.next <| G.ret <| At.over_ret <| At.dr Y [4] rfl rfl (by cases H0; rfl) (by cases H0; rfl) rfl rfl rfl
  ·
   replace H0 := bif_f H0 h3
   refine G.skip <| At.ns ?_
   obtain ⟨x1, hx1, H0⟩ := bnd H0
   obtain ⟨x2, hx2, H0⟩ := bnd H0
   exact G.rg <| K.mv rfl rfl <| K.fieldAddr Y g0 rfl t32 rfl rfl <| K.load1 Y g0 rfl rfl t3 rfl rfl <| K.mv rfl rfl <| K.lenL (rV 0 S W0 s1 b1 o1 eTOp 4 l1) (hI1.is 0) g0 rfl rfl Tryz.underlying26 rfl <| K.cR (cf 22 rfl) (R01_Rest_con hx1) g0 rfl rfl rfl rfl <| K.idxL (rV 0 S W0 s1 b1 o1 eTOp 4 l1) ((x1).toNat) (hI1.is 0) (atL_get hx2) (atL_nn hx2) g0 rfl rfl rfl Tryz.underlying26 el26.size_run rfl <| K.fieldL Y (rV 0 S W0 s1 b1 o1 eTOp 4 l1) ((x1).toNat) 0 0 (hI1.is 0) (atL_get hx2) g0 rfl rfl t42 rfl rfl rfl rfl <| K.load1L Y (rV 0 S W0 s1 b1 o1 eTOp 4 l1) ((x1).toNat) 0 (hI1.is 0) (atL_get hx2) g0 rfl rfl t3 rfl rfl <| K.as rfl rfl <| K.nil <| At.next <| G.ret <| At.dr Y [4] rfl rfl (by cases H0; rfl) (by cases H0; rfl) rfl rfl rfl
theorem Lw12_Act_time_con {k : Nat}  {S : Foot} {W0 : World} {s1 : Value} {a0 : TL12Act} {l1 : List TOp} {r : Int} (hL1 : LArg S W0 s1 eTOp 4 l1) (H0 : Lw12_Act_time.f k a0 l1 = some r) : Lw12_Act_time_st S W0 s1 a0 r :=
 SCon.ren (rn []) (Lw12_Act_time_con0 (k := k)  hL1 H0) ⟨(fun _ => rfl), trivial⟩ ⟨(fun _ => rfl), trivial⟩ (by simp) (by simp)
abbrev R12_At_st (S : Foot) (W0 : World) (s0 : Value) (a1 : Int) (r : Int) : Prop := SCon Tryz.prog 54 [SV.raw s0, .a (.c (.v (.int .i64 a1)))] [(0, rd S W0)] (.a (.c (.v (.int .i64 r)))) [(0, rd S W0)] []
theorem R12_At_con0 {k : Nat}  {S : Foot} {W0 : World} {s0 : Value} {l0 : List TOp} {a1 : Int} {r : Int} (hL0 : LArg S W0 s0 eTOp 4 l0) (H0 : R12_At.f k l0 a1 = some r) : R12_At_st S W0 s0 a1 r := by
 rw [R12_At.f] at H0
 obtain ⟨b0, o0, hI0⟩ := hL0
 refine spec_of [(0, _), (1, _)] [(0, _)] 20 Tryz.func54 rfl Tryz.ntmps54 rfl rfl rfl rfl (fun β W F => ?_)
 refine G.seq <| G.rg <| K.as rfl rfl <| K.nil <| At.next ?_
 obtain ⟨x1, H1, H0⟩ := bnd H0
 refine G.sJ (σ := { v : Unit // x1 = Sum.inr v }) (fun q => []) (fun q => [(0, rd S W0)]) ?_ ?_
 ·
  refine G.seq <| G.rg <| K.as rfl rfl <| K.nil <| At.next <| G.block <| G.lp (σ := { q : Nat × (Int) // R12_At.l0 k l0 a1 q.1 q.2 = some x1 }) (fun q => [(0, SV.raw s0), (1, .a (.c (.v (.int .i64 a1)))), (5, .a (.c (.v (.int .i64 q.1.2))))]) (fun q => [(0, rd S W0)]) (fun q => q.1.1) ⟨(k, 0), H1⟩ ?_ ?_
  · exact At.into [] [_] rfl ⟨rfl, rfl, rfl, trivial⟩ ⟨rfl, (fun _ => rfl), trivial⟩ rfl
  ·
   rintro ⟨⟨n0, v1⟩, H1⟩
   show G _ _ [(0, SV.raw s0), (1, .a (.c (.v (.int .i64 a1)))), (5, .a (.c (.v (.int .i64 v1))))] [(0, some (rd S W0))] _ _
   cases n0 with
   | zero => exact absurd H1 (by simp [R12_At.l0])
   | succ n0 =>
    have HL0 := H1
    rw [R12_At.l0] at H1
    refine G.seq <| G.seq <| G.rg <| K.mv rfl rfl <| K.mv rfl rfl <| K.lenL (rV 0 S W0 s0 b0 o0 eTOp 4 l0) (hI0.is 0) g0 rfl rfl Tryz.underlying26 rfl <| K.bin (V := .bool (decide (v1 < (l0.length : Int)))) g0 rfl rfl (fun _ => rfl) rfl <| K.nil <| At.next <| G.cond rfl (fun h1 => ?_) (fun h1 => ?_)
    ·
     replace H1 := bif_t H1 h1
     refine G.skip <| At.ns <| G.block <| G.seq ?_
     obtain ⟨x2, hx2, H1⟩ := bnd H1
     refine G.rg <| K.mv rfl rfl <| K.mv rfl rfl <| K.idxL (rV 0 S W0 s0 b0 o0 eTOp 4 l0) ((v1).toNat) (hI0.is 0) (atL_get hx2) (atL_nn hx2) g0 rfl rfl rfl Tryz.underlying26 el26.size_run rfl <| K.fieldL Y (rV 0 S W0 s0 b0 o0 eTOp 4 l0) ((v1).toNat) 0 0 (hI0.is 0) (atL_get hx2) g0 rfl rfl t42 rfl rfl rfl rfl <| K.load1L Y (rV 0 S W0 s0 b0 o0 eTOp 4 l0) ((v1).toNat) 0 (hI0.is 0) (atL_get hx2) g0 rfl rfl t3 rfl rfl <| K.mv rfl rfl <| K.bin (V := .bool (x2.time == a1)) g0 rfl rfl (fun _ => rfl) rfl <| K.nil <| At.next <| G.cond rfl (fun h2 => ?_) (fun h2 => ?_)
     ·
      replace H1 := bif_t H1 h2
      refine G.seq <| G.rg <| K.mv rfl rfl <| K.as rfl rfl <| K.nil <| At.next <| G.ret <| At.block_ret <| At.over_ret <| At.over_ret <| At.block_ret <| At.over_ret ?_
      cases H1
      replace H0 := sum_l H0
      exact At.dr Y [4] rfl rfl (by cases H0; rfl) (by cases H0; rfl) rfl rfl rfl
     ·
      replace H1 := bif_f H1 h2
      exact G.skip <| At.block_normal <| At.next <| G.rg <| K.mv rfl rfl <| K.bin (V := .int .i64 (w64 (v1 + 1))) g0 rfl rfl (fun _ => rfl) rfl <| K.as rfl rfl <| K.nil <| At.ag ⟨(n0, (w64 (v1 + 1))), H1⟩ [] [_] (Nat.lt_succ_self _) rfl ⟨rfl, rfl, rfl, trivial⟩ ⟨rfl, (fun _ => rfl), trivial⟩ rfl
    ·
     replace H1 := bif_f H1 h1
     exact G.exit <| At.over_exit <| At.over_exit <| At.block_hit <| At.jd ⟨(), oi H1⟩ [] [_] rfl trivial ⟨rfl, (fun _ => rfl), trivial⟩ rfl
 ·
  rintro ⟨v1, rfl⟩
  replace H0 := sum_r H0
  show G _ _ [] [(0, some (rd S W0))] _ _
  exact G.seq <| G.rg <| K.as rfl rfl <| K.nil <| At.next <| G.ret <| At.dr Y [4] rfl rfl (by cases H0; rfl) (by cases H0; rfl) rfl rfl rfl
theorem R12_At_con {k : Nat}  {S : Foot} {W0 : World} {s0 : Value} {l0 : List TOp} {a1 : Int} {r : Int} (hL0 : LArg S W0 s0 eTOp 4 l0) (H0 : R12_At.f k l0 a1 = some r) : R12_At_st S W0 s0 a1 r :=
 SCon.ren (rn []) (R12_At_con0 (k := k)  hL0 H0) ⟨(fun _ => rfl), trivial⟩ ⟨(fun _ => rfl), trivial⟩ (by simp) (by simp)
abbrev R02_Ahead_st (a0 : TItem) (a1 : TItem) (r : Bool) : Prop := SCon Tryz.prog 93 [.a (.agg ((eTItem a0).map .v)), .a (.agg ((eTItem a1).map .v))] [] (.a (.c (.v (.bool r)))) [] []
theorem R02_Ahead_con0 {k : Nat}  {a0 : TItem} {a1 : TItem} {r : Bool}  (H0 : R02_Ahead.f k a0 a1 = some r) : R02_Ahead_st a0 a1 r := by
 rw [R02_Ahead.f] at H0
 refine spec_of [(0, _), (1, _)] [] 24 Tryz.func93 rfl Tryz.ntmps93 rfl rfl rfl rfl (fun β W F => ?_)
 refine G.seq <| G.rg <| K.box Y 100 _ g0 rfl rfl rfl rfl rfl rfl <| K.box Y 101 _ g0 rfl rfl rfl rfl rfl rfl <| K.as rfl rfl <| K.nil <| At.ns ?_
 rcases Bool.eq_false_or_eq_true (decide (a0.key < a1.key)) with h1 | h1
 ·
  replace H0 := bif_t H0 h1
  exact G.rg <| K.fieldAddr Y g0 rfl t30 rfl rfl <| K.load1 Y g0 rfl rfl t3 rfl rfl <| K.fieldAddr Y g0 rfl t30 rfl rfl <| K.load1 Y g0 rfl rfl t3 rfl rfl <| K.bin (V := .bool (decide (a0.key < a1.key))) g0 rfl rfl (fun _ => rfl) rfl <| K.mv rfl rfl <| K.sk rfl rfl h1 rfl <| K.sk rfl rfl h1 rfl <| K.sk rfl rfl h1 rfl <| K.sk rfl rfl h1 rfl <| K.sk rfl rfl h1 rfl <| K.sk rfl rfl h1 rfl <| K.skipU rfl rfl rfl rfl rfl <| K.skipU rfl rfl rfl rfl rfl <| K.skipU rfl rfl rfl rfl rfl <| K.skipU rfl rfl rfl rfl rfl <| K.skipU rfl rfl rfl rfl rfl <| K.sk rfl rfl h1 rfl <| K.pickT g0 rfl (h1) rfl rfl <| K.as rfl rfl <| K.nil <| At.next <| G.ret <| At.dr Y [4] rfl rfl (by cases H0; rfl) (by cases H0; rfl) rfl rfl rfl
 ·
  replace H0 := bif_f H0 h1
  rcases Bool.eq_false_or_eq_true (a0.key == a1.key) with h2 | h2
  ·
   replace H0 := bif_t H0 h2
   exact G.rg <| K.fieldAddr Y g0 rfl t30 rfl rfl <| K.load1 Y g0 rfl rfl t3 rfl rfl <| K.fieldAddr Y g0 rfl t30 rfl rfl <| K.load1 Y g0 rfl rfl t3 rfl rfl <| K.bin (V := .bool (decide (a0.key < a1.key))) g0 rfl rfl (fun _ => rfl) rfl <| K.mv rfl rfl <| K.fieldAddr Y (g1 rfl rfl h1) rfl t30 rfl rfl <| K.load1 Y (g1 rfl rfl h1) rfl rfl t3 rfl rfl <| K.fieldAddr Y (g1 rfl rfl h1) rfl t30 rfl rfl <| K.load1 Y (g1 rfl rfl h1) rfl rfl t3 rfl rfl <| K.bin (V := .bool (a0.key == a1.key)) (g1 rfl rfl h1) rfl rfl (fun _ => rfl) rfl <| K.move (.inl rfl) (g1 rfl rfl h1) rfl rfl <| K.fieldAddr Y (g1 rfl rfl h2) rfl t30 rfl rfl <| K.load1 Y (g1 rfl rfl h2) rfl rfl t3 rfl rfl <| K.fieldAddr Y (g1 rfl rfl h2) rfl t30 rfl rfl <| K.load1 Y (g1 rfl rfl h2) rfl rfl t3 rfl rfl <| K.bin (V := .bool (decide (a0.id < a1.id))) (g1 rfl rfl h2) rfl rfl (fun _ => rfl) rfl <| K.pickT (g1 rfl rfl h1) rfl (h2) rfl rfl <| K.pickF g0 rfl (h1) rfl rfl <| K.as rfl rfl <| K.nil <| At.next <| G.ret <| At.dr Y [4] rfl rfl (by cases H0; rfl) (by cases H0; rfl) rfl rfl rfl
  ·
   replace H0 := bif_f H0 h2
   exact G.rg <| K.fieldAddr Y g0 rfl t30 rfl rfl <| K.load1 Y g0 rfl rfl t3 rfl rfl <| K.fieldAddr Y g0 rfl t30 rfl rfl <| K.load1 Y g0 rfl rfl t3 rfl rfl <| K.bin (V := .bool (decide (a0.key < a1.key))) g0 rfl rfl (fun _ => rfl) rfl <| K.mv rfl rfl <| K.fieldAddr Y (g1 rfl rfl h1) rfl t30 rfl rfl <| K.load1 Y (g1 rfl rfl h1) rfl rfl t3 rfl rfl <| K.fieldAddr Y (g1 rfl rfl h1) rfl t30 rfl rfl <| K.load1 Y (g1 rfl rfl h1) rfl rfl t3 rfl rfl <| K.bin (V := .bool (a0.key == a1.key)) (g1 rfl rfl h1) rfl rfl (fun _ => rfl) rfl <| K.move (.inl rfl) (g1 rfl rfl h1) rfl rfl <| K.sk rfl rfl h2 rfl <| K.sk rfl rfl h2 rfl <| K.sk rfl rfl h2 rfl <| K.sk rfl rfl h2 rfl <| K.sk rfl rfl h2 rfl <| K.pickF (g1 rfl rfl h1) rfl (h2) rfl rfl <| K.pickF g0 rfl (h1) rfl rfl <| K.as rfl rfl <| K.nil <| At.next <| G.ret <| At.dr Y [4] rfl rfl (by cases H0; rfl) (by cases H0; rfl) rfl rfl rfl
theorem R02_Ahead_con {k : Nat}  {a0 : TItem} {a1 : TItem} {r : Bool}  (H0 : R02_Ahead.f k a0 a1 = some r) : R02_Ahead_st a0 a1 r :=
 SCon.ren (rn []) (R02_Ahead_con0 (k := k)   H0) trivial trivial (by simp) (by simp)
abbrev R02_Sorted_st (S : Foot) (W0 : World) (s0 : Value) (r : List TItem) (m30 : Nat) : Prop := SCon Tryz.prog 59 [SV.raw s0] [(0, rd S W0)] (.a (.c (.nv m30))) [(0, rd S W0), (m30, lrow m30 30 eTItem 2 r)] [m30]
theorem R02_Sorted_con0 {k : Nat}  {S : Foot} {W0 : World} {s0 : Value} {l0 : List TItem} {r : List TItem} (hL0 : LArg S W0 s0 eTItem 2 l0) (H0 : R02_Sorted.f k l0 = some r) : R02_Sorted_st S W0 s0 r 30 := by
 rw [R02_Sorted.f] at H0
 obtain ⟨b0, o0, hI0⟩ := hL0
 refine spec_of [(0, _)] [(0, _)] 49 Tryz.func59 rfl Tryz.ntmps59 rfl rfl rfl rfl (fun β W F => ?_)
 refine G.seq <| G.rg <| K.nilRow 100 30 eTItem 2 (.inl rfl) g0 rfl rfl rfl <| K.nil <| At.nr <| K.nilRow 101 30 eTItem 2 (.inl rfl) g0 rfl rfl rfl <| K.nil <| At.next ?_
 obtain ⟨x1, H1, H0⟩ := bnd H0
 refine G.sJ (σ := { v : List TItem // x1 = v }) (fun q => [(3, .a (.c (.nv 102)))]) (fun q => [(0, rd S W0), (102, lrow 102 30 eTItem 2 q.1)]) ?_ ?_
 ·
  refine G.seq <| G.rg <| K.as rfl rfl <| K.nil <| At.next <| G.block <| G.lp (σ := { q : Nat × (List TItem × Int) // R02_Sorted.l0 k l0 q.1 q.2 = some x1 }) (fun q => [(0, SV.raw s0), (3, .a (.c (.nv 105))), (4, .a (.c (.v (.int .i64 q.1.2.2))))]) (fun q => [(0, rd S W0), (105, lrow 105 30 eTItem 2 q.1.2.1)]) (fun q => q.1.1) ⟨(k, (([] : List TItem), 0)), H1⟩ ?_ ?_
  · exact At.into [(105, 101)] [_, _] rfl ⟨rfl, rfl, rfl, trivial⟩ ⟨rfl, (fun _ => rfl), rfl, (lrow_ren rfl), trivial⟩ rfl
  ·
   rintro ⟨⟨n0, v1, v2⟩, H1⟩
   show G _ _ [(0, SV.raw s0), (3, .a (.c (.nv 105))), (4, .a (.c (.v (.int .i64 v2))))] [(0, some (rd S W0)), (105, some (lrow 105 30 eTItem 2 v1))] _ _
   cases n0 with
   | zero => exact absurd H1 (by simp [R02_Sorted.l0])
   | succ n0 =>
    have HL0 := H1
    rw [R02_Sorted.l0] at H1
    refine G.seq <| G.seq <| G.rg <| K.mv rfl rfl <| K.mv rfl rfl <| K.lenL (rV 0 S W0 s0 b0 o0 eTItem 2 l0) (hI0.is 0) g0 rfl rfl Tryz.underlying33 rfl <| K.bin (V := .bool (decide (v2 < (l0.length : Int)))) g0 rfl rfl (fun _ => rfl) rfl <| K.nil <| At.next <| G.cond rfl (fun h1 => ?_) (fun h1 => ?_)
    ·
     replace H1 := bif_t H1 h1
     refine G.skip <| At.next ?_
     obtain ⟨x2, H2, H1⟩ := bnd H1
     refine G.sJ (σ := { v : List TItem // x2 = v }) (fun q => [(0, SV.raw s0), (3, .a (.c (.nv 106))), (4, .a (.c (.v (.int .i64 v2))))]) (fun q => [(0, rd S W0), (106, lrow 106 30 eTItem 2 q.1)]) ?_ ?_
     ·
      refine G.block <| G.seq <| G.rg <| K.mv rfl rfl <| K.lenL (lrowV 105 30 eTItem 2 v1) (lrowV_is eTItem_len (by decide)) g0 rfl rfl Tryz.underlying33 rfl <| K.as rfl rfl <| K.nil <| At.next ?_
      obtain ⟨x3, H3, H2⟩ := bnd H2
      refine G.sJ (σ := { v : Int // x3 = v }) (fun q => [(0, SV.raw s0), (3, .a (.c (.nv 107))), (4, .a (.c (.v (.int .i64 v2)))), (5, .a (.c (.v (.int .i64 q.1))))]) (fun q => [(0, rd S W0), (107, lrow 107 30 eTItem 2 v1)]) ?_ ?_
      ·
       refine G.block <| G.lp (σ := { q : Nat × (Int) // R02_Sorted.l1 k l0 v1 v2 q.1 q.2 = some x3 }) (fun q => [(0, SV.raw s0), (3, .a (.c (.nv 110))), (4, .a (.c (.v (.int .i64 v2)))), (5, .a (.c (.v (.int .i64 q.1.2))))]) (fun q => [(0, rd S W0), (110, lrow 110 30 eTItem 2 v1)]) (fun q => q.1.1) ⟨(k, (v1.length : Int)), H3⟩ ?_ ?_
       · exact At.into [(110, 105)] [_, _] rfl ⟨rfl, rfl, rfl, rfl, trivial⟩ ⟨rfl, (fun _ => rfl), rfl, (lrow_ren rfl), trivial⟩ rfl
       ·
        rintro ⟨⟨n0, v101⟩, H3⟩
        show G _ _ [(0, SV.raw s0), (3, .a (.c (.nv 110))), (4, .a (.c (.v (.int .i64 v2)))), (5, .a (.c (.v (.int .i64 v101))))] [(0, some (rd S W0)), (110, some (lrow 110 30 eTItem 2 v1))] _ _
        cases n0 with
        | zero => exact absurd H3 (by simp [R02_Sorted.l1])
        | succ n0 =>
         have HL1 := H3
         rw [R02_Sorted.l1] at H3
         refine G.seq <| G.seq ?_
         rcases Bool.eq_false_or_eq_true (decide (v101 > 0)) with h2 | h2
         ·
          replace H3 := bif_t H3 h2
          obtain ⟨x4, hx4, H3⟩ := bnd H3
          obtain ⟨x5, hx5, H3⟩ := bnd H3
          obtain ⟨x6, hx6, H3⟩ := bnd H3
          refine G.rd mixed <| K.mv rfl rfl <| K.bin (V := .bool (decide (v101 > 0))) g0 rfl rfl (fun _ => rfl) rfl <| K.mv rfl rfl <| K.move (.inl rfl) (g1 rfl rfl h2) rfl rfl <| K.move (.inl rfl) (g1 rfl rfl h2) rfl rfl <| K.idxL (rV 0 S W0 s0 b0 o0 eTItem 2 l0) ((v2).toNat) (hI0.is 0) (atL_get hx4) (atL_nn hx4) (g1 rfl rfl h2) rfl rfl rfl Tryz.underlying33 el33.size_run rfl <| K.loadSL Y (rV 0 S W0 s0 b0 o0 eTItem 2 l0) ((v2).toNat) 0 [_, _] [_, _] (hI0.is 0) (atL_get hx4) (g1 rfl rfl h2) rfl rfl t30 rfl rfl rfl rfl rfl <| K.move (.inl rfl) (g1 rfl rfl h2) rfl rfl <| K.move (.inl rfl) (g1 rfl rfl h2) rfl rfl <| K.bin (V := .int .i64 (w64 (v101 - 1))) (g1 rfl rfl h2) rfl rfl (fun _ => rfl) rfl <| K.idxL (lrowV 110 30 eTItem 2 v1) (((w64 (v101 - 1))).toNat) (lrowV_is eTItem_len (by decide)) (atL_get hx5) (atL_nn hx5) (g1 rfl rfl h2) rfl rfl rfl Tryz.underlying33 el33.size_run rfl <| K.loadSL Y (lrowV 110 30 eTItem 2 v1) (((w64 (v101 - 1))).toNat) 0 [_, _] [_, _] (lrowV_is eTItem_len (by decide)) (atL_get hx5) (g1 rfl rfl h2) rfl rfl t30 rfl rfl rfl rfl rfl <| K.cR (cf 93 rfl) (R02_Ahead_con hx6) (g1 rfl rfl h2) rfl rfl rfl rfl <| K.pickT g0 rfl (h2) rfl rfl <| K.nil <| And.intro (by kernel_rfl) <| At.next <| G.cond rfl (fun h3 => ?_) (fun h3 => ?_)
          ·
           replace H3 := bif_t H3 h3
           exact G.skip <| At.next <| G.block <| G.rg <| K.mv rfl rfl <| K.bin (V := .int .i64 (w64 (v101 - 1))) g0 rfl rfl (fun _ => rfl) rfl <| K.as rfl rfl <| K.nil <| At.block_normal <| At.ag ⟨(n0, (w64 (v101 - 1))), H3⟩ [] [_, _] (Nat.lt_succ_self _) rfl ⟨rfl, rfl, rfl, rfl, trivial⟩ ⟨rfl, (fun _ => rfl), rfl, (lrow_ren rfl), trivial⟩ rfl
          ·
           replace H3 := bif_f H3 h3
           exact G.exit <| At.over_exit <| At.over_exit <| At.block_hit <| At.jd ⟨v101, oi H3⟩ [(107, 110)] [_, _] rfl ⟨rfl, rfl, rfl, rfl, trivial⟩ ⟨rfl, (fun _ => rfl), rfl, (lrow_ren rfl), trivial⟩ rfl
         ·
          replace H3 := bif_f H3 h2
          refine G.rd mixed <| K.mv rfl rfl <| K.bin (V := .bool (decide (v101 > 0))) g0 rfl rfl (fun _ => rfl) rfl <| K.mv rfl rfl <| K.sk rfl rfl h2 rfl <| K.sk rfl rfl h2 rfl <| K.sk rfl rfl h2 rfl <| K.sk rfl rfl h2 rfl <| K.sk rfl rfl h2 rfl <| K.sk rfl rfl h2 rfl <| K.sk rfl rfl h2 rfl <| K.sk rfl rfl h2 rfl <| K.sk rfl rfl h2 rfl <| K.sk rfl rfl h2 rfl <| K.pickF g0 rfl (h2) rfl rfl <| K.nil <| And.intro (by kernel_rfl) <| At.next <| G.cond rfl (fun h4 => ?_) (fun h4 => ?_)
          · cases h4
          ·
           exact G.exit <| At.over_exit <| At.over_exit <| At.block_hit <| At.jd ⟨v101, oi H3⟩ [(107, 110)] [_, _] rfl ⟨rfl, rfl, rfl, rfl, trivial⟩ ⟨rfl, (fun _ => rfl), rfl, (lrow_ren rfl), trivial⟩ rfl
      ·
       rintro ⟨_, rfl⟩
       show G _ _ [(0, SV.raw s0), (3, .a (.c (.nv 107))), (4, .a (.c (.v (.int .i64 v2)))), (5, .a (.c (.v (.int .i64 x3))))] [(0, some (rd S W0)), (107, some (lrow 107 30 eTItem 2 v1))] _ _
       refine G.seq <| G.rg <| K.nilRow 111 30 eTItem 2 (.inl rfl) g0 rfl rfl rfl <| K.nil <| At.ns ?_
       obtain ⟨h5, H2⟩ := grd H2
       obtain ⟨h7, H2⟩ := grd H2
       refine G.rg <| K.mv rfl rfl <| K.mv rfl rfl <| K.mv rfl rfl <| K.partL 0 ((x3).toNat) g0 rfl .no (.at_ rfl h5.1 rfl) rfl Tryz.underlying33 el33.size_run (Nat.zero_le _) (tn_len h5.2) rfl <| K.appendL 112 (lsubV 107 30 eTItem 2 v1 0 ((x3).toNat)) _ el33 (lsubV_is eTItem_len (by decide) (Nat.zero_le _) (tn_len h5.2)) eTItem_one g0 rfl rfl rfl rfl rfl (ap_m h7) (ap_b h7 (by decide)) rfl rfl rfl rfl rfl rfl <| K.as rfl rfl <| K.nil <| At.ns ?_
       obtain ⟨x7, hx7, H2⟩ := bnd H2
       obtain ⟨h8, H2⟩ := grd H2
       refine G.rg <| K.mv rfl rfl <| K.mv rfl rfl <| K.mv rfl rfl <| K.idxL (rV 0 S W0 s0 b0 o0 eTItem 2 l0) ((v2).toNat) (hI0.is 0) (atL_get hx7) (atL_nn hx7) g0 rfl rfl rfl Tryz.underlying33 el33.size_run rfl <| K.loadSL Y (rV 0 S W0 s0 b0 o0 eTItem 2 l0) ((v2).toNat) 0 [_, _] [_, _] (hI0.is 0) (atL_get hx7) g0 rfl rfl t30 rfl rfl rfl rfl rfl <| K.buildL Y 113 ([x7] : List TItem) [(0, _)] [((.tmp 40), _)] eTItem_len g0 (AllE.spec ⟨rfl, trivial⟩) rfl rfl Tryz.underlying33 t30 rfl rfl rfl rfl rfl rfl rfl rfl <| K.appendL 114 (lrowV 113 30 eTItem 2 ([x7] : List TItem)) _ el33 (lrowV_is eTItem_len (by decide)) eTItem_one g0 rfl rfl rfl rfl rfl (ap_m h8) (ap_b h8 (by decide)) rfl rfl rfl rfl rfl rfl <| K.as rfl rfl <| K.nil <| At.next ?_
       obtain ⟨h9, H2⟩ := grd H2
       obtain ⟨h11, H2⟩ := grd H2
       exact G.rg <| K.mv rfl rfl <| K.mv rfl rfl <| K.mv rfl rfl <| K.partL ((x3).toNat) v1.length g0 rfl (.at_ rfl h9.1 rfl) .no rfl Tryz.underlying33 el33.size_run (tn_len h9.2) (Nat.le_refl _) rfl <| K.appendL 115 (lsubV 107 30 eTItem 2 v1 ((x3).toNat) v1.length) _ el33 (lsubV_is eTItem_len (by decide) (tn_len h9.2) (Nat.le_refl _)) eTItem_one g0 rfl rfl rfl rfl rfl (ap_m h11) (ap_b h11 (by decide)) rfl rfl rfl rfl rfl rfl <| K.as rfl rfl <| K.nil <| At.block_normal <| At.jd ⟨(((([] : List TItem) ++ ((v1.drop 0).take (((x3).toNat) - 0))) ++ ([x7] : List TItem)) ++ ((v1.drop ((x3).toNat)).take (v1.length - ((x3).toNat)))), oi H2⟩ [(106, 115)] [_, _] rfl ⟨rfl, rfl, rfl, trivial⟩ ⟨rfl, (fun _ => rfl), rfl, (lrow_ren rfl), trivial⟩ rfl
     ·
      rintro ⟨_, rfl⟩
      show G _ _ [(0, SV.raw s0), (3, .a (.c (.nv 106))), (4, .a (.c (.v (.int .i64 v2))))] [(0, some (rd S W0)), (106, some (lrow 106 30 eTItem 2 x2))] _ _
      exact G.rg <| K.mv rfl rfl <| K.bin (V := .int .i64 (w64 (v2 + 1))) g0 rfl rfl (fun _ => rfl) rfl <| K.as rfl rfl <| K.nil <| At.ag ⟨(n0, (x2, (w64 (v2 + 1)))), H1⟩ [(105, 106)] [_, _] (Nat.lt_succ_self _) rfl ⟨rfl, rfl, rfl, trivial⟩ ⟨rfl, (fun _ => rfl), rfl, (lrow_ren rfl), trivial⟩ rfl
    ·
     replace H1 := bif_f H1 h1
     exact G.exit <| At.over_exit <| At.over_exit <| At.block_hit <| At.jd ⟨v1, oi H1⟩ [(102, 105)] [_, _] rfl ⟨rfl, trivial⟩ ⟨rfl, (fun _ => rfl), rfl, (lrow_ren rfl), trivial⟩ rfl
 ·
  rintro ⟨_, rfl⟩
  show G _ _ [(3, .a (.c (.nv 102)))] [(0, some (rd S W0)), (102, some (lrow 102 30 eTItem 2 x1))] _ _
  exact G.seq <| G.rg <| K.mv rfl rfl <| K.as rfl rfl <| K.nil <| At.next <| G.ret <| At.ren (fs' := [(2, .a (.c (.nv 30)))]) (tl := [(0, rd S W0), (30, lrow 30 30 eTItem 2 x1)]) [(30, 102)] [_, _] rfl ⟨rfl, trivial⟩ ⟨rfl, (fun _ => rfl), rfl, (lrow_ren rfl), trivial⟩ rfl <| At.dr Y [2] rfl rfl (by cases H0; rfl) (by cases H0; rfl) rfl rfl rfl
theorem R02_Sorted_con {k : Nat}  {S : Foot} {W0 : World} {s0 : Value} {l0 : List TItem} {r : List TItem} (hL0 : LArg S W0 s0 eTItem 2 l0) (H0 : R02_Sorted.f k l0 = some r) (m30 : Nat) (hd : ndB [m30] = true) : R02_Sorted_st S W0 s0 r m30 :=
 SCon.ren (rn [(30, m30)]) (R02_Sorted_con0 (k := k)  hL0 H0) ⟨(fun _ => rfl), trivial⟩ ⟨(fun _ => rfl), (lrow_ren rfl), trivial⟩ (rn_nd hd rfl rfl) (rn_ks hd rfl rfl rfl)
abbrev R12_Run_st (S : Foot) (W0 : World) (s0 : Value) (r : List TItem × List TItem × Int × List TTook) (m30 : Nat) (m31 : Nat) (m33 : Nat) : Prop := SCon Tryz.prog 17 [SV.raw s0] [(0, rd S W0)] (.tup [.c (.nv m30), .c (.nv m31), .c (.v (.int .i64 r.2.2.1)), .c (.nv m33)]) [(0, rd S W0), (m30, lrow m30 30 eTItem 2 r.1), (m31, lrow m31 30 eTItem 2 r.2.1), (m33, lrow m33 44 eTTook 3 r.2.2.2)] [m30, m31, m33]
theorem R12_Run_con0 {k : Nat}  {S : Foot} {W0 : World} {s0 : Value} {l0 : List TOp} {r : List TItem × List TItem × Int × List TTook} (hL0 : LArg S W0 s0 eTOp 4 l0) (H0 : R12_Run.f k l0 = some r) : R12_Run_st S W0 s0 r 30 31 33 := by
 rw [R12_Run.f] at H0
 obtain ⟨b0, o0, hI0⟩ := hL0
 refine spec_of [(0, _)] [(0, _)] 63 Tryz.func17 rfl Tryz.ntmps17 rfl rfl rfl rfl (fun β W F => ?_)
 refine G.seq <| G.rg <| K.nilRow 100 30 eTItem 2 (.inl rfl) g0 rfl rfl rfl <| K.nilRow 101 30 eTItem 2 (.inl rfl) g0 rfl rfl rfl <| K.as rfl rfl <| K.nilRow 102 44 eTTook 3 (.inl rfl) g0 rfl rfl rfl <| K.nil <| At.nr <| K.nilRow 103 30 eTItem 2 (.inl rfl) g0 rfl rfl rfl <| K.nilRow 104 30 eTItem 2 (.inl rfl) g0 rfl rfl rfl <| K.nil <| At.nr <| K.nilRow 105 44 eTTook 3 (.inl rfl) g0 rfl rfl rfl <| K.nil <| At.nr <| K.as rfl rfl <| K.nil <| At.next ?_
 obtain ⟨x1, H1, H0⟩ := bnd H0
 refine G.sJ (σ := { v : List TItem × List TItem × List TTook × Int // x1 = v }) (fun q => [(6, .a (.c (.nv 106))), (7, .a (.c (.nv 107))), (8, .a (.c (.nv 108))), (9, .a (.c (.v (.int .i64 q.1.2.2.2))))]) (fun q => [(0, rd S W0), (106, lrow 106 30 eTItem 2 q.1.1), (107, lrow 107 30 eTItem 2 q.1.2.1), (108, lrow 108 44 eTTook 3 q.1.2.2.1)]) ?_ ?_
 ·
  refine G.seq <| G.rg <| K.as rfl rfl <| K.nil <| At.next <| G.block <| G.lp (σ := { q : Nat × (List TItem × List TItem × List TTook × Int × Int) // R12_Run.l0 k l0 q.1 q.2 = some x1 }) (fun q => [(0, SV.raw s0), (6, .a (.c (.nv 115))), (7, .a (.c (.nv 116))), (8, .a (.c (.nv 117))), (9, .a (.c (.v (.int .i64 q.1.2.2.2.2.1)))), (10, .a (.c (.v (.int .i64 q.1.2.2.2.2.2))))]) (fun q => [(0, rd S W0), (115, lrow 115 30 eTItem 2 q.1.2.1), (116, lrow 116 30 eTItem 2 q.1.2.2.1), (117, lrow 117 44 eTTook 3 q.1.2.2.2.1)]) (fun q => q.1.1) ⟨(k, (([] : List TItem), ([] : List TItem), ([] : List TTook), 0, 0)), H1⟩ ?_ ?_
  · exact At.into [(115, 103), (116, 104), (117, 105)] [_, _, _, _] rfl ⟨rfl, rfl, rfl, rfl, rfl, rfl, trivial⟩ ⟨rfl, (fun _ => rfl), rfl, (lrow_ren rfl), rfl, (lrow_ren rfl), rfl, (lrow_ren rfl), trivial⟩ rfl
  ·
   rintro ⟨⟨n0, v1, v2, v3, v4, v5⟩, H1⟩
   show G _ _ [(0, SV.raw s0), (6, .a (.c (.nv 115))), (7, .a (.c (.nv 116))), (8, .a (.c (.nv 117))), (9, .a (.c (.v (.int .i64 v4)))), (10, .a (.c (.v (.int .i64 v5))))] [(0, some (rd S W0)), (115, some (lrow 115 30 eTItem 2 v1)), (116, some (lrow 116 30 eTItem 2 v2)), (117, some (lrow 117 44 eTTook 3 v3))] _ _
   cases n0 with
   | zero => exact absurd H1 (by simp [R12_Run.l0])
   | succ n0 =>
    have HL0 := H1
    rw [R12_Run.l0] at H1
    refine G.seq <| G.seq <| G.rg <| K.mv rfl rfl <| K.mv rfl rfl <| K.lenL (rV 0 S W0 s0 b0 o0 eTOp 4 l0) (hI0.is 0) g0 rfl rfl Tryz.underlying26 rfl <| K.bin (V := .bool (decide (v5 < (l0.length : Int)))) g0 rfl rfl (fun _ => rfl) rfl <| K.nil <| At.next <| G.cond rfl (fun h1 => ?_) (fun h1 => ?_)
    ·
     replace H1 := bif_t H1 h1
     refine G.skip <| At.ns <| G.block <| G.seq <| G.rg <| K.build Y [] [_, _, _] [] g0 (AllE.spec trivial) rfl rfl t44 rfl rfl <| K.alloc Y 118 _ g0 t44 rfl rfl rfl rfl rfl <| K.store Y _ g0 rfl rfl rfl t44 rfl rfl rfl rfl rfl <| K.nil <| At.ns <| G.seq ?_
     obtain ⟨x2, hx2, H1⟩ := bnd H1
     refine G.rg <| K.mv rfl rfl <| K.mv rfl rfl <| K.idxL (rV 0 S W0 s0 b0 o0 eTOp 4 l0) ((v5).toNat) (hI0.is 0) (atL_get hx2) (atL_nn hx2) g0 rfl rfl rfl Tryz.underlying26 el26.size_run rfl <| K.fieldL Y (rV 0 S W0 s0 b0 o0 eTOp 4 l0) ((v5).toNat) 0 1 (hI0.is 0) (atL_get hx2) g0 rfl rfl t42 rfl rfl rfl rfl <| K.load1L Y (rV 0 S W0 s0 b0 o0 eTOp 4 l0) ((v5).toNat) 1 (hI0.is 0) (atL_get hx2) g0 rfl rfl t4 rfl rfl <| K.nil <| At.next <| G.cond rfl (fun h2 => ?_) (fun h2 => ?_)
     ·
      replace H1 := bif_t H1 h2
      obtain ⟨h3, H1⟩ := grd H1
      obtain ⟨h4, H1⟩ := grd H1
      obtain ⟨x3, hx3, H1⟩ := bnd H1
      refine G.rd mixed <| K.buildL Y 119 ([] : List TItem) [] [] eTItem_len g0 (AllE.spec trivial) rfl rfl Tryz.underlying33 t30 rfl rfl rfl rfl rfl rfl rfl rfl <| K.mv rfl rfl <| K.appendL 120 (lrowV 115 30 eTItem 2 v1) _ el33 (lrowV_is eTItem_len (by decide)) eTItem_one g0 rfl rfl rfl rfl rfl (ap_m h3) (ap_b h3 (by decide)) rfl rfl rfl rfl rfl rfl <| K.mv rfl rfl <| K.mv rfl rfl <| K.idxL (rV 0 S W0 s0 b0 o0 eTOp 4 l0) ((v5).toNat) (hI0.is 0) (atL_get hx2) (atL_nn hx2) g0 rfl rfl rfl Tryz.underlying26 el26.size_run rfl <| K.fieldL Y (rV 0 S W0 s0 b0 o0 eTOp 4 l0) ((v5).toNat) 0 2 (hI0.is 0) (atL_get hx2) g0 rfl rfl t42 rfl rfl rfl rfl <| K.loadSL Y (rV 0 S W0 s0 b0 o0 eTOp 4 l0) ((v5).toNat) 2 [_, _] [_, _] (hI0.is 0) (atL_get hx2) g0 rfl rfl t30 rfl rfl rfl rfl rfl <| K.buildL Y 121 ([x2.item] : List TItem) [(0, _)] [((.tmp 31), _)] eTItem_len g0 (AllE.spec ⟨rfl, trivial⟩) rfl rfl Tryz.underlying33 t30 rfl rfl rfl rfl rfl rfl rfl rfl <| K.appendL 122 (lrowV 121 30 eTItem 2 ([x2.item] : List TItem)) _ el33 (lrowV_is eTItem_len (by decide)) eTItem_one g0 rfl rfl rfl rfl rfl (ap_m h4) (ap_b h4 (by decide)) rfl rfl rfl rfl rfl rfl <| K.cV (cf 59 rfl) [122] (fun β w S2 h => R02_Sorted_con (la 0 rfl eTItem_len rfl h) hx3 123 rfl) g0 (fun _ => rfl) rfl rfl rfl <| K.as rfl rfl <| K.nil <| And.intro (by kernel_rfl) <| At.next ?_
      obtain ⟨h5, H1⟩ := grd H1
      exact G.rg <| K.mv rfl rfl <| K.loadS Y _ g0 rfl rfl t44 rfl rfl rfl <| K.buildL Y 124 ([zTTook] : List TTook) [(0, _)] [((.tmp 55), _)] eTTook_len g0 (AllE.spec ⟨rfl, trivial⟩) rfl rfl Tryz.underlying34 t44 rfl rfl rfl rfl rfl rfl rfl rfl <| K.appendL 125 (lrowV 124 44 eTTook 3 ([zTTook] : List TTook)) _ el34 (lrowV_is eTTook_len (by decide)) eTTook_one g0 rfl rfl rfl rfl rfl (ap_m h5) (ap_b h5 (by decide)) rfl rfl rfl rfl rfl rfl <| K.as rfl rfl <| K.nil <| At.block_normal <| At.next <| G.rg <| K.mv rfl rfl <| K.bin (V := .int .i64 (w64 (v5 + 1))) g0 rfl rfl (fun _ => rfl) rfl <| K.as rfl rfl <| K.nil <| At.ag ⟨(n0, (x3, v2, (v3 ++ ([zTTook] : List TTook)), v4, (w64 (v5 + 1)))), H1⟩ [(115, 123), (117, 125)] [_, _, _, _] (Nat.lt_succ_self _) rfl ⟨rfl, rfl, rfl, rfl, rfl, rfl, trivial⟩ ⟨rfl, (fun _ => rfl), rfl, (lrow_ren rfl), rfl, (lrow_ren rfl), rfl, (lrow_ren rfl), trivial⟩ rfl
     ·
      replace H1 := bif_f H1 h2
      refine G.seq <| G.rg <| K.mv rfl rfl <| K.lenL (lrowV 115 30 eTItem 2 v1) (lrowV_is eTItem_len (by decide)) g0 rfl rfl Tryz.underlying33 rfl <| K.bin (V := .bool (decide ((v1.length : Int) > 0))) g0 rfl rfl (fun _ => rfl) rfl <| K.nil <| At.next <| G.cond rfl (fun h6 => ?_) (fun h6 => ?_)
      ·
       replace H1 := bif_t H1 h6
       refine G.seq ?_
       obtain ⟨x4, hx4, H1⟩ := bnd H1
       refine G.rg <| K.mv rfl rfl <| K.idxL (lrowV 115 30 eTItem 2 v1) ((0 : Int).toNat) (lrowV_is eTItem_len (by decide)) (atL_get hx4) (atL_nn hx4) g0 rfl rfl rfl Tryz.underlying33 el33.size_run rfl <| K.loadSL Y (lrowV 115 30 eTItem 2 v1) ((0 : Int).toNat) 0 [_, _] [_, _] (lrowV_is eTItem_len (by decide)) (atL_get hx4) g0 rfl rfl t30 rfl rfl rfl rfl rfl <| K.build Y [(0, _), (1, _)] [_, _, _] [(_, _), ((.tmp 40), _)] g0 (AllE.spec ⟨rfl, rfl, trivial⟩) rfl rfl t44 rfl rfl <| K.store Y _ g0 rfl rfl rfl t44 rfl rfl rfl rfl rfl <| K.nil <| At.ns ?_
       obtain ⟨h7, H1⟩ := grd H1
       refine G.rg <| K.mv rfl rfl <| K.mv rfl rfl <| K.idxL (lrowV 115 30 eTItem 2 v1) ((0 : Int).toNat) (lrowV_is eTItem_len (by decide)) (atL_get hx4) (atL_nn hx4) g0 rfl rfl rfl Tryz.underlying33 el33.size_run rfl <| K.loadSL Y (lrowV 115 30 eTItem 2 v1) ((0 : Int).toNat) 0 [_, _] [_, _] (lrowV_is eTItem_len (by decide)) (atL_get hx4) g0 rfl rfl t30 rfl rfl rfl rfl rfl <| K.buildL Y 126 ([x4] : List TItem) [(0, _)] [((.tmp 45), _)] eTItem_len g0 (AllE.spec ⟨rfl, trivial⟩) rfl rfl Tryz.underlying33 t30 rfl rfl rfl rfl rfl rfl rfl rfl <| K.appendL 127 (lrowV 126 30 eTItem 2 ([x4] : List TItem)) _ el33 (lrowV_is eTItem_len (by decide)) eTItem_one g0 rfl rfl rfl rfl rfl (ap_m h7) (ap_b h7 (by decide)) rfl rfl rfl rfl rfl rfl <| K.as rfl rfl <| K.nil <| At.next ?_
       obtain ⟨h8, H1⟩ := grd H1
       obtain ⟨h10, H1⟩ := grd H1
       refine G.rg <| K.buildL Y 128 ([] : List TItem) [] [] eTItem_len g0 (AllE.spec trivial) rfl rfl Tryz.underlying33 t30 rfl rfl rfl rfl rfl rfl rfl rfl <| K.mv rfl rfl <| K.partL ((1 : Int).toNat) v1.length g0 rfl (.at_ rfl h8.1 rfl) .no rfl Tryz.underlying33 el33.size_run (tn_len h8.2) (Nat.le_refl _) rfl <| K.appendL 129 (lsubV 115 30 eTItem 2 v1 ((1 : Int).toNat) v1.length) _ el33 (lsubV_is eTItem_len (by decide) (tn_len h8.2) (Nat.le_refl _)) eTItem_one g0 rfl rfl rfl rfl rfl (ap_m h10) (ap_b h10 (by decide)) rfl rfl rfl rfl rfl rfl <| K.as rfl rfl <| K.nil <| At.next ?_
       obtain ⟨h11, H1⟩ := grd H1
       exact G.rg <| K.mv rfl rfl <| K.loadS Y _ g0 rfl rfl t44 rfl rfl rfl <| K.buildL Y 130 ([(TTook.mk true x4)] : List TTook) [(0, _)] [((.tmp 55), _)] eTTook_len g0 (AllE.spec ⟨rfl, trivial⟩) rfl rfl Tryz.underlying34 t44 rfl rfl rfl rfl rfl rfl rfl rfl <| K.appendL 131 (lrowV 130 44 eTTook 3 ([(TTook.mk true x4)] : List TTook)) _ el34 (lrowV_is eTTook_len (by decide)) eTTook_one g0 rfl rfl rfl rfl rfl (ap_m h11) (ap_b h11 (by decide)) rfl rfl rfl rfl rfl rfl <| K.as rfl rfl <| K.nil <| At.block_normal <| At.next <| G.rg <| K.mv rfl rfl <| K.bin (V := .int .i64 (w64 (v5 + 1))) g0 rfl rfl (fun _ => rfl) rfl <| K.as rfl rfl <| K.nil <| At.ag ⟨(n0, ((([] : List TItem) ++ ((v1.drop ((1 : Int).toNat)).take (v1.length - ((1 : Int).toNat)))), (v2 ++ ([x4] : List TItem)), (v3 ++ ([(TTook.mk true x4)] : List TTook)), v4, (w64 (v5 + 1)))), H1⟩ [(115, 129), (116, 127), (117, 131)] [_, _, _, _] (Nat.lt_succ_self _) rfl ⟨rfl, rfl, rfl, rfl, rfl, rfl, trivial⟩ ⟨rfl, (fun _ => rfl), rfl, (lrow_ren rfl), rfl, (lrow_ren rfl), rfl, (lrow_ren rfl), trivial⟩ rfl
      ·
       replace H1 := bif_f H1 h6
       refine G.rg <| K.mv rfl rfl <| K.bin (V := .int .i64 (w64 (v4 + 1))) g0 rfl rfl (fun _ => rfl) rfl <| K.as rfl rfl <| K.nil <| At.next ?_
       obtain ⟨h12, H1⟩ := grd H1
       exact G.rg <| K.mv rfl rfl <| K.loadS Y _ g0 rfl rfl t44 rfl rfl rfl <| K.buildL Y 132 ([zTTook] : List TTook) [(0, _)] [((.tmp 55), _)] eTTook_len g0 (AllE.spec ⟨rfl, trivial⟩) rfl rfl Tryz.underlying34 t44 rfl rfl rfl rfl rfl rfl rfl rfl <| K.appendL 133 (lrowV 132 44 eTTook 3 ([zTTook] : List TTook)) _ el34 (lrowV_is eTTook_len (by decide)) eTTook_one g0 rfl rfl rfl rfl rfl (ap_m h12) (ap_b h12 (by decide)) rfl rfl rfl rfl rfl rfl <| K.as rfl rfl <| K.nil <| At.block_normal <| At.next <| G.rg <| K.mv rfl rfl <| K.bin (V := .int .i64 (w64 (v5 + 1))) g0 rfl rfl (fun _ => rfl) rfl <| K.as rfl rfl <| K.nil <| At.ag ⟨(n0, (v1, v2, (v3 ++ ([zTTook] : List TTook)), (w64 (v4 + 1)), (w64 (v5 + 1)))), H1⟩ [(117, 133)] [_, _, _, _] (Nat.lt_succ_self _) rfl ⟨rfl, rfl, rfl, rfl, rfl, rfl, trivial⟩ ⟨rfl, (fun _ => rfl), rfl, (lrow_ren rfl), rfl, (lrow_ren rfl), rfl, (lrow_ren rfl), trivial⟩ rfl
    ·
     replace H1 := bif_f H1 h1
     exact G.exit <| At.over_exit <| At.over_exit <| At.block_hit <| At.jd ⟨(v1, v2, v3, v4), oi H1⟩ [(106, 115), (107, 116), (108, 117)] [_, _, _, _] rfl ⟨rfl, rfl, rfl, rfl, trivial⟩ ⟨rfl, (fun _ => rfl), rfl, (lrow_ren rfl), rfl, (lrow_ren rfl), rfl, (lrow_ren rfl), trivial⟩ rfl
 ·
  rintro ⟨_, rfl⟩
  show G _ _ [(6, .a (.c (.nv 106))), (7, .a (.c (.nv 107))), (8, .a (.c (.nv 108))), (9, .a (.c (.v (.int .i64 x1.2.2.2))))] [(0, some (rd S W0)), (106, some (lrow 106 30 eTItem 2 x1.1)), (107, some (lrow 107 30 eTItem 2 x1.2.1)), (108, some (lrow 108 44 eTTook 3 x1.2.2.1))] _ _
  refine G.seq ?_
  obtain ⟨x5, hx5, H0⟩ := bnd H0
  exact G.rg <| K.mv rfl rfl <| K.mv rfl rfl <| K.cV (cf 59 rfl) [107] (fun β w S2 h => R02_Sorted_con (la 0 rfl eTItem_len rfl h) hx5 134 rfl) g0 (fun _ => rfl) rfl rfl rfl <| K.mv rfl rfl <| K.mv rfl rfl <| K.as rfl rfl <| K.as rfl rfl <| K.as rfl rfl <| K.as rfl rfl <| K.nil <| At.next <| G.ret <| At.ren (fs' := [(2, .a (.c (.nv 30))), (3, .a (.c (.nv 31))), (4, .a (.c (.v (.int .i64 x1.2.2.2)))), (5, .a (.c (.nv 33)))]) (tl := [(0, rd S W0), (30, lrow 30 30 eTItem 2 x1.1), (31, lrow 31 30 eTItem 2 x5), (33, lrow 33 44 eTTook 3 x1.2.2.1)]) [(30, 106), (31, 134), (33, 108)] [_, _, _, _] rfl ⟨rfl, rfl, rfl, rfl, trivial⟩ ⟨rfl, (fun _ => rfl), rfl, (lrow_ren rfl), rfl, (lrow_ren rfl), rfl, (lrow_ren rfl), trivial⟩ rfl <| At.dr Y [2, 3, 4, 5] rfl rfl (by cases H0; rfl) (by cases H0; rfl) rfl rfl rfl
theorem R12_Run_con {k : Nat}  {S : Foot} {W0 : World} {s0 : Value} {l0 : List TOp} {r : List TItem × List TItem × Int × List TTook} (hL0 : LArg S W0 s0 eTOp 4 l0) (H0 : R12_Run.f k l0 = some r) (m30 m31 m33 : Nat) (hd : ndB [m30, m31, m33] = true) : R12_Run_st S W0 s0 r m30 m31 m33 :=
 SCon.ren (rn [(30, m30), (31, m31), (33, m33)]) (R12_Run_con0 (k := k)  hL0 H0) ⟨(fun _ => rfl), trivial⟩ ⟨(fun _ => rfl), (lrow_ren rfl), (lrow_ren rfl), (lrow_ren rfl), trivial⟩ (rn_nd hd rfl rfl) (rn_ks hd rfl rfl rfl)
abbrev R09_At_st (S : Foot) (W0 : World) (s0 : Value) (a1 : TItem) (r : Int) : Prop := SCon Tryz.prog 50 [SV.raw s0, .a (.agg ((eTItem a1).map .v))] [(0, rd S W0)] (.a (.c (.v (.int .i64 r)))) [(0, rd S W0)] []
theorem R09_At_con0 {k : Nat}  {S : Foot} {W0 : World} {s0 : Value} {l0 : List TItem} {a1 : TItem} {r : Int} (hL0 : LArg S W0 s0 eTItem 2 l0) (H0 : R09_At.f k l0 a1 = some r) : R09_At_st S W0 s0 a1 r := by
 rw [R09_At.f] at H0
 obtain ⟨b0, o0, hI0⟩ := hL0
 refine spec_of [(0, _), (1, _)] [(0, _)] 19 Tryz.func50 rfl Tryz.ntmps50 rfl rfl rfl rfl (fun β W F => ?_)
 refine G.seq <| G.rg <| K.box Y 100 _ g0 rfl rfl rfl rfl rfl rfl <| K.as rfl rfl <| K.nil <| At.next ?_
 obtain ⟨x1, H1, H0⟩ := bnd H0
 refine G.sJ (σ := { v : Unit // x1 = Sum.inr v }) (fun q => []) (fun q => [(0, rd S W0)]) ?_ ?_
 ·
  refine G.seq <| G.rg <| K.as rfl rfl <| K.nil <| At.next <| G.block <| G.lp (σ := { q : Nat × (Int) // R09_At.l0 k l0 a1 q.1 q.2 = some x1 }) (fun q => [(0, SV.raw s0), (3, .a (.c (.p 103 0))), (5, .a (.c (.v (.int .i64 q.1.2))))]) (fun q => [(0, rd S W0), (103, blk 103 [.v (.int .i64 a1.key), .v (.int .i64 a1.id)] 30)]) (fun q => q.1.1) ⟨(k, 0), H1⟩ ?_ ?_
  · exact At.into [(103, 100)] [_, _] rfl ⟨rfl, rfl, rfl, trivial⟩ ⟨rfl, (fun _ => rfl), rfl, (blk_ren rfl rfl), trivial⟩ rfl
  ·
   rintro ⟨⟨n0, v1⟩, H1⟩
   show G _ _ [(0, SV.raw s0), (3, .a (.c (.p 103 0))), (5, .a (.c (.v (.int .i64 v1))))] [(0, some (rd S W0)), (103, some (blk 103 [.v (.int .i64 a1.key), .v (.int .i64 a1.id)] 30))] _ _
   cases n0 with
   | zero => exact absurd H1 (by simp [R09_At.l0])
   | succ n0 =>
    have HL0 := H1
    rw [R09_At.l0] at H1
    refine G.seq <| G.seq <| G.rg <| K.mv rfl rfl <| K.mv rfl rfl <| K.lenL (rV 0 S W0 s0 b0 o0 eTItem 2 l0) (hI0.is 0) g0 rfl rfl Tryz.underlying33 rfl <| K.bin (V := .bool (decide (v1 < (l0.length : Int)))) g0 rfl rfl (fun _ => rfl) rfl <| K.nil <| At.next <| G.cond rfl (fun h1 => ?_) (fun h1 => ?_)
    ·
     replace H1 := bif_t H1 h1
     refine G.skip <| At.ns <| G.block <| G.seq ?_
     obtain ⟨x2, hx2, H1⟩ := bnd H1
     refine G.rd mixed <| K.mv rfl rfl <| K.mv rfl rfl <| K.idxL (rV 0 S W0 s0 b0 o0 eTItem 2 l0) ((v1).toNat) (hI0.is 0) (atL_get hx2) (atL_nn hx2) g0 rfl rfl rfl Tryz.underlying33 el33.size_run rfl <| K.loadSL Y (rV 0 S W0 s0 b0 o0 eTItem 2 l0) ((v1).toNat) 0 [_, _] [_, _] (hI0.is 0) (atL_get hx2) g0 rfl rfl t30 rfl rfl rfl rfl rfl <| K.loadS Y _ g0 rfl rfl t30 rfl rfl rfl <| K.eqS [_, _] [_, _] g0 rfl rfl cmp30 rfl (.inl rfl) ((x2.key == a1.key) && ((x2.id == a1.id) && true)) rfl rfl <| K.nil <| And.intro (by kernel_rfl) <| At.next <| G.cond rfl (fun h2 => ?_) (fun h2 => ?_)
     ·
      replace H1 := bif_t H1 h2
      refine G.seq <| G.rg <| K.mv rfl rfl <| K.as rfl rfl <| K.nil <| At.next <| G.ret <| At.block_ret <| At.over_ret <| At.over_ret <| At.block_ret <| At.over_ret ?_
      cases H1
      replace H0 := sum_l H0
      exact At.dr Y [4] rfl rfl (by cases H0; rfl) (by cases H0; rfl) rfl rfl rfl
     ·
      replace H1 := bif_f H1 h2
      exact G.skip <| At.block_normal <| At.next <| G.rg <| K.mv rfl rfl <| K.bin (V := .int .i64 (w64 (v1 + 1))) g0 rfl rfl (fun _ => rfl) rfl <| K.as rfl rfl <| K.nil <| At.ag ⟨(n0, (w64 (v1 + 1))), H1⟩ [] [_, _] (Nat.lt_succ_self _) rfl ⟨rfl, rfl, rfl, trivial⟩ ⟨rfl, (fun _ => rfl), rfl, (blk_ren rfl rfl), trivial⟩ rfl
    ·
     replace H1 := bif_f H1 h1
     exact G.exit <| At.over_exit <| At.over_exit <| At.block_hit <| At.jd ⟨(), oi H1⟩ [] [_] rfl trivial ⟨rfl, (fun _ => rfl), trivial⟩ rfl
 ·
  rintro ⟨v1, rfl⟩
  replace H0 := sum_r H0
  show G _ _ [] [(0, some (rd S W0))] _ _
  exact G.seq <| G.rg <| K.as rfl rfl <| K.nil <| At.next <| G.ret <| At.dr Y [4] rfl rfl (by cases H0; rfl) (by cases H0; rfl) rfl rfl rfl
theorem R09_At_con {k : Nat}  {S : Foot} {W0 : World} {s0 : Value} {l0 : List TItem} {a1 : TItem} {r : Int} (hL0 : LArg S W0 s0 eTItem 2 l0) (H0 : R09_At.f k l0 a1 = some r) : R09_At_st S W0 s0 a1 r :=
 SCon.ren (rn []) (R09_At_con0 (k := k)  hL0 H0) ⟨(fun _ => rfl), trivial⟩ ⟨(fun _ => rfl), trivial⟩ (by simp) (by simp)
abbrev R12_Change_st (S : Foot) (W0 : World) (s0 : Value) (s1 : Value) (r : TChange) (m60 : Nat) (m61 : Nat) : Prop := SCon Tryz.prog 58 [SV.raw s0, SV.raw s1] [(0, rd S W0)] (.a (.agg [.nv m60, .nv m61])) [(0, rd S W0), (m60, lrow m60 30 eTItem 2 (r.in_)), (m61, lrow m61 30 eTItem 2 (r.out))] [m60, m61]
theorem R12_Change_con0 {k : Nat}  {S : Foot} {W0 : World} {s0 : Value} {s1 : Value} {l0 : List TItem} {l1 : List TItem} {r : TChange} (hL0 : LArg S W0 s0 eTItem 2 l0) (hL1 : LArg S W0 s1 eTItem 2 l1) (H0 : R12_Change.f k l0 l1 = some r) : R12_Change_st S W0 s0 s1 r 60 61 := by
 rw [R12_Change.f] at H0
 obtain ⟨b0, o0, hI0⟩ := hL0
 obtain ⟨b1, o1, hI1⟩ := hL1
 refine spec_of [(0, _), (1, _)] [(0, _)] 53 Tryz.func58 rfl Tryz.ntmps58 rfl rfl rfl rfl (fun β W F => ?_)
 refine G.seq <| G.rg <| K.alloc Y 100 _ g0 t56 rfl rfl rfl rfl rfl <| K.nil <| At.nilBlk (n := 100) (l' := [_, _]) 0 101 30 eTItem 2 rfl rfl rfl rfl rfl <| At.nilBlk (n := 100) (l' := [_, _]) 1 102 30 eTItem 2 rfl rfl rfl rfl rfl <| At.nr <| K.alloc Y 103 _ g0 t56 rfl rfl rfl rfl rfl <| K.nil <| At.nilBlk (n := 103) (l' := [_, _]) 0 104 30 eTItem 2 rfl rfl rfl rfl rfl <| At.nilBlk (n := 103) (l' := [_, _]) 1 105 30 eTItem 2 rfl rfl rfl rfl rfl <| At.next ?_
 obtain ⟨x1, H1, H0⟩ := bnd H0
 refine G.sJ (σ := { v : List TItem // x1 = v }) (fun q => [(0, SV.raw s0), (1, SV.raw s1), (4, .a (.c (.p 106 0))), (5, .a (.c (.p 109 0)))]) (fun q => [(0, rd S W0), (107, lrow 107 30 eTItem 2 ([] : List TItem)), (108, lrow 108 30 eTItem 2 ([] : List TItem)), (106, blk 106 [.nv 107, .nv 108] 56), (110, lrow 110 30 eTItem 2 q.1), (111, lrow 111 30 eTItem 2 ([] : List TItem)), (109, blk 109 [.nv 110, .nv 111] 56)]) ?_ ?_
 ·
  refine G.seq <| G.rg <| K.as rfl rfl <| K.nil <| At.next <| G.block <| G.lp (σ := { q : Nat × (List TItem × Int) // R12_Change.l0 k l0 l1 q.1 q.2 = some x1 }) (fun q => [(0, SV.raw s0), (1, SV.raw s1), (4, .a (.c (.p 124 0))), (5, .a (.c (.p 127 0))), (6, .a (.c (.v (.int .i64 q.1.2.2))))]) (fun q => [(0, rd S W0), (125, lrow 125 30 eTItem 2 ([] : List TItem)), (126, lrow 126 30 eTItem 2 ([] : List TItem)), (124, blk 124 [.nv 125, .nv 126] 56), (128, lrow 128 30 eTItem 2 q.1.2.1), (129, lrow 129 30 eTItem 2 ([] : List TItem)), (127, blk 127 [.nv 128, .nv 129] 56)]) (fun q => q.1.1) ⟨(k, (([] : List TItem), 0)), H1⟩ ?_ ?_
  · exact At.into [(124, 100), (125, 101), (126, 102), (127, 103), (128, 104), (129, 105)] [_, _, _, _, _, _, _] rfl ⟨rfl, rfl, rfl, rfl, rfl, trivial⟩ ⟨rfl, (fun _ => rfl), rfl, (lrow_ren rfl), rfl, (lrow_ren rfl), rfl, (blk_ren rfl rfl), rfl, (lrow_ren rfl), rfl, (lrow_ren rfl), rfl, (blk_ren rfl rfl), trivial⟩ rfl
  ·
   rintro ⟨⟨n0, v1, v2⟩, H1⟩
   show G _ _ [(0, SV.raw s0), (1, SV.raw s1), (4, .a (.c (.p 124 0))), (5, .a (.c (.p 127 0))), (6, .a (.c (.v (.int .i64 v2))))] [(0, some (rd S W0)), (125, some (lrow 125 30 eTItem 2 ([] : List TItem))), (126, some (lrow 126 30 eTItem 2 ([] : List TItem))), (124, some (blk 124 [.nv 125, .nv 126] 56)), (128, some (lrow 128 30 eTItem 2 v1)), (129, some (lrow 129 30 eTItem 2 ([] : List TItem))), (127, some (blk 127 [.nv 128, .nv 129] 56))] _ _
   cases n0 with
   | zero => exact absurd H1 (by simp [R12_Change.l0])
   | succ n0 =>
    have HL0 := H1
    rw [R12_Change.l0] at H1
    refine G.seq <| G.seq <| G.rg <| K.mv rfl rfl <| K.mv rfl rfl <| K.lenL (rV 0 S W0 s1 b1 o1 eTItem 2 l1) (hI1.is 0) g0 rfl rfl Tryz.underlying33 rfl <| K.bin (V := .bool (decide (v2 < (l1.length : Int)))) g0 rfl rfl (fun _ => rfl) rfl <| K.nil <| At.next <| G.cond rfl (fun h1 => ?_) (fun h1 => ?_)
    ·
     replace H1 := bif_t H1 h1
     refine G.skip <| At.ns <| G.block <| G.seq ?_
     obtain ⟨x2, hx2, H1⟩ := bnd H1
     obtain ⟨x3, hx3, H1⟩ := bnd H1
     refine G.rg <| K.mv rfl rfl <| K.mv rfl rfl <| K.mv rfl rfl <| K.idxL (rV 0 S W0 s1 b1 o1 eTItem 2 l1) ((v2).toNat) (hI1.is 0) (atL_get hx2) (atL_nn hx2) g0 rfl rfl rfl Tryz.underlying33 el33.size_run rfl <| K.loadSL Y (rV 0 S W0 s1 b1 o1 eTItem 2 l1) ((v2).toNat) 0 [_, _] [_, _] (hI1.is 0) (atL_get hx2) g0 rfl rfl t30 rfl rfl rfl rfl rfl <| K.cV (cf 50 rfl) [0] (fun β w S2 h => R09_At_con ((hI0.isC 0).larg ⟨_, List.mem_cons_self⟩ h) hx3) g0 (fun _ => rfl) rfl rfl rfl <| K.bin (V := .bool (decide (x3 < 0))) g0 rfl rfl (fun _ => rfl) rfl <| K.nil <| At.next <| G.cond rfl (fun h2 => ?_) (fun h2 => ?_)
     ·
      replace H1 := bif_t H1 h2
      obtain ⟨h3, H1⟩ := grd H1
      exact G.rd mixed <| K.fieldAddr Y g0 rfl t56 rfl rfl <| K.load1 Y g0 rfl rfl t33 rfl rfl <| K.mv rfl rfl <| K.mv rfl rfl <| K.idxL (rV 0 S W0 s1 b1 o1 eTItem 2 l1) ((v2).toNat) (hI1.is 0) (atL_get hx2) (atL_nn hx2) g0 rfl rfl rfl Tryz.underlying33 el33.size_run rfl <| K.loadSL Y (rV 0 S W0 s1 b1 o1 eTItem 2 l1) ((v2).toNat) 0 [_, _] [_, _] (hI1.is 0) (atL_get hx2) g0 rfl rfl t30 rfl rfl rfl rfl rfl <| K.buildL Y 130 ([x2] : List TItem) [(0, _)] [((.tmp 26), _)] eTItem_len g0 (AllE.spec ⟨rfl, trivial⟩) rfl rfl Tryz.underlying33 t30 rfl rfl rfl rfl rfl rfl rfl rfl <| K.appendL 131 (lrowV 130 30 eTItem 2 ([x2] : List TItem)) _ el33 (lrowV_is eTItem_len (by decide)) eTItem_one g0 rfl rfl rfl rfl rfl (ap_m h3) (ap_b h3 (by decide)) rfl rfl rfl rfl rfl rfl <| K.fieldAddr Y g0 rfl t56 rfl rfl <| K.store Y _ g0 rfl rfl rfl t33 rfl rfl rfl rfl rfl <| K.nil <| And.intro (by kernel_rfl) <| At.block_normal <| At.next <| G.rg <| K.mv rfl rfl <| K.bin (V := .int .i64 (w64 (v2 + 1))) g0 rfl rfl (fun _ => rfl) rfl <| K.as rfl rfl <| K.nil <| At.ag ⟨(n0, ((v1 ++ ([x2] : List TItem)), (w64 (v2 + 1)))), H1⟩ [(128, 131)] [_, _, _, _, _, _, _] (Nat.lt_succ_self _) rfl ⟨rfl, rfl, rfl, rfl, rfl, trivial⟩ ⟨rfl, (fun _ => rfl), rfl, (lrow_ren rfl), rfl, (lrow_ren rfl), rfl, (blk_ren rfl rfl), rfl, (lrow_ren rfl), rfl, (lrow_ren rfl), rfl, (blk_ren rfl rfl), trivial⟩ rfl
     ·
      replace H1 := bif_f H1 h2
      exact G.skip <| At.block_normal <| At.next <| G.rg <| K.mv rfl rfl <| K.bin (V := .int .i64 (w64 (v2 + 1))) g0 rfl rfl (fun _ => rfl) rfl <| K.as rfl rfl <| K.nil <| At.ag ⟨(n0, (v1, (w64 (v2 + 1)))), H1⟩ [] [_, _, _, _, _, _, _] (Nat.lt_succ_self _) rfl ⟨rfl, rfl, rfl, rfl, rfl, trivial⟩ ⟨rfl, (fun _ => rfl), rfl, (lrow_ren rfl), rfl, (lrow_ren rfl), rfl, (blk_ren rfl rfl), rfl, (lrow_ren rfl), rfl, (lrow_ren rfl), rfl, (blk_ren rfl rfl), trivial⟩ rfl
    ·
     replace H1 := bif_f H1 h1
     exact G.exit <| At.over_exit <| At.over_exit <| At.block_hit <| At.jd ⟨v1, oi H1⟩ [(106, 124), (107, 125), (108, 126), (109, 127), (110, 128), (111, 129)] [_, _, _, _, _, _, _] rfl ⟨rfl, rfl, rfl, rfl, trivial⟩ ⟨rfl, (fun _ => rfl), rfl, (lrow_ren rfl), rfl, (lrow_ren rfl), rfl, (blk_ren rfl rfl), rfl, (lrow_ren rfl), rfl, (lrow_ren rfl), rfl, (blk_ren rfl rfl), trivial⟩ rfl
 ·
  rintro ⟨_, rfl⟩
  show G _ _ [(0, SV.raw s0), (1, SV.raw s1), (4, .a (.c (.p 106 0))), (5, .a (.c (.p 109 0)))] [(0, some (rd S W0)), (107, some (lrow 107 30 eTItem 2 ([] : List TItem))), (108, some (lrow 108 30 eTItem 2 ([] : List TItem))), (106, some (blk 106 [.nv 107, .nv 108] 56)), (110, some (lrow 110 30 eTItem 2 x1)), (111, some (lrow 111 30 eTItem 2 ([] : List TItem))), (109, some (blk 109 [.nv 110, .nv 111] 56))] _ _
  obtain ⟨x4, H1, H0⟩ := bnd H0
  refine G.sJ (σ := { v : List TItem // x4 = v }) (fun q => [(4, .a (.c (.p 132 0))), (5, .a (.c (.p 135 0)))]) (fun q => [(0, rd S W0), (133, lrow 133 30 eTItem 2 ([] : List TItem)), (134, lrow 134 30 eTItem 2 ([] : List TItem)), (132, blk 132 [.nv 133, .nv 134] 56), (136, lrow 136 30 eTItem 2 x1), (137, lrow 137 30 eTItem 2 q.1), (135, blk 135 [.nv 136, .nv 137] 56)]) ?_ ?_
  ·
   refine G.seq <| G.rg <| K.as rfl rfl <| K.nil <| At.next <| G.block <| G.lp (σ := { q : Nat × (List TItem × Int) // R12_Change.l1 k l0 l1 q.1 q.2 = some x4 }) (fun q => [(0, SV.raw s0), (1, SV.raw s1), (4, .a (.c (.p 150 0))), (5, .a (.c (.p 153 0))), (7, .a (.c (.v (.int .i64 q.1.2.2))))]) (fun q => [(0, rd S W0), (151, lrow 151 30 eTItem 2 ([] : List TItem)), (152, lrow 152 30 eTItem 2 ([] : List TItem)), (150, blk 150 [.nv 151, .nv 152] 56), (154, lrow 154 30 eTItem 2 x1), (155, lrow 155 30 eTItem 2 q.1.2.1), (153, blk 153 [.nv 154, .nv 155] 56)]) (fun q => q.1.1) ⟨(k, (([] : List TItem), 0)), H1⟩ ?_ ?_
   · exact At.into [(150, 106), (151, 107), (152, 108), (153, 109), (154, 110), (155, 111)] [_, _, _, _, _, _, _] rfl ⟨rfl, rfl, rfl, rfl, rfl, trivial⟩ ⟨rfl, (fun _ => rfl), rfl, (lrow_ren rfl), rfl, (lrow_ren rfl), rfl, (blk_ren rfl rfl), rfl, (lrow_ren rfl), rfl, (lrow_ren rfl), rfl, (blk_ren rfl rfl), trivial⟩ rfl
   ·
    rintro ⟨⟨n0, v101, v102⟩, H1⟩
    show G _ _ [(0, SV.raw s0), (1, SV.raw s1), (4, .a (.c (.p 150 0))), (5, .a (.c (.p 153 0))), (7, .a (.c (.v (.int .i64 v102))))] [(0, some (rd S W0)), (151, some (lrow 151 30 eTItem 2 ([] : List TItem))), (152, some (lrow 152 30 eTItem 2 ([] : List TItem))), (150, some (blk 150 [.nv 151, .nv 152] 56)), (154, some (lrow 154 30 eTItem 2 x1)), (155, some (lrow 155 30 eTItem 2 v101)), (153, some (blk 153 [.nv 154, .nv 155] 56))] _ _
    cases n0 with
    | zero => exact absurd H1 (by simp [R12_Change.l1])
    | succ n0 =>
     have HL1 := H1
     rw [R12_Change.l1] at H1
     refine G.seq <| G.seq <| G.rg <| K.mv rfl rfl <| K.mv rfl rfl <| K.lenL (rV 0 S W0 s0 b0 o0 eTItem 2 l0) (hI0.is 0) g0 rfl rfl Tryz.underlying33 rfl <| K.bin (V := .bool (decide (v102 < (l0.length : Int)))) g0 rfl rfl (fun _ => rfl) rfl <| K.nil <| At.next <| G.cond rfl (fun h4 => ?_) (fun h4 => ?_)
     ·
      replace H1 := bif_t H1 h4
      refine G.skip <| At.ns <| G.block <| G.seq ?_
      obtain ⟨x5, hx5, H1⟩ := bnd H1
      obtain ⟨x6, hx6, H1⟩ := bnd H1
      refine G.rg <| K.mv rfl rfl <| K.mv rfl rfl <| K.mv rfl rfl <| K.idxL (rV 0 S W0 s0 b0 o0 eTItem 2 l0) ((v102).toNat) (hI0.is 0) (atL_get hx5) (atL_nn hx5) g0 rfl rfl rfl Tryz.underlying33 el33.size_run rfl <| K.loadSL Y (rV 0 S W0 s0 b0 o0 eTItem 2 l0) ((v102).toNat) 0 [_, _] [_, _] (hI0.is 0) (atL_get hx5) g0 rfl rfl t30 rfl rfl rfl rfl rfl <| K.cV (cf 50 rfl) [0] (fun β w S2 h => R09_At_con ((hI1.isC 0).larg ⟨_, List.mem_cons_self⟩ h) hx6) g0 (fun _ => rfl) rfl rfl rfl <| K.bin (V := .bool (decide (x6 < 0))) g0 rfl rfl (fun _ => rfl) rfl <| K.nil <| At.next <| G.cond rfl (fun h5 => ?_) (fun h5 => ?_)
      ·
       replace H1 := bif_t H1 h5
       obtain ⟨h6, H1⟩ := grd H1
       exact G.rd mixed <| K.fieldAddr Y g0 rfl t56 rfl rfl <| K.load1 Y g0 rfl rfl t33 rfl rfl <| K.mv rfl rfl <| K.mv rfl rfl <| K.idxL (rV 0 S W0 s0 b0 o0 eTItem 2 l0) ((v102).toNat) (hI0.is 0) (atL_get hx5) (atL_nn hx5) g0 rfl rfl rfl Tryz.underlying33 el33.size_run rfl <| K.loadSL Y (rV 0 S W0 s0 b0 o0 eTItem 2 l0) ((v102).toNat) 0 [_, _] [_, _] (hI0.is 0) (atL_get hx5) g0 rfl rfl t30 rfl rfl rfl rfl rfl <| K.buildL Y 156 ([x5] : List TItem) [(0, _)] [((.tmp 48), _)] eTItem_len g0 (AllE.spec ⟨rfl, trivial⟩) rfl rfl Tryz.underlying33 t30 rfl rfl rfl rfl rfl rfl rfl rfl <| K.appendL 157 (lrowV 156 30 eTItem 2 ([x5] : List TItem)) _ el33 (lrowV_is eTItem_len (by decide)) eTItem_one g0 rfl rfl rfl rfl rfl (ap_m h6) (ap_b h6 (by decide)) rfl rfl rfl rfl rfl rfl <| K.fieldAddr Y g0 rfl t56 rfl rfl <| K.store Y _ g0 rfl rfl rfl t33 rfl rfl rfl rfl rfl <| K.nil <| And.intro (by kernel_rfl) <| At.block_normal <| At.next <| G.rg <| K.mv rfl rfl <| K.bin (V := .int .i64 (w64 (v102 + 1))) g0 rfl rfl (fun _ => rfl) rfl <| K.as rfl rfl <| K.nil <| At.ag ⟨(n0, ((v101 ++ ([x5] : List TItem)), (w64 (v102 + 1)))), H1⟩ [(155, 157)] [_, _, _, _, _, _, _] (Nat.lt_succ_self _) rfl ⟨rfl, rfl, rfl, rfl, rfl, trivial⟩ ⟨rfl, (fun _ => rfl), rfl, (lrow_ren rfl), rfl, (lrow_ren rfl), rfl, (blk_ren rfl rfl), rfl, (lrow_ren rfl), rfl, (lrow_ren rfl), rfl, (blk_ren rfl rfl), trivial⟩ rfl
      ·
       replace H1 := bif_f H1 h5
       exact G.skip <| At.block_normal <| At.next <| G.rg <| K.mv rfl rfl <| K.bin (V := .int .i64 (w64 (v102 + 1))) g0 rfl rfl (fun _ => rfl) rfl <| K.as rfl rfl <| K.nil <| At.ag ⟨(n0, (v101, (w64 (v102 + 1)))), H1⟩ [] [_, _, _, _, _, _, _] (Nat.lt_succ_self _) rfl ⟨rfl, rfl, rfl, rfl, rfl, trivial⟩ ⟨rfl, (fun _ => rfl), rfl, (lrow_ren rfl), rfl, (lrow_ren rfl), rfl, (blk_ren rfl rfl), rfl, (lrow_ren rfl), rfl, (lrow_ren rfl), rfl, (blk_ren rfl rfl), trivial⟩ rfl
     ·
      replace H1 := bif_f H1 h4
      exact G.exit <| At.over_exit <| At.over_exit <| At.block_hit <| At.jd ⟨v101, oi H1⟩ [(132, 150), (133, 151), (134, 152), (135, 153), (136, 154), (137, 155)] [_, _, _, _, _, _, _] rfl ⟨rfl, rfl, trivial⟩ ⟨rfl, (fun _ => rfl), rfl, (lrow_ren rfl), rfl, (lrow_ren rfl), rfl, (blk_ren rfl rfl), rfl, (lrow_ren rfl), rfl, (lrow_ren rfl), rfl, (blk_ren rfl rfl), trivial⟩ rfl
  ·
   rintro ⟨_, rfl⟩
   show G _ _ [(4, .a (.c (.p 132 0))), (5, .a (.c (.p 135 0)))] [(0, some (rd S W0)), (133, some (lrow 133 30 eTItem 2 ([] : List TItem))), (134, some (lrow 134 30 eTItem 2 ([] : List TItem))), (132, some (blk 132 [.nv 133, .nv 134] 56)), (136, some (lrow 136 30 eTItem 2 x1)), (137, some (lrow 137 30 eTItem 2 x4)), (135, some (blk 135 [.nv 136, .nv 137] 56))] _ _
   refine G.seq <| G.rg <| K.loadS Y _ g0 rfl rfl t56 rfl rfl rfl <| K.store Y _ g0 rfl rfl rfl t56 rfl rfl rfl rfl rfl <| K.nil <| At.next <| G.ret <| At.ren (fs' := [(4, .a (.c (.p 132 0)))]) (tl := [(0, rd S W0), (60, lrow 60 30 eTItem 2 x1), (61, lrow 61 30 eTItem 2 x4), (132, blk 132 [.nv 60, .nv 61] 56)]) [(60, 136), (61, 137)] [_, _, _, _] rfl ⟨rfl, trivial⟩ ⟨rfl, (fun _ => rfl), rfl, (lrow_ren rfl), rfl, (lrow_ren rfl), rfl, (blk_ren rfl rfl), trivial⟩ rfl <| At.done Y [(.cell 4 56, .agg [_, _])] rfl ⟨.st rfl rfl t56 rfl rfl, trivial⟩ (to' := [(0, _), (60, _), (61, _)]) ⟨rfl, rfl, rfl, trivial⟩ ?_ ?_ rfl rfl rfl (.inl rfl)
   · cases H0; rfl
   · cases H0; rfl
theorem R12_Change_con {k : Nat}  {S : Foot} {W0 : World} {s0 : Value} {s1 : Value} {l0 : List TItem} {l1 : List TItem} {r : TChange} (hL0 : LArg S W0 s0 eTItem 2 l0) (hL1 : LArg S W0 s1 eTItem 2 l1) (H0 : R12_Change.f k l0 l1 = some r) (m60 m61 : Nat) (hd : ndB [m60, m61] = true) : R12_Change_st S W0 s0 s1 r m60 m61 :=
 SCon.ren (rn [(60, m60), (61, m61)]) (R12_Change_con0 (k := k)  hL0 hL1 H0) ⟨(fun _ => rfl), trivial⟩ ⟨(fun _ => rfl), (lrow_ren rfl), (lrow_ren rfl), trivial⟩ (rn_nd hd rfl rfl) (rn_ks hd rfl rfl rfl)
abbrev R02_Same_st (S : Foot) (W0 : World) (s0 : Value) (s1 : Value) (r : Bool) : Prop := SCon Tryz.prog 36 [SV.raw s0, SV.raw s1] [(0, rd S W0)] (.a (.c (.v (.bool r)))) [(0, rd S W0)] []
theorem R02_Same_con0 {k : Nat}  {S : Foot} {W0 : World} {s0 : Value} {s1 : Value} {l0 : List TItem} {l1 : List TItem} {r : Bool} (hL0 : LArg S W0 s0 eTItem 2 l0) (hL1 : LArg S W0 s1 eTItem 2 l1) (H0 : R02_Same.f k l0 l1 = some r) : R02_Same_st S W0 s0 s1 r := by
 rw [R02_Same.f] at H0
 obtain ⟨b0, o0, hI0⟩ := hL0
 obtain ⟨b1, o1, hI1⟩ := hL1
 refine spec_of [(0, _), (1, _)] [(0, _)] 26 Tryz.func36 rfl Tryz.ntmps36 rfl rfl rfl rfl (fun β W F => ?_)
 refine G.seq <| G.rg <| K.as rfl rfl <| K.nil <| At.ns <| G.seq <| G.rg <| K.mv rfl rfl <| K.lenL (rV 0 S W0 s0 b0 o0 eTItem 2 l0) (hI0.is 0) g0 rfl rfl Tryz.underlying33 rfl <| K.mv rfl rfl <| K.lenL (rV 0 S W0 s1 b1 o1 eTItem 2 l1) (hI1.is 0) g0 rfl rfl Tryz.underlying33 rfl <| K.bin (V := .bool ((l0.length : Int) != (l1.length : Int))) g0 rfl rfl (fun _ => rfl) rfl <| K.nil <| At.next <| G.cond rfl (fun h1 => ?_) (fun h1 => ?_)
 ·
  replace H0 := bif_t H0 h1
  exact G.seq <| G.rg <| K.as rfl rfl <| K.nil <| At.next <| G.ret <| At.over_ret <| At.dr Y [4] rfl rfl (by cases H0; rfl) (by cases H0; rfl) rfl rfl rfl
 ·
  replace H0 := bif_f H0 h1
  refine G.skip <| At.next ?_
  obtain ⟨x1, H1, H0⟩ := bnd H0
  refine G.sJ (σ := { v : Unit // x1 = Sum.inr v }) (fun q => []) (fun q => [(0, rd S W0)]) ?_ ?_
  ·
   refine G.seq <| G.rg <| K.as rfl rfl <| K.nil <| At.next <| G.block <| G.lp (σ := { q : Nat × (Int) // R02_Same.l0 k l0 l1 q.1 q.2 = some x1 }) (fun q => [(0, SV.raw s0), (1, SV.raw s1), (5, .a (.c (.v (.int .i64 q.1.2))))]) (fun q => [(0, rd S W0)]) (fun q => q.1.1) ⟨(k, 0), H1⟩ ?_ ?_
   · exact At.into [] [_] rfl ⟨rfl, rfl, rfl, trivial⟩ ⟨rfl, (fun _ => rfl), trivial⟩ rfl
   ·
    rintro ⟨⟨n0, v1⟩, H1⟩
    show G _ _ [(0, SV.raw s0), (1, SV.raw s1), (5, .a (.c (.v (.int .i64 v1))))] [(0, some (rd S W0))] _ _
    cases n0 with
    | zero => exact absurd H1 (by simp [R02_Same.l0])
    | succ n0 =>
     have HL0 := H1
     rw [R02_Same.l0] at H1
     refine G.seq <| G.seq <| G.rg <| K.mv rfl rfl <| K.mv rfl rfl <| K.lenL (rV 0 S W0 s0 b0 o0 eTItem 2 l0) (hI0.is 0) g0 rfl rfl Tryz.underlying33 rfl <| K.bin (V := .bool (decide (v1 < (l0.length : Int)))) g0 rfl rfl (fun _ => rfl) rfl <| K.nil <| At.next <| G.cond rfl (fun h2 => ?_) (fun h2 => ?_)
     ·
      replace H1 := bif_t H1 h2
      refine G.skip <| At.ns <| G.block <| G.seq ?_
      obtain ⟨x2, hx2, H1⟩ := bnd H1
      obtain ⟨x3, hx3, H1⟩ := bnd H1
      refine G.rd mixed <| K.mv rfl rfl <| K.mv rfl rfl <| K.idxL (rV 0 S W0 s0 b0 o0 eTItem 2 l0) ((v1).toNat) (hI0.is 0) (atL_get hx2) (atL_nn hx2) g0 rfl rfl rfl Tryz.underlying33 el33.size_run rfl <| K.loadSL Y (rV 0 S W0 s0 b0 o0 eTItem 2 l0) ((v1).toNat) 0 [_, _] [_, _] (hI0.is 0) (atL_get hx2) g0 rfl rfl t30 rfl rfl rfl rfl rfl <| K.mv rfl rfl <| K.mv rfl rfl <| K.idxL (rV 0 S W0 s1 b1 o1 eTItem 2 l1) ((v1).toNat) (hI1.is 0) (atL_get hx3) (atL_nn hx3) g0 rfl rfl rfl Tryz.underlying33 el33.size_run rfl <| K.loadSL Y (rV 0 S W0 s1 b1 o1 eTItem 2 l1) ((v1).toNat) 0 [_, _] [_, _] (hI1.is 0) (atL_get hx3) g0 rfl rfl t30 rfl rfl rfl rfl rfl <| K.eqS [_, _] [_, _] g0 rfl rfl cmp30 rfl (.inr rfl) (!((x2.key == x3.key) && ((x2.id == x3.id) && true))) rfl rfl <| K.nil <| And.intro (by kernel_rfl) <| At.next <| G.cond rfl (fun h3 => ?_) (fun h3 => ?_)
      ·
       replace H1 := bif_t H1 h3
       refine G.seq <| G.rg <| K.as rfl rfl <| K.nil <| At.next <| G.ret <| At.block_ret <| At.over_ret <| At.over_ret <| At.block_ret <| At.over_ret ?_
       cases H1
       replace H0 := sum_l H0
       exact At.dr Y [4] rfl rfl (by cases H0; rfl) (by cases H0; rfl) rfl rfl rfl
      ·
       replace H1 := bif_f H1 h3
       exact G.skip <| At.block_normal <| At.next <| G.rg <| K.mv rfl rfl <| K.bin (V := .int .i64 (w64 (v1 + 1))) g0 rfl rfl (fun _ => rfl) rfl <| K.as rfl rfl <| K.nil <| At.ag ⟨(n0, (w64 (v1 + 1))), H1⟩ [] [_] (Nat.lt_succ_self _) rfl ⟨rfl, rfl, rfl, trivial⟩ ⟨rfl, (fun _ => rfl), trivial⟩ rfl
     ·
      replace H1 := bif_f H1 h2
      exact G.exit <| At.over_exit <| At.over_exit <| At.block_hit <| At.jd ⟨(), oi H1⟩ [] [_] rfl trivial ⟨rfl, (fun _ => rfl), trivial⟩ rfl
  ·
   rintro ⟨v1, rfl⟩
   replace H0 := sum_r H0
   show G _ _ [] [(0, some (rd S W0))] _ _
   exact G.seq <| G.rg <| K.as rfl rfl <| K.nil <| At.next <| G.ret <| At.dr Y [4] rfl rfl (by cases H0; rfl) (by cases H0; rfl) rfl rfl rfl
theorem R02_Same_con {k : Nat}  {S : Foot} {W0 : World} {s0 : Value} {s1 : Value} {l0 : List TItem} {l1 : List TItem} {r : Bool} (hL0 : LArg S W0 s0 eTItem 2 l0) (hL1 : LArg S W0 s1 eTItem 2 l1) (H0 : R02_Same.f k l0 l1 = some r) : R02_Same_st S W0 s0 s1 r :=
 SCon.ren (rn []) (R02_Same_con0 (k := k)  hL0 hL1 H0) ⟨(fun _ => rfl), trivial⟩ ⟨(fun _ => rfl), trivial⟩ (by simp) (by simp)
abbrev R12_Same_st (S : Foot) (W0 : World) (s0_0 : Value) (s0_1 : Value) (s1_0 : Value) (s1_1 : Value) (r : Bool) : Prop := SCon Tryz.prog 57 [.a (.agg [.v s0_0, .v s0_1]), .a (.agg [.v s1_0, .v s1_1])] [(0, rd S W0)] (.a (.c (.v (.bool r)))) [(0, rd S W0)] []
theorem R12_Same_con0 {k : Nat}  {S : Foot} {W0 : World} {s0_0 : Value} {s0_1 : Value} {s1_0 : Value} {s1_1 : Value} {a0 : TChange} {a1 : TChange} {r : Bool} (hL0_0 : LArg S W0 s0_0 eTItem 2 a0.in_) (hL0_1 : LArg S W0 s0_1 eTItem 2 a0.out) (hL1_0 : LArg S W0 s1_0 eTItem 2 a1.in_) (hL1_1 : LArg S W0 s1_1 eTItem 2 a1.out) (H0 : R12_Same.f k a0 a1 = some r) : R12_Same_st S W0 s0_0 s0_1 s1_0 s1_1 r := by
 rw [R12_Same.f] at H0
 obtain ⟨b0_0, o0_0, hI0_0⟩ := hL0_0
 obtain ⟨ao0_0, cap0_0, hE0_0, _⟩ := hI0_0.sl
 subst hE0_0
 obtain ⟨b0_1, o0_1, hI0_1⟩ := hL0_1
 obtain ⟨ao0_1, cap0_1, hE0_1, _⟩ := hI0_1.sl
 subst hE0_1
 obtain ⟨b1_0, o1_0, hI1_0⟩ := hL1_0
 obtain ⟨ao1_0, cap1_0, hE1_0, _⟩ := hI1_0.sl
 subst hE1_0
 obtain ⟨b1_1, o1_1, hI1_1⟩ := hL1_1
 obtain ⟨ao1_1, cap1_1, hE1_1, _⟩ := hI1_1.sl
 subst hE1_1
 refine spec_of [(0, _), (1, _)] [(0, _)] 17 Tryz.func57 rfl Tryz.ntmps57 rfl rfl rfl rfl (fun β W F => ?_)
 refine G.seq <| G.rg <| K.box Y 100 _ g0 rfl rfl rfl rfl rfl rfl <| K.box Y 101 _ g0 rfl rfl rfl rfl rfl rfl <| K.as rfl rfl <| K.nil <| At.ns ?_
 obtain ⟨x1, hx1, H0⟩ := bnd H0
 rcases Bool.eq_false_or_eq_true x1 with h1 | h1
 ·
  replace H0 := bif_t H0 h1
  obtain ⟨x2, hx2, H0⟩ := bnd H0
  exact G.rg <| K.fieldAddr Y g0 rfl t56 rfl rfl <| K.load1 Y g0 rfl rfl t33 rfl rfl <| K.fieldAddr Y g0 rfl t56 rfl rfl <| K.load1 Y g0 rfl rfl t33 rfl rfl <| K.cV (cf 36 rfl) [0] (fun β w S2 h => R02_Same_con ((hI0_0.isC 0).larg ⟨_, List.mem_cons_self⟩ h) ((hI1_0.isC 0).larg ⟨_, List.mem_cons_self⟩ h) hx1) g0 (fun _ => rfl) rfl rfl rfl <| K.mv rfl rfl <| K.fieldAddr Y (g1 rfl rfl h1) rfl t56 rfl rfl <| K.load1 Y (g1 rfl rfl h1) rfl rfl t33 rfl rfl <| K.fieldAddr Y (g1 rfl rfl h1) rfl t56 rfl rfl <| K.load1 Y (g1 rfl rfl h1) rfl rfl t33 rfl rfl <| K.cV (cf 36 rfl) [0] (fun β w S2 h => R02_Same_con ((hI0_1.isC 0).larg ⟨_, List.mem_cons_self⟩ h) ((hI1_1.isC 0).larg ⟨_, List.mem_cons_self⟩ h) hx2) (g1 rfl rfl h1) (fun _ => rfl) rfl rfl rfl <| K.pickT g0 rfl (h1) rfl rfl <| K.as rfl rfl <| K.nil <| At.next <| G.ret <| At.dr Y [4] rfl rfl (by cases H0; rfl) (by cases H0; rfl) rfl rfl rfl
 ·
  replace H0 := bif_f H0 h1
  exact G.rg <| K.fieldAddr Y g0 rfl t56 rfl rfl <| K.load1 Y g0 rfl rfl t33 rfl rfl <| K.fieldAddr Y g0 rfl t56 rfl rfl <| K.load1 Y g0 rfl rfl t33 rfl rfl <| K.cV (cf 36 rfl) [0] (fun β w S2 h => R02_Same_con ((hI0_0.isC 0).larg ⟨_, List.mem_cons_self⟩ h) ((hI1_0.isC 0).larg ⟨_, List.mem_cons_self⟩ h) hx1) g0 (fun _ => rfl) rfl rfl rfl <| K.mv rfl rfl <| K.sk rfl rfl h1 rfl <| K.sk rfl rfl h1 rfl <| K.sk rfl rfl h1 rfl <| K.sk rfl rfl h1 rfl <| K.sk rfl rfl h1 rfl <| K.pickF g0 rfl (h1) rfl rfl <| K.as rfl rfl <| K.nil <| At.next <| G.ret <| At.dr Y [4] rfl rfl (by cases H0; rfl) (by cases H0; rfl) rfl rfl rfl
theorem R12_Same_con {k : Nat}  {S : Foot} {W0 : World} {s0_0 : Value} {s0_1 : Value} {s1_0 : Value} {s1_1 : Value} {a0 : TChange} {a1 : TChange} {r : Bool} (hL0_0 : LArg S W0 s0_0 eTItem 2 a0.in_) (hL0_1 : LArg S W0 s0_1 eTItem 2 a0.out) (hL1_0 : LArg S W0 s1_0 eTItem 2 a1.in_) (hL1_1 : LArg S W0 s1_1 eTItem 2 a1.out) (H0 : R12_Same.f k a0 a1 = some r) : R12_Same_st S W0 s0_0 s0_1 s1_0 s1_1 r :=
 SCon.ren (rn []) (R12_Same_con0 (k := k)  hL0_0 hL0_1 hL1_0 hL1_1 H0) ⟨(fun _ => rfl), trivial⟩ ⟨(fun _ => rfl), trivial⟩ (by simp) (by simp)
abbrev R12_Without_st (S : Foot) (W0 : World) (s0 : Value) (a1 : Int) (r : List TOp) (m30 : Nat) : Prop := SCon Tryz.prog 40 [SV.raw s0, .a (.c (.v (.int .i64 a1)))] [(0, rd S W0)] (.a (.c (.nv m30))) [(0, rd S W0), (m30, lrow m30 42 eTOp 4 r)] [m30]
theorem R12_Without_con0 {k : Nat}  {S : Foot} {W0 : World} {s0 : Value} {l0 : List TOp} {a1 : Int} {r : List TOp} (hL0 : LArg S W0 s0 eTOp 4 l0) (H0 : R12_Without.f k l0 a1 = some r) : R12_Without_st S W0 s0 a1 r 30 := by
 rw [R12_Without.f] at H0
 obtain ⟨b0, o0, hI0⟩ := hL0
 refine spec_of [(0, _), (1, _)] [(0, _)] 17 Tryz.func40 rfl Tryz.ntmps40 rfl rfl rfl rfl (fun β W F => ?_)
 refine G.seq <| G.rg <| K.nilRow 100 42 eTOp 4 (.inl rfl) g0 rfl rfl rfl <| K.nil <| At.nr <| K.nilRow 101 42 eTOp 4 (.inl rfl) g0 rfl rfl rfl <| K.nil <| At.ns ?_
 obtain ⟨h1, H0⟩ := grd H0
 obtain ⟨h3, H0⟩ := grd H0
 refine G.rg <| K.mv rfl rfl <| K.mv rfl rfl <| K.mv rfl rfl <| K.partR 0 ((a1).toNat) hI0 g0 rfl .no (.at_ rfl h1.1 rfl) Tryz.underlying26 el26.size_run (Nat.zero_le _) (tn_len h1.2) rfl <| K.appendL 102 (rV 0 S W0 (partOf 0 ((a1).toNat) 4 s0) _ _ eTOp 4 ((l0.drop 0).take (((a1).toNat) - 0))) _ el26 ((hI0.part (Nat.zero_le _) (tn_len h1.2)).is 0) eTOp_one g0 rfl rfl rfl rfl rfl (ap_m h3) (ap_b h3 (by decide)) rfl rfl rfl rfl rfl rfl <| K.as rfl rfl <| K.nil <| At.ns ?_
 obtain ⟨h4, H0⟩ := grd H0
 obtain ⟨h6, H0⟩ := grd H0
 exact G.rg <| K.mv rfl rfl <| K.mv rfl rfl <| K.mv rfl rfl <| K.bin (V := .int .i64 (w64 (a1 + 1))) g0 rfl rfl (fun _ => rfl) rfl <| K.partR (((w64 (a1 + 1))).toNat) l0.length hI0 g0 rfl (.at_ rfl h4.1 rfl) .no Tryz.underlying26 el26.size_run (tn_len h4.2) (Nat.le_refl _) rfl <| K.appendL 103 (rV 0 S W0 (partOf (((w64 (a1 + 1))).toNat) l0.length 4 s0) _ _ eTOp 4 ((l0.drop (((w64 (a1 + 1))).toNat)).take (l0.length - (((w64 (a1 + 1))).toNat)))) _ el26 ((hI0.part (tn_len h4.2) (Nat.le_refl _)).is 0) eTOp_one g0 rfl rfl rfl rfl rfl (ap_m h6) (ap_b h6 (by decide)) rfl rfl rfl rfl rfl rfl <| K.as rfl rfl <| K.nil <| At.next <| G.ret <| At.ren (fs' := [(4, .a (.c (.nv 30)))]) (tl := [(0, rd S W0), (30, lrow 30 42 eTOp 4 ((([] : List TOp) ++ ((l0.drop 0).take (((a1).toNat) - 0))) ++ ((l0.drop (((w64 (a1 + 1))).toNat)).take (l0.length - (((w64 (a1 + 1))).toNat)))))]) [(30, 103)] [_, _] rfl ⟨rfl, trivial⟩ ⟨rfl, (fun _ => rfl), rfl, (lrow_ren rfl), trivial⟩ rfl <| At.dr Y [4] rfl rfl (by cases H0; rfl) (by cases H0; rfl) rfl rfl rfl
theorem R12_Without_con {k : Nat}  {S : Foot} {W0 : World} {s0 : Value} {l0 : List TOp} {a1 : Int} {r : List TOp} (hL0 : LArg S W0 s0 eTOp 4 l0) (H0 : R12_Without.f k l0 a1 = some r) (m30 : Nat) (hd : ndB [m30] = true) : R12_Without_st S W0 s0 a1 r m30 :=
 SCon.ren (rn [(30, m30)]) (R12_Without_con0 (k := k)  hL0 H0) ⟨(fun _ => rfl), trivial⟩ ⟨(fun _ => rfl), (lrow_ren rfl), trivial⟩ (rn_nd hd rfl rfl) (rn_ks hd rfl rfl rfl)
abbrev R12_Has_st (S : Foot) (W0 : World) (s0 : Value) (a1 : TItem) (r : Bool) : Prop := SCon Tryz.prog 55 [SV.raw s0, .a (.agg ((eTItem a1).map .v))] [(0, rd S W0)] (.a (.c (.v (.bool r)))) [(0, rd S W0)] []
theorem R12_Has_con0 {k : Nat}  {S : Foot} {W0 : World} {s0 : Value} {l0 : List TOp} {a1 : TItem} {r : Bool} (hL0 : LArg S W0 s0 eTOp 4 l0) (H0 : R12_Has.f k l0 a1 = some r) : R12_Has_st S W0 s0 a1 r := by
 rw [R12_Has.f] at H0
 obtain ⟨b0, o0, hI0⟩ := hL0
 refine spec_of [(0, _), (1, _)] [(0, _)] 26 Tryz.func55 rfl Tryz.ntmps55 rfl rfl rfl rfl (fun β W F => ?_)
 refine G.seq <| G.rg <| K.box Y 100 _ g0 rfl rfl rfl rfl rfl rfl <| K.as rfl rfl <| K.nil <| At.next ?_
 obtain ⟨x1, H1, H0⟩ := bnd H0
 refine G.sJ (σ := { v : Unit // x1 = Sum.inr v }) (fun q => []) (fun q => [(0, rd S W0)]) ?_ ?_
 ·
  refine G.seq <| G.rg <| K.as rfl rfl <| K.nil <| At.next <| G.block <| G.lp (σ := { q : Nat × (Int) // R12_Has.l0 k l0 a1 q.1 q.2 = some x1 }) (fun q => [(0, SV.raw s0), (3, .a (.c (.p 103 0))), (5, .a (.c (.v (.int .i64 q.1.2))))]) (fun q => [(0, rd S W0), (103, blk 103 [.v (.int .i64 a1.key), .v (.int .i64 a1.id)] 30)]) (fun q => q.1.1) ⟨(k, 0), H1⟩ ?_ ?_
  · exact At.into [(103, 100)] [_, _] rfl ⟨rfl, rfl, rfl, trivial⟩ ⟨rfl, (fun _ => rfl), rfl, (blk_ren rfl rfl), trivial⟩ rfl
  ·
   rintro ⟨⟨n0, v1⟩, H1⟩
   show G _ _ [(0, SV.raw s0), (3, .a (.c (.p 103 0))), (5, .a (.c (.v (.int .i64 v1))))] [(0, some (rd S W0)), (103, some (blk 103 [.v (.int .i64 a1.key), .v (.int .i64 a1.id)] 30))] _ _
   cases n0 with
   | zero => exact absurd H1 (by simp [R12_Has.l0])
   | succ n0 =>
    have HL0 := H1
    rw [R12_Has.l0] at H1
    refine G.seq <| G.seq <| G.rg <| K.mv rfl rfl <| K.mv rfl rfl <| K.lenL (rV 0 S W0 s0 b0 o0 eTOp 4 l0) (hI0.is 0) g0 rfl rfl Tryz.underlying26 rfl <| K.bin (V := .bool (decide (v1 < (l0.length : Int)))) g0 rfl rfl (fun _ => rfl) rfl <| K.nil <| At.next <| G.cond rfl (fun h1 => ?_) (fun h1 => ?_)
    ·
     replace H1 := bif_t H1 h1
     refine G.skip <| At.ns <| G.block <| G.seq ?_
     obtain ⟨x2, hx2, H1⟩ := bnd H1
     rcases Bool.eq_false_or_eq_true x2.insert with h2 | h2
     ·
      replace H1 := bif_t H1 h2
      refine G.rd mixed <| K.mv rfl rfl <| K.mv rfl rfl <| K.idxL (rV 0 S W0 s0 b0 o0 eTOp 4 l0) ((v1).toNat) (hI0.is 0) (atL_get hx2) (atL_nn hx2) g0 rfl rfl rfl Tryz.underlying26 el26.size_run rfl <| K.fieldL Y (rV 0 S W0 s0 b0 o0 eTOp 4 l0) ((v1).toNat) 0 1 (hI0.is 0) (atL_get hx2) g0 rfl rfl t42 rfl rfl rfl rfl <| K.load1L Y (rV 0 S W0 s0 b0 o0 eTOp 4 l0) ((v1).toNat) 1 (hI0.is 0) (atL_get hx2) g0 rfl rfl t4 rfl rfl <| K.mv rfl rfl <| K.move (.inl rfl) (g1 rfl rfl h2) rfl rfl <| K.move (.inl rfl) (g1 rfl rfl h2) rfl rfl <| K.idxL (rV 0 S W0 s0 b0 o0 eTOp 4 l0) ((v1).toNat) (hI0.is 0) (atL_get hx2) (atL_nn hx2) (g1 rfl rfl h2) rfl rfl rfl Tryz.underlying26 el26.size_run rfl <| K.fieldL Y (rV 0 S W0 s0 b0 o0 eTOp 4 l0) ((v1).toNat) 0 2 (hI0.is 0) (atL_get hx2) (g1 rfl rfl h2) rfl rfl t42 rfl rfl rfl rfl <| K.loadSL Y (rV 0 S W0 s0 b0 o0 eTOp 4 l0) ((v1).toNat) 2 [_, _] [_, _] (hI0.is 0) (atL_get hx2) (g1 rfl rfl h2) rfl rfl t30 rfl rfl rfl rfl rfl <| K.loadS Y _ (g1 rfl rfl h2) rfl rfl t30 rfl rfl rfl <| K.eqS [_, _] [_, _] (g1 rfl rfl h2) rfl rfl cmp30 rfl (.inl rfl) ((x2.item.key == a1.key) && ((x2.item.id == a1.id) && true)) rfl rfl <| K.pickT g0 rfl (h2) rfl rfl <| K.nil <| And.intro (by kernel_rfl) <| At.next <| G.cond rfl (fun h3 => ?_) (fun h3 => ?_)
      ·
       replace H1 := bif_t H1 h3
       refine G.seq <| G.rg <| K.as rfl rfl <| K.nil <| At.next <| G.ret <| At.block_ret <| At.over_ret <| At.over_ret <| At.block_ret <| At.over_ret ?_
       cases H1
       replace H0 := sum_l H0
       exact At.dr Y [4] rfl rfl (by cases H0; rfl) (by cases H0; rfl) rfl rfl rfl
      ·
       replace H1 := bif_f H1 h3
       exact G.skip <| At.block_normal <| At.next <| G.rg <| K.mv rfl rfl <| K.bin (V := .int .i64 (w64 (v1 + 1))) g0 rfl rfl (fun _ => rfl) rfl <| K.as rfl rfl <| K.nil <| At.ag ⟨(n0, (w64 (v1 + 1))), H1⟩ [] [_, _] (Nat.lt_succ_self _) rfl ⟨rfl, rfl, rfl, trivial⟩ ⟨rfl, (fun _ => rfl), rfl, (blk_ren rfl rfl), trivial⟩ rfl
     ·
      replace H1 := bif_f H1 h2
      refine G.rd mixed <| K.mv rfl rfl <| K.mv rfl rfl <| K.idxL (rV 0 S W0 s0 b0 o0 eTOp 4 l0) ((v1).toNat) (hI0.is 0) (atL_get hx2) (atL_nn hx2) g0 rfl rfl rfl Tryz.underlying26 el26.size_run rfl <| K.fieldL Y (rV 0 S W0 s0 b0 o0 eTOp 4 l0) ((v1).toNat) 0 1 (hI0.is 0) (atL_get hx2) g0 rfl rfl t42 rfl rfl rfl rfl <| K.load1L Y (rV 0 S W0 s0 b0 o0 eTOp 4 l0) ((v1).toNat) 1 (hI0.is 0) (atL_get hx2) g0 rfl rfl t4 rfl rfl <| K.mv rfl rfl <| K.sk rfl rfl h2 rfl <| K.sk rfl rfl h2 rfl <| K.sk rfl rfl h2 rfl <| K.sk rfl rfl h2 rfl <| K.sk rfl rfl h2 rfl <| K.sk rfl rfl h2 rfl <| K.sk rfl rfl h2 rfl <| K.pickF g0 rfl (h2) rfl rfl <| K.nil <| And.intro (by kernel_rfl) <| At.next <| G.cond rfl (fun h4 => ?_) (fun h4 => ?_)
      · cases h4
      ·
       exact G.skip <| At.block_normal <| At.next <| G.rg <| K.mv rfl rfl <| K.bin (V := .int .i64 (w64 (v1 + 1))) g0 rfl rfl (fun _ => rfl) rfl <| K.as rfl rfl <| K.nil <| At.ag ⟨(n0, (w64 (v1 + 1))), H1⟩ [] [_, _] (Nat.lt_succ_self _) rfl ⟨rfl, rfl, rfl, trivial⟩ ⟨rfl, (fun _ => rfl), rfl, (blk_ren rfl rfl), trivial⟩ rfl
    ·
     replace H1 := bif_f H1 h1
     exact G.exit <| At.over_exit <| At.over_exit <| At.block_hit <| At.jd ⟨(), oi H1⟩ [] [_] rfl trivial ⟨rfl, (fun _ => rfl), trivial⟩ rfl
 ·
  rintro ⟨v1, rfl⟩
  replace H0 := sum_r H0
  show G _ _ [] [(0, some (rd S W0))] _ _
  exact G.seq <| G.rg <| K.as rfl rfl <| K.nil <| At.next <| G.ret <| At.dr Y [4] rfl rfl (by cases H0; rfl) (by cases H0; rfl) rfl rfl rfl
theorem R12_Has_con {k : Nat}  {S : Foot} {W0 : World} {s0 : Value} {l0 : List TOp} {a1 : TItem} {r : Bool} (hL0 : LArg S W0 s0 eTOp 4 l0) (H0 : R12_Has.f k l0 a1 = some r) : R12_Has_st S W0 s0 a1 r :=
 SCon.ren (rn []) (R12_Has_con0 (k := k)  hL0 H0) ⟨(fun _ => rfl), trivial⟩ ⟨(fun _ => rfl), trivial⟩ (by simp) (by simp)
abbrev R12_Add_st (S : Foot) (W0 : World) (s0 : Value) (a1 : TOp) (r : List TOp) (m30 : Nat) : Prop := SCon Tryz.prog 56 [SV.raw s0, .a (.agg ((eTOp a1).map .v))] [(0, rd S W0)] (.a (.c (.nv m30))) [(0, rd S W0), (m30, lrow m30 42 eTOp 4 r)] [m30]
theorem R12_Add_con0 {k : Nat}  {S : Foot} {W0 : World} {s0 : Value} {l0 : List TOp} {a1 : TOp} {r : List TOp} (hL0 : LArg S W0 s0 eTOp 4 l0) (H0 : R12_Add.f k l0 a1 = some r) : R12_Add_st S W0 s0 a1 r 30 := by
 rw [R12_Add.f] at H0
 obtain ⟨b0, o0, hI0⟩ := hL0
 refine spec_of [(0, _), (1, _)] [(0, _)] 37 Tryz.func56 rfl Tryz.ntmps56 rfl rfl rfl rfl (fun β W F => ?_)
 refine G.seq <| G.rg <| K.box Y 100 _ g0 rfl rfl rfl rfl rfl rfl <| K.nilRow 101 42 eTOp 4 (.inl rfl) g0 rfl rfl rfl <| K.nil <| At.nr <| K.as rfl rfl <| K.nil <| At.next ?_
 obtain ⟨x1, H1, H0⟩ := bnd H0
 refine G.sJ (σ := { v : Int // x1 = v }) (fun q => [(0, SV.raw s0), (3, .a (.c (.p 102 0))), (5, .a (.c (.v (.int .i64 q.1))))]) (fun q => [(0, rd S W0), (102, blk 102 [.v (.int .i64 a1.time), .v (.bool a1.insert), .v (.int .i64 a1.item.key), .v (.int .i64 a1.item.id)] 42)]) ?_ ?_
 ·
  refine G.block <| G.lp (σ := { q : Nat × (Int) // R12_Add.l0 k l0 a1 q.1 q.2 = some x1 }) (fun q => [(0, SV.raw s0), (3, .a (.c (.p 105 0))), (5, .a (.c (.v (.int .i64 q.1.2))))]) (fun q => [(0, rd S W0), (105, blk 105 [.v (.int .i64 a1.time), .v (.bool a1.insert), .v (.int .i64 a1.item.key), .v (.int .i64 a1.item.id)] 42)]) (fun q => q.1.1) ⟨(k, 0), H1⟩ ?_ ?_
  · exact At.into [(105, 100)] [_, _] rfl ⟨rfl, rfl, rfl, trivial⟩ ⟨rfl, (fun _ => rfl), rfl, (blk_ren rfl rfl), trivial⟩ rfl
  ·
   rintro ⟨⟨n0, v1⟩, H1⟩
   show G _ _ [(0, SV.raw s0), (3, .a (.c (.p 105 0))), (5, .a (.c (.v (.int .i64 v1))))] [(0, some (rd S W0)), (105, some (blk 105 [.v (.int .i64 a1.time), .v (.bool a1.insert), .v (.int .i64 a1.item.key), .v (.int .i64 a1.item.id)] 42))] _ _
   cases n0 with
   | zero => exact absurd H1 (by simp [R12_Add.l0])
   | succ n0 =>
    have HL0 := H1
    rw [R12_Add.l0] at H1
    refine G.seq <| G.seq ?_
    rcases Bool.eq_false_or_eq_true (decide (v1 < (l0.length : Int))) with h1 | h1
    ·
     replace H1 := bif_t H1 h1
     obtain ⟨x2, hx2, H1⟩ := bnd H1
     refine G.rd mixed <| K.mv rfl rfl <| K.mv rfl rfl <| K.lenL (rV 0 S W0 s0 b0 o0 eTOp 4 l0) (hI0.is 0) g0 rfl rfl Tryz.underlying26 rfl <| K.bin (V := .bool (decide (v1 < (l0.length : Int)))) g0 rfl rfl (fun _ => rfl) rfl <| K.mv rfl rfl <| K.move (.inl rfl) (g1 rfl rfl h1) rfl rfl <| K.move (.inl rfl) (g1 rfl rfl h1) rfl rfl <| K.idxL (rV 0 S W0 s0 b0 o0 eTOp 4 l0) ((v1).toNat) (hI0.is 0) (atL_get hx2) (atL_nn hx2) (g1 rfl rfl h1) rfl rfl rfl Tryz.underlying26 el26.size_run rfl <| K.fieldL Y (rV 0 S W0 s0 b0 o0 eTOp 4 l0) ((v1).toNat) 0 0 (hI0.is 0) (atL_get hx2) (g1 rfl rfl h1) rfl rfl t42 rfl rfl rfl rfl <| K.load1L Y (rV 0 S W0 s0 b0 o0 eTOp 4 l0) ((v1).toNat) 0 (hI0.is 0) (atL_get hx2) (g1 rfl rfl h1) rfl rfl t3 rfl rfl <| K.fieldAddr Y (g1 rfl rfl h1) rfl t42 rfl rfl <| K.load1 Y (g1 rfl rfl h1) rfl rfl t3 rfl rfl <| K.bin (V := .bool (decide (x2.time < a1.time))) (g1 rfl rfl h1) rfl rfl (fun _ => rfl) rfl <| K.pickT g0 rfl (h1) rfl rfl <| K.nil <| And.intro (by kernel_rfl) <| At.next <| G.cond rfl (fun h2 => ?_) (fun h2 => ?_)
     ·
      replace H1 := bif_t H1 h2
      exact G.skip <| At.next <| G.block <| G.rg <| K.mv rfl rfl <| K.bin (V := .int .i64 (w64 (v1 + 1))) g0 rfl rfl (fun _ => rfl) rfl <| K.as rfl rfl <| K.nil <| At.block_normal <| At.ag ⟨(n0, (w64 (v1 + 1))), H1⟩ [] [_, _] (Nat.lt_succ_self _) rfl ⟨rfl, rfl, rfl, trivial⟩ ⟨rfl, (fun _ => rfl), rfl, (blk_ren rfl rfl), trivial⟩ rfl
     ·
      replace H1 := bif_f H1 h2
      exact G.exit <| At.over_exit <| At.over_exit <| At.block_hit <| At.jd ⟨v1, oi H1⟩ [(102, 105)] [_, _] rfl ⟨rfl, rfl, rfl, trivial⟩ ⟨rfl, (fun _ => rfl), rfl, (blk_ren rfl rfl), trivial⟩ rfl
    ·
     replace H1 := bif_f H1 h1
     refine G.rd mixed <| K.mv rfl rfl <| K.mv rfl rfl <| K.lenL (rV 0 S W0 s0 b0 o0 eTOp 4 l0) (hI0.is 0) g0 rfl rfl Tryz.underlying26 rfl <| K.bin (V := .bool (decide (v1 < (l0.length : Int)))) g0 rfl rfl (fun _ => rfl) rfl <| K.mv rfl rfl <| K.sk rfl rfl h1 rfl <| K.sk rfl rfl h1 rfl <| K.sk rfl rfl h1 rfl <| K.sk rfl rfl h1 rfl <| K.sk rfl rfl h1 rfl <| K.sk rfl rfl h1 rfl <| K.sk rfl rfl h1 rfl <| K.sk rfl rfl h1 rfl <| K.pickF g0 rfl (h1) rfl rfl <| K.nil <| And.intro (by kernel_rfl) <| At.next <| G.cond rfl (fun h3 => ?_) (fun h3 => ?_)
     · cases h3
     ·
      exact G.exit <| At.over_exit <| At.over_exit <| At.block_hit <| At.jd ⟨v1, oi H1⟩ [(102, 105)] [_, _] rfl ⟨rfl, rfl, rfl, trivial⟩ ⟨rfl, (fun _ => rfl), rfl, (blk_ren rfl rfl), trivial⟩ rfl
 ·
  rintro ⟨_, rfl⟩
  show G _ _ [(0, SV.raw s0), (3, .a (.c (.p 102 0))), (5, .a (.c (.v (.int .i64 x1))))] [(0, some (rd S W0)), (102, some (blk 102 [.v (.int .i64 a1.time), .v (.bool a1.insert), .v (.int .i64 a1.item.key), .v (.int .i64 a1.item.id)] 42))] _ _
  refine G.seq <| G.rg <| K.nilRow 106 42 eTOp 4 (.inl rfl) g0 rfl rfl rfl <| K.nil <| At.ns ?_
  obtain ⟨h4, H0⟩ := grd H0
  obtain ⟨h6, H0⟩ := grd H0
  refine G.rg <| K.mv rfl rfl <| K.mv rfl rfl <| K.mv rfl rfl <| K.partR 0 ((x1).toNat) hI0 g0 rfl .no (.at_ rfl h4.1 rfl) Tryz.underlying26 el26.size_run (Nat.zero_le _) (tn_len h4.2) rfl <| K.appendL 107 (rV 0 S W0 (partOf 0 ((x1).toNat) 4 s0) _ _ eTOp 4 ((l0.drop 0).take (((x1).toNat) - 0))) _ el26 ((hI0.part (Nat.zero_le _) (tn_len h4.2)).is 0) eTOp_one g0 rfl rfl rfl rfl rfl (ap_m h6) (ap_b h6 (by decide)) rfl rfl rfl rfl rfl rfl <| K.as rfl rfl <| K.nil <| At.ns ?_
  obtain ⟨h7, H0⟩ := grd H0
  refine G.rg <| K.mv rfl rfl <| K.loadS Y _ g0 rfl rfl t42 rfl rfl rfl <| K.buildL Y 108 ([a1] : List TOp) [(0, _)] [((.tmp 29), _)] eTOp_len g0 (AllE.spec ⟨rfl, trivial⟩) rfl rfl Tryz.underlying26 t42 rfl rfl rfl rfl rfl rfl rfl rfl <| K.appendL 109 (lrowV 108 42 eTOp 4 ([a1] : List TOp)) _ el26 (lrowV_is eTOp_len (by decide)) eTOp_one g0 rfl rfl rfl rfl rfl (ap_m h7) (ap_b h7 (by decide)) rfl rfl rfl rfl rfl rfl <| K.as rfl rfl <| K.nil <| At.ns ?_
  obtain ⟨h8, H0⟩ := grd H0
  obtain ⟨h10, H0⟩ := grd H0
  exact G.rg <| K.mv rfl rfl <| K.mv rfl rfl <| K.mv rfl rfl <| K.partR ((x1).toNat) l0.length hI0 g0 rfl (.at_ rfl h8.1 rfl) .no Tryz.underlying26 el26.size_run (tn_len h8.2) (Nat.le_refl _) rfl <| K.appendL 110 (rV 0 S W0 (partOf ((x1).toNat) l0.length 4 s0) _ _ eTOp 4 ((l0.drop ((x1).toNat)).take (l0.length - ((x1).toNat)))) _ el26 ((hI0.part (tn_len h8.2) (Nat.le_refl _)).is 0) eTOp_one g0 rfl rfl rfl rfl rfl (ap_m h10) (ap_b h10 (by decide)) rfl rfl rfl rfl rfl rfl <| K.as rfl rfl <| K.nil <| At.next <| G.ret <| At.ren (fs' := [(4, .a (.c (.nv 30)))]) (tl := [(0, rd S W0), (30, lrow 30 42 eTOp 4 (((([] : List TOp) ++ ((l0.drop 0).take (((x1).toNat) - 0))) ++ ([a1] : List TOp)) ++ ((l0.drop ((x1).toNat)).take (l0.length - ((x1).toNat)))))]) [(30, 110)] [_, _] rfl ⟨rfl, trivial⟩ ⟨rfl, (fun _ => rfl), rfl, (lrow_ren rfl), trivial⟩ rfl <| At.dr Y [4] rfl rfl (by cases H0; rfl) (by cases H0; rfl) rfl rfl rfl
theorem R12_Add_con {k : Nat}  {S : Foot} {W0 : World} {s0 : Value} {l0 : List TOp} {a1 : TOp} {r : List TOp} (hL0 : LArg S W0 s0 eTOp 4 l0) (H0 : R12_Add.f k l0 a1 = some r) (m30 : Nat) (hd : ndB [m30] = true) : R12_Add_st S W0 s0 a1 r m30 :=
 SCon.ren (rn [(30, m30)]) (R12_Add_con0 (k := k)  hL0 H0) ⟨(fun _ => rfl), trivial⟩ ⟨(fun _ => rfl), (lrow_ren rfl), trivial⟩ (rn_nd hd rfl rfl) (rn_ks hd rfl rfl rfl)
abbrev Lw12_do_o1_st (q0 : TQueue) (l1 : List TOp) (a2 : Int) (a3 : TL12Act) (r : List TOp × Bool × TQueue) (m0 : Nat) (m1 : Nat) (m2 : Nat) (m3 : Nat) (m4 : Nat) (m5 : Nat) (m6 : Nat) (m7 : Nat) (m8 : Nat) (m9 : Nat) (m30 : Nat) : Prop := SCon Tryz.prog 16 [SV.p m0 0, .a (.c (.nv m9)), .a (.c (.v (.int .i64 a2))), .a (.agg ((eTL12Act a3).map .v))] (tkQueue m0 m1 m2 m3 m4 m5 m6 m7 m8 q0 [(m9, lrow m9 42 eTOp 4 l1)]) (.tup [.c (.nv m30), .c (.v (.bool r.2.1))]) (tkQueue m0 m1 m2 m3 m4 m5 m6 m7 m8 r.2.2 [(m30, lrow m30 42 eTOp 4 r.1)]) [m30]
set_option maxHeartbeats 4000000 in
theorem Lw12_do_o1_con0 {k : Nat}  {q0 : TQueue} {l1 : List TOp} {a2 : Int} {a3 : TL12Act} {r : List TOp × Bool × TQueue}  (H0 : Lw12_do.f k q0 l1 a2 a3 = some r) : Lw12_do_o1_st q0 l1 a2 a3 r 0 1 2 3 4 5 6 7 8 9 30 := by
 rw [Lw12_do.f] at H0
 refine spec_of [(0, _), (1, _), (2, _), (3, _)] [(0, _), (1, _), (2, _), (3, _), (4, _), (5, _), (6, _), (7, _), (8, _), (9, _)] 122 Tryz.func16 rfl Tryz.ntmps16 rfl rfl rfl rfl (fun β W F => ?_)
 refine G.seq <| G.rg <| K.box Y 100 _ g0 rfl rfl rfl rfl rfl rfl <| K.nilRow 101 42 eTOp 4 (.inl rfl) g0 rfl rfl rfl <| K.as rfl rfl <| K.nil <| At.ns ?_
 obtain ⟨x1, hx1, H0⟩ := bnd H0
 refine G.rg <| K.loadS Y _ g0 rfl rfl t32 rfl rfl rfl <| K.mv rfl rfl <| K.cV (cf 21 rfl) [9] (fun β w S2 h => Lw12_Act_time_con (la 0 rfl eTOp_len rfl h) hx1) g0 (fun _ => rfl) rfl rfl rfl <| K.as rfl rfl <| K.nil <| At.ns ?_
 obtain ⟨x2, hx2, H0⟩ := bnd H0
 refine G.rg <| K.mv rfl rfl <| K.mv rfl rfl <| K.cV (cf 54 rfl) [9] (fun β w S2 h => R12_At_con (la 0 rfl eTOp_len rfl h) hx2) g0 (fun _ => rfl) rfl rfl rfl <| K.as rfl rfl <| K.nil <| At.nr <| K.alloc Y 102 _ g0 t56 rfl rfl rfl rfl rfl <| K.nil <| At.nilBlk (n := 102) (l' := [_, _]) 0 103 30 eTItem 2 rfl rfl rfl rfl rfl <| At.nilBlk (n := 102) (l' := [_, _]) 1 104 30 eTItem 2 rfl rfl rfl rfl rfl <| At.nr <| K.as rfl rfl <| K.as rfl rfl <| K.nil <| At.nr <| K.mv rfl rfl <| K.as rfl rfl <| K.nil <| At.ns ?_
 obtain ⟨x3, hx3, H0⟩ := bnd H0
 refine G.rg <| K.fieldAddr Y g0 rfl t32 rfl rfl <| K.load1 Y g0 rfl rfl t3 rfl rfl <| K.cR (cf 22 rfl) (R01_Rest_con hx3) g0 rfl rfl rfl rfl <| K.as rfl rfl <| K.nil <| At.ns <| G.block <| G.seq <| G.rg <| K.mv rfl rfl <| K.bin (V := .bool (x3 == 2)) g0 rfl rfl (fun _ => rfl) rfl <| K.as rfl rfl <| K.nil <| At.next <| G.cond rfl (fun h1 => ?_) (fun h1 => ?_)
 ·
  replace H0 := bif_t H0 h1
  refine G.seq ?_
  obtain ⟨x4, hx4, H0⟩ := bnd H0
  refine G.rg <| K.mv rfl rfl <| K.mv rfl rfl <| K.c0 (cf 25 rfl) (partial_Queue_Revoke_con hx4 0 1 2 3 4 5 6 7 8 105 106 rfl) g0 rfl rfl rfl rfl <| K.mv rfl rfl <| K.extract g0 rfl rfl rfl <| K.extract g0 rfl rfl rfl <| K.store Y _ g0 rfl rfl rfl t56 rfl rfl rfl rfl rfl <| K.as rfl rfl <| K.nil <| At.nr <| K.mv rfl rfl <| K.bin (V := .bool (decide (x2 < 0))) g0 rfl rfl (fun _ => rfl) rfl <| K.nil <| At.next <| G.cond rfl (fun h2 => ?_) (fun h2 => ?_)
  ·
   replace H0 := bif_t H0 h2
   refine G.rg <| K.as rfl rfl <| K.nil <| At.block_normal <| At.ns <| G.seq <| G.rg <| K.mv rfl rfl <| K.bin (V := .bool (decide (x3 < 2))) g0 rfl rfl (fun _ => rfl) rfl <| K.nil <| At.next <| G.cond rfl (fun h3 => ?_) (fun h3 => ?_)
   · exact absurd h3 (by rw [kn_lt (kn_of h1) rfl]; simp)
   ·
    refine G.skip <| At.ns ?_
    obtain ⟨x5, hx5, H0⟩ := bnd H0
    refine G.rg <| K.mv rfl rfl <| K.cV (cf 17 rfl) [9] (fun β w S2 h => R12_Run_con (la 0 rfl eTOp_len rfl h) hx5 107 108 109 rfl) g0 (fun _ => rfl) rfl rfl rfl <| K.mv rfl rfl <| K.extract g0 rfl rfl rfl <| K.extract g0 rfl rfl rfl <| K.extract g0 rfl rfl rfl <| K.extract g0 rfl rfl rfl <| K.as rfl rfl <| K.as rfl rfl <| K.as rfl rfl <| K.as rfl rfl <| K.nil <| At.ns ?_
    obtain ⟨x6, hx6, H0⟩ := bnd H0
    refine G.rg <| K.mv rfl rfl <| K.cV (cf 17 rfl) [9] (fun β w S2 h => R12_Run_con (la 0 rfl eTOp_len rfl h) hx6 110 111 112 rfl) g0 (fun _ => rfl) rfl rfl rfl <| K.mv rfl rfl <| K.extract g0 rfl rfl rfl <| K.extract g0 rfl rfl rfl <| K.extract g0 rfl rfl rfl <| K.extract g0 rfl rfl rfl <| K.as rfl rfl <| K.as rfl rfl <| K.as rfl rfl <| K.as rfl rfl <| K.nil <| At.ns ?_
    rcases Bool.eq_false_or_eq_true (x4.2.1 == 14) with h4 | h4
    ·
     replace H0 := bif_t H0 h4
     obtain ⟨x7, hx7, H0⟩ := bnd H0
     obtain ⟨x8, hx8, H0⟩ := bnd H0
     exact G.rd mixed <| K.mv rfl rfl <| K.mv rfl rfl <| K.mv rfl rfl <| K.bin (V := .bool (x4.2.1 == 14)) g0 rfl rfl (fun _ => rfl) rfl <| K.mv rfl rfl <| K.loadS Y _ (g1 rfl rfl h4) rfl rfl t56 rfl rfl rfl <| K.move (.inl rfl) (g1 rfl rfl h4) rfl rfl <| K.move (.inl rfl) (g1 rfl rfl h4) rfl rfl <| K.cV (cf 58 rfl) [107, 110] (fun β w S2 h => R12_Change_con (la 0 rfl eTItem_len rfl h) (la 1 rfl eTItem_len rfl h) hx7 113 114 rfl) (g1 rfl rfl h4) (fun _ => rfl) rfl rfl rfl <| K.cV (cf 57 rfl) [105, 106, 113, 114] (fun β w S2 h => R12_Same_con (a0 := x4.1) (a1 := x7) (la 0 rfl eTItem_len rfl h) (la 1 rfl eTItem_len rfl h) (la 2 rfl eTItem_len rfl h) (la 3 rfl eTItem_len rfl h) hx8) (g1 rfl rfl h4) (fun _ => rfl) rfl rfl rfl <| K.pickT g0 rfl (h4) rfl rfl <| K.as rfl rfl <| K.as rfl rfl <| K.nil <| And.intro (by kernel_rfl) <| At.next <| G.ret <| At.ren (fs' := [(8, .a (.c (.nv 30))), (9, .a (.c (.v (.bool x8))))]) (tl := (tkQueue 0 1 2 3 4 5 6 7 8 x4.2.2 [(30, lrow 30 42 eTOp 4 l1)])) [(30, 9)] [_, _, _, _, _, _, _, _, _, _] rfl ⟨rfl, rfl, trivial⟩ ⟨rfl, (blk_ren rfl rfl), rfl, (blk_ren rfl rfl), rfl, (pl_ren rfl), rfl, (blk_ren rfl rfl), rfl, (pl_ren rfl), rfl, (blk_ren rfl rfl), rfl, (pl_ren rfl), rfl, (blk_ren rfl rfl), rfl, (pl_ren rfl), rfl, (lrow_ren rfl), trivial⟩ rfl <| At.dr Y [8, 9] rfl rfl (by cases H0; rfl) (by cases H0; rfl) rfl rfl rfl
    ·
     replace H0 := bif_f H0 h4
     exact G.rd mixed <| K.mv rfl rfl <| K.mv rfl rfl <| K.mv rfl rfl <| K.bin (V := .bool (x4.2.1 == 14)) g0 rfl rfl (fun _ => rfl) rfl <| K.mv rfl rfl <| K.sk rfl rfl h4 rfl <| K.sk rfl rfl h4 rfl <| K.sk rfl rfl h4 rfl <| K.sk rfl rfl h4 rfl <| K.sk rfl rfl h4 rfl <| K.pickF g0 rfl (h4) rfl rfl <| K.as rfl rfl <| K.as rfl rfl <| K.nil <| And.intro (by kernel_rfl) <| At.next <| G.ret <| At.ren (fs' := [(8, .a (.c (.nv 30))), (9, .a (.c (.v (.bool false))))]) (tl := (tkQueue 0 1 2 3 4 5 6 7 8 x4.2.2 [(30, lrow 30 42 eTOp 4 l1)])) [(30, 9)] [_, _, _, _, _, _, _, _, _, _] rfl ⟨rfl, rfl, trivial⟩ ⟨rfl, (blk_ren rfl rfl), rfl, (blk_ren rfl rfl), rfl, (pl_ren rfl), rfl, (blk_ren rfl rfl), rfl, (pl_ren rfl), rfl, (blk_ren rfl rfl), rfl, (pl_ren rfl), rfl, (blk_ren rfl rfl), rfl, (pl_ren rfl), rfl, (lrow_ren rfl), trivial⟩ rfl <| At.dr Y [8, 9] rfl rfl (by cases H0; rfl) (by cases H0; rfl) rfl rfl rfl
  ·
   replace H0 := bif_f H0 h2
   obtain ⟨x9, hx9, H0⟩ := bnd H0
   refine G.rg <| K.mv rfl rfl <| K.mv rfl rfl <| K.cV (cf 40 rfl) [9] (fun β w S2 h => R12_Without_con (la 0 rfl eTOp_len rfl h) hx9 115 rfl) g0 (fun _ => rfl) rfl rfl rfl <| K.as rfl rfl <| K.nil <| At.block_normal <| At.ns <| G.seq <| G.rg <| K.mv rfl rfl <| K.bin (V := .bool (decide (x3 < 2))) g0 rfl rfl (fun _ => rfl) rfl <| K.nil <| At.next <| G.cond rfl (fun h5 => ?_) (fun h5 => ?_)
   · exact absurd h5 (by rw [kn_lt (kn_of h1) rfl]; simp)
   ·
    refine G.skip <| At.ns ?_
    obtain ⟨x10, hx10, H0⟩ := bnd H0
    refine G.rg <| K.mv rfl rfl <| K.cV (cf 17 rfl) [9] (fun β w S2 h => R12_Run_con (la 0 rfl eTOp_len rfl h) hx10 116 117 118 rfl) g0 (fun _ => rfl) rfl rfl rfl <| K.mv rfl rfl <| K.extract g0 rfl rfl rfl <| K.extract g0 rfl rfl rfl <| K.extract g0 rfl rfl rfl <| K.extract g0 rfl rfl rfl <| K.as rfl rfl <| K.as rfl rfl <| K.as rfl rfl <| K.as rfl rfl <| K.nil <| At.ns ?_
    obtain ⟨x11, hx11, H0⟩ := bnd H0
    refine G.rg <| K.mv rfl rfl <| K.cV (cf 17 rfl) [115] (fun β w S2 h => R12_Run_con (la 0 rfl eTOp_len rfl h) hx11 119 120 121 rfl) g0 (fun _ => rfl) rfl rfl rfl <| K.mv rfl rfl <| K.extract g0 rfl rfl rfl <| K.extract g0 rfl rfl rfl <| K.extract g0 rfl rfl rfl <| K.extract g0 rfl rfl rfl <| K.as rfl rfl <| K.as rfl rfl <| K.as rfl rfl <| K.as rfl rfl <| K.nil <| At.ns ?_
    rcases Bool.eq_false_or_eq_true (x4.2.1 == 0) with h6 | h6
    ·
     replace H0 := bif_t H0 h6
     obtain ⟨x12, hx12, H0⟩ := bnd H0
     obtain ⟨x13, hx13, H0⟩ := bnd H0
     exact G.rd mixed <| K.mv rfl rfl <| K.mv rfl rfl <| K.mv rfl rfl <| K.bin (V := .bool (x4.2.1 == 0)) g0 rfl rfl (fun _ => rfl) rfl <| K.mv rfl rfl <| K.loadS Y _ (g1 rfl rfl h6) rfl rfl t56 rfl rfl rfl <| K.move (.inl rfl) (g1 rfl rfl h6) rfl rfl <| K.move (.inl rfl) (g1 rfl rfl h6) rfl rfl <| K.cV (cf 58 rfl) [116, 119] (fun β w S2 h => R12_Change_con (la 0 rfl eTItem_len rfl h) (la 1 rfl eTItem_len rfl h) hx12 122 123 rfl) (g1 rfl rfl h6) (fun _ => rfl) rfl rfl rfl <| K.cV (cf 57 rfl) [105, 106, 122, 123] (fun β w S2 h => R12_Same_con (a0 := x4.1) (a1 := x12) (la 0 rfl eTItem_len rfl h) (la 1 rfl eTItem_len rfl h) (la 2 rfl eTItem_len rfl h) (la 3 rfl eTItem_len rfl h) hx13) (g1 rfl rfl h6) (fun _ => rfl) rfl rfl rfl <| K.pickT g0 rfl (h6) rfl rfl <| K.as rfl rfl <| K.as rfl rfl <| K.nil <| And.intro (by kernel_rfl) <| At.next <| G.ret <| At.ren (fs' := [(8, .a (.c (.nv 30))), (9, .a (.c (.v (.bool x13))))]) (tl := (tkQueue 0 1 2 3 4 5 6 7 8 x4.2.2 [(30, lrow 30 42 eTOp 4 x9)])) [(30, 115)] [_, _, _, _, _, _, _, _, _, _] rfl ⟨rfl, rfl, trivial⟩ ⟨rfl, (blk_ren rfl rfl), rfl, (blk_ren rfl rfl), rfl, (pl_ren rfl), rfl, (blk_ren rfl rfl), rfl, (pl_ren rfl), rfl, (blk_ren rfl rfl), rfl, (pl_ren rfl), rfl, (blk_ren rfl rfl), rfl, (pl_ren rfl), rfl, (lrow_ren rfl), trivial⟩ rfl <| At.dr Y [8, 9] rfl rfl (by cases H0; rfl) (by cases H0; rfl) rfl rfl rfl
    ·
     replace H0 := bif_f H0 h6
     exact G.rd mixed <| K.mv rfl rfl <| K.mv rfl rfl <| K.mv rfl rfl <| K.bin (V := .bool (x4.2.1 == 0)) g0 rfl rfl (fun _ => rfl) rfl <| K.mv rfl rfl <| K.sk rfl rfl h6 rfl <| K.sk rfl rfl h6 rfl <| K.sk rfl rfl h6 rfl <| K.sk rfl rfl h6 rfl <| K.sk rfl rfl h6 rfl <| K.pickF g0 rfl (h6) rfl rfl <| K.as rfl rfl <| K.as rfl rfl <| K.nil <| And.intro (by kernel_rfl) <| At.next <| G.ret <| At.ren (fs' := [(8, .a (.c (.nv 30))), (9, .a (.c (.v (.bool false))))]) (tl := (tkQueue 0 1 2 3 4 5 6 7 8 x4.2.2 [(30, lrow 30 42 eTOp 4 x9)])) [(30, 115)] [_, _, _, _, _, _, _, _, _, _] rfl ⟨rfl, rfl, trivial⟩ ⟨rfl, (blk_ren rfl rfl), rfl, (blk_ren rfl rfl), rfl, (pl_ren rfl), rfl, (blk_ren rfl rfl), rfl, (pl_ren rfl), rfl, (blk_ren rfl rfl), rfl, (pl_ren rfl), rfl, (blk_ren rfl rfl), rfl, (pl_ren rfl), rfl, (lrow_ren rfl), trivial⟩ rfl <| At.dr Y [8, 9] rfl rfl (by cases H0; rfl) (by cases H0; rfl) rfl rfl rfl
 ·
  replace H0 := bif_f H0 h1
  refine G.seq <| G.rg <| K.mv rfl rfl <| K.bin (V := .bool (x3 == 0)) g0 rfl rfl (fun _ => rfl) rfl <| K.as rfl rfl <| K.nil <| At.next <| G.cond rfl (fun h7 => ?_) (fun h7 => ?_)
  ·
   replace H0 := bif_t H0 h7
   obtain ⟨x14, hx14, H0⟩ := bnd H0
   refine G.rg <| K.mv rfl rfl <| K.mv rfl rfl <| K.fieldAddr Y g0 rfl t32 rfl rfl <| K.loadS Y _ g0 rfl rfl t30 rfl rfl rfl <| K.c0 (cf 23 rfl) (partial_Queue_Insert_con hx14 0 1 2 3 4 5 6 7 8 124 125 rfl) g0 rfl rfl rfl rfl <| K.mv rfl rfl <| K.extract g0 rfl rfl rfl <| K.extract g0 rfl rfl rfl <| K.store Y _ g0 rfl rfl rfl t56 rfl rfl rfl rfl rfl <| K.as rfl rfl <| K.nil <| At.block_normal <| At.ns <| G.seq <| G.rg <| K.mv rfl rfl <| K.bin (V := .bool (decide (x3 < 2))) g0 rfl rfl (fun _ => rfl) rfl <| K.nil <| At.next <| G.cond rfl (fun h8 => ?_) (fun h8 => ?_)
   ·
    refine G.seq <| G.rg <| K.mv rfl rfl <| K.build Y [(0, _)] [_, _, _, _] [((.tmp 72), _)] g0 (AllE.spec ⟨rfl, trivial⟩) rfl rfl t42 rfl rfl <| K.alloc Y 126 _ g0 t42 rfl rfl rfl rfl rfl <| K.store Y _ g0 rfl rfl rfl t42 rfl rfl rfl rfl rfl <| K.nil <| At.ns <| G.seq <| G.rg <| K.mv rfl rfl <| K.bin (V := .bool (x3 == 0)) g0 rfl rfl (fun _ => rfl) rfl <| K.nil <| At.next <| G.cond rfl (fun h9 => ?_) (fun h9 => ?_)
    ·
     refine G.rg <| K.mv rfl rfl <| K.fieldAddr Y g0 rfl t32 rfl rfl <| K.loadS Y _ g0 rfl rfl t30 rfl rfl rfl <| K.build Y [(0, _), (1, _), (2, _)] [_, _, _, _] [((.tmp 76), _), (_, _), ((.tmp 78), _)] g0 (AllE.spec ⟨rfl, rfl, rfl, trivial⟩) rfl rfl t42 rfl rfl <| K.store Y _ g0 rfl rfl rfl t42 rfl rfl rfl rfl rfl <| K.nil <| At.nr <| K.mv rfl rfl <| K.lenL (lrowV 9 42 eTOp 4 l1) (lrowV_is eTOp_len (by decide)) g0 rfl rfl Tryz.underlying26 rfl <| K.mv rfl rfl <| K.bin (V := .bool ((l1.length : Int) == a2)) g0 rfl rfl (fun _ => rfl) rfl <| K.nil <| At.next <| G.cond rfl (fun h10 => ?_) (fun h10 => ?_)
     ·
      replace H0 := bif_t H0 h10
      refine G.rg <| K.as rfl rfl <| K.nil <| At.ns ?_
      obtain ⟨x15, hx15, H0⟩ := bnd H0
      refine G.rg <| K.mv rfl rfl <| K.cV (cf 17 rfl) [9] (fun β w S2 h => R12_Run_con (la 0 rfl eTOp_len rfl h) hx15 127 128 129 rfl) g0 (fun _ => rfl) rfl rfl rfl <| K.mv rfl rfl <| K.extract g0 rfl rfl rfl <| K.extract g0 rfl rfl rfl <| K.extract g0 rfl rfl rfl <| K.extract g0 rfl rfl rfl <| K.as rfl rfl <| K.as rfl rfl <| K.as rfl rfl <| K.as rfl rfl <| K.nil <| At.ns ?_
      obtain ⟨x16, hx16, H0⟩ := bnd H0
      refine G.rg <| K.mv rfl rfl <| K.cV (cf 17 rfl) [9] (fun β w S2 h => R12_Run_con (la 0 rfl eTOp_len rfl h) hx16 130 131 132 rfl) g0 (fun _ => rfl) rfl rfl rfl <| K.mv rfl rfl <| K.extract g0 rfl rfl rfl <| K.extract g0 rfl rfl rfl <| K.extract g0 rfl rfl rfl <| K.extract g0 rfl rfl rfl <| K.as rfl rfl <| K.as rfl rfl <| K.as rfl rfl <| K.as rfl rfl <| K.nil <| At.ns ?_
      rcases Bool.eq_false_or_eq_true (x14.2.1 == 10) with h11 | h11
      ·
       replace H0 := bif_t H0 h11
       obtain ⟨x17, hx17, H0⟩ := bnd H0
       obtain ⟨x18, hx18, H0⟩ := bnd H0
       exact G.rd mixed <| K.mv rfl rfl <| K.mv rfl rfl <| K.mv rfl rfl <| K.bin (V := .bool (x14.2.1 == 10)) g0 rfl rfl (fun _ => rfl) rfl <| K.mv rfl rfl <| K.loadS Y _ (g1 rfl rfl h11) rfl rfl t56 rfl rfl rfl <| K.move (.inl rfl) (g1 rfl rfl h11) rfl rfl <| K.move (.inl rfl) (g1 rfl rfl h11) rfl rfl <| K.cV (cf 58 rfl) [127, 130] (fun β w S2 h => R12_Change_con (la 0 rfl eTItem_len rfl h) (la 1 rfl eTItem_len rfl h) hx17 133 134 rfl) (g1 rfl rfl h11) (fun _ => rfl) rfl rfl rfl <| K.cV (cf 57 rfl) [124, 125, 133, 134] (fun β w S2 h => R12_Same_con (a0 := x14.1) (a1 := x17) (la 0 rfl eTItem_len rfl h) (la 1 rfl eTItem_len rfl h) (la 2 rfl eTItem_len rfl h) (la 3 rfl eTItem_len rfl h) hx18) (g1 rfl rfl h11) (fun _ => rfl) rfl rfl rfl <| K.pickT g0 rfl (h11) rfl rfl <| K.as rfl rfl <| K.as rfl rfl <| K.nil <| And.intro (by kernel_rfl) <| At.next <| G.ret <| At.ren (fs' := [(8, .a (.c (.nv 30))), (9, .a (.c (.v (.bool x18))))]) (tl := (tkQueue 0 1 2 3 4 5 6 7 8 x14.2.2 [(30, lrow 30 42 eTOp 4 l1)])) [(30, 9)] [_, _, _, _, _, _, _, _, _, _] rfl ⟨rfl, rfl, trivial⟩ ⟨rfl, (blk_ren rfl rfl), rfl, (blk_ren rfl rfl), rfl, (pl_ren rfl), rfl, (blk_ren rfl rfl), rfl, (pl_ren rfl), rfl, (blk_ren rfl rfl), rfl, (pl_ren rfl), rfl, (blk_ren rfl rfl), rfl, (pl_ren rfl), rfl, (lrow_ren rfl), trivial⟩ rfl <| At.dr Y [8, 9] rfl rfl (by cases H0; rfl) (by cases H0; rfl) rfl rfl rfl
      ·
       replace H0 := bif_f H0 h11
       exact G.rd mixed <| K.mv rfl rfl <| K.mv rfl rfl <| K.mv rfl rfl <| K.bin (V := .bool (x14.2.1 == 10)) g0 rfl rfl (fun _ => rfl) rfl <| K.mv rfl rfl <| K.sk rfl rfl h11 rfl <| K.sk rfl rfl h11 rfl <| K.sk rfl rfl h11 rfl <| K.sk rfl rfl h11 rfl <| K.sk rfl rfl h11 rfl <| K.pickF g0 rfl (h11) rfl rfl <| K.as rfl rfl <| K.as rfl rfl <| K.nil <| And.intro (by kernel_rfl) <| At.next <| G.ret <| At.ren (fs' := [(8, .a (.c (.nv 30))), (9, .a (.c (.v (.bool false))))]) (tl := (tkQueue 0 1 2 3 4 5 6 7 8 x14.2.2 [(30, lrow 30 42 eTOp 4 l1)])) [(30, 9)] [_, _, _, _, _, _, _, _, _, _] rfl ⟨rfl, rfl, trivial⟩ ⟨rfl, (blk_ren rfl rfl), rfl, (blk_ren rfl rfl), rfl, (pl_ren rfl), rfl, (blk_ren rfl rfl), rfl, (pl_ren rfl), rfl, (blk_ren rfl rfl), rfl, (pl_ren rfl), rfl, (blk_ren rfl rfl), rfl, (pl_ren rfl), rfl, (lrow_ren rfl), trivial⟩ rfl <| At.dr Y [8, 9] rfl rfl (by cases H0; rfl) (by cases H0; rfl) rfl rfl rfl
     ·
      replace H0 := bif_f H0 h10
      refine G.seq <| G.rg <| K.mv rfl rfl <| K.bin (V := .bool (decide (x2 ≥ 0))) g0 rfl rfl (fun _ => rfl) rfl <| K.nil <| At.next <| G.cond rfl (fun h12 => ?_) (fun h12 => ?_)
      ·
       replace H0 := bif_t H0 h12
       refine G.rg <| K.as rfl rfl <| K.nil <| At.ns ?_
       obtain ⟨x19, hx19, H0⟩ := bnd H0
       refine G.rg <| K.mv rfl rfl <| K.cV (cf 17 rfl) [9] (fun β w S2 h => R12_Run_con (la 0 rfl eTOp_len rfl h) hx19 135 136 137 rfl) g0 (fun _ => rfl) rfl rfl rfl <| K.mv rfl rfl <| K.extract g0 rfl rfl rfl <| K.extract g0 rfl rfl rfl <| K.extract g0 rfl rfl rfl <| K.extract g0 rfl rfl rfl <| K.as rfl rfl <| K.as rfl rfl <| K.as rfl rfl <| K.as rfl rfl <| K.nil <| At.ns ?_
       obtain ⟨x20, hx20, H0⟩ := bnd H0
       refine G.rg <| K.mv rfl rfl <| K.cV (cf 17 rfl) [9] (fun β w S2 h => R12_Run_con (la 0 rfl eTOp_len rfl h) hx20 138 139 140 rfl) g0 (fun _ => rfl) rfl rfl rfl <| K.mv rfl rfl <| K.extract g0 rfl rfl rfl <| K.extract g0 rfl rfl rfl <| K.extract g0 rfl rfl rfl <| K.extract g0 rfl rfl rfl <| K.as rfl rfl <| K.as rfl rfl <| K.as rfl rfl <| K.as rfl rfl <| K.nil <| At.ns ?_
       rcases Bool.eq_false_or_eq_true (x14.2.1 == 11) with h13 | h13
       ·
        replace H0 := bif_t H0 h13
        obtain ⟨x21, hx21, H0⟩ := bnd H0
        obtain ⟨x22, hx22, H0⟩ := bnd H0
        exact G.rd mixed <| K.mv rfl rfl <| K.mv rfl rfl <| K.mv rfl rfl <| K.bin (V := .bool (x14.2.1 == 11)) g0 rfl rfl (fun _ => rfl) rfl <| K.mv rfl rfl <| K.loadS Y _ (g1 rfl rfl h13) rfl rfl t56 rfl rfl rfl <| K.move (.inl rfl) (g1 rfl rfl h13) rfl rfl <| K.move (.inl rfl) (g1 rfl rfl h13) rfl rfl <| K.cV (cf 58 rfl) [135, 138] (fun β w S2 h => R12_Change_con (la 0 rfl eTItem_len rfl h) (la 1 rfl eTItem_len rfl h) hx21 141 142 rfl) (g1 rfl rfl h13) (fun _ => rfl) rfl rfl rfl <| K.cV (cf 57 rfl) [124, 125, 141, 142] (fun β w S2 h => R12_Same_con (a0 := x14.1) (a1 := x21) (la 0 rfl eTItem_len rfl h) (la 1 rfl eTItem_len rfl h) (la 2 rfl eTItem_len rfl h) (la 3 rfl eTItem_len rfl h) hx22) (g1 rfl rfl h13) (fun _ => rfl) rfl rfl rfl <| K.pickT g0 rfl (h13) rfl rfl <| K.as rfl rfl <| K.as rfl rfl <| K.nil <| And.intro (by kernel_rfl) <| At.next <| G.ret <| At.ren (fs' := [(8, .a (.c (.nv 30))), (9, .a (.c (.v (.bool x22))))]) (tl := (tkQueue 0 1 2 3 4 5 6 7 8 x14.2.2 [(30, lrow 30 42 eTOp 4 l1)])) [(30, 9)] [_, _, _, _, _, _, _, _, _, _] rfl ⟨rfl, rfl, trivial⟩ ⟨rfl, (blk_ren rfl rfl), rfl, (blk_ren rfl rfl), rfl, (pl_ren rfl), rfl, (blk_ren rfl rfl), rfl, (pl_ren rfl), rfl, (blk_ren rfl rfl), rfl, (pl_ren rfl), rfl, (blk_ren rfl rfl), rfl, (pl_ren rfl), rfl, (lrow_ren rfl), trivial⟩ rfl <| At.dr Y [8, 9] rfl rfl (by cases H0; rfl) (by cases H0; rfl) rfl rfl rfl
       ·
        replace H0 := bif_f H0 h13
        exact G.rd mixed <| K.mv rfl rfl <| K.mv rfl rfl <| K.mv rfl rfl <| K.bin (V := .bool (x14.2.1 == 11)) g0 rfl rfl (fun _ => rfl) rfl <| K.mv rfl rfl <| K.sk rfl rfl h13 rfl <| K.sk rfl rfl h13 rfl <| K.sk rfl rfl h13 rfl <| K.sk rfl rfl h13 rfl <| K.sk rfl rfl h13 rfl <| K.pickF g0 rfl (h13) rfl rfl <| K.as rfl rfl <| K.as rfl rfl <| K.nil <| And.intro (by kernel_rfl) <| At.next <| G.ret <| At.ren (fs' := [(8, .a (.c (.nv 30))), (9, .a (.c (.v (.bool false))))]) (tl := (tkQueue 0 1 2 3 4 5 6 7 8 x14.2.2 [(30, lrow 30 42 eTOp 4 l1)])) [(30, 9)] [_, _, _, _, _, _, _, _, _, _] rfl ⟨rfl, rfl, trivial⟩ ⟨rfl, (blk_ren rfl rfl), rfl, (blk_ren rfl rfl), rfl, (pl_ren rfl), rfl, (blk_ren rfl rfl), rfl, (pl_ren rfl), rfl, (blk_ren rfl rfl), rfl, (pl_ren rfl), rfl, (blk_ren rfl rfl), rfl, (pl_ren rfl), rfl, (lrow_ren rfl), trivial⟩ rfl <| At.dr Y [8, 9] rfl rfl (by cases H0; rfl) (by cases H0; rfl) rfl rfl rfl
      ·
       replace H0 := bif_f H0 h12
       refine G.seq ?_
       obtain ⟨x23, hx23, H0⟩ := bnd H0
       refine G.rg <| K.mv rfl rfl <| K.bin (V := .bool (x3 == 0)) g0 rfl rfl (fun _ => rfl) rfl <| K.mv rfl rfl <| K.move (.inl rfl) (g1 rfl rfl h7) rfl rfl <| K.fieldAddr Y (g1 rfl rfl h7) rfl t32 rfl rfl <| K.loadS Y _ (g1 rfl rfl h7) rfl rfl t30 rfl rfl rfl <| K.cV (cf 55 rfl) [9] (fun β w S2 h => R12_Has_con (la 0 rfl eTOp_len rfl h) hx23) (g1 rfl rfl h7) (fun _ => rfl) rfl rfl rfl <| K.pickT g0 rfl (h7) rfl rfl <| K.nil <| At.next <| G.cond rfl (fun h14 => ?_) (fun h14 => ?_)
       ·
        replace H0 := bif_t H0 h14
        refine G.rg <| K.as rfl rfl <| K.nil <| At.ns ?_
        obtain ⟨x24, hx24, H0⟩ := bnd H0
        refine G.rg <| K.mv rfl rfl <| K.cV (cf 17 rfl) [9] (fun β w S2 h => R12_Run_con (la 0 rfl eTOp_len rfl h) hx24 143 144 145 rfl) g0 (fun _ => rfl) rfl rfl rfl <| K.mv rfl rfl <| K.extract g0 rfl rfl rfl <| K.extract g0 rfl rfl rfl <| K.extract g0 rfl rfl rfl <| K.extract g0 rfl rfl rfl <| K.as rfl rfl <| K.as rfl rfl <| K.as rfl rfl <| K.as rfl rfl <| K.nil <| At.ns ?_
        obtain ⟨x25, hx25, H0⟩ := bnd H0
        refine G.rg <| K.mv rfl rfl <| K.cV (cf 17 rfl) [9] (fun β w S2 h => R12_Run_con (la 0 rfl eTOp_len rfl h) hx25 146 147 148 rfl) g0 (fun _ => rfl) rfl rfl rfl <| K.mv rfl rfl <| K.extract g0 rfl rfl rfl <| K.extract g0 rfl rfl rfl <| K.extract g0 rfl rfl rfl <| K.extract g0 rfl rfl rfl <| K.as rfl rfl <| K.as rfl rfl <| K.as rfl rfl <| K.as rfl rfl <| K.nil <| At.ns ?_
        rcases Bool.eq_false_or_eq_true (x14.2.1 == 2) with h15 | h15
        ·
         replace H0 := bif_t H0 h15
         obtain ⟨x26, hx26, H0⟩ := bnd H0
         obtain ⟨x27, hx27, H0⟩ := bnd H0
         exact G.rd mixed <| K.mv rfl rfl <| K.mv rfl rfl <| K.mv rfl rfl <| K.bin (V := .bool (x14.2.1 == 2)) g0 rfl rfl (fun _ => rfl) rfl <| K.mv rfl rfl <| K.loadS Y _ (g1 rfl rfl h15) rfl rfl t56 rfl rfl rfl <| K.move (.inl rfl) (g1 rfl rfl h15) rfl rfl <| K.move (.inl rfl) (g1 rfl rfl h15) rfl rfl <| K.cV (cf 58 rfl) [143, 146] (fun β w S2 h => R12_Change_con (la 0 rfl eTItem_len rfl h) (la 1 rfl eTItem_len rfl h) hx26 149 150 rfl) (g1 rfl rfl h15) (fun _ => rfl) rfl rfl rfl <| K.cV (cf 57 rfl) [124, 125, 149, 150] (fun β w S2 h => R12_Same_con (a0 := x14.1) (a1 := x26) (la 0 rfl eTItem_len rfl h) (la 1 rfl eTItem_len rfl h) (la 2 rfl eTItem_len rfl h) (la 3 rfl eTItem_len rfl h) hx27) (g1 rfl rfl h15) (fun _ => rfl) rfl rfl rfl <| K.pickT g0 rfl (h15) rfl rfl <| K.as rfl rfl <| K.as rfl rfl <| K.nil <| And.intro (by kernel_rfl) <| At.next <| G.ret <| At.ren (fs' := [(8, .a (.c (.nv 30))), (9, .a (.c (.v (.bool x27))))]) (tl := (tkQueue 0 1 2 3 4 5 6 7 8 x14.2.2 [(30, lrow 30 42 eTOp 4 l1)])) [(30, 9)] [_, _, _, _, _, _, _, _, _, _] rfl ⟨rfl, rfl, trivial⟩ ⟨rfl, (blk_ren rfl rfl), rfl, (blk_ren rfl rfl), rfl, (pl_ren rfl), rfl, (blk_ren rfl rfl), rfl, (pl_ren rfl), rfl, (blk_ren rfl rfl), rfl, (pl_ren rfl), rfl, (blk_ren rfl rfl), rfl, (pl_ren rfl), rfl, (lrow_ren rfl), trivial⟩ rfl <| At.dr Y [8, 9] rfl rfl (by cases H0; rfl) (by cases H0; rfl) rfl rfl rfl
        ·
         replace H0 := bif_f H0 h15
         exact G.rd mixed <| K.mv rfl rfl <| K.mv rfl rfl <| K.mv rfl rfl <| K.bin (V := .bool (x14.2.1 == 2)) g0 rfl rfl (fun _ => rfl) rfl <| K.mv rfl rfl <| K.sk rfl rfl h15 rfl <| K.sk rfl rfl h15 rfl <| K.sk rfl rfl h15 rfl <| K.sk rfl rfl h15 rfl <| K.sk rfl rfl h15 rfl <| K.pickF g0 rfl (h15) rfl rfl <| K.as rfl rfl <| K.as rfl rfl <| K.nil <| And.intro (by kernel_rfl) <| At.next <| G.ret <| At.ren (fs' := [(8, .a (.c (.nv 30))), (9, .a (.c (.v (.bool false))))]) (tl := (tkQueue 0 1 2 3 4 5 6 7 8 x14.2.2 [(30, lrow 30 42 eTOp 4 l1)])) [(30, 9)] [_, _, _, _, _, _, _, _, _, _] rfl ⟨rfl, rfl, trivial⟩ ⟨rfl, (blk_ren rfl rfl), rfl, (blk_ren rfl rfl), rfl, (pl_ren rfl), rfl, (blk_ren rfl rfl), rfl, (pl_ren rfl), rfl, (blk_ren rfl rfl), rfl, (pl_ren rfl), rfl, (blk_ren rfl rfl), rfl, (pl_ren rfl), rfl, (lrow_ren rfl), trivial⟩ rfl <| At.dr Y [8, 9] rfl rfl (by cases H0; rfl) (by cases H0; rfl) rfl rfl rfl
       ·
        replace H0 := bif_f H0 h14
        obtain ⟨x28, hx28, H0⟩ := bnd H0
        refine G.rg <| K.mv rfl rfl <| K.loadS Y _ g0 rfl rfl t42 rfl rfl rfl <| K.cV (cf 56 rfl) [9] (fun β w S2 h => R12_Add_con (la 0 rfl eTOp_len rfl h) hx28 151 rfl) g0 (fun _ => rfl) rfl rfl rfl <| K.as rfl rfl <| K.nil <| At.ns ?_
        obtain ⟨x29, hx29, H0⟩ := bnd H0
        refine G.rg <| K.mv rfl rfl <| K.cV (cf 17 rfl) [9] (fun β w S2 h => R12_Run_con (la 0 rfl eTOp_len rfl h) hx29 152 153 154 rfl) g0 (fun _ => rfl) rfl rfl rfl <| K.mv rfl rfl <| K.extract g0 rfl rfl rfl <| K.extract g0 rfl rfl rfl <| K.extract g0 rfl rfl rfl <| K.extract g0 rfl rfl rfl <| K.as rfl rfl <| K.as rfl rfl <| K.as rfl rfl <| K.as rfl rfl <| K.nil <| At.ns ?_
        obtain ⟨x30, hx30, H0⟩ := bnd H0
        refine G.rg <| K.mv rfl rfl <| K.cV (cf 17 rfl) [151] (fun β w S2 h => R12_Run_con (la 0 rfl eTOp_len rfl h) hx30 155 156 157 rfl) g0 (fun _ => rfl) rfl rfl rfl <| K.mv rfl rfl <| K.extract g0 rfl rfl rfl <| K.extract g0 rfl rfl rfl <| K.extract g0 rfl rfl rfl <| K.extract g0 rfl rfl rfl <| K.as rfl rfl <| K.as rfl rfl <| K.as rfl rfl <| K.as rfl rfl <| K.nil <| At.ns ?_
        rcases Bool.eq_false_or_eq_true (x14.2.1 == 0) with h16 | h16
        ·
         replace H0 := bif_t H0 h16
         obtain ⟨x31, hx31, H0⟩ := bnd H0
         obtain ⟨x32, hx32, H0⟩ := bnd H0
         exact G.rd mixed <| K.mv rfl rfl <| K.mv rfl rfl <| K.mv rfl rfl <| K.bin (V := .bool (x14.2.1 == 0)) g0 rfl rfl (fun _ => rfl) rfl <| K.mv rfl rfl <| K.loadS Y _ (g1 rfl rfl h16) rfl rfl t56 rfl rfl rfl <| K.move (.inl rfl) (g1 rfl rfl h16) rfl rfl <| K.move (.inl rfl) (g1 rfl rfl h16) rfl rfl <| K.cV (cf 58 rfl) [152, 155] (fun β w S2 h => R12_Change_con (la 0 rfl eTItem_len rfl h) (la 1 rfl eTItem_len rfl h) hx31 158 159 rfl) (g1 rfl rfl h16) (fun _ => rfl) rfl rfl rfl <| K.cV (cf 57 rfl) [124, 125, 158, 159] (fun β w S2 h => R12_Same_con (a0 := x14.1) (a1 := x31) (la 0 rfl eTItem_len rfl h) (la 1 rfl eTItem_len rfl h) (la 2 rfl eTItem_len rfl h) (la 3 rfl eTItem_len rfl h) hx32) (g1 rfl rfl h16) (fun _ => rfl) rfl rfl rfl <| K.pickT g0 rfl (h16) rfl rfl <| K.as rfl rfl <| K.as rfl rfl <| K.nil <| And.intro (by kernel_rfl) <| At.next <| G.ret <| At.ren (fs' := [(8, .a (.c (.nv 30))), (9, .a (.c (.v (.bool x32))))]) (tl := (tkQueue 0 1 2 3 4 5 6 7 8 x14.2.2 [(30, lrow 30 42 eTOp 4 x28)])) [(30, 151)] [_, _, _, _, _, _, _, _, _, _] rfl ⟨rfl, rfl, trivial⟩ ⟨rfl, (blk_ren rfl rfl), rfl, (blk_ren rfl rfl), rfl, (pl_ren rfl), rfl, (blk_ren rfl rfl), rfl, (pl_ren rfl), rfl, (blk_ren rfl rfl), rfl, (pl_ren rfl), rfl, (blk_ren rfl rfl), rfl, (pl_ren rfl), rfl, (lrow_ren rfl), trivial⟩ rfl <| At.dr Y [8, 9] rfl rfl (by cases H0; rfl) (by cases H0; rfl) rfl rfl rfl
        ·
         replace H0 := bif_f H0 h16
         exact G.rd mixed <| K.mv rfl rfl <| K.mv rfl rfl <| K.mv rfl rfl <| K.bin (V := .bool (x14.2.1 == 0)) g0 rfl rfl (fun _ => rfl) rfl <| K.mv rfl rfl <| K.sk rfl rfl h16 rfl <| K.sk rfl rfl h16 rfl <| K.sk rfl rfl h16 rfl <| K.sk rfl rfl h16 rfl <| K.sk rfl rfl h16 rfl <| K.pickF g0 rfl (h16) rfl rfl <| K.as rfl rfl <| K.as rfl rfl <| K.nil <| And.intro (by kernel_rfl) <| At.next <| G.ret <| At.ren (fs' := [(8, .a (.c (.nv 30))), (9, .a (.c (.v (.bool false))))]) (tl := (tkQueue 0 1 2 3 4 5 6 7 8 x14.2.2 [(30, lrow 30 42 eTOp 4 x28)])) [(30, 151)] [_, _, _, _, _, _, _, _, _, _] rfl ⟨rfl, rfl, trivial⟩ ⟨rfl, (blk_ren rfl rfl), rfl, (blk_ren rfl rfl), rfl, (pl_ren rfl), rfl, (blk_ren rfl rfl), rfl, (pl_ren rfl), rfl, (blk_ren rfl rfl), rfl, (pl_ren rfl), rfl, (blk_ren rfl rfl), rfl, (pl_ren rfl), rfl, (lrow_ren rfl), trivial⟩ rfl <| At.dr Y [8, 9] rfl rfl (by cases H0; rfl) (by cases H0; rfl) rfl rfl rfl
    · exact absurd h9 (by rw [h7]; simp)
   · exact absurd h8 (by rw [kn_lt (kn_of h7) rfl]; simp)
  ·
   replace H0 := bif_f H0 h7
   refine G.seq <| G.rg <| K.mv rfl rfl <| K.bin (V := .bool (x3 == 1)) g0 rfl rfl (fun _ => rfl) rfl <| K.as rfl rfl <| K.nil <| At.next <| G.cond rfl (fun h17 => ?_) (fun h17 => ?_)
   ·
    replace H0 := bif_t H0 h17
    obtain ⟨x33, hx33, H0⟩ := bnd H0
    refine G.rg <| K.mv rfl rfl <| K.mv rfl rfl <| K.c0 (cf 24 rfl) (partial_Queue_Delete_con hx33 0 1 2 3 4 5 6 7 8 160 161 rfl) g0 rfl rfl rfl rfl <| K.mv rfl rfl <| K.extract g0 rfl rfl rfl <| K.extract g0 rfl rfl rfl <| K.store Y _ g0 rfl rfl rfl t56 rfl rfl rfl rfl rfl <| K.as rfl rfl <| K.nil <| At.block_normal <| At.ns <| G.seq <| G.rg <| K.mv rfl rfl <| K.bin (V := .bool (decide (x3 < 2))) g0 rfl rfl (fun _ => rfl) rfl <| K.nil <| At.next <| G.cond rfl (fun h18 => ?_) (fun h18 => ?_)
    ·
     refine G.seq <| G.rg <| K.mv rfl rfl <| K.build Y [(0, _)] [_, _, _, _] [((.tmp 72), _)] g0 (AllE.spec ⟨rfl, trivial⟩) rfl rfl t42 rfl rfl <| K.alloc Y 162 _ g0 t42 rfl rfl rfl rfl rfl <| K.store Y _ g0 rfl rfl rfl t42 rfl rfl rfl rfl rfl <| K.nil <| At.ns <| G.seq <| G.rg <| K.mv rfl rfl <| K.bin (V := .bool (x3 == 0)) g0 rfl rfl (fun _ => rfl) rfl <| K.nil <| At.next <| G.cond rfl (fun h19 => ?_) (fun h19 => ?_)
     · exact absurd h19 (by rw [h7]; simp)
     ·
      refine G.skip <| At.nr <| K.mv rfl rfl <| K.lenL (lrowV 9 42 eTOp 4 l1) (lrowV_is eTOp_len (by decide)) g0 rfl rfl Tryz.underlying26 rfl <| K.mv rfl rfl <| K.bin (V := .bool ((l1.length : Int) == a2)) g0 rfl rfl (fun _ => rfl) rfl <| K.nil <| At.next <| G.cond rfl (fun h20 => ?_) (fun h20 => ?_)
      ·
       replace H0 := bif_t H0 h20
       refine G.rg <| K.as rfl rfl <| K.nil <| At.ns ?_
       obtain ⟨x34, hx34, H0⟩ := bnd H0
       refine G.rg <| K.mv rfl rfl <| K.cV (cf 17 rfl) [9] (fun β w S2 h => R12_Run_con (la 0 rfl eTOp_len rfl h) hx34 163 164 165 rfl) g0 (fun _ => rfl) rfl rfl rfl <| K.mv rfl rfl <| K.extract g0 rfl rfl rfl <| K.extract g0 rfl rfl rfl <| K.extract g0 rfl rfl rfl <| K.extract g0 rfl rfl rfl <| K.as rfl rfl <| K.as rfl rfl <| K.as rfl rfl <| K.as rfl rfl <| K.nil <| At.ns ?_
       obtain ⟨x35, hx35, H0⟩ := bnd H0
       refine G.rg <| K.mv rfl rfl <| K.cV (cf 17 rfl) [9] (fun β w S2 h => R12_Run_con (la 0 rfl eTOp_len rfl h) hx35 166 167 168 rfl) g0 (fun _ => rfl) rfl rfl rfl <| K.mv rfl rfl <| K.extract g0 rfl rfl rfl <| K.extract g0 rfl rfl rfl <| K.extract g0 rfl rfl rfl <| K.extract g0 rfl rfl rfl <| K.as rfl rfl <| K.as rfl rfl <| K.as rfl rfl <| K.as rfl rfl <| K.nil <| At.ns ?_
       rcases Bool.eq_false_or_eq_true (x33.2.1 == 10) with h21 | h21
       ·
        replace H0 := bif_t H0 h21
        obtain ⟨x36, hx36, H0⟩ := bnd H0
        obtain ⟨x37, hx37, H0⟩ := bnd H0
        exact G.rd mixed <| K.mv rfl rfl <| K.mv rfl rfl <| K.mv rfl rfl <| K.bin (V := .bool (x33.2.1 == 10)) g0 rfl rfl (fun _ => rfl) rfl <| K.mv rfl rfl <| K.loadS Y _ (g1 rfl rfl h21) rfl rfl t56 rfl rfl rfl <| K.move (.inl rfl) (g1 rfl rfl h21) rfl rfl <| K.move (.inl rfl) (g1 rfl rfl h21) rfl rfl <| K.cV (cf 58 rfl) [163, 166] (fun β w S2 h => R12_Change_con (la 0 rfl eTItem_len rfl h) (la 1 rfl eTItem_len rfl h) hx36 169 170 rfl) (g1 rfl rfl h21) (fun _ => rfl) rfl rfl rfl <| K.cV (cf 57 rfl) [160, 161, 169, 170] (fun β w S2 h => R12_Same_con (a0 := x33.1) (a1 := x36) (la 0 rfl eTItem_len rfl h) (la 1 rfl eTItem_len rfl h) (la 2 rfl eTItem_len rfl h) (la 3 rfl eTItem_len rfl h) hx37) (g1 rfl rfl h21) (fun _ => rfl) rfl rfl rfl <| K.pickT g0 rfl (h21) rfl rfl <| K.as rfl rfl <| K.as rfl rfl <| K.nil <| And.intro (by kernel_rfl) <| At.next <| G.ret <| At.ren (fs' := [(8, .a (.c (.nv 30))), (9, .a (.c (.v (.bool x37))))]) (tl := (tkQueue 0 1 2 3 4 5 6 7 8 x33.2.2 [(30, lrow 30 42 eTOp 4 l1)])) [(30, 9)] [_, _, _, _, _, _, _, _, _, _] rfl ⟨rfl, rfl, trivial⟩ ⟨rfl, (blk_ren rfl rfl), rfl, (blk_ren rfl rfl), rfl, (pl_ren rfl), rfl, (blk_ren rfl rfl), rfl, (pl_ren rfl), rfl, (blk_ren rfl rfl), rfl, (pl_ren rfl), rfl, (blk_ren rfl rfl), rfl, (pl_ren rfl), rfl, (lrow_ren rfl), trivial⟩ rfl <| At.dr Y [8, 9] rfl rfl (by cases H0; rfl) (by cases H0; rfl) rfl rfl rfl
       ·
        replace H0 := bif_f H0 h21
        exact G.rd mixed <| K.mv rfl rfl <| K.mv rfl rfl <| K.mv rfl rfl <| K.bin (V := .bool (x33.2.1 == 10)) g0 rfl rfl (fun _ => rfl) rfl <| K.mv rfl rfl <| K.sk rfl rfl h21 rfl <| K.sk rfl rfl h21 rfl <| K.sk rfl rfl h21 rfl <| K.sk rfl rfl h21 rfl <| K.sk rfl rfl h21 rfl <| K.pickF g0 rfl (h21) rfl rfl <| K.as rfl rfl <| K.as rfl rfl <| K.nil <| And.intro (by kernel_rfl) <| At.next <| G.ret <| At.ren (fs' := [(8, .a (.c (.nv 30))), (9, .a (.c (.v (.bool false))))]) (tl := (tkQueue 0 1 2 3 4 5 6 7 8 x33.2.2 [(30, lrow 30 42 eTOp 4 l1)])) [(30, 9)] [_, _, _, _, _, _, _, _, _, _] rfl ⟨rfl, rfl, trivial⟩ ⟨rfl, (blk_ren rfl rfl), rfl, (blk_ren rfl rfl), rfl, (pl_ren rfl), rfl, (blk_ren rfl rfl), rfl, (pl_ren rfl), rfl, (blk_ren rfl rfl), rfl, (pl_ren rfl), rfl, (blk_ren rfl rfl), rfl, (pl_ren rfl), rfl, (lrow_ren rfl), trivial⟩ rfl <| At.dr Y [8, 9] rfl rfl (by cases H0; rfl) (by cases H0; rfl) rfl rfl rfl
      ·
       replace H0 := bif_f H0 h20
       refine G.seq <| G.rg <| K.mv rfl rfl <| K.bin (V := .bool (decide (x2 ≥ 0))) g0 rfl rfl (fun _ => rfl) rfl <| K.nil <| At.next <| G.cond rfl (fun h22 => ?_) (fun h22 => ?_)
       ·
        replace H0 := bif_t H0 h22
        refine G.rg <| K.as rfl rfl <| K.nil <| At.ns ?_
        obtain ⟨x38, hx38, H0⟩ := bnd H0
        refine G.rg <| K.mv rfl rfl <| K.cV (cf 17 rfl) [9] (fun β w S2 h => R12_Run_con (la 0 rfl eTOp_len rfl h) hx38 171 172 173 rfl) g0 (fun _ => rfl) rfl rfl rfl <| K.mv rfl rfl <| K.extract g0 rfl rfl rfl <| K.extract g0 rfl rfl rfl <| K.extract g0 rfl rfl rfl <| K.extract g0 rfl rfl rfl <| K.as rfl rfl <| K.as rfl rfl <| K.as rfl rfl <| K.as rfl rfl <| K.nil <| At.ns ?_
        obtain ⟨x39, hx39, H0⟩ := bnd H0
        refine G.rg <| K.mv rfl rfl <| K.cV (cf 17 rfl) [9] (fun β w S2 h => R12_Run_con (la 0 rfl eTOp_len rfl h) hx39 174 175 176 rfl) g0 (fun _ => rfl) rfl rfl rfl <| K.mv rfl rfl <| K.extract g0 rfl rfl rfl <| K.extract g0 rfl rfl rfl <| K.extract g0 rfl rfl rfl <| K.extract g0 rfl rfl rfl <| K.as rfl rfl <| K.as rfl rfl <| K.as rfl rfl <| K.as rfl rfl <| K.nil <| At.ns ?_
        rcases Bool.eq_false_or_eq_true (x33.2.1 == 11) with h23 | h23
        ·
         replace H0 := bif_t H0 h23
         obtain ⟨x40, hx40, H0⟩ := bnd H0
         obtain ⟨x41, hx41, H0⟩ := bnd H0
         exact G.rd mixed <| K.mv rfl rfl <| K.mv rfl rfl <| K.mv rfl rfl <| K.bin (V := .bool (x33.2.1 == 11)) g0 rfl rfl (fun _ => rfl) rfl <| K.mv rfl rfl <| K.loadS Y _ (g1 rfl rfl h23) rfl rfl t56 rfl rfl rfl <| K.move (.inl rfl) (g1 rfl rfl h23) rfl rfl <| K.move (.inl rfl) (g1 rfl rfl h23) rfl rfl <| K.cV (cf 58 rfl) [171, 174] (fun β w S2 h => R12_Change_con (la 0 rfl eTItem_len rfl h) (la 1 rfl eTItem_len rfl h) hx40 177 178 rfl) (g1 rfl rfl h23) (fun _ => rfl) rfl rfl rfl <| K.cV (cf 57 rfl) [160, 161, 177, 178] (fun β w S2 h => R12_Same_con (a0 := x33.1) (a1 := x40) (la 0 rfl eTItem_len rfl h) (la 1 rfl eTItem_len rfl h) (la 2 rfl eTItem_len rfl h) (la 3 rfl eTItem_len rfl h) hx41) (g1 rfl rfl h23) (fun _ => rfl) rfl rfl rfl <| K.pickT g0 rfl (h23) rfl rfl <| K.as rfl rfl <| K.as rfl rfl <| K.nil <| And.intro (by kernel_rfl) <| At.next <| G.ret <| At.ren (fs' := [(8, .a (.c (.nv 30))), (9, .a (.c (.v (.bool x41))))]) (tl := (tkQueue 0 1 2 3 4 5 6 7 8 x33.2.2 [(30, lrow 30 42 eTOp 4 l1)])) [(30, 9)] [_, _, _, _, _, _, _, _, _, _] rfl ⟨rfl, rfl, trivial⟩ ⟨rfl, (blk_ren rfl rfl), rfl, (blk_ren rfl rfl), rfl, (pl_ren rfl), rfl, (blk_ren rfl rfl), rfl, (pl_ren rfl), rfl, (blk_ren rfl rfl), rfl, (pl_ren rfl), rfl, (blk_ren rfl rfl), rfl, (pl_ren rfl), rfl, (lrow_ren rfl), trivial⟩ rfl <| At.dr Y [8, 9] rfl rfl (by cases H0; rfl) (by cases H0; rfl) rfl rfl rfl
        ·
         replace H0 := bif_f H0 h23
         exact G.rd mixed <| K.mv rfl rfl <| K.mv rfl rfl <| K.mv rfl rfl <| K.bin (V := .bool (x33.2.1 == 11)) g0 rfl rfl (fun _ => rfl) rfl <| K.mv rfl rfl <| K.sk rfl rfl h23 rfl <| K.sk rfl rfl h23 rfl <| K.sk rfl rfl h23 rfl <| K.sk rfl rfl h23 rfl <| K.sk rfl rfl h23 rfl <| K.pickF g0 rfl (h23) rfl rfl <| K.as rfl rfl <| K.as rfl rfl <| K.nil <| And.intro (by kernel_rfl) <| At.next <| G.ret <| At.ren (fs' := [(8, .a (.c (.nv 30))), (9, .a (.c (.v (.bool false))))]) (tl := (tkQueue 0 1 2 3 4 5 6 7 8 x33.2.2 [(30, lrow 30 42 eTOp 4 l1)])) [(30, 9)] [_, _, _, _, _, _, _, _, _, _] rfl ⟨rfl, rfl, trivial⟩ ⟨rfl, (blk_ren rfl rfl), rfl, (blk_ren rfl rfl), rfl, (pl_ren rfl), rfl, (blk_ren rfl rfl), rfl, (pl_ren rfl), rfl, (blk_ren rfl rfl), rfl, (pl_ren rfl), rfl, (blk_ren rfl rfl), rfl, (pl_ren rfl), rfl, (lrow_ren rfl), trivial⟩ rfl <| At.dr Y [8, 9] rfl rfl (by cases H0; rfl) (by cases H0; rfl) rfl rfl rfl
       ·
        replace H0 := bif_f H0 h22
        refine G.seq <| G.rg <| K.mv rfl rfl <| K.bin (V := .bool (x3 == 0)) g0 rfl rfl (fun _ => rfl) rfl <| K.mv rfl rfl <| K.sk rfl rfl h7 rfl <| K.sk rfl rfl h7 rfl <| K.sk rfl rfl h7 rfl <| K.sk rfl rfl h7 rfl <| K.pickF g0 rfl (h7) rfl rfl <| K.nil <| At.next <| G.cond rfl (fun h24 => ?_) (fun h24 => ?_)
        · cases h24
        ·
         obtain ⟨x42, hx42, H0⟩ := bnd H0
         refine G.rg <| K.mv rfl rfl <| K.loadS Y _ g0 rfl rfl t42 rfl rfl rfl <| K.cV (cf 56 rfl) [9] (fun β w S2 h => R12_Add_con (la 0 rfl eTOp_len rfl h) hx42 179 rfl) g0 (fun _ => rfl) rfl rfl rfl <| K.as rfl rfl <| K.nil <| At.ns ?_
         obtain ⟨x43, hx43, H0⟩ := bnd H0
         refine G.rg <| K.mv rfl rfl <| K.cV (cf 17 rfl) [9] (fun β w S2 h => R12_Run_con (la 0 rfl eTOp_len rfl h) hx43 180 181 182 rfl) g0 (fun _ => rfl) rfl rfl rfl <| K.mv rfl rfl <| K.extract g0 rfl rfl rfl <| K.extract g0 rfl rfl rfl <| K.extract g0 rfl rfl rfl <| K.extract g0 rfl rfl rfl <| K.as rfl rfl <| K.as rfl rfl <| K.as rfl rfl <| K.as rfl rfl <| K.nil <| At.ns ?_
         obtain ⟨x44, hx44, H0⟩ := bnd H0
         refine G.rg <| K.mv rfl rfl <| K.cV (cf 17 rfl) [179] (fun β w S2 h => R12_Run_con (la 0 rfl eTOp_len rfl h) hx44 183 184 185 rfl) g0 (fun _ => rfl) rfl rfl rfl <| K.mv rfl rfl <| K.extract g0 rfl rfl rfl <| K.extract g0 rfl rfl rfl <| K.extract g0 rfl rfl rfl <| K.extract g0 rfl rfl rfl <| K.as rfl rfl <| K.as rfl rfl <| K.as rfl rfl <| K.as rfl rfl <| K.nil <| At.ns ?_
         rcases Bool.eq_false_or_eq_true (x33.2.1 == 0) with h25 | h25
         ·
          replace H0 := bif_t H0 h25
          obtain ⟨x45, hx45, H0⟩ := bnd H0
          obtain ⟨x46, hx46, H0⟩ := bnd H0
          exact G.rd mixed <| K.mv rfl rfl <| K.mv rfl rfl <| K.mv rfl rfl <| K.bin (V := .bool (x33.2.1 == 0)) g0 rfl rfl (fun _ => rfl) rfl <| K.mv rfl rfl <| K.loadS Y _ (g1 rfl rfl h25) rfl rfl t56 rfl rfl rfl <| K.move (.inl rfl) (g1 rfl rfl h25) rfl rfl <| K.move (.inl rfl) (g1 rfl rfl h25) rfl rfl <| K.cV (cf 58 rfl) [180, 183] (fun β w S2 h => R12_Change_con (la 0 rfl eTItem_len rfl h) (la 1 rfl eTItem_len rfl h) hx45 186 187 rfl) (g1 rfl rfl h25) (fun _ => rfl) rfl rfl rfl <| K.cV (cf 57 rfl) [160, 161, 186, 187] (fun β w S2 h => R12_Same_con (a0 := x33.1) (a1 := x45) (la 0 rfl eTItem_len rfl h) (la 1 rfl eTItem_len rfl h) (la 2 rfl eTItem_len rfl h) (la 3 rfl eTItem_len rfl h) hx46) (g1 rfl rfl h25) (fun _ => rfl) rfl rfl rfl <| K.pickT g0 rfl (h25) rfl rfl <| K.as rfl rfl <| K.as rfl rfl <| K.nil <| And.intro (by kernel_rfl) <| At.next <| G.ret <| At.ren (fs' := [(8, .a (.c (.nv 30))), (9, .a (.c (.v (.bool x46))))]) (tl := (tkQueue 0 1 2 3 4 5 6 7 8 x33.2.2 [(30, lrow 30 42 eTOp 4 x42)])) [(30, 179)] [_, _, _, _, _, _, _, _, _, _] rfl ⟨rfl, rfl, trivial⟩ ⟨rfl, (blk_ren rfl rfl), rfl, (blk_ren rfl rfl), rfl, (pl_ren rfl), rfl, (blk_ren rfl rfl), rfl, (pl_ren rfl), rfl, (blk_ren rfl rfl), rfl, (pl_ren rfl), rfl, (blk_ren rfl rfl), rfl, (pl_ren rfl), rfl, (lrow_ren rfl), trivial⟩ rfl <| At.dr Y [8, 9] rfl rfl (by cases H0; rfl) (by cases H0; rfl) rfl rfl rfl
         ·
          replace H0 := bif_f H0 h25
          exact G.rd mixed <| K.mv rfl rfl <| K.mv rfl rfl <| K.mv rfl rfl <| K.bin (V := .bool (x33.2.1 == 0)) g0 rfl rfl (fun _ => rfl) rfl <| K.mv rfl rfl <| K.sk rfl rfl h25 rfl <| K.sk rfl rfl h25 rfl <| K.sk rfl rfl h25 rfl <| K.sk rfl rfl h25 rfl <| K.sk rfl rfl h25 rfl <| K.pickF g0 rfl (h25) rfl rfl <| K.as rfl rfl <| K.as rfl rfl <| K.nil <| And.intro (by kernel_rfl) <| At.next <| G.ret <| At.ren (fs' := [(8, .a (.c (.nv 30))), (9, .a (.c (.v (.bool false))))]) (tl := (tkQueue 0 1 2 3 4 5 6 7 8 x33.2.2 [(30, lrow 30 42 eTOp 4 x42)])) [(30, 179)] [_, _, _, _, _, _, _, _, _, _] rfl ⟨rfl, rfl, trivial⟩ ⟨rfl, (blk_ren rfl rfl), rfl, (blk_ren rfl rfl), rfl, (pl_ren rfl), rfl, (blk_ren rfl rfl), rfl, (pl_ren rfl), rfl, (blk_ren rfl rfl), rfl, (pl_ren rfl), rfl, (blk_ren rfl rfl), rfl, (pl_ren rfl), rfl, (lrow_ren rfl), trivial⟩ rfl <| At.dr Y [8, 9] rfl rfl (by cases H0; rfl) (by cases H0; rfl) rfl rfl rfl
    · exact absurd h18 (by rw [kn_lt (kn_of h17) rfl]; simp)
   ·
    replace H0 := bif_f H0 h17
    refine G.skip <| At.block_normal <| At.ns <| G.seq <| G.rg <| K.mv rfl rfl <| K.bin (V := .bool (decide (x3 < 2))) g0 rfl rfl (fun _ => rfl) rfl <| K.nil <| At.next <| G.cond rfl (fun h26 => ?_) (fun h26 => ?_)
    ·
     replace H0 := bif_t H0 h26
     refine G.seq <| G.rg <| K.mv rfl rfl <| K.build Y [(0, _)] [_, _, _, _] [((.tmp 72), _)] g0 (AllE.spec ⟨rfl, trivial⟩) rfl rfl t42 rfl rfl <| K.alloc Y 188 _ g0 t42 rfl rfl rfl rfl rfl <| K.store Y _ g0 rfl rfl rfl t42 rfl rfl rfl rfl rfl <| K.nil <| At.ns <| G.seq <| G.rg <| K.mv rfl rfl <| K.bin (V := .bool (x3 == 0)) g0 rfl rfl (fun _ => rfl) rfl <| K.nil <| At.next <| G.cond rfl (fun h27 => ?_) (fun h27 => ?_)
     · exact absurd h27 (by rw [h7]; simp)
     ·
      refine G.skip <| At.nr <| K.mv rfl rfl <| K.lenL (lrowV 9 42 eTOp 4 l1) (lrowV_is eTOp_len (by decide)) g0 rfl rfl Tryz.underlying26 rfl <| K.mv rfl rfl <| K.bin (V := .bool ((l1.length : Int) == a2)) g0 rfl rfl (fun _ => rfl) rfl <| K.nil <| At.next <| G.cond rfl (fun h28 => ?_) (fun h28 => ?_)
      ·
       replace H0 := bif_t H0 h28
       refine G.rg <| K.as rfl rfl <| K.nil <| At.ns ?_
       obtain ⟨x47, hx47, H0⟩ := bnd H0
       refine G.rg <| K.mv rfl rfl <| K.cV (cf 17 rfl) [9] (fun β w S2 h => R12_Run_con (la 0 rfl eTOp_len rfl h) hx47 189 190 191 rfl) g0 (fun _ => rfl) rfl rfl rfl <| K.mv rfl rfl <| K.extract g0 rfl rfl rfl <| K.extract g0 rfl rfl rfl <| K.extract g0 rfl rfl rfl <| K.extract g0 rfl rfl rfl <| K.as rfl rfl <| K.as rfl rfl <| K.as rfl rfl <| K.as rfl rfl <| K.nil <| At.ns ?_
       obtain ⟨x48, hx48, H0⟩ := bnd H0
       refine G.rg <| K.mv rfl rfl <| K.cV (cf 17 rfl) [9] (fun β w S2 h => R12_Run_con (la 0 rfl eTOp_len rfl h) hx48 192 193 194 rfl) g0 (fun _ => rfl) rfl rfl rfl <| K.mv rfl rfl <| K.extract g0 rfl rfl rfl <| K.extract g0 rfl rfl rfl <| K.extract g0 rfl rfl rfl <| K.extract g0 rfl rfl rfl <| K.as rfl rfl <| K.as rfl rfl <| K.as rfl rfl <| K.as rfl rfl <| K.nil <| At.ns ?_
       rcases Bool.eq_false_or_eq_true (0 == 10) with h29 | h29
       ·
        replace H0 := bif_t H0 h29
        obtain ⟨x49, hx49, H0⟩ := bnd H0
        obtain ⟨x50, hx50, H0⟩ := bnd H0
        exact G.rd mixed <| K.mv rfl rfl <| K.mv rfl rfl <| K.mv rfl rfl <| K.bin (V := .bool (0 == 10)) g0 rfl rfl (fun _ => rfl) rfl <| K.mv rfl rfl <| K.loadS Y _ (g1 rfl rfl h29) rfl rfl t56 rfl rfl rfl <| K.move (.inl rfl) (g1 rfl rfl h29) rfl rfl <| K.move (.inl rfl) (g1 rfl rfl h29) rfl rfl <| K.cV (cf 58 rfl) [189, 192] (fun β w S2 h => R12_Change_con (la 0 rfl eTItem_len rfl h) (la 1 rfl eTItem_len rfl h) hx49 195 196 rfl) (g1 rfl rfl h29) (fun _ => rfl) rfl rfl rfl <| K.cV (cf 57 rfl) [103, 104, 195, 196] (fun β w S2 h => R12_Same_con (a0 := (TChange.mk ([] : List TItem) ([] : List TItem))) (a1 := x49) (la 0 rfl eTItem_len rfl h) (la 1 rfl eTItem_len rfl h) (la 2 rfl eTItem_len rfl h) (la 3 rfl eTItem_len rfl h) hx50) (g1 rfl rfl h29) (fun _ => rfl) rfl rfl rfl <| K.pickT g0 rfl (h29) rfl rfl <| K.as rfl rfl <| K.as rfl rfl <| K.nil <| And.intro (by kernel_rfl) <| At.next <| G.ret <| At.ren (fs' := [(8, .a (.c (.nv 30))), (9, .a (.c (.v (.bool x50))))]) (tl := (tkQueue 0 1 2 3 4 5 6 7 8 q0 [(30, lrow 30 42 eTOp 4 l1)])) [(30, 9)] [_, _, _, _, _, _, _, _, _, _] rfl ⟨rfl, rfl, trivial⟩ ⟨rfl, (blk_ren rfl rfl), rfl, (blk_ren rfl rfl), rfl, (pl_ren rfl), rfl, (blk_ren rfl rfl), rfl, (pl_ren rfl), rfl, (blk_ren rfl rfl), rfl, (pl_ren rfl), rfl, (blk_ren rfl rfl), rfl, (pl_ren rfl), rfl, (lrow_ren rfl), trivial⟩ rfl <| At.dr Y [8, 9] rfl rfl (by cases H0; rfl) (by cases H0; rfl) rfl rfl rfl
       ·
        replace H0 := bif_f H0 h29
        exact G.rd mixed <| K.mv rfl rfl <| K.mv rfl rfl <| K.mv rfl rfl <| K.bin (V := .bool (0 == 10)) g0 rfl rfl (fun _ => rfl) rfl <| K.mv rfl rfl <| K.sk rfl rfl h29 rfl <| K.sk rfl rfl h29 rfl <| K.sk rfl rfl h29 rfl <| K.sk rfl rfl h29 rfl <| K.sk rfl rfl h29 rfl <| K.pickF g0 rfl (h29) rfl rfl <| K.as rfl rfl <| K.as rfl rfl <| K.nil <| And.intro (by kernel_rfl) <| At.next <| G.ret <| At.ren (fs' := [(8, .a (.c (.nv 30))), (9, .a (.c (.v (.bool false))))]) (tl := (tkQueue 0 1 2 3 4 5 6 7 8 q0 [(30, lrow 30 42 eTOp 4 l1)])) [(30, 9)] [_, _, _, _, _, _, _, _, _, _] rfl ⟨rfl, rfl, trivial⟩ ⟨rfl, (blk_ren rfl rfl), rfl, (blk_ren rfl rfl), rfl, (pl_ren rfl), rfl, (blk_ren rfl rfl), rfl, (pl_ren rfl), rfl, (blk_ren rfl rfl), rfl, (pl_ren rfl), rfl, (blk_ren rfl rfl), rfl, (pl_ren rfl), rfl, (lrow_ren rfl), trivial⟩ rfl <| At.dr Y [8, 9] rfl rfl (by cases H0; rfl) (by cases H0; rfl) rfl rfl rfl
      ·
       replace H0 := bif_f H0 h28
       refine G.seq <| G.rg <| K.mv rfl rfl <| K.bin (V := .bool (decide (x2 ≥ 0))) g0 rfl rfl (fun _ => rfl) rfl <| K.nil <| At.next <| G.cond rfl (fun h30 => ?_) (fun h30 => ?_)
       ·
        replace H0 := bif_t H0 h30
        refine G.rg <| K.as rfl rfl <| K.nil <| At.ns ?_
        obtain ⟨x51, hx51, H0⟩ := bnd H0
        refine G.rg <| K.mv rfl rfl <| K.cV (cf 17 rfl) [9] (fun β w S2 h => R12_Run_con (la 0 rfl eTOp_len rfl h) hx51 197 198 199 rfl) g0 (fun _ => rfl) rfl rfl rfl <| K.mv rfl rfl <| K.extract g0 rfl rfl rfl <| K.extract g0 rfl rfl rfl <| K.extract g0 rfl rfl rfl <| K.extract g0 rfl rfl rfl <| K.as rfl rfl <| K.as rfl rfl <| K.as rfl rfl <| K.as rfl rfl <| K.nil <| At.ns ?_
        obtain ⟨x52, hx52, H0⟩ := bnd H0
        refine G.rg <| K.mv rfl rfl <| K.cV (cf 17 rfl) [9] (fun β w S2 h => R12_Run_con (la 0 rfl eTOp_len rfl h) hx52 200 201 202 rfl) g0 (fun _ => rfl) rfl rfl rfl <| K.mv rfl rfl <| K.extract g0 rfl rfl rfl <| K.extract g0 rfl rfl rfl <| K.extract g0 rfl rfl rfl <| K.extract g0 rfl rfl rfl <| K.as rfl rfl <| K.as rfl rfl <| K.as rfl rfl <| K.as rfl rfl <| K.nil <| At.ns ?_
        rcases Bool.eq_false_or_eq_true (0 == 11) with h31 | h31
        ·
         replace H0 := bif_t H0 h31
         obtain ⟨x53, hx53, H0⟩ := bnd H0
         obtain ⟨x54, hx54, H0⟩ := bnd H0
         exact G.rd mixed <| K.mv rfl rfl <| K.mv rfl rfl <| K.mv rfl rfl <| K.bin (V := .bool (0 == 11)) g0 rfl rfl (fun _ => rfl) rfl <| K.mv rfl rfl <| K.loadS Y _ (g1 rfl rfl h31) rfl rfl t56 rfl rfl rfl <| K.move (.inl rfl) (g1 rfl rfl h31) rfl rfl <| K.move (.inl rfl) (g1 rfl rfl h31) rfl rfl <| K.cV (cf 58 rfl) [197, 200] (fun β w S2 h => R12_Change_con (la 0 rfl eTItem_len rfl h) (la 1 rfl eTItem_len rfl h) hx53 203 204 rfl) (g1 rfl rfl h31) (fun _ => rfl) rfl rfl rfl <| K.cV (cf 57 rfl) [103, 104, 203, 204] (fun β w S2 h => R12_Same_con (a0 := (TChange.mk ([] : List TItem) ([] : List TItem))) (a1 := x53) (la 0 rfl eTItem_len rfl h) (la 1 rfl eTItem_len rfl h) (la 2 rfl eTItem_len rfl h) (la 3 rfl eTItem_len rfl h) hx54) (g1 rfl rfl h31) (fun _ => rfl) rfl rfl rfl <| K.pickT g0 rfl (h31) rfl rfl <| K.as rfl rfl <| K.as rfl rfl <| K.nil <| And.intro (by kernel_rfl) <| At.next <| G.ret <| At.ren (fs' := [(8, .a (.c (.nv 30))), (9, .a (.c (.v (.bool x54))))]) (tl := (tkQueue 0 1 2 3 4 5 6 7 8 q0 [(30, lrow 30 42 eTOp 4 l1)])) [(30, 9)] [_, _, _, _, _, _, _, _, _, _] rfl ⟨rfl, rfl, trivial⟩ ⟨rfl, (blk_ren rfl rfl), rfl, (blk_ren rfl rfl), rfl, (pl_ren rfl), rfl, (blk_ren rfl rfl), rfl, (pl_ren rfl), rfl, (blk_ren rfl rfl), rfl, (pl_ren rfl), rfl, (blk_ren rfl rfl), rfl, (pl_ren rfl), rfl, (lrow_ren rfl), trivial⟩ rfl <| At.dr Y [8, 9] rfl rfl (by cases H0; rfl) (by cases H0; rfl) rfl rfl rfl
        ·
         replace H0 := bif_f H0 h31
         exact G.rd mixed <| K.mv rfl rfl <| K.mv rfl rfl <| K.mv rfl rfl <| K.bin (V := .bool (0 == 11)) g0 rfl rfl (fun _ => rfl) rfl <| K.mv rfl rfl <| K.sk rfl rfl h31 rfl <| K.sk rfl rfl h31 rfl <| K.sk rfl rfl h31 rfl <| K.sk rfl rfl h31 rfl <| K.sk rfl rfl h31 rfl <| K.pickF g0 rfl (h31) rfl rfl <| K.as rfl rfl <| K.as rfl rfl <| K.nil <| And.intro (by kernel_rfl) <| At.next <| G.ret <| At.ren (fs' := [(8, .a (.c (.nv 30))), (9, .a (.c (.v (.bool false))))]) (tl := (tkQueue 0 1 2 3 4 5 6 7 8 q0 [(30, lrow 30 42 eTOp 4 l1)])) [(30, 9)] [_, _, _, _, _, _, _, _, _, _] rfl ⟨rfl, rfl, trivial⟩ ⟨rfl, (blk_ren rfl rfl), rfl, (blk_ren rfl rfl), rfl, (pl_ren rfl), rfl, (blk_ren rfl rfl), rfl, (pl_ren rfl), rfl, (blk_ren rfl rfl), rfl, (pl_ren rfl), rfl, (blk_ren rfl rfl), rfl, (pl_ren rfl), rfl, (lrow_ren rfl), trivial⟩ rfl <| At.dr Y [8, 9] rfl rfl (by cases H0; rfl) (by cases H0; rfl) rfl rfl rfl
       ·
        replace H0 := bif_f H0 h30
        refine G.seq <| G.rg <| K.mv rfl rfl <| K.bin (V := .bool (x3 == 0)) g0 rfl rfl (fun _ => rfl) rfl <| K.mv rfl rfl <| K.sk rfl rfl h7 rfl <| K.sk rfl rfl h7 rfl <| K.sk rfl rfl h7 rfl <| K.sk rfl rfl h7 rfl <| K.pickF g0 rfl (h7) rfl rfl <| K.nil <| At.next <| G.cond rfl (fun h32 => ?_) (fun h32 => ?_)
        · cases h32
        ·
         obtain ⟨x55, hx55, H0⟩ := bnd H0
         refine G.rg <| K.mv rfl rfl <| K.loadS Y _ g0 rfl rfl t42 rfl rfl rfl <| K.cV (cf 56 rfl) [9] (fun β w S2 h => R12_Add_con (la 0 rfl eTOp_len rfl h) hx55 205 rfl) g0 (fun _ => rfl) rfl rfl rfl <| K.as rfl rfl <| K.nil <| At.ns ?_
         obtain ⟨x56, hx56, H0⟩ := bnd H0
         refine G.rg <| K.mv rfl rfl <| K.cV (cf 17 rfl) [9] (fun β w S2 h => R12_Run_con (la 0 rfl eTOp_len rfl h) hx56 206 207 208 rfl) g0 (fun _ => rfl) rfl rfl rfl <| K.mv rfl rfl <| K.extract g0 rfl rfl rfl <| K.extract g0 rfl rfl rfl <| K.extract g0 rfl rfl rfl <| K.extract g0 rfl rfl rfl <| K.as rfl rfl <| K.as rfl rfl <| K.as rfl rfl <| K.as rfl rfl <| K.nil <| At.ns ?_
         obtain ⟨x57, hx57, H0⟩ := bnd H0
         refine G.rg <| K.mv rfl rfl <| K.cV (cf 17 rfl) [205] (fun β w S2 h => R12_Run_con (la 0 rfl eTOp_len rfl h) hx57 209 210 211 rfl) g0 (fun _ => rfl) rfl rfl rfl <| K.mv rfl rfl <| K.extract g0 rfl rfl rfl <| K.extract g0 rfl rfl rfl <| K.extract g0 rfl rfl rfl <| K.extract g0 rfl rfl rfl <| K.as rfl rfl <| K.as rfl rfl <| K.as rfl rfl <| K.as rfl rfl <| K.nil <| At.ns ?_
         rcases Bool.eq_false_or_eq_true (0 == 0) with h33 | h33
         ·
          replace H0 := bif_t H0 h33
          obtain ⟨x58, hx58, H0⟩ := bnd H0
          obtain ⟨x59, hx59, H0⟩ := bnd H0
          exact G.rd mixed <| K.mv rfl rfl <| K.mv rfl rfl <| K.mv rfl rfl <| K.bin (V := .bool (0 == 0)) g0 rfl rfl (fun _ => rfl) rfl <| K.mv rfl rfl <| K.loadS Y _ (g1 rfl rfl h33) rfl rfl t56 rfl rfl rfl <| K.move (.inl rfl) (g1 rfl rfl h33) rfl rfl <| K.move (.inl rfl) (g1 rfl rfl h33) rfl rfl <| K.cV (cf 58 rfl) [206, 209] (fun β w S2 h => R12_Change_con (la 0 rfl eTItem_len rfl h) (la 1 rfl eTItem_len rfl h) hx58 212 213 rfl) (g1 rfl rfl h33) (fun _ => rfl) rfl rfl rfl <| K.cV (cf 57 rfl) [103, 104, 212, 213] (fun β w S2 h => R12_Same_con (a0 := (TChange.mk ([] : List TItem) ([] : List TItem))) (a1 := x58) (la 0 rfl eTItem_len rfl h) (la 1 rfl eTItem_len rfl h) (la 2 rfl eTItem_len rfl h) (la 3 rfl eTItem_len rfl h) hx59) (g1 rfl rfl h33) (fun _ => rfl) rfl rfl rfl <| K.pickT g0 rfl (h33) rfl rfl <| K.as rfl rfl <| K.as rfl rfl <| K.nil <| And.intro (by kernel_rfl) <| At.next <| G.ret <| At.ren (fs' := [(8, .a (.c (.nv 30))), (9, .a (.c (.v (.bool x59))))]) (tl := (tkQueue 0 1 2 3 4 5 6 7 8 q0 [(30, lrow 30 42 eTOp 4 x55)])) [(30, 205)] [_, _, _, _, _, _, _, _, _, _] rfl ⟨rfl, rfl, trivial⟩ ⟨rfl, (blk_ren rfl rfl), rfl, (blk_ren rfl rfl), rfl, (pl_ren rfl), rfl, (blk_ren rfl rfl), rfl, (pl_ren rfl), rfl, (blk_ren rfl rfl), rfl, (pl_ren rfl), rfl, (blk_ren rfl rfl), rfl, (pl_ren rfl), rfl, (lrow_ren rfl), trivial⟩ rfl <| At.dr Y [8, 9] rfl rfl (by cases H0; rfl) (by cases H0; rfl) rfl rfl rfl
         ·
          replace H0 := bif_f H0 h33
          exact G.rd mixed <| K.mv rfl rfl <| K.mv rfl rfl <| K.mv rfl rfl <| K.bin (V := .bool (0 == 0)) g0 rfl rfl (fun _ => rfl) rfl <| K.mv rfl rfl <| K.sk rfl rfl h33 rfl <| K.sk rfl rfl h33 rfl <| K.sk rfl rfl h33 rfl <| K.sk rfl rfl h33 rfl <| K.sk rfl rfl h33 rfl <| K.pickF g0 rfl (h33) rfl rfl <| K.as rfl rfl <| K.as rfl rfl <| K.nil <| And.intro (by kernel_rfl) <| At.next <| G.ret <| At.ren (fs' := [(8, .a (.c (.nv 30))), (9, .a (.c (.v (.bool false))))]) (tl := (tkQueue 0 1 2 3 4 5 6 7 8 q0 [(30, lrow 30 42 eTOp 4 x55)])) [(30, 205)] [_, _, _, _, _, _, _, _, _, _] rfl ⟨rfl, rfl, trivial⟩ ⟨rfl, (blk_ren rfl rfl), rfl, (blk_ren rfl rfl), rfl, (pl_ren rfl), rfl, (blk_ren rfl rfl), rfl, (pl_ren rfl), rfl, (blk_ren rfl rfl), rfl, (pl_ren rfl), rfl, (blk_ren rfl rfl), rfl, (pl_ren rfl), rfl, (lrow_ren rfl), trivial⟩ rfl <| At.dr Y [8, 9] rfl rfl (by cases H0; rfl) (by cases H0; rfl) rfl rfl rfl
    ·
     replace H0 := bif_f H0 h26
     refine G.skip <| At.ns ?_
     obtain ⟨x60, hx60, H0⟩ := bnd H0
     refine G.rg <| K.mv rfl rfl <| K.cV (cf 17 rfl) [9] (fun β w S2 h => R12_Run_con (la 0 rfl eTOp_len rfl h) hx60 214 215 216 rfl) g0 (fun _ => rfl) rfl rfl rfl <| K.mv rfl rfl <| K.extract g0 rfl rfl rfl <| K.extract g0 rfl rfl rfl <| K.extract g0 rfl rfl rfl <| K.extract g0 rfl rfl rfl <| K.as rfl rfl <| K.as rfl rfl <| K.as rfl rfl <| K.as rfl rfl <| K.nil <| At.ns ?_
     obtain ⟨x61, hx61, H0⟩ := bnd H0
     refine G.rg <| K.mv rfl rfl <| K.cV (cf 17 rfl) [9] (fun β w S2 h => R12_Run_con (la 0 rfl eTOp_len rfl h) hx61 217 218 219 rfl) g0 (fun _ => rfl) rfl rfl rfl <| K.mv rfl rfl <| K.extract g0 rfl rfl rfl <| K.extract g0 rfl rfl rfl <| K.extract g0 rfl rfl rfl <| K.extract g0 rfl rfl rfl <| K.as rfl rfl <| K.as rfl rfl <| K.as rfl rfl <| K.as rfl rfl <| K.nil <| At.ns ?_
     rcases Bool.eq_false_or_eq_true (0 == 0) with h34 | h34
     ·
      replace H0 := bif_t H0 h34
      obtain ⟨x62, hx62, H0⟩ := bnd H0
      obtain ⟨x63, hx63, H0⟩ := bnd H0
      exact G.rd mixed <| K.mv rfl rfl <| K.mv rfl rfl <| K.mv rfl rfl <| K.bin (V := .bool (0 == 0)) g0 rfl rfl (fun _ => rfl) rfl <| K.mv rfl rfl <| K.loadS Y _ (g1 rfl rfl h34) rfl rfl t56 rfl rfl rfl <| K.move (.inl rfl) (g1 rfl rfl h34) rfl rfl <| K.move (.inl rfl) (g1 rfl rfl h34) rfl rfl <| K.cV (cf 58 rfl) [214, 217] (fun β w S2 h => R12_Change_con (la 0 rfl eTItem_len rfl h) (la 1 rfl eTItem_len rfl h) hx62 220 221 rfl) (g1 rfl rfl h34) (fun _ => rfl) rfl rfl rfl <| K.cV (cf 57 rfl) [103, 104, 220, 221] (fun β w S2 h => R12_Same_con (a0 := (TChange.mk ([] : List TItem) ([] : List TItem))) (a1 := x62) (la 0 rfl eTItem_len rfl h) (la 1 rfl eTItem_len rfl h) (la 2 rfl eTItem_len rfl h) (la 3 rfl eTItem_len rfl h) hx63) (g1 rfl rfl h34) (fun _ => rfl) rfl rfl rfl <| K.pickT g0 rfl (h34) rfl rfl <| K.as rfl rfl <| K.as rfl rfl <| K.nil <| And.intro (by kernel_rfl) <| At.next <| G.ret <| At.ren (fs' := [(8, .a (.c (.nv 30))), (9, .a (.c (.v (.bool x63))))]) (tl := (tkQueue 0 1 2 3 4 5 6 7 8 q0 [(30, lrow 30 42 eTOp 4 l1)])) [(30, 9)] [_, _, _, _, _, _, _, _, _, _] rfl ⟨rfl, rfl, trivial⟩ ⟨rfl, (blk_ren rfl rfl), rfl, (blk_ren rfl rfl), rfl, (pl_ren rfl), rfl, (blk_ren rfl rfl), rfl, (pl_ren rfl), rfl, (blk_ren rfl rfl), rfl, (pl_ren rfl), rfl, (blk_ren rfl rfl), rfl, (pl_ren rfl), rfl, (lrow_ren rfl), trivial⟩ rfl <| At.dr Y [8, 9] rfl rfl (by cases H0; rfl) (by cases H0; rfl) rfl rfl rfl
     ·
      replace H0 := bif_f H0 h34
      exact G.rd mixed <| K.mv rfl rfl <| K.mv rfl rfl <| K.mv rfl rfl <| K.bin (V := .bool (0 == 0)) g0 rfl rfl (fun _ => rfl) rfl <| K.mv rfl rfl <| K.sk rfl rfl h34 rfl <| K.sk rfl rfl h34 rfl <| K.sk rfl rfl h34 rfl <| K.sk rfl rfl h34 rfl <| K.sk rfl rfl h34 rfl <| K.pickF g0 rfl (h34) rfl rfl <| K.as rfl rfl <| K.as rfl rfl <| K.nil <| And.intro (by kernel_rfl) <| At.next <| G.ret <| At.ren (fs' := [(8, .a (.c (.nv 30))), (9, .a (.c (.v (.bool false))))]) (tl := (tkQueue 0 1 2 3 4 5 6 7 8 q0 [(30, lrow 30 42 eTOp 4 l1)])) [(30, 9)] [_, _, _, _, _, _, _, _, _, _] rfl ⟨rfl, rfl, trivial⟩ ⟨rfl, (blk_ren rfl rfl), rfl, (blk_ren rfl rfl), rfl, (pl_ren rfl), rfl, (blk_ren rfl rfl), rfl, (pl_ren rfl), rfl, (blk_ren rfl rfl), rfl, (pl_ren rfl), rfl, (blk_ren rfl rfl), rfl, (pl_ren rfl), rfl, (lrow_ren rfl), trivial⟩ rfl <| At.dr Y [8, 9] rfl rfl (by cases H0; rfl) (by cases H0; rfl) rfl rfl rfl
theorem Lw12_do_o1_con {k : Nat}  {q0 : TQueue} {l1 : List TOp} {a2 : Int} {a3 : TL12Act} {r : List TOp × Bool × TQueue}  (H0 : Lw12_do.f k q0 l1 a2 a3 = some r) (m0 m1 m2 m3 m4 m5 m6 m7 m8 m9 m30 : Nat) (hd : ndB [m0, m1, m2, m3, m4, m5, m6, m7, m8, m9, m30] = true) : Lw12_do_o1_st q0 l1 a2 a3 r m0 m1 m2 m3 m4 m5 m6 m7 m8 m9 m30 :=
 SCon.ren (rn [(0, m0), (1, m1), (2, m2), (3, m3), (4, m4), (5, m5), (6, m6), (7, m7), (8, m8), (9, m9), (30, m30)]) (Lw12_do_o1_con0 (k := k)   H0) ⟨(blk_ren rfl rfl), (blk_ren rfl rfl), (pl_ren rfl), (blk_ren rfl rfl), (pl_ren rfl), (blk_ren rfl rfl), (pl_ren rfl), (blk_ren rfl rfl), (pl_ren rfl), (lrow_ren rfl), trivial⟩ ⟨(blk_ren rfl rfl), (blk_ren rfl rfl), (pl_ren rfl), (blk_ren rfl rfl), (pl_ren rfl), (blk_ren rfl rfl), (pl_ren rfl), (blk_ren rfl rfl), (pl_ren rfl), (lrow_ren rfl), trivial⟩ (rn_nd hd rfl rfl) (rn_ks hd rfl rfl rfl)
abbrev partial_Queue_Ops_st (q0 : TQueue) (r : List TOp) (m0 : Nat) (m1 : Nat) (m2 : Nat) (m3 : Nat) (m4 : Nat) (m5 : Nat) (m6 : Nat) (m7 : Nat) (m8 : Nat) (m30 : Nat) : Prop := SCon Tryz.prog 27 [SV.p m0 0] (tkQueue m0 m1 m2 m3 m4 m5 m6 m7 m8 q0 []) (.a (.c (.nv m30))) (tkQueue m0 m1 m2 m3 m4 m5 m6 m7 m8 q0 [(m30, lrow m30 42 eTOp 4 r)]) [m30]
theorem partial_Queue_Ops_con0 {k : Nat}  {q0 : TQueue} {r : List TOp}  (H0 : partial_Queue_Ops.f k q0 = some r) : partial_Queue_Ops_st q0 r 0 1 2 3 4 5 6 7 8 30 := by
 rw [partial_Queue_Ops.f] at H0
 refine spec_of [(0, _)] [(0, _), (1, _), (2, _), (3, _), (4, _), (5, _), (6, _), (7, _), (8, _)] 23 Tryz.func27 rfl Tryz.ntmps27 rfl rfl rfl rfl (fun β W F => ?_)
 refine G.seq <| G.rg <| K.nilRow 100 42 eTOp 4 (.inl rfl) g0 rfl rfl rfl <| K.nil <| At.nr <| K.nilRow 101 42 eTOp 4 (.inl rfl) g0 rfl rfl rfl <| K.nil <| At.next ?_
 obtain ⟨x1, H1, H0⟩ := bnd H0
 refine G.sJ (σ := { v : List TOp // x1 = v }) (fun q => [(3, .a (.c (.nv 102)))]) (fun q => ((102, lrow 102 42 eTOp 4 q.1) :: (tkQueue 0 1 2 3 4 5 6 7 8 q0 []))) ?_ ?_
 ·
  refine G.seq ?_
  obtain ⟨x2, hx2, H1⟩ := bnd H1
  refine G.rg <| K.mv rfl rfl <| K.nilCheck g0 rfl rfl <| K.fieldAddr Y g0 rfl t98 rfl rfl <| K.load1 Y g0 rfl rfl t38 rfl rfl <| K.c0 (cf 19 rfl) (Tree_AllM_con hx2 1 2 103 rfl) g0 rfl rfl rfl rfl <| K.lenL (lrowV 103 46 eTMark 8 x2) (lrowV_is eTMark_len (by decide)) g0 rfl rfl Tryz.underlying37 rfl <| K.mv rfl rfl <| K.nil <| At.next <| G.block <| G.lp (σ := { q : Nat × (List TOp × Int) // partial_Queue_Ops.l0 k x2 q.1 q.2 = some x1 }) (fun q => [(3, .a (.c (.nv 108))), (10, .a (.c (.nv 109))), (11, .a (.c (.v (.int .i64 (x2.length : Int))))), (12, .a (.c (.v (.int .i64 q.1.2.2))))]) (fun q => ((108, lrow 108 42 eTOp 4 q.1.2.1) :: ((109, lrow 109 46 eTMark 8 x2) :: (tkQueue 0 1 2 3 4 5 6 7 8 q0 [])))) (fun q => q.1.1) ⟨(k, (([] : List TOp), 0)), H1⟩ ?_ ?_
  · exact At.into [(108, 101), (109, 103)] [_, _, _, _, _, _, _, _, _, _, _] rfl ⟨rfl, rfl, rfl, rfl, trivial⟩ ⟨rfl, (lrow_ren rfl), rfl, (lrow_ren rfl), rfl, (blk_ren rfl rfl), rfl, (blk_ren rfl rfl), rfl, (pl_ren rfl), rfl, (blk_ren rfl rfl), rfl, (pl_ren rfl), rfl, (blk_ren rfl rfl), rfl, (pl_ren rfl), rfl, (blk_ren rfl rfl), rfl, (pl_ren rfl), trivial⟩ rfl
  ·
   rintro ⟨⟨n0, v1, v2⟩, H1⟩
   show G _ _ [(3, .a (.c (.nv 108))), (10, .a (.c (.nv 109))), (11, .a (.c (.v (.int .i64 (x2.length : Int))))), (12, .a (.c (.v (.int .i64 v2))))] (sm ((108, lrow 108 42 eTOp 4 v1) :: ((109, lrow 109 46 eTMark 8 x2) :: (tkQueue 0 1 2 3 4 5 6 7 8 q0 [])))) _ _
   cases n0 with
   | zero => exact absurd H1 (by simp [partial_Queue_Ops.l0])
   | succ n0 =>
    have HL0 := H1
    rw [partial_Queue_Ops.l0] at H1
    refine G.seq <| G.rg <| K.bin (V := .bool (decide (v2 < (x2.length : Int)))) g0 rfl rfl (fun _ => rfl) rfl <| K.nil <| At.ns <| G.cond rfl (fun h1 => ?_) (fun h1 => ?_)
    ·
     replace H1 := bif_t H1 h1
     refine G.skip <| At.ns <| G.block <| G.seq ?_
     obtain ⟨x3, hx3, H1⟩ := bnd H1
     refine G.rg <| K.idxL (lrowV 109 46 eTMark 8 x2) ((v2).toNat) (lrowV_is eTMark_len (by decide)) (atL_get hx3) (atL_nn hx3) g0 rfl rfl rfl Tryz.underlying37 el37.size_run rfl <| K.loadSL Y (lrowV 109 46 eTMark 8 x2) ((v2).toNat) 0 [_, _, _, _, _, _, _, _] [_, _, _, _, _, _, _, _] (lrowV_is eTMark_len (by decide)) (atL_get hx3) g0 rfl rfl t46 rfl rfl rfl rfl rfl <| K.alloc Y 110 _ g0 t46 rfl rfl rfl rfl rfl <| K.store Y _ g0 rfl rfl rfl t46 rfl rfl rfl rfl rfl <| K.nil <| At.next ?_
     obtain ⟨h2, H1⟩ := grd H1
     exact G.rg <| K.mv rfl rfl <| K.fieldAddr Y g0 rfl t46 rfl rfl <| K.loadS Y _ g0 rfl rfl t42 rfl rfl rfl <| K.buildL Y 111 ([x3.op] : List TOp) [(0, _)] [((.tmp 18), _)] eTOp_len g0 (AllE.spec ⟨rfl, trivial⟩) rfl rfl Tryz.underlying26 t42 rfl rfl rfl rfl rfl rfl rfl rfl <| K.appendL 112 (lrowV 111 42 eTOp 4 ([x3.op] : List TOp)) _ el26 (lrowV_is eTOp_len (by decide)) eTOp_one g0 rfl rfl rfl rfl rfl (ap_m h2) (ap_b h2 (by decide)) rfl rfl rfl rfl rfl rfl <| K.as rfl rfl <| K.nil <| At.block_normal <| At.next <| G.rg <| K.bin (V := .int .i64 (w64 (v2 + 1))) g0 rfl rfl (fun _ => rfl) rfl <| K.mv rfl rfl <| K.nil <| At.ag ⟨(n0, ((v1 ++ ([x3.op] : List TOp)), (w64 (v2 + 1)))), H1⟩ [(108, 112)] [_, _, _, _, _, _, _, _, _, _, _] (Nat.lt_succ_self _) rfl ⟨rfl, rfl, rfl, rfl, trivial⟩ ⟨rfl, (lrow_ren rfl), rfl, (lrow_ren rfl), rfl, (blk_ren rfl rfl), rfl, (blk_ren rfl rfl), rfl, (pl_ren rfl), rfl, (blk_ren rfl rfl), rfl, (pl_ren rfl), rfl, (blk_ren rfl rfl), rfl, (pl_ren rfl), rfl, (blk_ren rfl rfl), rfl, (pl_ren rfl), trivial⟩ rfl
    ·
     replace H1 := bif_f H1 h1
     exact G.exit <| At.over_exit <| At.over_exit <| At.block_hit <| At.jd ⟨v1, oi H1⟩ [(102, 108)] [_, _, _, _, _, _, _, _, _, _] rfl ⟨rfl, trivial⟩ ⟨rfl, (lrow_ren rfl), rfl, (blk_ren rfl rfl), rfl, (blk_ren rfl rfl), rfl, (pl_ren rfl), rfl, (blk_ren rfl rfl), rfl, (pl_ren rfl), rfl, (blk_ren rfl rfl), rfl, (pl_ren rfl), rfl, (blk_ren rfl rfl), rfl, (pl_ren rfl), trivial⟩ rfl
 ·
  rintro ⟨_, rfl⟩
  show G _ _ [(3, .a (.c (.nv 102)))] (sm ((102, lrow 102 42 eTOp 4 x1) :: (tkQueue 0 1 2 3 4 5 6 7 8 q0 []))) _ _
  exact G.seq <| G.rg <| K.mv rfl rfl <| K.as rfl rfl <| K.nil <| At.next <| G.ret <| At.ren (fs' := [(2, .a (.c (.nv 30)))]) (tl := (tkQueue 0 1 2 3 4 5 6 7 8 q0 [(30, lrow 30 42 eTOp 4 x1)])) [(30, 102)] [_, _, _, _, _, _, _, _, _, _] rfl ⟨rfl, trivial⟩ ⟨rfl, (blk_ren rfl rfl), rfl, (blk_ren rfl rfl), rfl, (pl_ren rfl), rfl, (blk_ren rfl rfl), rfl, (pl_ren rfl), rfl, (blk_ren rfl rfl), rfl, (pl_ren rfl), rfl, (blk_ren rfl rfl), rfl, (pl_ren rfl), rfl, (lrow_ren rfl), trivial⟩ rfl <| At.dr Y [2] rfl rfl (by cases H0; rfl) (by cases H0; rfl) rfl rfl rfl
theorem partial_Queue_Ops_con {k : Nat}  {q0 : TQueue} {r : List TOp}  (H0 : partial_Queue_Ops.f k q0 = some r) (m0 m1 m2 m3 m4 m5 m6 m7 m8 m30 : Nat) (hd : ndB [m0, m1, m2, m3, m4, m5, m6, m7, m8, m30] = true) : partial_Queue_Ops_st q0 r m0 m1 m2 m3 m4 m5 m6 m7 m8 m30 :=
 SCon.ren (rn [(0, m0), (1, m1), (2, m2), (3, m3), (4, m4), (5, m5), (6, m6), (7, m7), (8, m8), (30, m30)]) (partial_Queue_Ops_con0 (k := k)   H0) ⟨(blk_ren rfl rfl), (blk_ren rfl rfl), (pl_ren rfl), (blk_ren rfl rfl), (pl_ren rfl), (blk_ren rfl rfl), (pl_ren rfl), (blk_ren rfl rfl), (pl_ren rfl), trivial⟩ ⟨(blk_ren rfl rfl), (blk_ren rfl rfl), (pl_ren rfl), (blk_ren rfl rfl), (pl_ren rfl), (blk_ren rfl rfl), (pl_ren rfl), (blk_ren rfl rfl), (pl_ren rfl), (lrow_ren rfl), trivial⟩ (rn_nd hd rfl rfl) (rn_ks hd rfl rfl rfl)
abbrev R12_Ops_st (S : Foot) (W0 : World) (s0 : Value) (s1 : Value) (r : Bool) : Prop := SCon Tryz.prog 37 [SV.raw s0, SV.raw s1] [(0, rd S W0)] (.a (.c (.v (.bool r)))) [(0, rd S W0)] []
theorem R12_Ops_con0 {k : Nat}  {S : Foot} {W0 : World} {s0 : Value} {s1 : Value} {l0 : List TOp} {l1 : List TOp} {r : Bool} (hL0 : LArg S W0 s0 eTOp 4 l0) (hL1 : LArg S W0 s1 eTOp 4 l1) (H0 : R12_Ops.f k l0 l1 = some r) : R12_Ops_st S W0 s0 s1 r := by
 rw [R12_Ops.f] at H0
 obtain ⟨b0, o0, hI0⟩ := hL0
 obtain ⟨b1, o1, hI1⟩ := hL1
 refine spec_of [(0, _), (1, _)] [(0, _)] 26 Tryz.func37 rfl Tryz.ntmps37 rfl rfl rfl rfl (fun β W F => ?_)
 refine G.seq <| G.rg <| K.as rfl rfl <| K.nil <| At.ns <| G.seq <| G.rg <| K.mv rfl rfl <| K.lenL (rV 0 S W0 s0 b0 o0 eTOp 4 l0) (hI0.is 0) g0 rfl rfl Tryz.underlying26 rfl <| K.mv rfl rfl <| K.lenL (rV 0 S W0 s1 b1 o1 eTOp 4 l1) (hI1.is 0) g0 rfl rfl Tryz.underlying26 rfl <| K.bin (V := .bool ((l0.length : Int) != (l1.length : Int))) g0 rfl rfl (fun _ => rfl) rfl <| K.nil <| At.next <| G.cond rfl (fun h1 => ?_) (fun h1 => ?_)
 ·
  replace H0 := bif_t H0 h1
  exact G.seq <| G.rg <| K.as rfl rfl <| K.nil <| At.next <| G.ret <| At.over_ret <| At.dr Y [4] rfl rfl (by cases H0; rfl) (by cases H0; rfl) rfl rfl rfl
 ·
  replace H0 := bif_f H0 h1
  refine G.skip <| At.next ?_
  obtain ⟨x1, H1, H0⟩ := bnd H0
  refine G.sJ (σ := { v : Unit // x1 = Sum.inr v }) (fun q => []) (fun q => [(0, rd S W0)]) ?_ ?_
  ·
   refine G.seq <| G.rg <| K.as rfl rfl <| K.nil <| At.next <| G.block <| G.lp (σ := { q : Nat × (Int) // R12_Ops.l0 k l0 l1 q.1 q.2 = some x1 }) (fun q => [(0, SV.raw s0), (1, SV.raw s1), (5, .a (.c (.v (.int .i64 q.1.2))))]) (fun q => [(0, rd S W0)]) (fun q => q.1.1) ⟨(k, 0), H1⟩ ?_ ?_
   · exact At.into [] [_] rfl ⟨rfl, rfl, rfl, trivial⟩ ⟨rfl, (fun _ => rfl), trivial⟩ rfl
   ·
    rintro ⟨⟨n0, v1⟩, H1⟩
    show G _ _ [(0, SV.raw s0), (1, SV.raw s1), (5, .a (.c (.v (.int .i64 v1))))] [(0, some (rd S W0))] _ _
    cases n0 with
    | zero => exact absurd H1 (by simp [R12_Ops.l0])
    | succ n0 =>
     have HL0 := H1
     rw [R12_Ops.l0] at H1
     refine G.seq <| G.seq <| G.rg <| K.mv rfl rfl <| K.mv rfl rfl <| K.lenL (rV 0 S W0 s0 b0 o0 eTOp 4 l0) (hI0.is 0) g0 rfl rfl Tryz.underlying26 rfl <| K.bin (V := .bool (decide (v1 < (l0.length : Int)))) g0 rfl rfl (fun _ => rfl) rfl <| K.nil <| At.next <| G.cond rfl (fun h2 => ?_) (fun h2 => ?_)
     ·
      replace H1 := bif_t H1 h2
      refine G.skip <| At.ns <| G.block <| G.seq ?_
      obtain ⟨x2, hx2, H1⟩ := bnd H1
      obtain ⟨x3, hx3, H1⟩ := bnd H1
      refine G.rd mixed <| K.mv rfl rfl <| K.mv rfl rfl <| K.idxL (rV 0 S W0 s0 b0 o0 eTOp 4 l0) ((v1).toNat) (hI0.is 0) (atL_get hx2) (atL_nn hx2) g0 rfl rfl rfl Tryz.underlying26 el26.size_run rfl <| K.loadSL Y (rV 0 S W0 s0 b0 o0 eTOp 4 l0) ((v1).toNat) 0 [_, _, _, _] [_, _, _, _] (hI0.is 0) (atL_get hx2) g0 rfl rfl t42 rfl rfl rfl rfl rfl <| K.mv rfl rfl <| K.mv rfl rfl <| K.idxL (rV 0 S W0 s1 b1 o1 eTOp 4 l1) ((v1).toNat) (hI1.is 0) (atL_get hx3) (atL_nn hx3) g0 rfl rfl rfl Tryz.underlying26 el26.size_run rfl <| K.loadSL Y (rV 0 S W0 s1 b1 o1 eTOp 4 l1) ((v1).toNat) 0 [_, _, _, _] [_, _, _, _] (hI1.is 0) (atL_get hx3) g0 rfl rfl t42 rfl rfl rfl rfl rfl <| K.eqS [_, _, _, _] [_, _, _, _] g0 rfl rfl cmp42 rfl (.inr rfl) (!((x2.time == x3.time) && ((x2.insert == x3.insert) && ((x2.item.key == x3.item.key) && ((x2.item.id == x3.item.id) && true))))) rfl rfl <| K.nil <| And.intro (by kernel_rfl) <| At.next <| G.cond rfl (fun h3 => ?_) (fun h3 => ?_)
      ·
       replace H1 := bif_t H1 h3
       refine G.seq <| G.rg <| K.as rfl rfl <| K.nil <| At.next <| G.ret <| At.block_ret <| At.over_ret <| At.over_ret <| At.block_ret <| At.over_ret ?_
       cases H1
       replace H0 := sum_l H0
       exact At.dr Y [4] rfl rfl (by cases H0; rfl) (by cases H0; rfl) rfl rfl rfl
      ·
       replace H1 := bif_f H1 h3
       exact G.skip <| At.block_normal <| At.next <| G.rg <| K.mv rfl rfl <| K.bin (V := .int .i64 (w64 (v1 + 1))) g0 rfl rfl (fun _ => rfl) rfl <| K.as rfl rfl <| K.nil <| At.ag ⟨(n0, (w64 (v1 + 1))), H1⟩ [] [_] (Nat.lt_succ_self _) rfl ⟨rfl, rfl, rfl, trivial⟩ ⟨rfl, (fun _ => rfl), trivial⟩ rfl
     ·
      replace H1 := bif_f H1 h2
      exact G.exit <| At.over_exit <| At.over_exit <| At.block_hit <| At.jd ⟨(), oi H1⟩ [] [_] rfl trivial ⟨rfl, (fun _ => rfl), trivial⟩ rfl
  ·
   rintro ⟨v1, rfl⟩
   replace H0 := sum_r H0
   show G _ _ [] [(0, some (rd S W0))] _ _
   exact G.seq <| G.rg <| K.as rfl rfl <| K.nil <| At.next <| G.ret <| At.dr Y [4] rfl rfl (by cases H0; rfl) (by cases H0; rfl) rfl rfl rfl
theorem R12_Ops_con {k : Nat}  {S : Foot} {W0 : World} {s0 : Value} {s1 : Value} {l0 : List TOp} {l1 : List TOp} {r : Bool} (hL0 : LArg S W0 s0 eTOp 4 l0) (hL1 : LArg S W0 s1 eTOp 4 l1) (H0 : R12_Ops.f k l0 l1 = some r) : R12_Ops_st S W0 s0 s1 r :=
 SCon.ren (rn []) (R12_Ops_con0 (k := k)  hL0 hL1 H0) ⟨(fun _ => rfl), trivial⟩ ⟨(fun _ => rfl), trivial⟩ (by simp) (by simp)
abbrev partial_Queue_Present_st (q0 : TQueue) (m0 : Nat) (m1 : Nat) (m2 : Nat) (m3 : Nat) (m4 : Nat) (m5 : Nat) (m6 : Nat) (m7 : Nat) (m8 : Nat) : Prop := SCon Tryz.prog 33 [SV.p m0 0] (tkQueue m0 m1 m2 m3 m4 m5 m6 m7 m8 q0 []) (.a (.c (.p m3 0))) (tkQueue m0 m1 m2 m3 m4 m5 m6 m7 m8 q0 []) []
theorem partial_Queue_Present_con0 {k : Nat}  {q0 : TQueue} {r : Unit}  (H0 : partial_Queue_Present.f k q0 = some r) : partial_Queue_Present_st q0 0 1 2 3 4 5 6 7 8 := by
 rw [partial_Queue_Present.f] at H0
 refine spec_of [(0, _)] [(0, _), (1, _), (2, _), (3, _), (4, _), (5, _), (6, _), (7, _), (8, _)] 7 Tryz.func33 rfl Tryz.ntmps33 rfl rfl rfl rfl (fun β W F => ?_)
 exact G.seq <| G.rg <| K.as rfl rfl <| K.nil <| At.nr <| K.mv rfl rfl <| K.nilCheck g0 rfl rfl <| K.fieldAddr Y g0 rfl t98 rfl rfl <| K.load1 Y g0 rfl rfl t63 rfl rfl <| K.as rfl rfl <| K.nil <| At.next <| G.ret <| At.dr Y [2] rfl rfl (by cases H0; rfl) (by cases H0; rfl) rfl rfl rfl
theorem partial_Queue_Present_con {k : Nat}  {q0 : TQueue} {r : Unit}  (H0 : partial_Queue_Present.f k q0 = some r) (m0 m1 m2 m3 m4 m5 m6 m7 m8 : Nat) : partial_Queue_Present_st q0 m0 m1 m2 m3 m4 m5 m6 m7 m8 :=
 SCon.ren (rn [(0, m0), (1, m1), (2, m2), (3, m3), (4, m4), (5, m5), (6, m6), (7, m7), (8, m8)]) (partial_Queue_Present_con0 (k := k)   H0) ⟨(blk_ren rfl rfl), (blk_ren rfl rfl), (pl_ren rfl), (blk_ren rfl rfl), (pl_ren rfl), (blk_ren rfl rfl), (pl_ren rfl), (blk_ren rfl rfl), (pl_ren rfl), trivial⟩ ⟨(blk_ren rfl rfl), (blk_ren rfl rfl), (pl_ren rfl), (blk_ren rfl rfl), (pl_ren rfl), (blk_ren rfl rfl), (pl_ren rfl), (blk_ren rfl rfl), (pl_ren rfl), trivial⟩ (by simp) (by simp)
abbrev shelf_Items_st (p1 : Pool (TNode TSlot TSize)) (rt0 : TRef) (r : List TItem) (m0 : Nat) (m1 : Nat) (m30 : Nat) : Prop := SCon Tryz.prog 35 [SV.p m0 0] [(m0, blk m0 [.p m1 0, .i rt0.index, .i rt0.gen] 131), (m1, plS m1 p1)] (.a (.c (.nv m30))) [(m0, blk m0 [.p m1 0, .i rt0.index, .i rt0.gen] 131), (m1, plS m1 p1), (m30, lrow m30 30 eTItem 2 r)] [m30]
theorem shelf_Items_con0 {k : Nat}  {p1 : Pool (TNode TSlot TSize)} {rt0 : TRef} {r : List TItem}  (H0 : shelf_Items.f k p1 rt0 = some r) : shelf_Items_st p1 rt0 r 0 1 30 := by
 rw [shelf_Items.f] at H0
 refine spec_of [(0, _)] [(0, _), (1, _)] 22 Tryz.func35 rfl Tryz.ntmps35 rfl rfl rfl rfl (fun β W F => ?_)
 refine G.seq <| G.rg <| K.nilRow 100 30 eTItem 2 (.inl rfl) g0 rfl rfl rfl <| K.nil <| At.ns <| G.seq <| G.rg <| K.mv rfl rfl <| K.eqnil (V := false) g0 rfl rfl (pn_eql_some Tryz.underlying63) rfl <| K.nil <| At.next <| G.cond rfl (fun h1 => ?_) (fun h1 => ?_)
 · cases h1
 ·
  refine G.skip <| At.nr <| K.nilRow 101 30 eTItem 2 (.inl rfl) g0 rfl rfl rfl <| K.nil <| At.next ?_
  obtain ⟨x1, H1, H0⟩ := bnd H0
  refine G.sJ (σ := { v : List TItem // x1 = v }) (fun q => [(3, .a (.c (.nv 102)))]) (fun q => [(102, lrow 102 30 eTItem 2 q.1), (1, plS 1 p1), (0, blk 0 [.p 1 0, .v (.int .i64 rt0.index), .v (.int .i64 rt0.gen)] 131)]) ?_ ?_
  ·
   refine G.seq ?_
   obtain ⟨x2, hx2, H1⟩ := bnd H1
   refine G.rg <| K.mv rfl rfl <| K.c0 (cf 81 rfl) (Tree_AllS_con hx2 0 1 103 rfl) g0 rfl rfl rfl rfl <| K.lenL (lrowV 103 66 eTSlot 4 x2) (lrowV_is eTSlot_len (by decide)) g0 rfl rfl Tryz.underlying135 rfl <| K.mv rfl rfl <| K.nil <| At.next <| G.block <| G.lp (σ := { q : Nat × (List TItem × Int) // shelf_Items.l0 k x2 q.1 q.2 = some x1 }) (fun q => [(3, .a (.c (.nv 108))), (9, .a (.c (.nv 109))), (10, .a (.c (.v (.int .i64 (x2.length : Int))))), (11, .a (.c (.v (.int .i64 q.1.2.2))))]) (fun q => [(108, lrow 108 30 eTItem 2 q.1.2.1), (109, lrow 109 66 eTSlot 4 x2), (1, plS 1 p1), (0, blk 0 [.p 1 0, .v (.int .i64 rt0.index), .v (.int .i64 rt0.gen)] 131)]) (fun q => q.1.1) ⟨(k, (([] : List TItem), 0)), H1⟩ ?_ ?_
   · exact At.into [(108, 101), (109, 103)] [_, _, _, _] rfl ⟨rfl, rfl, rfl, rfl, trivial⟩ ⟨rfl, (lrow_ren rfl), rfl, (lrow_ren rfl), rfl, (pl_ren rfl), rfl, (blk_ren rfl rfl), trivial⟩ rfl
   ·
    rintro ⟨⟨n0, v1, v2⟩, H1⟩
    show G _ _ [(3, .a (.c (.nv 108))), (9, .a (.c (.nv 109))), (10, .a (.c (.v (.int .i64 (x2.length : Int))))), (11, .a (.c (.v (.int .i64 v2))))] [(108, some (lrow 108 30 eTItem 2 v1)), (109, some (lrow 109 66 eTSlot 4 x2)), (1, some (plS 1 p1)), (0, some (blk 0 [.p 1 0, .v (.int .i64 rt0.index), .v (.int .i64 rt0.gen)] 131))] _ _
    cases n0 with
    | zero => exact absurd H1 (by simp [shelf_Items.l0])
    | succ n0 =>
     have HL0 := H1
     rw [shelf_Items.l0] at H1
     refine G.seq <| G.rg <| K.bin (V := .bool (decide (v2 < (x2.length : Int)))) g0 rfl rfl (fun _ => rfl) rfl <| K.nil <| At.ns <| G.cond rfl (fun h2 => ?_) (fun h2 => ?_)
     ·
      replace H1 := bif_t H1 h2
      refine G.skip <| At.ns <| G.block <| G.seq ?_
      obtain ⟨x3, hx3, H1⟩ := bnd H1
      refine G.rg <| K.idxL (lrowV 109 66 eTSlot 4 x2) ((v2).toNat) (lrowV_is eTSlot_len (by decide)) (atL_get hx3) (atL_nn hx3) g0 rfl rfl rfl Tryz.underlying135 el135.size_run rfl <| K.loadSL Y (lrowV 109 66 eTSlot 4 x2) ((v2).toNat) 0 [_, _, _, _] [_, _, _, _] (lrowV_is eTSlot_len (by decide)) (atL_get hx3) g0 rfl rfl t66 rfl rfl rfl rfl rfl <| K.alloc Y 110 _ g0 t66 rfl rfl rfl rfl rfl <| K.store Y _ g0 rfl rfl rfl t66 rfl rfl rfl rfl rfl <| K.nil <| At.next ?_
      obtain ⟨h3, H1⟩ := grd H1
      exact G.rg <| K.mv rfl rfl <| K.fieldAddr Y g0 rfl t66 rfl rfl <| K.loadS Y _ g0 rfl rfl t30 rfl rfl rfl <| K.buildL Y 111 ([x3.item] : List TItem) [(0, _)] [((.tmp 17), _)] eTItem_len g0 (AllE.spec ⟨rfl, trivial⟩) rfl rfl Tryz.underlying33 t30 rfl rfl rfl rfl rfl rfl rfl rfl <| K.appendL 112 (lrowV 111 30 eTItem 2 ([x3.item] : List TItem)) _ el33 (lrowV_is eTItem_len (by decide)) eTItem_one g0 rfl rfl rfl rfl rfl (ap_m h3) (ap_b h3 (by decide)) rfl rfl rfl rfl rfl rfl <| K.as rfl rfl <| K.nil <| At.block_normal <| At.next <| G.rg <| K.bin (V := .int .i64 (w64 (v2 + 1))) g0 rfl rfl (fun _ => rfl) rfl <| K.mv rfl rfl <| K.nil <| At.ag ⟨(n0, ((v1 ++ ([x3.item] : List TItem)), (w64 (v2 + 1)))), H1⟩ [(108, 112)] [_, _, _, _] (Nat.lt_succ_self _) rfl ⟨rfl, rfl, rfl, rfl, trivial⟩ ⟨rfl, (lrow_ren rfl), rfl, (lrow_ren rfl), rfl, (pl_ren rfl), rfl, (blk_ren rfl rfl), trivial⟩ rfl
     ·
      replace H1 := bif_f H1 h2
      exact G.exit <| At.over_exit <| At.over_exit <| At.block_hit <| At.jd ⟨v1, oi H1⟩ [(102, 108)] [_, _, _] rfl ⟨rfl, trivial⟩ ⟨rfl, (lrow_ren rfl), rfl, (pl_ren rfl), rfl, (blk_ren rfl rfl), trivial⟩ rfl
  ·
   rintro ⟨_, rfl⟩
   show G _ _ [(3, .a (.c (.nv 102)))] [(102, some (lrow 102 30 eTItem 2 x1)), (1, some (plS 1 p1)), (0, some (blk 0 [.p 1 0, .v (.int .i64 rt0.index), .v (.int .i64 rt0.gen)] 131))] _ _
   exact G.seq <| G.rg <| K.mv rfl rfl <| K.as rfl rfl <| K.nil <| At.next <| G.ret <| At.ren (fs' := [(2, .a (.c (.nv 30)))]) (tl := [(0, blk 0 [.p 1 0, .v (.int .i64 rt0.index), .v (.int .i64 rt0.gen)] 131), (1, plS 1 p1), (30, lrow 30 30 eTItem 2 x1)]) [(30, 102)] [_, _, _] rfl ⟨rfl, trivial⟩ ⟨rfl, (blk_ren rfl rfl), rfl, (pl_ren rfl), rfl, (lrow_ren rfl), trivial⟩ rfl <| At.dr Y [2] rfl rfl (by cases H0; rfl) (by cases H0; rfl) rfl rfl rfl
theorem shelf_Items_con {k : Nat}  {p1 : Pool (TNode TSlot TSize)} {rt0 : TRef} {r : List TItem}  (H0 : shelf_Items.f k p1 rt0 = some r) (m0 m1 m30 : Nat) (hd : ndB [m0, m1, m30] = true) : shelf_Items_st p1 rt0 r m0 m1 m30 :=
 SCon.ren (rn [(0, m0), (1, m1), (30, m30)]) (shelf_Items_con0 (k := k)   H0) ⟨(blk_ren rfl rfl), (pl_ren rfl), trivial⟩ ⟨(blk_ren rfl rfl), (pl_ren rfl), (lrow_ren rfl), trivial⟩ (rn_nd hd rfl rfl) (rn_ks hd rfl rfl rfl)
end Go.Proofs.YtpeoalmhccmdiaaGreat

/- My texts that the proof of PartialVisits rests on, part 5: a calculus of walks, the walks, and the plain law. -/
import Derived.KernelRfl
import Derived.Test.YtpeoalmhccmdiaaGreatPvd
set_option linter.unusedVariables false
set_option linter.unusedSimpArgs false
namespace Go.Proofs.YtpeoalmhccmdiaaGreat
open Go Go.Proofs.YtpeoalmhccmdiaaGreat.Sx
theorem Vpartial_Queue_Delete_con {k : Nat}  {q0 : TQueue} {a1 : Int} {r : TChange × Int × TQueue}  (H0 : Vpartial_Queue_Delete.f k q0 a1 = some r) (m0 m1 m2 m3 m4 m5 m6 m7 m8 m60 m61 : Nat) (hd : ndB [m0, m1, m2, m3, m4, m5, m6, m7, m8, m60, m61] = true) : Vpartial_Queue_Delete_st q0 a1 r m0 m1 m2 m3 m4 m5 m6 m7 m8 m60 m61 :=
 SCon.ren (rn [(0, m0), (1, m1), (2, m2), (3, m3), (4, m4), (5, m5), (6, m6), (7, m7), (8, m8), (60, m60), (61, m61)]) (Vpartial_Queue_Delete_con0 (k := k)   H0) ⟨(blk_ren rfl rfl), (blk_ren rfl rfl), (pool_ren rfl), (blk_ren rfl rfl), (pool_ren rfl), (blk_ren rfl rfl), (pool_ren rfl), (blk_ren rfl rfl), (pool_ren rfl), trivial⟩ ⟨(blk_ren rfl rfl), (blk_ren rfl rfl), (pool_ren rfl), (blk_ren rfl rfl), (pool_ren rfl), (blk_ren rfl rfl), (pool_ren rfl), (blk_ren rfl rfl), (pool_ren rfl), (lrow_ren rfl), (lrow_ren rfl), trivial⟩ (rn_nd hd rfl rfl) (rn_ks hd rfl rfl rfl)
abbrev Vpartial_Queue_enter_st (q0 : TQueue) (a1 : Int) (r : TChange × TQueue) (m0 : Nat) (m1 : Nat) (m2 : Nat) (m3 : Nat) (m4 : Nat) (m5 : Nat) (m6 : Nat) (m7 : Nat) (m8 : Nat) (m60 : Nat) (m61 : Nat) : Prop := SCon Tryz.prog 75 [SV.p m0 0, .a (.c (.v (.int .i64 a1)))] (tkQueueV m0 m1 m2 m3 m4 m5 m6 m7 m8 q0 []) (.a (.agg [.nv m60, .nv m61])) (tkQueueV m0 m1 m2 m3 m4 m5 m6 m7 m8 r.2 [(m60, lrow m60 30 eTItem 2 (r.1.in_)), (m61, lrow m61 30 eTItem 2 (r.1.out))]) [m60, m61]
theorem Vpartial_Queue_enter_con0 {k : Nat}  {q0 : TQueue} {a1 : Int} {r : TChange × TQueue}  (H0 : Vpartial_Queue_enter.f k q0 a1 = some r) : Vpartial_Queue_enter_st q0 a1 r 0 1 2 3 4 5 6 7 8 60 61 := by
 rw [Vpartial_Queue_enter.f] at H0
 refine spec_of [(0, _), (1, _)] [(0, _), (1, _), (2, _), (3, _), (4, _), (5, _), (6, _), (7, _), (8, _)] 45 Tryz.func75 rfl Tryz.ntmps75 rfl rfl rfl rfl (fun β W F => ?_)
 refine G.seq <| G.rg <| K.alloc Y 100 _ g0 t56 rfl rfl rfl rfl rfl <| K.nil <| At.nilBlk (n := 100) (l' := [_, _]) 0 101 30 eTItem 2 rfl rfl rfl rfl rfl <| At.nilBlk (n := 100) (l' := [_, _]) 1 102 30 eTItem 2 rfl rfl rfl rfl rfl <| At.ns ?_
 obtain ⟨x1, hx1, H0⟩ := bnd H0
 refine G.rd mixed <| K.mv rfl rfl <| K.nilCheck g0 rfl rfl <| K.fieldAddr Y g0 rfl t98 rfl rfl <| K.load1 Y g0 rfl rfl t38 rfl rfl <| K.mv rfl rfl <| K.mv rfl rfl <| K.nilCheck g0 rfl rfl <| K.fieldAddr Y g0 rfl t98 rfl rfl <| K.load1 Y g0 rfl rfl t3 rfl rfl <| K.c0 (cf 68 rfl) (Vbridge_Prior_con hx1 1 2) g0 rfl rfl rfl rfl <| K.as rfl rfl <| K.nil <| And.intro (by kernel_rfl) <| At.ns <| G.seq <| G.rg <| K.mv rfl rfl <| K.bin (V := .bool (decide (x1.1 < 0))) g0 rfl rfl (fun _ => rfl) rfl <| K.nil <| At.next <| G.cond rfl (fun h1 => ?_) (fun h1 => ?_)
 ·
  replace H0 := bif_t H0 h1
  refine G.seq <| G.rg <| K.mv rfl rfl <| K.nilCheck g0 rfl rfl <| K.fieldAddr Y g0 rfl t98 rfl rfl <| K.load1 Y g0 rfl rfl t3 rfl rfl <| K.bin (V := .int .i64 (w64 (q0.excess - 1))) g0 rfl rfl (fun _ => rfl) rfl <| K.nilCheck g0 rfl rfl <| K.fieldAddr Y g0 rfl t98 rfl rfl <| K.store Y _ g0 rfl rfl rfl t3 rfl rfl rfl rfl rfl <| K.nil <| At.nr <| K.build Y [] [_, _] [] g0 (AllE.spec trivial) rfl rfl t56 rfl rfl <| K.store Y _ g0 rfl rfl rfl t56 rfl rfl rfl rfl rfl <| K.nil <| At.nilAgg (t := 26) (l' := [_, _]) 0 103 30 eTItem 2 rfl rfl rfl rfl rfl <| At.nilAgg (t := 26) (l' := [_, _]) 1 104 30 eTItem 2 rfl rfl rfl rfl rfl <| At.nilBlk (n := 100) (l' := [_, _]) 0 105 30 eTItem 2 rfl rfl rfl rfl rfl <| At.nilBlk (n := 100) (l' := [_, _]) 1 106 30 eTItem 2 rfl rfl rfl rfl rfl <| At.next <| G.ret <| At.over_ret <| At.ren (fs' := [(4, .a (.c (.p 100 0)))]) (tl := (tkQueueV 0 1 2 3 4 5 6 7 8 (TQueue.mk q0.capacity (TS.mk x1.2 q0.marks.r) q0.present q0.gone q0.times (w64 (q0.excess - 1))) [(60, lrow 60 30 eTItem 2 ([] : List TItem)), (61, lrow 61 30 eTItem 2 ([] : List TItem)), (100, blk 100 [.nv 60, .nv 61] 56)])) [(60, 105), (61, 106)] [_, _, _, _, _, _, _, _, _, _, _, _] rfl ⟨rfl, trivial⟩ ⟨rfl, (blk_ren rfl rfl), rfl, (blk_ren rfl rfl), rfl, (pool_ren rfl), rfl, (blk_ren rfl rfl), rfl, (pool_ren rfl), rfl, (blk_ren rfl rfl), rfl, (pool_ren rfl), rfl, (blk_ren rfl rfl), rfl, (pool_ren rfl), rfl, (lrow_ren rfl), rfl, (lrow_ren rfl), rfl, (blk_ren rfl rfl), trivial⟩ rfl <| At.done Y [(.cell 4 56, .agg [_, _])] rfl ⟨.st rfl rfl t56 rfl rfl, trivial⟩ (to' := [(0, _), (1, _), (2, _), (3, _), (4, _), (5, _), (6, _), (7, _), (8, _), (60, _), (61, _)]) ⟨rfl, rfl, rfl, rfl, rfl, rfl, rfl, rfl, rfl, rfl, rfl, trivial⟩ ?_ ?_ rfl rfl rfl (.inl rfl)
  · cases H0; rfl
  · cases H0; rfl
 ·
  replace H0 := bif_f H0 h1
  refine G.skip <| At.ns ?_
  obtain ⟨x2, hx2, H0⟩ := bnd H0
  refine G.rg <| K.mv rfl rfl <| K.nilCheck g0 rfl rfl <| K.fieldAddr Y g0 rfl t98 rfl rfl <| K.load1 Y g0 rfl rfl t38 rfl rfl <| K.mv rfl rfl <| K.c0 (cf 71 rfl) (Vbridge_Best_con hx2 1 2) g0 rfl rfl rfl rfl <| K.alloc Y 107 _ g0 t44 rfl rfl rfl rfl rfl <| K.store Y _ g0 rfl rfl rfl t44 rfl rfl rfl rfl rfl <| K.nil <| At.ns <| G.seq <| G.rg <| K.fieldAddr Y g0 rfl t44 rfl rfl <| K.load1 Y g0 rfl rfl t4 rfl rfl <| K.un (V := .bool (!x2.1.found)) g0 rfl (fun _ => rfl) rfl <| K.nil <| At.next <| G.cond rfl (fun h2 => ?_) (fun h2 => ?_)
  ·
   replace H0 := bif_t H0 h2
   refine G.seq <| G.rg <| K.build Y [] [_, _] [] g0 (AllE.spec trivial) rfl rfl t56 rfl rfl <| K.store Y _ g0 rfl rfl rfl t56 rfl rfl rfl rfl rfl <| K.nil <| At.nilAgg (t := 36) (l' := [_, _]) 0 108 30 eTItem 2 rfl rfl rfl rfl rfl <| At.nilAgg (t := 36) (l' := [_, _]) 1 109 30 eTItem 2 rfl rfl rfl rfl rfl <| At.nilBlk (n := 100) (l' := [_, _]) 0 110 30 eTItem 2 rfl rfl rfl rfl rfl <| At.nilBlk (n := 100) (l' := [_, _]) 1 111 30 eTItem 2 rfl rfl rfl rfl rfl <| At.next <| G.ret <| At.over_ret <| At.ren (fs' := [(4, .a (.c (.p 100 0)))]) (tl := (tkQueueV 0 1 2 3 4 5 6 7 8 (TQueue.mk q0.capacity (TS.mk x2.2 q0.marks.r) q0.present q0.gone q0.times q0.excess) [(60, lrow 60 30 eTItem 2 ([] : List TItem)), (61, lrow 61 30 eTItem 2 ([] : List TItem)), (100, blk 100 [.nv 60, .nv 61] 56)])) [(60, 110), (61, 111)] [_, _, _, _, _, _, _, _, _, _, _, _] rfl ⟨rfl, trivial⟩ ⟨rfl, (blk_ren rfl rfl), rfl, (blk_ren rfl rfl), rfl, (pool_ren rfl), rfl, (blk_ren rfl rfl), rfl, (pool_ren rfl), rfl, (blk_ren rfl rfl), rfl, (pool_ren rfl), rfl, (blk_ren rfl rfl), rfl, (pool_ren rfl), rfl, (lrow_ren rfl), rfl, (lrow_ren rfl), rfl, (blk_ren rfl rfl), trivial⟩ rfl <| At.done Y [(.cell 4 56, .agg [_, _])] rfl ⟨.st rfl rfl t56 rfl rfl, trivial⟩ (to' := [(0, _), (1, _), (2, _), (3, _), (4, _), (5, _), (6, _), (7, _), (8, _), (60, _), (61, _)]) ⟨rfl, rfl, rfl, rfl, rfl, rfl, rfl, rfl, rfl, rfl, rfl, trivial⟩ ?_ ?_ rfl rfl rfl (.inl rfl)
   · cases H0; rfl
   · cases H0; rfl
  ·
   replace H0 := bif_f H0 h2
   refine G.skip <| At.ns ?_
   obtain ⟨x3, hx3, H0⟩ := bnd H0
   refine G.rg <| K.mv rfl rfl <| K.fieldAddr Y g0 rfl t44 rfl rfl <| K.loadS Y _ g0 rfl rfl t30 rfl rfl rfl <| K.c0 (cf 72 rfl) (Vpartial_Queue_turn_con hx3 0 1 2 3 4 5 6 7 8) g0 rfl rfl rfl rfl <| K.nil <| At.nr <| K.fieldAddr Y g0 rfl t44 rfl rfl <| K.loadS Y _ g0 rfl rfl t30 rfl rfl rfl <| K.buildL Y 112 ([x2.1.item] : List TItem) [(0, _)] [((.tmp 42), _)] eTItem_len g0 (AllE.spec ⟨rfl, trivial⟩) rfl rfl Tryz.underlying33 t30 rfl rfl rfl rfl rfl rfl rfl rfl <| K.build Y [(0, _)] [_, _] [((.tmp 43), _)] g0 (AllE.spec ⟨rfl, trivial⟩) rfl rfl t56 rfl rfl <| K.store Y _ g0 rfl rfl rfl t56 rfl rfl rfl rfl rfl <| K.nil <| At.nilAgg (t := 44) (l' := [_, _]) 1 113 30 eTItem 2 rfl rfl rfl rfl rfl <| At.nilBlk (n := 100) (l' := [_, _]) 1 114 30 eTItem 2 rfl rfl rfl rfl rfl <| At.next <| G.ret <| At.ren (fs' := [(4, .a (.c (.p 100 0)))]) (tl := (tkQueueV 0 1 2 3 4 5 6 7 8 x3 [(60, lrow 60 30 eTItem 2 ([x2.1.item] : List TItem)), (61, lrow 61 30 eTItem 2 ([] : List TItem)), (100, blk 100 [.nv 60, .nv 61] 56)])) [(60, 112), (61, 114)] [_, _, _, _, _, _, _, _, _, _, _, _] rfl ⟨rfl, trivial⟩ ⟨rfl, (blk_ren rfl rfl), rfl, (blk_ren rfl rfl), rfl, (pool_ren rfl), rfl, (blk_ren rfl rfl), rfl, (pool_ren rfl), rfl, (blk_ren rfl rfl), rfl, (pool_ren rfl), rfl, (blk_ren rfl rfl), rfl, (pool_ren rfl), rfl, (lrow_ren rfl), rfl, (lrow_ren rfl), rfl, (blk_ren rfl rfl), trivial⟩ rfl <| At.done Y [(.cell 4 56, .agg [_, _])] rfl ⟨.st rfl rfl t56 rfl rfl, trivial⟩ (to' := [(0, _), (1, _), (2, _), (3, _), (4, _), (5, _), (6, _), (7, _), (8, _), (60, _), (61, _)]) ⟨rfl, rfl, rfl, rfl, rfl, rfl, rfl, rfl, rfl, rfl, rfl, trivial⟩ ?_ ?_ rfl rfl rfl (.inl rfl)
   · cases H0; rfl
   · cases H0; rfl
theorem Vpartial_Queue_enter_con {k : Nat}  {q0 : TQueue} {a1 : Int} {r : TChange × TQueue}  (H0 : Vpartial_Queue_enter.f k q0 a1 = some r) (m0 m1 m2 m3 m4 m5 m6 m7 m8 m60 m61 : Nat) (hd : ndB [m0, m1, m2, m3, m4, m5, m6, m7, m8, m60, m61] = true) : Vpartial_Queue_enter_st q0 a1 r m0 m1 m2 m3 m4 m5 m6 m7 m8 m60 m61 :=
 SCon.ren (rn [(0, m0), (1, m1), (2, m2), (3, m3), (4, m4), (5, m5), (6, m6), (7, m7), (8, m8), (60, m60), (61, m61)]) (Vpartial_Queue_enter_con0 (k := k)   H0) ⟨(blk_ren rfl rfl), (blk_ren rfl rfl), (pool_ren rfl), (blk_ren rfl rfl), (pool_ren rfl), (blk_ren rfl rfl), (pool_ren rfl), (blk_ren rfl rfl), (pool_ren rfl), trivial⟩ ⟨(blk_ren rfl rfl), (blk_ren rfl rfl), (pool_ren rfl), (blk_ren rfl rfl), (pool_ren rfl), (blk_ren rfl rfl), (pool_ren rfl), (blk_ren rfl rfl), (pool_ren rfl), (lrow_ren rfl), (lrow_ren rfl), trivial⟩ (rn_nd hd rfl rfl) (rn_ks hd rfl rfl rfl)
abbrev VTree_lastM_st (p1 : Pool (TNode TMark TSwell)) (a1 : TRef) (ri0 : Int) (rg0 : Int) (r : TRef × TRef × Pool (TNode TMark TSwell)) (m0 : Nat) (m1 : Nat) : Prop := SCon Tryz.prog 149 [SV.p m0 0, .a (.agg ((eTRef a1).map .v))] [(m0, blk m0 [.p m1 0, .i ri0, .i rg0] 110), (m1, pvM m1 p1)] (.tup [.agg ((eTRef r.1).map .v), .agg ((eTRef r.2.1).map .v)]) [(m0, blk m0 [.p m1 0, .i ri0, .i rg0] 110), (m1, pvM m1 r.2.2)] []
theorem VTree_lastM_con0 {k : Nat}  : ∀ {n : Nat} {p1 : Pool (TNode TMark TSwell)} {a1 : TRef} {ri0 rg0 : Int} {r : TRef × TRef × Pool (TNode TMark TSwell)}  (H0 : VTree_last.r opsM k n p1 a1 = some r), VTree_lastM_st p1 a1 ri0 rg0 r 0 1 := by
 intro n
 induction n with
 | zero => intro p1 a1 ri0 rg0 r H0; exact absurd H0 (by simp [VTree_last.r])
 | succ n ih =>
  intro p1 a1 ri0 rg0 r H0
  rw [VTree_last.r] at H0
  refine spec_of [(0, _), (1, _)] [(0, _), (1, _)] 33 Tryz.func149 rfl Tryz.ntmps149 rfl rfl rfl rfl (fun β W F => ?_)
  refine G.seq <| G.rg <| K.box Y 100 _ g0 rfl rfl rfl rfl rfl rfl <| K.alloc Y 101 _ g0 t108 rfl rfl rfl rfl rfl <| K.alloc Y 102 _ g0 t108 rfl rfl rfl rfl rfl <| K.nil <| At.ns ?_
  obtain ⟨x1, hx1, H0⟩ := bnd H0
  refine G.rg <| K.mv rfl rfl <| K.loadS Y _ g0 rfl rfl t108 rfl rfl rfl <| K.cA (cf 80 rfl) [0] (fun β w S2 h => SCon.rdBlk (VTree_getM_con hx1 0 1) rfl h) g0 rfl rfl rfl <| K.alloc Y 103 _ g0 t133 rfl rfl rfl rfl rfl <| K.store Y _ g0 rfl rfl rfl t133 rfl rfl rfl rfl rfl <| K.nil <| At.ns <| G.seq <| G.rg <| K.fieldAddr Y g0 rfl t133 rfl rfl <| K.fieldAddr Y g0 rfl t108 rfl rfl <| K.load1 Y g0 rfl rfl t3 rfl rfl <| K.bin (V := .bool (x1.1.right.gen == 0)) g0 rfl rfl (fun _ => rfl) rfl <| K.nil <| At.next <| G.cond rfl (fun h1 => ?_) (fun h1 => ?_)
  ·
   replace H0 := bif_t H0 h1
   refine G.seq <| G.rd mixed <| K.fieldAddr Y g0 rfl t133 rfl rfl <| K.loadS Y _ g0 rfl rfl t108 rfl rfl rfl <| K.loadS Y _ g0 rfl rfl t108 rfl rfl rfl <| K.store Y _ g0 rfl rfl rfl t108 rfl rfl rfl rfl rfl <| K.store Y _ g0 rfl rfl rfl t108 rfl rfl rfl rfl rfl <| K.nil <| And.intro (by kernel_rfl) <| At.next <| G.ret <| At.over_ret <| At.done Y [(.cell 4 108, .agg [_, _]), (.cell 5 108, .agg [_, _])] rfl ⟨.st rfl rfl t108 rfl rfl, .st rfl rfl t108 rfl rfl, trivial⟩ (to' := [(0, _), (1, _)]) ⟨rfl, rfl, trivial⟩ ?_ ?_ rfl rfl rfl (.inl rfl)
   · cases H0; rfl
   · cases H0; rfl
  ·
   replace H0 := bif_f H0 h1
   refine G.skip <| At.ns ?_
   obtain ⟨x2, hx2, H0⟩ := bnd H0
   refine G.rg <| K.mv rfl rfl <| K.fieldAddr Y g0 rfl t133 rfl rfl <| K.loadS Y _ g0 rfl rfl t108 rfl rfl rfl <| K.cA (cf 149 rfl) [0] (fun β w S2 h => SCon.rdBlk (ih hx2) rfl h) g0 rfl rfl rfl <| K.mv rfl rfl <| K.extract g0 rfl rfl rfl <| K.extract g0 rfl rfl rfl <| K.alloc Y 104 _ g0 t108 rfl rfl rfl rfl rfl <| K.alloc Y 105 _ g0 t108 rfl rfl rfl rfl rfl <| K.store Y _ g0 rfl rfl rfl t108 rfl rfl rfl rfl rfl <| K.store Y _ g0 rfl rfl rfl t108 rfl rfl rfl rfl rfl <| K.nil <| At.ns ?_
   obtain ⟨x3, hx3, H0⟩ := bnd H0
   refine G.rd mixed <| K.mv rfl rfl <| K.fieldAddr Y g0 rfl t133 rfl rfl <| K.loadS Y _ g0 rfl rfl t108 rfl rfl rfl <| K.loadS Y _ g0 rfl rfl t108 rfl rfl rfl <| K.loadS Y _ g0 rfl rfl t108 rfl rfl rfl <| K.cA (cf 125 rfl) [0] (fun β w S2 h => SCon.rdBlk (VTree_linkM_con hx3 0 1) rfl h) g0 rfl rfl rfl <| K.loadS Y _ g0 rfl rfl t108 rfl rfl rfl <| K.store Y _ g0 rfl rfl rfl t108 rfl rfl rfl rfl rfl <| K.store Y _ g0 rfl rfl rfl t108 rfl rfl rfl rfl rfl <| K.nil <| And.intro (by kernel_rfl) <| At.next <| G.ret <| At.done Y [(.cell 4 108, .agg [_, _]), (.cell 5 108, .agg [_, _])] rfl ⟨.st rfl rfl t108 rfl rfl, .st rfl rfl t108 rfl rfl, trivial⟩ (to' := [(0, _), (1, _)]) ⟨rfl, rfl, trivial⟩ ?_ ?_ rfl rfl rfl (.inl rfl)
   · cases H0; rfl
   · cases H0; rfl
theorem VTree_lastM_con {k n : Nat}  {p1 : Pool (TNode TMark TSwell)} {a1 : TRef} {ri0 rg0 : Int} {r : TRef × TRef × Pool (TNode TMark TSwell)}  (H0 : VTree_last.r opsM k n p1 a1 = some r) (m0 m1 : Nat) : VTree_lastM_st p1 a1 ri0 rg0 r m0 m1 :=
 SCon.ren (rn [(0, m0), (1, m1)]) (VTree_lastM_con0 (k := k)   H0) ⟨(blk_ren rfl rfl), (pool_ren rfl), trivial⟩ ⟨(blk_ren rfl rfl), (pool_ren rfl), trivial⟩ (by simp) (by simp)
abbrev VTree_mergeM_st (p1 : Pool (TNode TMark TSwell)) (a1 : TRef) (a2 : TRef) (ri0 : Int) (rg0 : Int) (r : TRef × Pool (TNode TMark TSwell)) (m0 : Nat) (m1 : Nat) : Prop := SCon Tryz.prog 132 [SV.p m0 0, .a (.agg ((eTRef a1).map .v)), .a (.agg ((eTRef a2).map .v))] [(m0, blk m0 [.p m1 0, .i ri0, .i rg0] 110), (m1, pvM m1 p1)] (.a (.agg ((eTRef r.1).map .v))) [(m0, blk m0 [.p m1 0, .i ri0, .i rg0] 110), (m1, pvM m1 r.2)] []
theorem VTree_mergeM_con0 {k : Nat}  {p1 : Pool (TNode TMark TSwell)} {a1 : TRef} {a2 : TRef} {ri0 rg0 : Int} {r : TRef × Pool (TNode TMark TSwell)}  (H0 : VTree_merge.f opsM k p1 a1 a2 = some r) : VTree_mergeM_st p1 a1 a2 ri0 rg0 r 0 1 := by
 rw [VTree_merge.f] at H0
 refine spec_of [(0, _), (1, _), (2, _)] [(0, _), (1, _)] 30 Tryz.func132 rfl Tryz.ntmps132 rfl rfl rfl rfl (fun β W F => ?_)
 refine G.seq <| G.rg <| K.box Y 100 _ g0 rfl rfl rfl rfl rfl rfl <| K.box Y 101 _ g0 rfl rfl rfl rfl rfl rfl <| K.alloc Y 102 _ g0 t108 rfl rfl rfl rfl rfl <| K.nil <| At.ns <| G.block <| G.seq <| G.rg <| K.fieldAddr Y g0 rfl t108 rfl rfl <| K.load1 Y g0 rfl rfl t3 rfl rfl <| K.bin (V := .bool (a1.gen == 0)) g0 rfl rfl (fun _ => rfl) rfl <| K.as rfl rfl <| K.nil <| At.next <| G.cond rfl (fun h1 => ?_) (fun h1 => ?_)
 ·
  replace H0 := bif_t H0 h1
  refine G.seq <| G.rg <| K.loadS Y _ g0 rfl rfl t108 rfl rfl rfl <| K.store Y _ g0 rfl rfl rfl t108 rfl rfl rfl rfl rfl <| K.nil <| At.next <| G.ret <| At.block_ret <| At.over_ret <| At.done Y [(.cell 6 108, .agg [_, _])] rfl ⟨.st rfl rfl t108 rfl rfl, trivial⟩ (to' := [(0, _), (1, _)]) ⟨rfl, rfl, trivial⟩ ?_ ?_ rfl rfl rfl (.inl rfl)
  · cases H0; rfl
  · cases H0; rfl
 ·
  replace H0 := bif_f H0 h1
  refine G.seq <| G.rg <| K.fieldAddr Y g0 rfl t108 rfl rfl <| K.load1 Y g0 rfl rfl t3 rfl rfl <| K.bin (V := .bool (a2.gen == 0)) g0 rfl rfl (fun _ => rfl) rfl <| K.as rfl rfl <| K.nil <| At.next <| G.cond rfl (fun h2 => ?_) (fun h2 => ?_)
  ·
   replace H0 := bif_t H0 h2
   refine G.seq <| G.rg <| K.loadS Y _ g0 rfl rfl t108 rfl rfl rfl <| K.store Y _ g0 rfl rfl rfl t108 rfl rfl rfl rfl rfl <| K.nil <| At.next <| G.ret <| At.block_ret <| At.over_ret <| At.done Y [(.cell 6 108, .agg [_, _])] rfl ⟨.st rfl rfl t108 rfl rfl, trivial⟩ (to' := [(0, _), (1, _)]) ⟨rfl, rfl, trivial⟩ ?_ ?_ rfl rfl rfl (.inl rfl)
   · cases H0; rfl
   · cases H0; rfl
  ·
   replace H0 := bif_f H0 h2
   refine G.skip <| At.block_normal <| At.ns ?_
   obtain ⟨x1, hx1, H0⟩ := bnd H0
   refine G.rg <| K.mv rfl rfl <| K.loadS Y _ g0 rfl rfl t108 rfl rfl rfl <| K.cA (cf 149 rfl) [0] (fun β w S2 h => SCon.rdBlk (VTree_lastM_con hx1 0 1) rfl h) g0 rfl rfl rfl <| K.mv rfl rfl <| K.extract g0 rfl rfl rfl <| K.extract g0 rfl rfl rfl <| K.alloc Y 103 _ g0 t108 rfl rfl rfl rfl rfl <| K.alloc Y 104 _ g0 t108 rfl rfl rfl rfl rfl <| K.store Y _ g0 rfl rfl rfl t108 rfl rfl rfl rfl rfl <| K.store Y _ g0 rfl rfl rfl t108 rfl rfl rfl rfl rfl <| K.nil <| At.ns ?_
   obtain ⟨x2, hx2, H0⟩ := bnd H0
   refine G.rg <| K.mv rfl rfl <| K.loadS Y _ g0 rfl rfl t108 rfl rfl rfl <| K.loadS Y _ g0 rfl rfl t108 rfl rfl rfl <| K.loadS Y _ g0 rfl rfl t108 rfl rfl rfl <| K.cA (cf 125 rfl) [0] (fun β w S2 h => SCon.rdBlk (VTree_linkM_con hx2 0 1) rfl h) g0 rfl rfl rfl <| K.store Y _ g0 rfl rfl rfl t108 rfl rfl rfl rfl rfl <| K.nil <| At.next <| G.ret <| At.done Y [(.cell 6 108, .agg [_, _])] rfl ⟨.st rfl rfl t108 rfl rfl, trivial⟩ (to' := [(0, _), (1, _)]) ⟨rfl, rfl, trivial⟩ ?_ ?_ rfl rfl rfl (.inl rfl)
   · cases H0; rfl
   · cases H0; rfl
theorem VTree_mergeM_con {k : Nat}  {p1 : Pool (TNode TMark TSwell)} {a1 : TRef} {a2 : TRef} {ri0 rg0 : Int} {r : TRef × Pool (TNode TMark TSwell)}  (H0 : VTree_merge.f opsM k p1 a1 a2 = some r) (m0 m1 : Nat) : VTree_mergeM_st p1 a1 a2 ri0 rg0 r m0 m1 :=
 SCon.ren (rn [(0, m0), (1, m1)]) (VTree_mergeM_con0 (k := k)   H0) ⟨(blk_ren rfl rfl), (pool_ren rfl), trivial⟩ ⟨(blk_ren rfl rfl), (pool_ren rfl), trivial⟩ (by simp) (by simp)
abbrev VTree_dropM_st (p1 : Pool (TNode TMark TSwell)) (a1 : TRef) (a2 : TMark) (ri0 : Int) (rg0 : Int) (r : TRef × TMark × Bool × Pool (TNode TMark TSwell)) (m0 : Nat) (m1 : Nat) : Prop := SCon Tryz.prog 105 [SV.p m0 0, .a (.agg ((eTRef a1).map .v)), .a (.agg ((eTMark a2).map .v))] [(m0, blk m0 [.p m1 0, .i ri0, .i rg0] 110), (m1, pvM m1 p1)] (.tup [.agg ((eTRef r.1).map .v), .agg ((eTMark r.2.1).map .v), .c (.v (.bool r.2.2.1))]) [(m0, blk m0 [.p m1 0, .i ri0, .i rg0] 110), (m1, pvM m1 r.2.2.2)] []
set_option maxHeartbeats 4000000 in
theorem VTree_dropM_con0 {k : Nat}  : ∀ {n : Nat} {p1 : Pool (TNode TMark TSwell)} {a1 : TRef} {a2 : TMark} {ri0 rg0 : Int} {r : TRef × TMark × Bool × Pool (TNode TMark TSwell)}  (H0 : VTree_drop.r opsM k n p1 a1 a2 = some r), VTree_dropM_st p1 a1 a2 ri0 rg0 r 0 1 := by
 intro n
 induction n with
 | zero => intro p1 a1 a2 ri0 rg0 r H0; exact absurd H0 (by simp [VTree_drop.r])
 | succ n ih =>
  intro p1 a1 a2 ri0 rg0 r H0
  rw [VTree_drop.r] at H0
  refine spec_of [(0, _), (1, _), (2, _)] [(0, _), (1, _)] 91 Tryz.func105 rfl Tryz.ntmps105 rfl rfl rfl rfl (fun β W F => ?_)
  refine G.seq <| G.rg <| K.box Y 100 _ g0 rfl rfl rfl rfl rfl rfl <| K.box Y 101 _ g0 rfl rfl rfl rfl rfl rfl <| K.alloc Y 102 _ g0 t108 rfl rfl rfl rfl rfl <| K.alloc Y 103 _ g0 t46 rfl rfl rfl rfl rfl <| K.as rfl rfl <| K.nil <| At.ns <| G.seq <| G.rg <| K.fieldAddr Y g0 rfl t108 rfl rfl <| K.load1 Y g0 rfl rfl t3 rfl rfl <| K.bin (V := .bool (a1.gen == 0)) g0 rfl rfl (fun _ => rfl) rfl <| K.nil <| At.next <| G.cond rfl (fun h1 => ?_) (fun h1 => ?_)
  ·
   replace H0 := bif_t H0 h1
   refine G.seq <| G.rg <| K.alloc Y 104 _ g0 t46 rfl rfl rfl rfl rfl <| K.nil <| At.ns <| G.rd mixed <| K.loadS Y _ g0 rfl rfl t108 rfl rfl rfl <| K.loadS Y _ g0 rfl rfl t46 rfl rfl rfl <| K.store Y _ g0 rfl rfl rfl t108 rfl rfl rfl rfl rfl <| K.store Y _ g0 rfl rfl rfl t46 rfl rfl rfl rfl rfl <| K.as rfl rfl <| K.nil <| And.intro (by kernel_rfl) <| At.next <| G.ret <| At.over_ret <| At.done Y [(.cell 6 108, .agg [_, _]), (.cell 7 46, .agg [_, _, _, _, _, _, _, _]), (.tmp 8, .c _)] rfl ⟨.st rfl rfl t108 rfl rfl, .st rfl rfl t46 rfl rfl, .tmp rfl, trivial⟩ (to' := [(0, _), (1, _)]) ⟨rfl, rfl, trivial⟩ ?_ ?_ rfl rfl rfl (.inl rfl)
   · cases H0; rfl
   · cases H0; rfl
  ·
   replace H0 := bif_f H0 h1
   refine G.skip <| At.ns ?_
   obtain ⟨x1, hx1, H0⟩ := bnd H0
   refine G.rg <| K.mv rfl rfl <| K.loadS Y _ g0 rfl rfl t108 rfl rfl rfl <| K.cA (cf 80 rfl) [0] (fun β w S2 h => SCon.rdBlk (VTree_getM_con hx1 0 1) rfl h) g0 rfl rfl rfl <| K.alloc Y 105 _ g0 t133 rfl rfl rfl rfl rfl <| K.store Y _ g0 rfl rfl rfl t133 rfl rfl rfl rfl rfl <| K.nil <| At.ns ?_
   obtain ⟨x2, hx2, H0⟩ := bnd H0
   refine G.rg <| K.loadS Y _ g0 rfl rfl t46 rfl rfl rfl <| K.mkIface Y g0 rfl (mkI Tryz.underlying46 rfl) rfl <| K.fieldAddr Y g0 rfl t133 rfl rfl <| K.loadS Y _ g0 rfl rfl t46 rfl rfl rfl <| K.callR [((.tmp 27), _), ((.tmp 29), _)] (wave_Mark_Compare_con (k := k) hx2) (toFn_invoke (cf 196 rfl) (me46_196) rfl) g0 ⟨rfl, rfl, trivial⟩ trivial rfl rfl rfl <| K.as rfl rfl <| K.nil <| At.ns <| G.block <| G.seq <| G.rg <| K.mv rfl rfl <| K.bin (V := .bool (decide (x2 < 0))) g0 rfl rfl (fun _ => rfl) rfl <| K.as rfl rfl <| K.nil <| At.next <| G.cond rfl (fun h2 => ?_) (fun h2 => ?_)
   ·
    replace H0 := bif_t H0 h2
    refine G.seq ?_
    obtain ⟨x3, hx3, H0⟩ := bnd H0
    refine G.rg <| K.mv rfl rfl <| K.fieldAddr Y g0 rfl t133 rfl rfl <| K.loadS Y _ g0 rfl rfl t108 rfl rfl rfl <| K.loadS Y _ g0 rfl rfl t46 rfl rfl rfl <| K.cA (cf 105 rfl) [0] (fun β w S2 h => SCon.rdBlk (ih hx3) rfl h) g0 rfl rfl rfl <| K.mv rfl rfl <| K.extract g0 rfl rfl rfl <| K.extract g0 rfl rfl rfl <| K.extract g0 rfl rfl rfl <| K.alloc Y 106 _ g0 t108 rfl rfl rfl rfl rfl <| K.alloc Y 107 _ g0 t46 rfl rfl rfl rfl rfl <| K.store Y _ g0 rfl rfl rfl t108 rfl rfl rfl rfl rfl <| K.store Y _ g0 rfl rfl rfl t46 rfl rfl rfl rfl rfl <| K.as rfl rfl <| K.nil <| At.ns <| G.seq <| G.rg <| K.mv rfl rfl <| K.un (V := .bool (!x3.2.2.1)) g0 rfl (fun _ => rfl) rfl <| K.nil <| At.next <| G.cond rfl (fun h3 => ?_) (fun h3 => ?_)
    ·
     replace H0 := bif_t H0 h3
     refine G.seq <| G.rd mixed <| K.loadS Y _ g0 rfl rfl t108 rfl rfl rfl <| K.loadS Y _ g0 rfl rfl t46 rfl rfl rfl <| K.store Y _ g0 rfl rfl rfl t108 rfl rfl rfl rfl rfl <| K.store Y _ g0 rfl rfl rfl t46 rfl rfl rfl rfl rfl <| K.as rfl rfl <| K.nil <| And.intro (by kernel_rfl) <| At.next <| G.ret <| At.over_ret <| At.block_ret <| At.over_ret <| At.done Y [(.cell 6 108, .agg [_, _]), (.cell 7 46, .agg [_, _, _, _, _, _, _, _]), (.tmp 8, .c _)] rfl ⟨.st rfl rfl t108 rfl rfl, .st rfl rfl t46 rfl rfl, .tmp rfl, trivial⟩ (to' := [(0, _), (1, _)]) ⟨rfl, rfl, trivial⟩ ?_ ?_ rfl rfl rfl (.inl rfl)
     · cases H0; rfl
     · cases H0; rfl
    ·
     replace H0 := bif_f H0 h3
     refine G.skip <| At.ns ?_
     obtain ⟨x4, hx4, H0⟩ := bnd H0
     refine G.rd mixed <| K.mv rfl rfl <| K.loadS Y _ g0 rfl rfl t108 rfl rfl rfl <| K.loadS Y _ g0 rfl rfl t108 rfl rfl rfl <| K.fieldAddr Y g0 rfl t133 rfl rfl <| K.loadS Y _ g0 rfl rfl t108 rfl rfl rfl <| K.cA (cf 125 rfl) [0] (fun β w S2 h => SCon.rdBlk (VTree_linkM_con hx4 0 1) rfl h) g0 rfl rfl rfl <| K.loadS Y _ g0 rfl rfl t46 rfl rfl rfl <| K.store Y _ g0 rfl rfl rfl t108 rfl rfl rfl rfl rfl <| K.store Y _ g0 rfl rfl rfl t46 rfl rfl rfl rfl rfl <| K.as rfl rfl <| K.nil <| And.intro (by kernel_rfl) <| At.next <| G.ret <| At.block_ret <| At.over_ret <| At.done Y [(.cell 6 108, .agg [_, _]), (.cell 7 46, .agg [_, _, _, _, _, _, _, _]), (.tmp 8, .c _)] rfl ⟨.st rfl rfl t108 rfl rfl, .st rfl rfl t46 rfl rfl, .tmp rfl, trivial⟩ (to' := [(0, _), (1, _)]) ⟨rfl, rfl, trivial⟩ ?_ ?_ rfl rfl rfl (.inl rfl)
     · cases H0; rfl
     · cases H0; rfl
   ·
    replace H0 := bif_f H0 h2
    refine G.seq <| G.rg <| K.mv rfl rfl <| K.bin (V := .bool (decide (x2 > 0))) g0 rfl rfl (fun _ => rfl) rfl <| K.as rfl rfl <| K.nil <| At.next <| G.cond rfl (fun h4 => ?_) (fun h4 => ?_)
    ·
     replace H0 := bif_t H0 h4
     refine G.seq ?_
     obtain ⟨x5, hx5, H0⟩ := bnd H0
     refine G.rg <| K.mv rfl rfl <| K.fieldAddr Y g0 rfl t133 rfl rfl <| K.loadS Y _ g0 rfl rfl t108 rfl rfl rfl <| K.loadS Y _ g0 rfl rfl t46 rfl rfl rfl <| K.cA (cf 105 rfl) [0] (fun β w S2 h => SCon.rdBlk (ih hx5) rfl h) g0 rfl rfl rfl <| K.mv rfl rfl <| K.extract g0 rfl rfl rfl <| K.extract g0 rfl rfl rfl <| K.extract g0 rfl rfl rfl <| K.alloc Y 108 _ g0 t108 rfl rfl rfl rfl rfl <| K.alloc Y 109 _ g0 t46 rfl rfl rfl rfl rfl <| K.store Y _ g0 rfl rfl rfl t108 rfl rfl rfl rfl rfl <| K.store Y _ g0 rfl rfl rfl t46 rfl rfl rfl rfl rfl <| K.as rfl rfl <| K.nil <| At.ns <| G.seq <| G.rg <| K.mv rfl rfl <| K.un (V := .bool (!x5.2.2.1)) g0 rfl (fun _ => rfl) rfl <| K.nil <| At.next <| G.cond rfl (fun h5 => ?_) (fun h5 => ?_)
     ·
      replace H0 := bif_t H0 h5
      refine G.seq <| G.rd mixed <| K.loadS Y _ g0 rfl rfl t108 rfl rfl rfl <| K.loadS Y _ g0 rfl rfl t46 rfl rfl rfl <| K.store Y _ g0 rfl rfl rfl t108 rfl rfl rfl rfl rfl <| K.store Y _ g0 rfl rfl rfl t46 rfl rfl rfl rfl rfl <| K.as rfl rfl <| K.nil <| And.intro (by kernel_rfl) <| At.next <| G.ret <| At.over_ret <| At.block_ret <| At.over_ret <| At.done Y [(.cell 6 108, .agg [_, _]), (.cell 7 46, .agg [_, _, _, _, _, _, _, _]), (.tmp 8, .c _)] rfl ⟨.st rfl rfl t108 rfl rfl, .st rfl rfl t46 rfl rfl, .tmp rfl, trivial⟩ (to' := [(0, _), (1, _)]) ⟨rfl, rfl, trivial⟩ ?_ ?_ rfl rfl rfl (.inl rfl)
      · cases H0; rfl
      · cases H0; rfl
     ·
      replace H0 := bif_f H0 h5
      refine G.skip <| At.ns ?_
      obtain ⟨x6, hx6, H0⟩ := bnd H0
      refine G.rd mixed <| K.mv rfl rfl <| K.fieldAddr Y g0 rfl t133 rfl rfl <| K.loadS Y _ g0 rfl rfl t108 rfl rfl rfl <| K.loadS Y _ g0 rfl rfl t108 rfl rfl rfl <| K.loadS Y _ g0 rfl rfl t108 rfl rfl rfl <| K.cA (cf 125 rfl) [0] (fun β w S2 h => SCon.rdBlk (VTree_linkM_con hx6 0 1) rfl h) g0 rfl rfl rfl <| K.loadS Y _ g0 rfl rfl t46 rfl rfl rfl <| K.store Y _ g0 rfl rfl rfl t108 rfl rfl rfl rfl rfl <| K.store Y _ g0 rfl rfl rfl t46 rfl rfl rfl rfl rfl <| K.as rfl rfl <| K.nil <| And.intro (by kernel_rfl) <| At.next <| G.ret <| At.block_ret <| At.over_ret <| At.done Y [(.cell 6 108, .agg [_, _]), (.cell 7 46, .agg [_, _, _, _, _, _, _, _]), (.tmp 8, .c _)] rfl ⟨.st rfl rfl t108 rfl rfl, .st rfl rfl t46 rfl rfl, .tmp rfl, trivial⟩ (to' := [(0, _), (1, _)]) ⟨rfl, rfl, trivial⟩ ?_ ?_ rfl rfl rfl (.inl rfl)
      · cases H0; rfl
      · cases H0; rfl
    ·
     replace H0 := bif_f H0 h4
     refine G.skip <| At.block_normal <| At.ns ?_
     obtain ⟨x7, hx7, H0⟩ := bnd H0
     refine G.rd mixed <| K.mv rfl rfl <| K.nilCheck g0 rfl rfl <| K.fieldAddr Y g0 rfl t110 rfl rfl <| K.load1 Y g0 rfl rfl t106 rfl rfl <| K.loadS Y _ g0 rfl rfl t108 rfl rfl rfl <| K.call0 [(.func 131, _), ((.tmp 80), _), ((.tmp 81), _)] (pvdropM hx7 1) (toFn_func (cf 131 rfl) rfl) g0 ⟨rfl, rfl, rfl, trivial⟩ ⟨rfl, trivial⟩ rfl rfl rfl rfl rfl rfl <| K.nil <| And.intro (by kernel_rfl) <| At.ns ?_
     obtain ⟨x8, hx8, H0⟩ := bnd H0
     refine G.rd mixed <| K.mv rfl rfl <| K.fieldAddr Y g0 rfl t133 rfl rfl <| K.loadS Y _ g0 rfl rfl t108 rfl rfl rfl <| K.fieldAddr Y g0 rfl t133 rfl rfl <| K.loadS Y _ g0 rfl rfl t108 rfl rfl rfl <| K.cA (cf 132 rfl) [0] (fun β w S2 h => SCon.rdBlk (VTree_mergeM_con hx8 0 1) rfl h) g0 rfl rfl rfl <| K.fieldAddr Y g0 rfl t133 rfl rfl <| K.loadS Y _ g0 rfl rfl t46 rfl rfl rfl <| K.store Y _ g0 rfl rfl rfl t108 rfl rfl rfl rfl rfl <| K.store Y _ g0 rfl rfl rfl t46 rfl rfl rfl rfl rfl <| K.as rfl rfl <| K.nil <| And.intro (by kernel_rfl) <| At.next <| G.ret <| At.done Y [(.cell 6 108, .agg [_, _]), (.cell 7 46, .agg [_, _, _, _, _, _, _, _]), (.tmp 8, .c _)] rfl ⟨.st rfl rfl t108 rfl rfl, .st rfl rfl t46 rfl rfl, .tmp rfl, trivial⟩ (to' := [(0, _), (1, _)]) ⟨rfl, rfl, trivial⟩ ?_ ?_ rfl rfl rfl (.inl rfl)
     · cases H0; rfl
     · cases H0; rfl
theorem VTree_dropM_con {k n : Nat}  {p1 : Pool (TNode TMark TSwell)} {a1 : TRef} {a2 : TMark} {ri0 rg0 : Int} {r : TRef × TMark × Bool × Pool (TNode TMark TSwell)}  (H0 : VTree_drop.r opsM k n p1 a1 a2 = some r) (m0 m1 : Nat) : VTree_dropM_st p1 a1 a2 ri0 rg0 r m0 m1 :=
 SCon.ren (rn [(0, m0), (1, m1)]) (VTree_dropM_con0 (k := k)   H0) ⟨(blk_ren rfl rfl), (pool_ren rfl), trivial⟩ ⟨(blk_ren rfl rfl), (pool_ren rfl), trivial⟩ (by simp) (by simp)
abbrev VTree_DropM_st (p1 : Pool (TNode TMark TSwell)) (rt0 : TRef) (a1 : TMark) (r : TMark × Bool × TRef × Pool (TNode TMark TSwell)) (m0 : Nat) (m1 : Nat) : Prop := SCon Tryz.prog 76 [SV.p m0 0, .a (.agg ((eTMark a1).map .v))] [(m0, blk m0 [.p m1 0, .i rt0.index, .i rt0.gen] 110), (m1, pvM m1 p1)] (.tup [.agg ((eTMark r.1).map .v), .c (.v (.bool r.2.1))]) [(m0, blk m0 [.p m1 0, .i r.2.2.1.index, .i r.2.2.1.gen] 110), (m1, pvM m1 r.2.2.2)] []
theorem VTree_DropM_con0 {k : Nat}  {p1 : Pool (TNode TMark TSwell)} {rt0 : TRef} {a1 : TMark} {r : TMark × Bool × TRef × Pool (TNode TMark TSwell)}  (H0 : VTree_Drop.f opsM k p1 rt0 a1 = some r) : VTree_DropM_st p1 rt0 a1 r 0 1 := by
 rw [VTree_Drop.f] at H0
 refine spec_of [(0, _), (1, _)] [(0, _), (1, _)] 26 Tryz.func76 rfl Tryz.ntmps76 rfl rfl rfl rfl (fun β W F => ?_)
 refine G.seq <| G.rg <| K.box Y 100 _ g0 rfl rfl rfl rfl rfl rfl <| K.alloc Y 101 _ g0 t46 rfl rfl rfl rfl rfl <| K.as rfl rfl <| K.nil <| At.ns ?_
 obtain ⟨x1, hx1, H0⟩ := bnd H0
 refine G.rd mixed <| K.mv rfl rfl <| K.mv rfl rfl <| K.nilCheck g0 rfl rfl <| K.fieldAddr Y g0 rfl t110 rfl rfl <| K.loadS Y _ g0 rfl rfl t108 rfl rfl rfl <| K.loadS Y _ g0 rfl rfl t46 rfl rfl rfl <| K.cA (cf 105 rfl) [0] (fun β w S2 h => SCon.rdBlk (VTree_dropM_con hx1 0 1) rfl h) g0 rfl rfl rfl <| K.mv rfl rfl <| K.extract g0 rfl rfl rfl <| K.extract g0 rfl rfl rfl <| K.extract g0 rfl rfl rfl <| K.alloc Y 102 _ g0 t108 rfl rfl rfl rfl rfl <| K.alloc Y 103 _ g0 t46 rfl rfl rfl rfl rfl <| K.store Y _ g0 rfl rfl rfl t108 rfl rfl rfl rfl rfl <| K.store Y _ g0 rfl rfl rfl t46 rfl rfl rfl rfl rfl <| K.as rfl rfl <| K.nil <| And.intro (by kernel_rfl) <| At.nr <| K.mv rfl rfl <| K.loadS Y _ g0 rfl rfl t108 rfl rfl rfl <| K.nilCheck g0 rfl rfl <| K.fieldAddr Y g0 rfl t110 rfl rfl <| K.store Y _ g0 rfl rfl rfl t108 rfl rfl rfl rfl rfl <| K.nil <| At.nr <| K.loadS Y _ g0 rfl rfl t46 rfl rfl rfl <| K.mv rfl rfl <| K.store Y _ g0 rfl rfl rfl t46 rfl rfl rfl rfl rfl <| K.as rfl rfl <| K.nil <| At.next <| G.ret <| At.done Y [(.cell 4 46, .agg [_, _, _, _, _, _, _, _]), (.tmp 5, .c _)] rfl ⟨.st rfl rfl t46 rfl rfl, .tmp rfl, trivial⟩ (to' := [(0, _), (1, _)]) ⟨rfl, rfl, trivial⟩ ?_ ?_ rfl rfl rfl (.inl rfl)
 · cases H0; rfl
 · cases H0; rfl
theorem VTree_DropM_con {k : Nat}  {p1 : Pool (TNode TMark TSwell)} {rt0 : TRef} {a1 : TMark} {r : TMark × Bool × TRef × Pool (TNode TMark TSwell)}  (H0 : VTree_Drop.f opsM k p1 rt0 a1 = some r) (m0 m1 : Nat) : VTree_DropM_st p1 rt0 a1 r m0 m1 :=
 SCon.ren (rn [(0, m0), (1, m1)]) (VTree_DropM_con0 (k := k)   H0) ⟨(blk_ren rfl rfl), (pool_ren rfl), trivial⟩ ⟨(blk_ren rfl rfl), (pool_ren rfl), trivial⟩ (by simp) (by simp)
abbrev Vpartial_Queue_Revoke_st (q0 : TQueue) (a1 : Int) (r : TChange × Int × TQueue) (m0 : Nat) (m1 : Nat) (m2 : Nat) (m3 : Nat) (m4 : Nat) (m5 : Nat) (m6 : Nat) (m7 : Nat) (m8 : Nat) (m60 : Nat) (m61 : Nat) : Prop := SCon Tryz.prog 25 [SV.p m0 0, .a (.c (.v (.int .i64 a1)))] (tkQueueV m0 m1 m2 m3 m4 m5 m6 m7 m8 q0 []) (.tup [.agg [.nv m60, .nv m61], .c (.v (.int .i64 r.2.1))]) (tkQueueV m0 m1 m2 m3 m4 m5 m6 m7 m8 r.2.2 [(m60, lrow m60 30 eTItem 2 (r.1.in_)), (m61, lrow m61 30 eTItem 2 (r.1.out))]) [m60, m61]
theorem Vpartial_Queue_Revoke_con0 {k : Nat}  {q0 : TQueue} {a1 : Int} {r : TChange × Int × TQueue}  (H0 : Vpartial_Queue_Revoke.f k q0 a1 = some r) : Vpartial_Queue_Revoke_st q0 a1 r 0 1 2 3 4 5 6 7 8 60 61 := by
 rw [Vpartial_Queue_Revoke.f] at H0
 refine spec_of [(0, _), (1, _)] [(0, _), (1, _), (2, _), (3, _), (4, _), (5, _), (6, _), (7, _), (8, _)] 93 Tryz.func25 rfl Tryz.ntmps25 rfl rfl rfl rfl (fun β W F => ?_)
 refine G.seq <| G.rg <| K.alloc Y 100 _ g0 t56 rfl rfl rfl rfl rfl <| K.as rfl rfl <| K.nil <| At.nilBlk (n := 100) (l' := [_, _]) 0 101 30 eTItem 2 rfl rfl rfl rfl rfl <| At.nilBlk (n := 100) (l' := [_, _]) 1 102 30 eTItem 2 rfl rfl rfl rfl rfl <| At.ns ?_
 obtain ⟨x1, hx1, H0⟩ := bnd H0
 obtain ⟨x2, hx2, H0⟩ := bnd H0
 refine G.rd mixed <| K.mv rfl rfl <| K.nilCheck g0 rfl rfl <| K.fieldAddr Y g0 rfl t98 rfl rfl <| K.load1 Y g0 rfl rfl t38 rfl rfl <| K.mv rfl rfl <| K.cR (cf 67 rfl) (wave_Key_con hx1) g0 rfl rfl rfl rfl <| K.c0 (cf 74 rfl) (VTree_FindM_con hx2 1 2) g0 rfl rfl rfl rfl <| K.mv rfl rfl <| K.extract g0 rfl rfl rfl <| K.extract g0 rfl rfl rfl <| K.alloc Y 103 _ g0 t46 rfl rfl rfl rfl rfl <| K.store Y _ g0 rfl rfl rfl t46 rfl rfl rfl rfl rfl <| K.as rfl rfl <| K.nil <| And.intro (by kernel_rfl) <| At.ns <| G.seq <| G.rg <| K.mv rfl rfl <| K.un (V := .bool (!x2.2.1)) g0 rfl (fun _ => rfl) rfl <| K.nil <| At.next <| G.cond rfl (fun h1 => ?_) (fun h1 => ?_)
 ·
  replace H0 := bif_t H0 h1
  refine G.seq <| G.rg <| K.build Y [] [_, _] [] g0 (AllE.spec trivial) rfl rfl t56 rfl rfl <| K.store Y _ g0 rfl rfl rfl t56 rfl rfl rfl rfl rfl <| K.as rfl rfl <| K.nil <| At.nilAgg (t := 23) (l' := [_, _]) 0 104 30 eTItem 2 rfl rfl rfl rfl rfl <| At.nilAgg (t := 23) (l' := [_, _]) 1 105 30 eTItem 2 rfl rfl rfl rfl rfl <| At.nilBlk (n := 100) (l' := [_, _]) 0 106 30 eTItem 2 rfl rfl rfl rfl rfl <| At.nilBlk (n := 100) (l' := [_, _]) 1 107 30 eTItem 2 rfl rfl rfl rfl rfl <| At.next <| G.ret <| At.over_ret <| At.ren (fs' := [(4, .a (.c (.p 100 0))), (5, .a (.c (.v (.int .i64 14))))]) (tl := (tkQueueV 0 1 2 3 4 5 6 7 8 (TQueue.mk q0.capacity (TS.mk x2.2.2 q0.marks.r) q0.present q0.gone q0.times q0.excess) [(60, lrow 60 30 eTItem 2 ([] : List TItem)), (61, lrow 61 30 eTItem 2 ([] : List TItem)), (100, blk 100 [.nv 60, .nv 61] 56)])) [(60, 106), (61, 107)] [_, _, _, _, _, _, _, _, _, _, _, _] rfl ⟨rfl, rfl, trivial⟩ ⟨rfl, (blk_ren rfl rfl), rfl, (blk_ren rfl rfl), rfl, (pool_ren rfl), rfl, (blk_ren rfl rfl), rfl, (pool_ren rfl), rfl, (blk_ren rfl rfl), rfl, (pool_ren rfl), rfl, (blk_ren rfl rfl), rfl, (pool_ren rfl), rfl, (lrow_ren rfl), rfl, (lrow_ren rfl), rfl, (blk_ren rfl rfl), trivial⟩ rfl <| At.done Y [(.cell 4 56, .agg [_, _]), (.tmp 5, .c _)] rfl ⟨.st rfl rfl t56 rfl rfl, .tmp rfl, trivial⟩ (to' := [(0, _), (1, _), (2, _), (3, _), (4, _), (5, _), (6, _), (7, _), (8, _), (60, _), (61, _)]) ⟨rfl, rfl, rfl, rfl, rfl, rfl, rfl, rfl, rfl, rfl, rfl, trivial⟩ ?_ ?_ rfl rfl rfl (.inl rfl)
  · cases H0; rfl
  · cases H0; rfl
 ·
  replace H0 := bif_f H0 h1
  refine G.skip <| At.ns ?_
  obtain ⟨x3, hx3, H0⟩ := bnd H0
  obtain ⟨x4, hx4, H0⟩ := bnd H0
  refine G.rd mixed <| K.mv rfl rfl <| K.nilCheck g0 rfl rfl <| K.fieldAddr Y g0 rfl t98 rfl rfl <| K.load1 Y g0 rfl rfl t38 rfl rfl <| K.mv rfl rfl <| K.cR (cf 67 rfl) (wave_Key_con hx3) g0 rfl rfl rfl rfl <| K.c0 (cf 66 rfl) (VTree_RankM_con hx4 1 2) g0 rfl rfl rfl rfl <| K.as rfl rfl <| K.nil <| And.intro (by kernel_rfl) <| At.ns <| G.seq <| G.rg <| K.fieldAddr Y g0 rfl t46 rfl rfl <| K.fieldAddr Y g0 rfl t42 rfl rfl <| K.load1 Y g0 rfl rfl t4 rfl rfl <| K.un (V := .bool (!x2.1.op.insert)) g0 rfl (fun _ => rfl) rfl <| K.nil <| At.next <| G.cond rfl (fun h2 => ?_) (fun h2 => ?_)
  ·
   replace H0 := bif_t H0 h2
   refine G.seq ?_
   obtain ⟨x5, hx5, H0⟩ := bnd H0
   refine G.rg <| K.mv rfl rfl <| K.mv rfl rfl <| K.c0 (cf 75 rfl) (Vpartial_Queue_enter_con hx5 0 1 2 3 4 5 6 7 8 108 109 rfl) g0 rfl rfl rfl rfl <| K.alloc Y 110 _ g0 t56 rfl rfl rfl rfl rfl <| K.store Y _ g0 rfl rfl rfl t56 rfl rfl rfl rfl rfl <| K.nil <| At.ns ?_
   obtain ⟨x6, hx6, H0⟩ := bnd H0
   obtain ⟨x7, hx7, H0⟩ := bnd H0
   refine G.rd mixed <| K.mv rfl rfl <| K.nilCheck g0 rfl rfl <| K.fieldAddr Y g0 rfl t98 rfl rfl <| K.load1 Y g0 rfl rfl t38 rfl rfl <| K.mv rfl rfl <| K.cR (cf 67 rfl) (wave_Key_con hx6) g0 rfl rfl rfl rfl <| K.c0 (cf 76 rfl) (VTree_DropM_con hx7 1 2) g0 rfl rfl rfl rfl <| K.nil <| And.intro (by kernel_rfl) <| At.nr <| K.loadS Y _ g0 rfl rfl t56 rfl rfl rfl <| K.store Y _ g0 rfl rfl rfl t56 rfl rfl rfl rfl rfl <| K.as rfl rfl <| K.nil <| At.next <| G.ret <| At.over_ret <| At.ren (fs' := [(4, .a (.c (.p 100 0))), (5, .a (.c (.v (.int .i64 0))))]) (tl := (tkQueueV 0 1 2 3 4 5 6 7 8 (TQueue.mk x5.2.capacity (TS.mk x7.2.2.2 x7.2.2.1) x5.2.present x5.2.gone x5.2.times x5.2.excess) [(60, lrow 60 30 eTItem 2 x5.1.in_), (61, lrow 61 30 eTItem 2 x5.1.out), (100, blk 100 [.nv 60, .nv 61] 56)])) [(60, 108), (61, 109)] [_, _, _, _, _, _, _, _, _, _, _, _] rfl ⟨rfl, rfl, trivial⟩ ⟨rfl, (blk_ren rfl rfl), rfl, (blk_ren rfl rfl), rfl, (pool_ren rfl), rfl, (blk_ren rfl rfl), rfl, (pool_ren rfl), rfl, (blk_ren rfl rfl), rfl, (pool_ren rfl), rfl, (blk_ren rfl rfl), rfl, (pool_ren rfl), rfl, (lrow_ren rfl), rfl, (lrow_ren rfl), rfl, (blk_ren rfl rfl), trivial⟩ rfl <| At.done Y [(.cell 4 56, .agg [_, _]), (.tmp 5, .c _)] rfl ⟨.st rfl rfl t56 rfl rfl, .tmp rfl, trivial⟩ (to' := [(0, _), (1, _), (2, _), (3, _), (4, _), (5, _), (6, _), (7, _), (8, _), (60, _), (61, _)]) ⟨rfl, rfl, rfl, rfl, rfl, rfl, rfl, rfl, rfl, rfl, rfl, trivial⟩ ?_ ?_ rfl rfl rfl (.inl rfl)
   · cases H0; rfl
   · cases H0; rfl
  ·
   replace H0 := bif_f H0 h2
   refine G.skip <| At.nr <| K.fieldAddr Y g0 rfl t46 rfl rfl <| K.fieldAddr Y g0 rfl t42 rfl rfl <| K.loadS Y _ g0 rfl rfl t30 rfl rfl rfl <| K.buildL Y 111 ([x2.1.op.item] : List TItem) [(0, _)] [((.tmp 48), _)] eTItem_len g0 (AllE.spec ⟨rfl, trivial⟩) rfl rfl Tryz.underlying33 t30 rfl rfl rfl rfl rfl rfl rfl rfl <| K.build Y [(1, _)] [_, _] [((.tmp 49), _)] g0 (AllE.spec ⟨rfl, trivial⟩) rfl rfl t56 rfl rfl <| K.alloc Y 112 _ g0 t56 rfl rfl rfl rfl rfl <| K.store Y _ g0 rfl rfl rfl t56 rfl rfl rfl rfl rfl <| K.nil <| At.nilAgg (t := 50) (l' := [_, _]) 0 113 30 eTItem 2 rfl rfl rfl rfl rfl <| At.nilBlk (n := 112) (l' := [_, _]) 0 114 30 eTItem 2 rfl rfl rfl rfl rfl <| At.next ?_
   obtain ⟨x8, H1, H0⟩ := bnd H0
   refine G.sJ (σ := { v : TQueue × List TItem × List TItem // x8 = v }) (fun q => [(0, .a (.c (.p 0 0))), (1, .a (.c (.v (.int .i64 a1)))), (4, .a (.c (.p 115 0))), (6, .a (.c (.p 118 0))), (10, .a (.c (.p 119 0)))]) (fun q => (tkQueueV 0 1 2 3 4 5 6 7 8 q.1.1 [(116, lrow 116 30 eTItem 2 ([] : List TItem)), (117, lrow 117 30 eTItem 2 ([] : List TItem)), (115, blk 115 [.nv 116, .nv 117] 56), (118, blk 118 [.v (.int .i64 x2.1.op.time), .v (.bool x2.1.op.insert), .v (.int .i64 x2.1.op.item.key), .v (.int .i64 x2.1.op.item.id), .v (.bool x2.1.here), .v (.bool x2.1.took.found), .v (.int .i64 x2.1.took.item.key), .v (.int .i64 x2.1.took.item.id)] 46), (120, lrow 120 30 eTItem 2 q.1.2.1), (121, lrow 121 30 eTItem 2 q.1.2.2), (119, blk 119 [.nv 120, .nv 121] 56)])) ?_ ?_
   ·
    refine G.seq <| G.rg <| K.fieldAddr Y g0 rfl t46 rfl rfl <| K.load1 Y g0 rfl rfl t4 rfl rfl <| K.un (V := .bool (!x2.1.here)) g0 rfl (fun _ => rfl) rfl <| K.nil <| At.next <| G.cond rfl (fun h3 => ?_) (fun h3 => ?_)
    ·
     replace H1 := bif_t H1 h3
     obtain ⟨x9, hx9, H1⟩ := bnd H1
     exact G.rg <| K.mv rfl rfl <| K.mv rfl rfl <| K.bin (V := .int .i64 (w64 (x4.1 + 1))) g0 rfl rfl (fun _ => rfl) rfl <| K.c0 (cf 73 rfl) (Vpartial_Queue_leave_con hx9 0 1 2 3 4 5 6 7 8 122 123 rfl) g0 rfl rfl rfl rfl <| K.store Y _ g0 rfl rfl rfl t56 rfl rfl rfl rfl rfl <| K.nil <| At.jd ⟨(x9.2, x9.1.in_, x9.1.out), oi H1⟩ [(115, 100), (116, 101), (117, 102), (118, 103), (119, 112), (120, 122), (121, 123)] [_, _, _, _, _, _, _, _, _, _, _, _, _, _, _, _] rfl ⟨rfl, rfl, rfl, rfl, rfl, trivial⟩ ⟨rfl, (blk_ren rfl rfl), rfl, (blk_ren rfl rfl), rfl, (pool_ren rfl), rfl, (blk_ren rfl rfl), rfl, (pool_ren rfl), rfl, (blk_ren rfl rfl), rfl, (pool_ren rfl), rfl, (blk_ren rfl rfl), rfl, (pool_ren rfl), rfl, (lrow_ren rfl), rfl, (lrow_ren rfl), rfl, (blk_ren rfl rfl), rfl, (blk_ren rfl rfl), rfl, (lrow_ren rfl), rfl, (lrow_ren rfl), rfl, (blk_ren rfl rfl), trivial⟩ rfl
    ·
     replace H1 := bif_f H1 h3
     exact G.skip <| At.jd ⟨((TQueue.mk q0.capacity (TS.mk x4.2 q0.marks.r) q0.present q0.gone q0.times q0.excess), ([] : List TItem), ([x2.1.op.item] : List TItem)), oi H1⟩ [(115, 100), (116, 101), (117, 102), (118, 103), (119, 112), (120, 114), (121, 111)] [_, _, _, _, _, _, _, _, _, _, _, _, _, _, _, _] rfl ⟨rfl, rfl, rfl, rfl, rfl, trivial⟩ ⟨rfl, (blk_ren rfl rfl), rfl, (blk_ren rfl rfl), rfl, (pool_ren rfl), rfl, (blk_ren rfl rfl), rfl, (pool_ren rfl), rfl, (blk_ren rfl rfl), rfl, (pool_ren rfl), rfl, (blk_ren rfl rfl), rfl, (pool_ren rfl), rfl, (lrow_ren rfl), rfl, (lrow_ren rfl), rfl, (blk_ren rfl rfl), rfl, (blk_ren rfl rfl), rfl, (lrow_ren rfl), rfl, (lrow_ren rfl), rfl, (blk_ren rfl rfl), trivial⟩ rfl
   ·
    rintro ⟨_, rfl⟩
    show G _ _ [(0, .a (.c (.p 0 0))), (1, .a (.c (.v (.int .i64 a1)))), (4, .a (.c (.p 115 0))), (6, .a (.c (.p 118 0))), (10, .a (.c (.p 119 0)))] (sm (tkQueueV 0 1 2 3 4 5 6 7 8 x8.1 [(116, lrow 116 30 eTItem 2 ([] : List TItem)), (117, lrow 117 30 eTItem 2 ([] : List TItem)), (115, blk 115 [.nv 116, .nv 117] 56), (118, blk 118 [.v (.int .i64 x2.1.op.time), .v (.bool x2.1.op.insert), .v (.int .i64 x2.1.op.item.key), .v (.int .i64 x2.1.op.item.id), .v (.bool x2.1.here), .v (.bool x2.1.took.found), .v (.int .i64 x2.1.took.item.key), .v (.int .i64 x2.1.took.item.id)] 46), (120, lrow 120 30 eTItem 2 x8.2.1), (121, lrow 121 30 eTItem 2 x8.2.2), (119, blk 119 [.nv 120, .nv 121] 56)])) _ _
    refine G.seq ?_
    obtain ⟨x10, hx10, H0⟩ := bnd H0
    obtain ⟨x11, hx11, H0⟩ := bnd H0
    refine G.rd mixed <| K.mv rfl rfl <| K.nilCheck g0 rfl rfl <| K.fieldAddr Y g0 rfl t98 rfl rfl <| K.load1 Y g0 rfl rfl t38 rfl rfl <| K.mv rfl rfl <| K.cR (cf 67 rfl) (wave_Key_con hx10) g0 rfl rfl rfl rfl <| K.c0 (cf 76 rfl) (VTree_DropM_con hx11 1 2) g0 rfl rfl rfl rfl <| K.nil <| And.intro (by kernel_rfl) <| At.ns ?_
    obtain ⟨x12, hx12, H0⟩ := bnd H0
    obtain ⟨x13, hx13, H0⟩ := bnd H0
    refine G.rd mixed <| K.mv rfl rfl <| K.nilCheck g0 rfl rfl <| K.fieldAddr Y g0 rfl t98 rfl rfl <| K.load1 Y g0 rfl rfl t63 rfl rfl <| K.fieldAddr Y g0 rfl t46 rfl rfl <| K.fieldAddr Y g0 rfl t42 rfl rfl <| K.loadS Y _ g0 rfl rfl t30 rfl rfl rfl <| K.cR (cf 65 rfl) (shelf_Of_con hx12) g0 rfl rfl rfl rfl <| K.c0 (cf 77 rfl) (VTree_DropS_con hx13 3 4) g0 rfl rfl rfl rfl <| K.nil <| And.intro (by kernel_rfl) <| At.ns ?_
    obtain ⟨x14, hx14, H0⟩ := bnd H0
    obtain ⟨x15, hx15, H0⟩ := bnd H0
    refine G.rd mixed <| K.mv rfl rfl <| K.nilCheck g0 rfl rfl <| K.fieldAddr Y g0 rfl t98 rfl rfl <| K.load1 Y g0 rfl rfl t63 rfl rfl <| K.fieldAddr Y g0 rfl t46 rfl rfl <| K.fieldAddr Y g0 rfl t42 rfl rfl <| K.loadS Y _ g0 rfl rfl t30 rfl rfl rfl <| K.cR (cf 65 rfl) (shelf_Of_con hx14) g0 rfl rfl rfl rfl <| K.c0 (cf 77 rfl) (VTree_DropS_con hx15 5 6) g0 rfl rfl rfl rfl <| K.nil <| And.intro (by kernel_rfl) <| At.ns ?_
    obtain ⟨x16, hx16, H0⟩ := bnd H0
    obtain ⟨x17, hx17, H0⟩ := bnd H0
    refine G.rd mixed <| K.mv rfl rfl <| K.nilCheck g0 rfl rfl <| K.fieldAddr Y g0 rfl t98 rfl rfl <| K.load1 Y g0 rfl rfl t63 rfl rfl <| K.fieldAddr Y g0 rfl t46 rfl rfl <| K.fieldAddr Y g0 rfl t42 rfl rfl <| K.loadS Y _ g0 rfl rfl t30 rfl rfl rfl <| K.cR (cf 65 rfl) (shelf_Of_con hx16) g0 rfl rfl rfl rfl <| K.c0 (cf 77 rfl) (VTree_DropS_con hx17 7 8) g0 rfl rfl rfl rfl <| K.nil <| And.intro (by kernel_rfl) <| At.nr <| K.loadS Y _ g0 rfl rfl t56 rfl rfl rfl <| K.store Y _ g0 rfl rfl rfl t56 rfl rfl rfl rfl rfl <| K.as rfl rfl <| K.nil <| At.next <| G.ret <| At.ren (fs' := [(4, .a (.c (.p 115 0))), (5, .a (.c (.v (.int .i64 0))))]) (tl := (tkQueueV 0 1 2 3 4 5 6 7 8 (TQueue.mk x8.1.capacity (TS.mk x11.2.2.2 x11.2.2.1) (TS.mk x13.2.2.2 x13.2.2.1) (TS.mk x15.2.2.2 x15.2.2.1) (TS.mk x17.2.2.2 x17.2.2.1) x8.1.excess) [(60, lrow 60 30 eTItem 2 x8.2.1), (61, lrow 61 30 eTItem 2 x8.2.2), (115, blk 115 [.nv 60, .nv 61] 56)])) [(60, 120), (61, 121)] [_, _, _, _, _, _, _, _, _, _, _, _] rfl ⟨rfl, rfl, trivial⟩ ⟨rfl, (blk_ren rfl rfl), rfl, (blk_ren rfl rfl), rfl, (pool_ren rfl), rfl, (blk_ren rfl rfl), rfl, (pool_ren rfl), rfl, (blk_ren rfl rfl), rfl, (pool_ren rfl), rfl, (blk_ren rfl rfl), rfl, (pool_ren rfl), rfl, (lrow_ren rfl), rfl, (lrow_ren rfl), rfl, (blk_ren rfl rfl), trivial⟩ rfl <| At.done Y [(.cell 4 56, .agg [_, _]), (.tmp 5, .c _)] rfl ⟨.st rfl rfl t56 rfl rfl, .tmp rfl, trivial⟩ (to' := [(0, _), (1, _), (2, _), (3, _), (4, _), (5, _), (6, _), (7, _), (8, _), (60, _), (61, _)]) ⟨rfl, rfl, rfl, rfl, rfl, rfl, rfl, rfl, rfl, rfl, rfl, trivial⟩ ?_ ?_ rfl rfl rfl (.inl rfl)
    · cases H0; rfl
    · cases H0; rfl
theorem Vpartial_Queue_Revoke_con {k : Nat}  {q0 : TQueue} {a1 : Int} {r : TChange × Int × TQueue}  (H0 : Vpartial_Queue_Revoke.f k q0 a1 = some r) (m0 m1 m2 m3 m4 m5 m6 m7 m8 m60 m61 : Nat) (hd : ndB [m0, m1, m2, m3, m4, m5, m6, m7, m8, m60, m61] = true) : Vpartial_Queue_Revoke_st q0 a1 r m0 m1 m2 m3 m4 m5 m6 m7 m8 m60 m61 :=
 SCon.ren (rn [(0, m0), (1, m1), (2, m2), (3, m3), (4, m4), (5, m5), (6, m6), (7, m7), (8, m8), (60, m60), (61, m61)]) (Vpartial_Queue_Revoke_con0 (k := k)   H0) ⟨(blk_ren rfl rfl), (blk_ren rfl rfl), (pool_ren rfl), (blk_ren rfl rfl), (pool_ren rfl), (blk_ren rfl rfl), (pool_ren rfl), (blk_ren rfl rfl), (pool_ren rfl), trivial⟩ ⟨(blk_ren rfl rfl), (blk_ren rfl rfl), (pool_ren rfl), (blk_ren rfl rfl), (pool_ren rfl), (blk_ren rfl rfl), (pool_ren rfl), (blk_ren rfl rfl), (pool_ren rfl), (lrow_ren rfl), (lrow_ren rfl), trivial⟩ (rn_nd hd rfl rfl) (rn_ks hd rfl rfl rfl)
abbrev Vpartial_Queue_Excess_st (q0 : TQueue) (r : Int) (m0 : Nat) (m1 : Nat) (m2 : Nat) (m3 : Nat) (m4 : Nat) (m5 : Nat) (m6 : Nat) (m7 : Nat) (m8 : Nat) : Prop := SCon Tryz.prog 32 [SV.p m0 0] (tkQueueV m0 m1 m2 m3 m4 m5 m6 m7 m8 q0 []) (.a (.c (.v (.int .i64 r)))) (tkQueueV m0 m1 m2 m3 m4 m5 m6 m7 m8 q0 []) []
theorem Vpartial_Queue_Excess_con0 {k : Nat}  {q0 : TQueue} {r : Int}  (H0 : Vpartial_Queue_Excess.f k q0 = some r) : Vpartial_Queue_Excess_st q0 r 0 1 2 3 4 5 6 7 8 := by
 rw [Vpartial_Queue_Excess.f] at H0
 refine spec_of [(0, _)] [(0, _), (1, _), (2, _), (3, _), (4, _), (5, _), (6, _), (7, _), (8, _)] 7 Tryz.func32 rfl Tryz.ntmps32 rfl rfl rfl rfl (fun β W F => ?_)
 exact G.seq <| G.rg <| K.as rfl rfl <| K.nil <| At.nr <| K.mv rfl rfl <| K.nilCheck g0 rfl rfl <| K.fieldAddr Y g0 rfl t98 rfl rfl <| K.load1 Y g0 rfl rfl t3 rfl rfl <| K.as rfl rfl <| K.nil <| At.next <| G.ret <| At.dr Y [2] rfl rfl (by cases H0; rfl) (by cases H0; rfl) rfl rfl rfl
theorem Vpartial_Queue_Excess_con {k : Nat}  {q0 : TQueue} {r : Int}  (H0 : Vpartial_Queue_Excess.f k q0 = some r) (m0 m1 m2 m3 m4 m5 m6 m7 m8 : Nat) : Vpartial_Queue_Excess_st q0 r m0 m1 m2 m3 m4 m5 m6 m7 m8 :=
 SCon.ren (rn [(0, m0), (1, m1), (2, m2), (3, m3), (4, m4), (5, m5), (6, m6), (7, m7), (8, m8)]) (Vpartial_Queue_Excess_con0 (k := k)   H0) ⟨(blk_ren rfl rfl), (blk_ren rfl rfl), (pool_ren rfl), (blk_ren rfl rfl), (pool_ren rfl), (blk_ren rfl rfl), (pool_ren rfl), (blk_ren rfl rfl), (pool_ren rfl), trivial⟩ ⟨(blk_ren rfl rfl), (blk_ren rfl rfl), (pool_ren rfl), (blk_ren rfl rfl), (pool_ren rfl), (blk_ren rfl rfl), (pool_ren rfl), (blk_ren rfl rfl), (pool_ren rfl), trivial⟩ (by simp) (by simp)
abbrev VLw12_awake_st (r : Bool) : Prop := SCon Tryz.prog 14 [] [] (.a (.c (.v (.bool r)))) [] []
set_option maxHeartbeats 4000000 in
theorem VLw12_awake_con0 {k : Nat}  {r : Bool}  (H0 : VLw12_awake.f k = some r) : VLw12_awake_st r := by
 rw [VLw12_awake.f] at H0
 refine spec_of [] [] 62 Tryz.func14 rfl Tryz.ntmps14 rfl rfl rfl rfl (fun β W F => ?_)
 refine G.seq <| G.rg <| K.as rfl rfl <| K.nil <| At.ns ?_
 obtain ⟨x1, hx1, H0⟩ := bnd H0
 refine G.rg <| K.c0 (cf 15 rfl) (Vpartial_New_con hx1 100 101 102 103 104 105 106 107 108 rfl) g0 rfl rfl rfl rfl <| K.as rfl rfl <| K.nil <| At.ns <| G.seq <| G.rg <| K.mv rfl rfl <| K.eqnil (V := false) g0 rfl rfl (pn_eql_some Tryz.underlying24) rfl <| K.nil <| At.next <| G.cond rfl (fun h1 => ?_) (fun h1 => ?_)
 · cases h1
 ·
  refine G.skip <| At.ns ?_
  obtain ⟨x2, hx2, H0⟩ := bnd H0
  refine G.rg <| K.mv rfl rfl <| K.build Y [(0, _)] [_, _] [(_, _)] g0 (AllE.spec ⟨rfl, trivial⟩) rfl rfl t30 rfl rfl <| K.c0 (cf 23 rfl) (Vpartial_Queue_Insert_con hx2 100 101 102 103 104 105 106 107 108 109 110 rfl) g0 rfl rfl rfl rfl <| K.nil <| At.ns ?_
  obtain ⟨x3, hx3, H0⟩ := bnd H0
  refine G.rg <| K.mv rfl rfl <| K.build Y [(0, _)] [_, _] [(_, _)] g0 (AllE.spec ⟨rfl, trivial⟩) rfl rfl t30 rfl rfl <| K.c0 (cf 23 rfl) (Vpartial_Queue_Insert_con hx3 100 101 102 103 104 105 106 107 108 111 112 rfl) g0 rfl rfl rfl rfl <| K.nil <| At.ns ?_
  obtain ⟨x4, hx4, H0⟩ := bnd H0
  refine G.rg <| K.mv rfl rfl <| K.c0 (cf 24 rfl) (Vpartial_Queue_Delete_con hx4 100 101 102 103 104 105 106 107 108 113 114 rfl) g0 rfl rfl rfl rfl <| K.nil <| At.ns ?_
  obtain ⟨x5, hx5, H0⟩ := bnd H0
  refine G.rg <| K.mv rfl rfl <| K.c0 (cf 25 rfl) (Vpartial_Queue_Revoke_con hx5 100 101 102 103 104 105 106 107 108 115 116 rfl) g0 rfl rfl rfl rfl <| K.mv rfl rfl <| K.extract g0 rfl rfl rfl <| K.extract g0 rfl rfl rfl <| K.alloc Y 117 _ g0 t56 rfl rfl rfl rfl rfl <| K.store Y _ g0 rfl rfl rfl t56 rfl rfl rfl rfl rfl <| K.as rfl rfl <| K.nil <| At.ns ?_
  obtain ⟨x6, hx6, H0⟩ := bnd H0
  refine G.rg <| K.mv rfl rfl <| K.c0 (cf 24 rfl) (Vpartial_Queue_Delete_con hx6 100 101 102 103 104 105 106 107 108 118 119 rfl) g0 rfl rfl rfl rfl <| K.mv rfl rfl <| K.extract g0 rfl rfl rfl <| K.extract g0 rfl rfl rfl <| K.alloc Y 120 _ g0 t56 rfl rfl rfl rfl rfl <| K.store Y _ g0 rfl rfl rfl t56 rfl rfl rfl rfl rfl <| K.as rfl rfl <| K.nil <| At.ns ?_
  rcases Bool.eq_false_or_eq_true (x5.2.1 == 0) with h2 | h2
  ·
   replace H0 := bif_t H0 h2
   rcases Bool.eq_false_or_eq_true (x6.2.1 == 0) with h3 | h3
   ·
    replace H0 := bif_t H0 h3
    rcases Bool.eq_false_or_eq_true ((x5.1.out.length : Int) == 1) with h4 | h4
    ·
     replace H0 := bif_t H0 h4
     obtain ⟨x7, hx7, H0⟩ := bnd H0
     rcases Bool.eq_false_or_eq_true (x7.key == 5) with h5 | h5
     ·
      replace H0 := bif_t H0 h5
      rcases Bool.eq_false_or_eq_true ((w64 ((x6.1.in_.length : Int) + (x6.1.out.length : Int))) == 0) with h6 | h6
      ·
       replace H0 := bif_t H0 h6
       obtain ⟨x8, hx8, H0⟩ := bnd H0
       exact G.rg <| K.mv rfl rfl <| K.bin (V := .bool (x5.2.1 == 0)) g0 rfl rfl (fun _ => rfl) rfl <| K.mv rfl rfl <| K.move (.inl rfl) (g1 rfl rfl h2) rfl rfl <| K.bin (V := .bool (x6.2.1 == 0)) (g1 rfl rfl h2) rfl rfl (fun _ => rfl) rfl <| K.pickT g0 rfl (h2) rfl rfl <| K.mv rfl rfl <| K.fieldAddr Y (g1 rfl rfl h3) rfl t56 rfl rfl <| K.load1 Y (g1 rfl rfl h3) rfl rfl t33 rfl rfl <| K.lenL (lrowV 116 30 eTItem 2 x5.1.out) (lrowV_is eTItem_len (by decide)) (g1 rfl rfl h3) rfl rfl Tryz.underlying33 rfl <| K.bin (V := .bool ((x5.1.out.length : Int) == 1)) (g1 rfl rfl h3) rfl rfl (fun _ => rfl) rfl <| K.pickT g0 rfl (h3) rfl rfl <| K.mv rfl rfl <| K.fieldAddr Y (g1 rfl rfl h4) rfl t56 rfl rfl <| K.load1 Y (g1 rfl rfl h4) rfl rfl t33 rfl rfl <| K.idxL (lrowV 116 30 eTItem 2 x5.1.out) ((0 : Int).toNat) (lrowV_is eTItem_len (by decide)) (atL_get hx7) (atL_nn hx7) (g1 rfl rfl h4) rfl rfl rfl Tryz.underlying33 el33.size_run rfl <| K.fieldL Y (lrowV 116 30 eTItem 2 x5.1.out) ((0 : Int).toNat) 0 0 (lrowV_is eTItem_len (by decide)) (atL_get hx7) (g1 rfl rfl h4) rfl rfl t30 rfl rfl rfl rfl <| K.load1L Y (lrowV 116 30 eTItem 2 x5.1.out) ((0 : Int).toNat) 0 (lrowV_is eTItem_len (by decide)) (atL_get hx7) (g1 rfl rfl h4) rfl rfl t3 rfl rfl <| K.bin (V := .bool (x7.key == 5)) (g1 rfl rfl h4) rfl rfl (fun _ => rfl) rfl <| K.pickT g0 rfl (h4) rfl rfl <| K.mv rfl rfl <| K.fieldAddr Y (g1 rfl rfl h5) rfl t56 rfl rfl <| K.load1 Y (g1 rfl rfl h5) rfl rfl t33 rfl rfl <| K.lenL (lrowV 118 30 eTItem 2 x6.1.in_) (lrowV_is eTItem_len (by decide)) (g1 rfl rfl h5) rfl rfl Tryz.underlying33 rfl <| K.fieldAddr Y (g1 rfl rfl h5) rfl t56 rfl rfl <| K.load1 Y (g1 rfl rfl h5) rfl rfl t33 rfl rfl <| K.lenL (lrowV 119 30 eTItem 2 x6.1.out) (lrowV_is eTItem_len (by decide)) (g1 rfl rfl h5) rfl rfl Tryz.underlying33 rfl <| K.bin (V := .int .i64 (w64 ((x6.1.in_.length : Int) + (x6.1.out.length : Int)))) (g1 rfl rfl h5) rfl rfl (fun _ => rfl) rfl <| K.bin (V := .bool ((w64 ((x6.1.in_.length : Int) + (x6.1.out.length : Int))) == 0)) (g1 rfl rfl h5) rfl rfl (fun _ => rfl) rfl <| K.pickT g0 rfl (h5) rfl rfl <| K.mv rfl rfl <| K.move (.inl rfl) (g1 rfl rfl h6) rfl rfl <| K.cR (cf 32 rfl) (Vpartial_Queue_Excess_con hx8 100 101 102 103 104 105 106 107 108) (g1 rfl rfl h6) rfl rfl rfl rfl <| K.bin (V := .bool (x8 == 1)) (g1 rfl rfl h6) rfl rfl (fun _ => rfl) rfl <| K.pickT g0 rfl (h6) rfl rfl <| K.as rfl rfl <| K.nil <| At.next <| G.ret <| At.dr Y [0] rfl rfl (by cases H0; rfl) (by cases H0; rfl) rfl rfl rfl
      ·
       replace H0 := bif_f H0 h6
       exact G.rg <| K.mv rfl rfl <| K.bin (V := .bool (x5.2.1 == 0)) g0 rfl rfl (fun _ => rfl) rfl <| K.mv rfl rfl <| K.move (.inl rfl) (g1 rfl rfl h2) rfl rfl <| K.bin (V := .bool (x6.2.1 == 0)) (g1 rfl rfl h2) rfl rfl (fun _ => rfl) rfl <| K.pickT g0 rfl (h2) rfl rfl <| K.mv rfl rfl <| K.fieldAddr Y (g1 rfl rfl h3) rfl t56 rfl rfl <| K.load1 Y (g1 rfl rfl h3) rfl rfl t33 rfl rfl <| K.lenL (lrowV 116 30 eTItem 2 x5.1.out) (lrowV_is eTItem_len (by decide)) (g1 rfl rfl h3) rfl rfl Tryz.underlying33 rfl <| K.bin (V := .bool ((x5.1.out.length : Int) == 1)) (g1 rfl rfl h3) rfl rfl (fun _ => rfl) rfl <| K.pickT g0 rfl (h3) rfl rfl <| K.mv rfl rfl <| K.fieldAddr Y (g1 rfl rfl h4) rfl t56 rfl rfl <| K.load1 Y (g1 rfl rfl h4) rfl rfl t33 rfl rfl <| K.idxL (lrowV 116 30 eTItem 2 x5.1.out) ((0 : Int).toNat) (lrowV_is eTItem_len (by decide)) (atL_get hx7) (atL_nn hx7) (g1 rfl rfl h4) rfl rfl rfl Tryz.underlying33 el33.size_run rfl <| K.fieldL Y (lrowV 116 30 eTItem 2 x5.1.out) ((0 : Int).toNat) 0 0 (lrowV_is eTItem_len (by decide)) (atL_get hx7) (g1 rfl rfl h4) rfl rfl t30 rfl rfl rfl rfl <| K.load1L Y (lrowV 116 30 eTItem 2 x5.1.out) ((0 : Int).toNat) 0 (lrowV_is eTItem_len (by decide)) (atL_get hx7) (g1 rfl rfl h4) rfl rfl t3 rfl rfl <| K.bin (V := .bool (x7.key == 5)) (g1 rfl rfl h4) rfl rfl (fun _ => rfl) rfl <| K.pickT g0 rfl (h4) rfl rfl <| K.mv rfl rfl <| K.fieldAddr Y (g1 rfl rfl h5) rfl t56 rfl rfl <| K.load1 Y (g1 rfl rfl h5) rfl rfl t33 rfl rfl <| K.lenL (lrowV 118 30 eTItem 2 x6.1.in_) (lrowV_is eTItem_len (by decide)) (g1 rfl rfl h5) rfl rfl Tryz.underlying33 rfl <| K.fieldAddr Y (g1 rfl rfl h5) rfl t56 rfl rfl <| K.load1 Y (g1 rfl rfl h5) rfl rfl t33 rfl rfl <| K.lenL (lrowV 119 30 eTItem 2 x6.1.out) (lrowV_is eTItem_len (by decide)) (g1 rfl rfl h5) rfl rfl Tryz.underlying33 rfl <| K.bin (V := .int .i64 (w64 ((x6.1.in_.length : Int) + (x6.1.out.length : Int)))) (g1 rfl rfl h5) rfl rfl (fun _ => rfl) rfl <| K.bin (V := .bool ((w64 ((x6.1.in_.length : Int) + (x6.1.out.length : Int))) == 0)) (g1 rfl rfl h5) rfl rfl (fun _ => rfl) rfl <| K.pickT g0 rfl (h5) rfl rfl <| K.mv rfl rfl <| K.sk rfl rfl h6 rfl <| K.sk rfl rfl h6 rfl <| K.sk rfl rfl h6 rfl <| K.pickF g0 rfl (h6) rfl rfl <| K.as rfl rfl <| K.nil <| At.next <| G.ret <| At.dr Y [0] rfl rfl (by cases H0; rfl) (by cases H0; rfl) rfl rfl rfl
     ·
      replace H0 := bif_f H0 h5
      exact G.rg <| K.mv rfl rfl <| K.bin (V := .bool (x5.2.1 == 0)) g0 rfl rfl (fun _ => rfl) rfl <| K.mv rfl rfl <| K.move (.inl rfl) (g1 rfl rfl h2) rfl rfl <| K.bin (V := .bool (x6.2.1 == 0)) (g1 rfl rfl h2) rfl rfl (fun _ => rfl) rfl <| K.pickT g0 rfl (h2) rfl rfl <| K.mv rfl rfl <| K.fieldAddr Y (g1 rfl rfl h3) rfl t56 rfl rfl <| K.load1 Y (g1 rfl rfl h3) rfl rfl t33 rfl rfl <| K.lenL (lrowV 116 30 eTItem 2 x5.1.out) (lrowV_is eTItem_len (by decide)) (g1 rfl rfl h3) rfl rfl Tryz.underlying33 rfl <| K.bin (V := .bool ((x5.1.out.length : Int) == 1)) (g1 rfl rfl h3) rfl rfl (fun _ => rfl) rfl <| K.pickT g0 rfl (h3) rfl rfl <| K.mv rfl rfl <| K.fieldAddr Y (g1 rfl rfl h4) rfl t56 rfl rfl <| K.load1 Y (g1 rfl rfl h4) rfl rfl t33 rfl rfl <| K.idxL (lrowV 116 30 eTItem 2 x5.1.out) ((0 : Int).toNat) (lrowV_is eTItem_len (by decide)) (atL_get hx7) (atL_nn hx7) (g1 rfl rfl h4) rfl rfl rfl Tryz.underlying33 el33.size_run rfl <| K.fieldL Y (lrowV 116 30 eTItem 2 x5.1.out) ((0 : Int).toNat) 0 0 (lrowV_is eTItem_len (by decide)) (atL_get hx7) (g1 rfl rfl h4) rfl rfl t30 rfl rfl rfl rfl <| K.load1L Y (lrowV 116 30 eTItem 2 x5.1.out) ((0 : Int).toNat) 0 (lrowV_is eTItem_len (by decide)) (atL_get hx7) (g1 rfl rfl h4) rfl rfl t3 rfl rfl <| K.bin (V := .bool (x7.key == 5)) (g1 rfl rfl h4) rfl rfl (fun _ => rfl) rfl <| K.pickT g0 rfl (h4) rfl rfl <| K.mv rfl rfl <| K.sk rfl rfl h5 rfl <| K.sk rfl rfl h5 rfl <| K.sk rfl rfl h5 rfl <| K.sk rfl rfl h5 rfl <| K.sk rfl rfl h5 rfl <| K.sk rfl rfl h5 rfl <| K.sk rfl rfl h5 rfl <| K.sk rfl rfl h5 rfl <| K.pickF g0 rfl (h5) rfl rfl <| K.mv rfl rfl <| K.sk rfl rfl rfl rfl <| K.sk rfl rfl rfl rfl <| K.sk rfl rfl rfl rfl <| K.pickF g0 rfl (rfl) rfl rfl <| K.as rfl rfl <| K.nil <| At.next <| G.ret <| At.dr Y [0] rfl rfl (by cases H0; rfl) (by cases H0; rfl) rfl rfl rfl
    ·
     replace H0 := bif_f H0 h4
     exact G.rg <| K.mv rfl rfl <| K.bin (V := .bool (x5.2.1 == 0)) g0 rfl rfl (fun _ => rfl) rfl <| K.mv rfl rfl <| K.move (.inl rfl) (g1 rfl rfl h2) rfl rfl <| K.bin (V := .bool (x6.2.1 == 0)) (g1 rfl rfl h2) rfl rfl (fun _ => rfl) rfl <| K.pickT g0 rfl (h2) rfl rfl <| K.mv rfl rfl <| K.fieldAddr Y (g1 rfl rfl h3) rfl t56 rfl rfl <| K.load1 Y (g1 rfl rfl h3) rfl rfl t33 rfl rfl <| K.lenL (lrowV 116 30 eTItem 2 x5.1.out) (lrowV_is eTItem_len (by decide)) (g1 rfl rfl h3) rfl rfl Tryz.underlying33 rfl <| K.bin (V := .bool ((x5.1.out.length : Int) == 1)) (g1 rfl rfl h3) rfl rfl (fun _ => rfl) rfl <| K.pickT g0 rfl (h3) rfl rfl <| K.mv rfl rfl <| K.sk rfl rfl h4 rfl <| K.sk rfl rfl h4 rfl <| K.sk rfl rfl h4 rfl <| K.sk rfl rfl h4 rfl <| K.sk rfl rfl h4 rfl <| K.sk rfl rfl h4 rfl <| K.pickF g0 rfl (h4) rfl rfl <| K.mv rfl rfl <| K.sk rfl rfl rfl rfl <| K.sk rfl rfl rfl rfl <| K.sk rfl rfl rfl rfl <| K.sk rfl rfl rfl rfl <| K.sk rfl rfl rfl rfl <| K.sk rfl rfl rfl rfl <| K.sk rfl rfl rfl rfl <| K.sk rfl rfl rfl rfl <| K.pickF g0 rfl (rfl) rfl rfl <| K.mv rfl rfl <| K.sk rfl rfl rfl rfl <| K.sk rfl rfl rfl rfl <| K.sk rfl rfl rfl rfl <| K.pickF g0 rfl (rfl) rfl rfl <| K.as rfl rfl <| K.nil <| At.next <| G.ret <| At.dr Y [0] rfl rfl (by cases H0; rfl) (by cases H0; rfl) rfl rfl rfl
   ·
    replace H0 := bif_f H0 h3
    exact G.rg <| K.mv rfl rfl <| K.bin (V := .bool (x5.2.1 == 0)) g0 rfl rfl (fun _ => rfl) rfl <| K.mv rfl rfl <| K.move (.inl rfl) (g1 rfl rfl h2) rfl rfl <| K.bin (V := .bool (x6.2.1 == 0)) (g1 rfl rfl h2) rfl rfl (fun _ => rfl) rfl <| K.pickT g0 rfl (h2) rfl rfl <| K.mv rfl rfl <| K.sk rfl rfl h3 rfl <| K.sk rfl rfl h3 rfl <| K.sk rfl rfl h3 rfl <| K.sk rfl rfl h3 rfl <| K.pickF g0 rfl (h3) rfl rfl <| K.mv rfl rfl <| K.sk rfl rfl rfl rfl <| K.sk rfl rfl rfl rfl <| K.sk rfl rfl rfl rfl <| K.sk rfl rfl rfl rfl <| K.sk rfl rfl rfl rfl <| K.sk rfl rfl rfl rfl <| K.pickF g0 rfl (rfl) rfl rfl <| K.mv rfl rfl <| K.sk rfl rfl rfl rfl <| K.sk rfl rfl rfl rfl <| K.sk rfl rfl rfl rfl <| K.sk rfl rfl rfl rfl <| K.sk rfl rfl rfl rfl <| K.sk rfl rfl rfl rfl <| K.sk rfl rfl rfl rfl <| K.sk rfl rfl rfl rfl <| K.pickF g0 rfl (rfl) rfl rfl <| K.mv rfl rfl <| K.sk rfl rfl rfl rfl <| K.sk rfl rfl rfl rfl <| K.sk rfl rfl rfl rfl <| K.pickF g0 rfl (rfl) rfl rfl <| K.as rfl rfl <| K.nil <| At.next <| G.ret <| At.dr Y [0] rfl rfl (by cases H0; rfl) (by cases H0; rfl) rfl rfl rfl
  ·
   replace H0 := bif_f H0 h2
   exact G.rg <| K.mv rfl rfl <| K.bin (V := .bool (x5.2.1 == 0)) g0 rfl rfl (fun _ => rfl) rfl <| K.mv rfl rfl <| K.sk rfl rfl h2 rfl <| K.sk rfl rfl h2 rfl <| K.pickF g0 rfl (h2) rfl rfl <| K.mv rfl rfl <| K.sk rfl rfl rfl rfl <| K.sk rfl rfl rfl rfl <| K.sk rfl rfl rfl rfl <| K.sk rfl rfl rfl rfl <| K.pickF g0 rfl (rfl) rfl rfl <| K.mv rfl rfl <| K.sk rfl rfl rfl rfl <| K.sk rfl rfl rfl rfl <| K.sk rfl rfl rfl rfl <| K.sk rfl rfl rfl rfl <| K.sk rfl rfl rfl rfl <| K.sk rfl rfl rfl rfl <| K.pickF g0 rfl (rfl) rfl rfl <| K.mv rfl rfl <| K.sk rfl rfl rfl rfl <| K.sk rfl rfl rfl rfl <| K.sk rfl rfl rfl rfl <| K.sk rfl rfl rfl rfl <| K.sk rfl rfl rfl rfl <| K.sk rfl rfl rfl rfl <| K.sk rfl rfl rfl rfl <| K.sk rfl rfl rfl rfl <| K.pickF g0 rfl (rfl) rfl rfl <| K.mv rfl rfl <| K.sk rfl rfl rfl rfl <| K.sk rfl rfl rfl rfl <| K.sk rfl rfl rfl rfl <| K.pickF g0 rfl (rfl) rfl rfl <| K.as rfl rfl <| K.nil <| At.next <| G.ret <| At.dr Y [0] rfl rfl (by cases H0; rfl) (by cases H0; rfl) rfl rfl rfl
theorem VLw12_awake_con {k : Nat}  {r : Bool}  (H0 : VLw12_awake.f k = some r) : VLw12_awake_st r :=
 SCon.ren (rn []) (VLw12_awake_con0 (k := k)   H0) trivial trivial (by simp) (by simp)
abbrev VTree_VisitsM_st (p1 : Pool (TNode TMark TSwell)) (ri0 : Int) (rg0 : Int) (r : Int) (m0 : Nat) (m1 : Nat) : Prop := SCon Tryz.prog 61 [SV.p m0 0] [(m0, blk m0 [.p m1 0, .i ri0, .i rg0] 110), (m1, pvM m1 p1)] (.a (.c (.v (.int .i64 r)))) [(m0, blk m0 [.p m1 0, .i ri0, .i rg0] 110), (m1, pvM m1 p1)] []
theorem VTree_VisitsM_con0 {k : Nat}  {p1 : Pool (TNode TMark TSwell)} {ri0 rg0 : Int} {r : Int}  (H0 : VTree_Visits.f opsM k p1 = some r) : VTree_VisitsM_st p1 ri0 rg0 r 0 1 := by
 rw [VTree_Visits.f] at H0
 refine spec_of [(0, _)] [(0, _), (1, _)] 8 Tryz.func61 rfl Tryz.ntmps61 rfl rfl rfl rfl (fun β W F => ?_)
 exact G.seq <| G.rg <| K.as rfl rfl <| K.nil <| At.nr <| K.mv rfl rfl <| K.nilCheck g0 rfl rfl <| K.fieldAddr Y g0 rfl t110 rfl rfl <| K.load1 Y g0 rfl rfl t106 rfl rfl <| K.callR [(.func 94, _), ((.tmp 6), _)] (pvvisitsM p1 1) (toFn_func (cf 94 rfl) rfl) g0 ⟨rfl, rfl, trivial⟩ ⟨rfl, trivial⟩ rfl rfl rfl <| K.as rfl rfl <| K.nil <| At.next <| G.ret <| At.dr Y [2] rfl rfl (by cases H0; rfl) (by cases H0; rfl) rfl rfl rfl
theorem VTree_VisitsM_con {k : Nat}  {p1 : Pool (TNode TMark TSwell)} {ri0 rg0 : Int} {r : Int}  (H0 : VTree_Visits.f opsM k p1 = some r) (m0 m1 : Nat) : VTree_VisitsM_st p1 ri0 rg0 r m0 m1 :=
 SCon.ren (rn [(0, m0), (1, m1)]) (VTree_VisitsM_con0 (k := k)   H0) ⟨(blk_ren rfl rfl), (pool_ren rfl), trivial⟩ ⟨(blk_ren rfl rfl), (pool_ren rfl), trivial⟩ (by simp) (by simp)
abbrev VTree_VisitsS_st (p1 : Pool (TNode TSlot TSize)) (ri0 : Int) (rg0 : Int) (r : Int) (m0 : Nat) (m1 : Nat) : Prop := SCon Tryz.prog 62 [SV.p m0 0] [(m0, blk m0 [.p m1 0, .i ri0, .i rg0] 131), (m1, pvS m1 p1)] (.a (.c (.v (.int .i64 r)))) [(m0, blk m0 [.p m1 0, .i ri0, .i rg0] 131), (m1, pvS m1 p1)] []
theorem VTree_VisitsS_con0 {k : Nat}  {p1 : Pool (TNode TSlot TSize)} {ri0 rg0 : Int} {r : Int}  (H0 : VTree_Visits.f opsS k p1 = some r) : VTree_VisitsS_st p1 ri0 rg0 r 0 1 := by
 rw [VTree_Visits.f] at H0
 refine spec_of [(0, _)] [(0, _), (1, _)] 8 Tryz.func62 rfl Tryz.ntmps62 rfl rfl rfl rfl (fun β W F => ?_)
 exact G.seq <| G.rg <| K.as rfl rfl <| K.nil <| At.nr <| K.mv rfl rfl <| K.nilCheck g0 rfl rfl <| K.fieldAddr Y g0 rfl t131 rfl rfl <| K.load1 Y g0 rfl rfl t129 rfl rfl <| K.callR [(.func 95, _), ((.tmp 6), _)] (pvvisitsS p1 1) (toFn_func (cf 95 rfl) rfl) g0 ⟨rfl, rfl, trivial⟩ ⟨rfl, trivial⟩ rfl rfl rfl <| K.as rfl rfl <| K.nil <| At.next <| G.ret <| At.dr Y [2] rfl rfl (by cases H0; rfl) (by cases H0; rfl) rfl rfl rfl
theorem VTree_VisitsS_con {k : Nat}  {p1 : Pool (TNode TSlot TSize)} {ri0 rg0 : Int} {r : Int}  (H0 : VTree_Visits.f opsS k p1 = some r) (m0 m1 : Nat) : VTree_VisitsS_st p1 ri0 rg0 r m0 m1 :=
 SCon.ren (rn [(0, m0), (1, m1)]) (VTree_VisitsS_con0 (k := k)   H0) ⟨(blk_ren rfl rfl), (pool_ren rfl), trivial⟩ ⟨(blk_ren rfl rfl), (pool_ren rfl), trivial⟩ (by simp) (by simp)
abbrev Vpartial_Queue_Visits_st (q0 : TQueue) (r : Int) (m0 : Nat) (m1 : Nat) (m2 : Nat) (m3 : Nat) (m4 : Nat) (m5 : Nat) (m6 : Nat) (m7 : Nat) (m8 : Nat) : Prop := SCon Tryz.prog 20 [SV.p m0 0] (tkQueueV m0 m1 m2 m3 m4 m5 m6 m7 m8 q0 []) (.a (.c (.v (.int .i64 r)))) (tkQueueV m0 m1 m2 m3 m4 m5 m6 m7 m8 q0 []) []
theorem Vpartial_Queue_Visits_con0 {k : Nat}  {q0 : TQueue} {r : Int}  (H0 : Vpartial_Queue_Visits.f k q0 = some r) : Vpartial_Queue_Visits_st q0 r 0 1 2 3 4 5 6 7 8 := by
 rw [Vpartial_Queue_Visits.f] at H0
 refine spec_of [(0, _)] [(0, _), (1, _), (2, _), (3, _), (4, _), (5, _), (6, _), (7, _), (8, _)] 26 Tryz.func20 rfl Tryz.ntmps20 rfl rfl rfl rfl (fun β W F => ?_)
 refine G.seq <| G.rg <| K.as rfl rfl <| K.nil <| At.ns ?_
 obtain ⟨x1, hx1, H0⟩ := bnd H0
 obtain ⟨x2, hx2, H0⟩ := bnd H0
 obtain ⟨x3, hx3, H0⟩ := bnd H0
 obtain ⟨x4, hx4, H0⟩ := bnd H0
 exact G.rd mixed <| K.mv rfl rfl <| K.nilCheck g0 rfl rfl <| K.fieldAddr Y g0 rfl t98 rfl rfl <| K.load1 Y g0 rfl rfl t38 rfl rfl <| K.cR (cf 61 rfl) (VTree_VisitsM_con hx1 1 2) g0 rfl rfl rfl rfl <| K.mv rfl rfl <| K.nilCheck g0 rfl rfl <| K.fieldAddr Y g0 rfl t98 rfl rfl <| K.load1 Y g0 rfl rfl t63 rfl rfl <| K.cR (cf 62 rfl) (VTree_VisitsS_con hx2 3 4) g0 rfl rfl rfl rfl <| K.bin (V := .int .i64 (w64 (x1 + x2))) g0 rfl rfl (fun _ => rfl) rfl <| K.mv rfl rfl <| K.nilCheck g0 rfl rfl <| K.fieldAddr Y g0 rfl t98 rfl rfl <| K.load1 Y g0 rfl rfl t63 rfl rfl <| K.cR (cf 62 rfl) (VTree_VisitsS_con hx3 5 6) g0 rfl rfl rfl rfl <| K.bin (V := .int .i64 (w64 ((w64 (x1 + x2)) + x3))) g0 rfl rfl (fun _ => rfl) rfl <| K.mv rfl rfl <| K.nilCheck g0 rfl rfl <| K.fieldAddr Y g0 rfl t98 rfl rfl <| K.load1 Y g0 rfl rfl t63 rfl rfl <| K.cR (cf 62 rfl) (VTree_VisitsS_con hx4 7 8) g0 rfl rfl rfl rfl <| K.bin (V := .int .i64 (w64 ((w64 ((w64 (x1 + x2)) + x3)) + x4))) g0 rfl rfl (fun _ => rfl) rfl <| K.as rfl rfl <| K.nil <| And.intro (by kernel_rfl) <| At.next <| G.ret <| At.dr Y [2] rfl rfl (by cases H0; rfl) (by cases H0; rfl) rfl rfl rfl
theorem Vpartial_Queue_Visits_con {k : Nat}  {q0 : TQueue} {r : Int}  (H0 : Vpartial_Queue_Visits.f k q0 = some r) (m0 m1 m2 m3 m4 m5 m6 m7 m8 : Nat) : Vpartial_Queue_Visits_st q0 r m0 m1 m2 m3 m4 m5 m6 m7 m8 :=
 SCon.ren (rn [(0, m0), (1, m1), (2, m2), (3, m3), (4, m4), (5, m5), (6, m6), (7, m7), (8, m8)]) (Vpartial_Queue_Visits_con0 (k := k)   H0) ⟨(blk_ren rfl rfl), (blk_ren rfl rfl), (pool_ren rfl), (blk_ren rfl rfl), (pool_ren rfl), (blk_ren rfl rfl), (pool_ren rfl), (blk_ren rfl rfl), (pool_ren rfl), trivial⟩ ⟨(blk_ren rfl rfl), (blk_ren rfl rfl), (pool_ren rfl), (blk_ren rfl rfl), (pool_ren rfl), (blk_ren rfl rfl), (pool_ren rfl), (blk_ren rfl rfl), (pool_ren rfl), trivial⟩ (by simp) (by simp)
abbrev R07_Height_st (a0 : Int) (r : Int) : Prop := SCon Tryz.prog 26 [.a (.c (.v (.int .i64 a0)))] [] (.a (.c (.v (.int .i64 r)))) [] []
theorem R07_Height_con0 {k : Nat}  {a0 : Int} {r : Int}  (H0 : R07_Height.f k a0 = some r) : R07_Height_st a0 r := by
 rw [R07_Height.f] at H0
 refine spec_of [(0, _)] [] 14 Tryz.func26 rfl Tryz.ntmps26 rfl rfl rfl rfl (fun β W F => ?_)
 refine G.seq <| G.rg <| K.as rfl rfl <| K.nil <| At.nr <| K.as rfl rfl <| K.nil <| At.next ?_
 obtain ⟨x1, H1, H0⟩ := bnd H0
 refine G.sJ (σ := { v : Int // x1 = v }) (fun q => [(3, .a (.c (.v (.int .i64 q.1))))]) (fun q => []) ?_ ?_
 ·
  refine G.seq <| G.rg <| K.mv rfl rfl <| K.bin (V := .int .i64 (w64 (a0 + 1))) g0 rfl rfl (fun _ => rfl) rfl <| K.as rfl rfl <| K.nil <| At.next <| G.block <| G.lp (σ := { q : Nat × (Int × Int) // R07_Height.l0 k q.1 q.2 = some x1 }) (fun q => [(3, .a (.c (.v (.int .i64 q.1.2.1)))), (4, .a (.c (.v (.int .i64 q.1.2.2))))]) (fun q => []) (fun q => q.1.1) ⟨(k, (2, (w64 (a0 + 1)))), H1⟩ ?_ ?_
  · exact At.into [] [] rfl ⟨rfl, rfl, trivial⟩ trivial rfl
  ·
   rintro ⟨⟨n0, v1, v2⟩, H1⟩
   show G _ _ [(3, .a (.c (.v (.int .i64 v1)))), (4, .a (.c (.v (.int .i64 v2))))] [] _ _
   cases n0 with
   | zero => exact absurd H1 (by simp [R07_Height.l0])
   | succ n0 =>
    have HL0 := H1
    rw [R07_Height.l0] at H1
    refine G.seq <| G.seq <| G.rg <| K.mv rfl rfl <| K.bin (V := .bool (decide (v2 > 1))) g0 rfl rfl (fun _ => rfl) rfl <| K.nil <| At.next <| G.cond rfl (fun h1 => ?_) (fun h1 => ?_)
    ·
     replace H1 := bif_t H1 h1
     exact G.skip <| At.ns <| G.block <| G.rg <| K.mv rfl rfl <| K.bin (V := .int .i64 (w64 (v1 + 3))) g0 rfl rfl (fun _ => rfl) rfl <| K.as rfl rfl <| K.nil <| At.block_normal <| At.next <| G.rg <| K.mv rfl rfl <| K.bin (V := .int .i64 (w64 (v2.tdiv 2))) g0 rfl rfl (quo_run (by decide)) rfl <| K.as rfl rfl <| K.nil <| At.ag ⟨(n0, ((w64 (v1 + 3)), (w64 (v2.tdiv 2)))), H1⟩ [] [] (Nat.lt_succ_self _) rfl ⟨rfl, rfl, trivial⟩ trivial rfl
    ·
     replace H1 := bif_f H1 h1
     exact G.exit <| At.over_exit <| At.over_exit <| At.block_hit <| At.jd ⟨v1, oi H1⟩ [] [] rfl ⟨rfl, trivial⟩ trivial rfl
 ·
  rintro ⟨_, rfl⟩
  show G _ _ [(3, .a (.c (.v (.int .i64 x1))))] [] _ _
  exact G.seq <| G.rg <| K.mv rfl rfl <| K.as rfl rfl <| K.nil <| At.next <| G.ret <| At.dr Y [2] rfl rfl (by cases H0; rfl) (by cases H0; rfl) rfl rfl rfl
theorem R07_Height_con {k : Nat}  {a0 : Int} {r : Int}  (H0 : R07_Height.f k a0 = some r) : R07_Height_st a0 r :=
 SCon.ren (rn []) (R07_Height_con0 (k := k)   H0) trivial trivial (by simp) (by simp)
abbrev VTree_allM_o2_st (p1 : Pool (TNode TMark TSwell)) (a1 : TRef) (l2 : List TMark) (ri0 : Int) (rg0 : Int) (r : List TMark × Pool (TNode TMark TSwell)) (m0 : Nat) (m1 : Nat) (m2 : Nat) (m30 : Nat) : Prop := SCon Tryz.prog 60 [SV.p m0 0, .a (.agg ((eTRef a1).map .v)), .a (.c (.nv m2))] [(m0, blk m0 [.p m1 0, .i ri0, .i rg0] 110), (m1, pvM m1 p1), (m2, lrow m2 46 eTMark 8 l2)] (.a (.c (.nv m30))) [(m0, blk m0 [.p m1 0, .i ri0, .i rg0] 110), (m1, pvM m1 r.2), (m30, lrow m30 46 eTMark 8 r.1)] [m30]
theorem VTree_allM_o2_con0 {k : Nat}  : ∀ {n : Nat} {p1 : Pool (TNode TMark TSwell)} {a1 : TRef} {l2 : List TMark} {ri0 rg0 : Int} {r : List TMark × Pool (TNode TMark TSwell)}  (H0 : VTree_all.r opsM k n p1 a1 l2 = some r), VTree_allM_o2_st p1 a1 l2 ri0 rg0 r 0 1 2 30 := by
 intro n
 induction n with
 | zero => intro p1 a1 l2 ri0 rg0 r H0; exact absurd H0 (by simp [VTree_all.r])
 | succ n ih =>
  intro p1 a1 l2 ri0 rg0 r H0
  rw [VTree_all.r] at H0
  refine spec_of [(0, _), (1, _), (2, _)] [(0, _), (1, _), (2, _)] 28 Tryz.func60 rfl Tryz.ntmps60 rfl rfl rfl rfl (fun β W F => ?_)
  refine G.seq <| G.rg <| K.box Y 100 _ g0 rfl rfl rfl rfl rfl rfl <| K.nilRow 101 46 eTMark 8 (.inl rfl) g0 rfl rfl rfl <| K.nil <| At.ns <| G.seq <| G.rg <| K.fieldAddr Y g0 rfl t108 rfl rfl <| K.load1 Y g0 rfl rfl t3 rfl rfl <| K.bin (V := .bool (a1.gen == 0)) g0 rfl rfl (fun _ => rfl) rfl <| K.nil <| At.next <| G.cond rfl (fun h1 => ?_) (fun h1 => ?_)
  ·
   replace H0 := bif_t H0 h1
   exact G.seq <| G.rg <| K.mv rfl rfl <| K.as rfl rfl <| K.nil <| At.next <| G.ret <| At.over_ret <| At.ren (fs' := [(6, .a (.c (.nv 30)))]) (tl := [(0, blk 0 [.p 1 0, .v (.int .i64 ri0), .v (.int .i64 rg0)] 110), (1, pvM 1 p1), (30, lrow 30 46 eTMark 8 l2)]) [(30, 2)] [_, _, _] rfl ⟨rfl, trivial⟩ ⟨rfl, (blk_ren rfl rfl), rfl, (pool_ren rfl), rfl, (lrow_ren rfl), trivial⟩ rfl <| At.dr Y [6] rfl rfl (by cases H0; rfl) (by cases H0; rfl) rfl rfl rfl
  ·
   replace H0 := bif_f H0 h1
   refine G.skip <| At.ns ?_
   obtain ⟨x1, hx1, H0⟩ := bnd H0
   refine G.rg <| K.mv rfl rfl <| K.loadS Y _ g0 rfl rfl t108 rfl rfl rfl <| K.cA (cf 80 rfl) [0] (fun β w S2 h => SCon.rdBlk (VTree_getM_con hx1 0 1) rfl h) g0 rfl rfl rfl <| K.alloc Y 102 _ g0 t133 rfl rfl rfl rfl rfl <| K.store Y _ g0 rfl rfl rfl t133 rfl rfl rfl rfl rfl <| K.nil <| At.ns ?_
   obtain ⟨x2, hx2, H0⟩ := bnd H0
   obtain ⟨h2, H0⟩ := grd H0
   obtain ⟨x3, hx3, H0⟩ := bnd H0
   exact G.rd mixed <| K.mv rfl rfl <| K.fieldAddr Y g0 rfl t133 rfl rfl <| K.loadS Y _ g0 rfl rfl t108 rfl rfl rfl <| K.mv rfl rfl <| K.fieldAddr Y g0 rfl t133 rfl rfl <| K.loadS Y _ g0 rfl rfl t108 rfl rfl rfl <| K.mv rfl rfl <| K.cC (cf 60 rfl) [] (fun β w S2 h => SCon.rd0 (SCon.ren (ti' := [(0, _), (1, _), (2, _)]) (to' := [(0, _), (1, _), (103, _)]) (rn [(0, 0), (1, 1), (2, 2), (30, 103)]) (ih  hx2) ⟨(blk_ren rfl rfl), (pool_ren rfl), (lrow_ren rfl), trivial⟩ ⟨(blk_ren rfl rfl), (pool_ren rfl), (lrow_ren rfl), trivial⟩ (rn_nd (hd_ [0, 1, 2, 103] rfl) rfl rfl) (rn_ks (hd_ [0, 1, 2, 103] rfl) rfl rfl rfl)) S2 w h) g0 (fun _ => rfl) rfl rfl rfl <| K.fieldAddr Y g0 rfl t133 rfl rfl <| K.loadS Y _ g0 rfl rfl t46 rfl rfl rfl <| K.buildL Y 104 ([x1.1.e] : List TMark) [(0, _)] [((.tmp 24), _)] eTMark_len g0 (AllE.spec ⟨rfl, trivial⟩) rfl rfl Tryz.underlying37 t46 rfl rfl rfl rfl rfl rfl rfl rfl <| K.appendL 105 (lrowV 104 46 eTMark 8 ([x1.1.e] : List TMark)) _ el37 (lrowV_is eTMark_len (by decide)) eTMark_one g0 rfl rfl rfl rfl rfl (ap_m h2) (ap_b h2 (by decide)) rfl rfl rfl rfl rfl rfl <| K.cC (cf 60 rfl) [] (fun β w S2 h => SCon.rd0 (SCon.ren (ti' := [(0, _), (1, _), (105, _)]) (to' := [(0, _), (1, _), (106, _)]) (rn [(0, 0), (1, 1), (2, 105), (30, 106)]) (ih  hx3) ⟨(blk_ren rfl rfl), (pool_ren rfl), (lrow_ren rfl), trivial⟩ ⟨(blk_ren rfl rfl), (pool_ren rfl), (lrow_ren rfl), trivial⟩ (rn_nd (hd_ [0, 1, 105, 106] rfl) rfl rfl) (rn_ks (hd_ [0, 1, 105, 106] rfl) rfl rfl rfl)) S2 w h) g0 (fun _ => rfl) rfl rfl rfl <| K.as rfl rfl <| K.nil <| And.intro (by kernel_rfl) <| At.next <| G.ret <| At.ren (fs' := [(6, .a (.c (.nv 30)))]) (tl := [(0, blk 0 [.p 1 0, .v (.int .i64 ri0), .v (.int .i64 rg0)] 110), (1, pvM 1 x3.2), (30, lrow 30 46 eTMark 8 x3.1)]) [(30, 106)] [_, _, _] rfl ⟨rfl, trivial⟩ ⟨rfl, (blk_ren rfl rfl), rfl, (pool_ren rfl), rfl, (lrow_ren rfl), trivial⟩ rfl <| At.dr Y [6] rfl rfl (by cases H0; rfl) (by cases H0; rfl) rfl rfl rfl
theorem VTree_allM_o2_con {k n : Nat}  {p1 : Pool (TNode TMark TSwell)} {a1 : TRef} {l2 : List TMark} {ri0 rg0 : Int} {r : List TMark × Pool (TNode TMark TSwell)}  (H0 : VTree_all.r opsM k n p1 a1 l2 = some r) (m0 m1 m2 m30 : Nat) (hd : ndB [m0, m1, m2, m30] = true) : VTree_allM_o2_st p1 a1 l2 ri0 rg0 r m0 m1 m2 m30 :=
 SCon.ren (rn [(0, m0), (1, m1), (2, m2), (30, m30)]) (VTree_allM_o2_con0 (k := k)   H0) ⟨(blk_ren rfl rfl), (pool_ren rfl), (lrow_ren rfl), trivial⟩ ⟨(blk_ren rfl rfl), (pool_ren rfl), (lrow_ren rfl), trivial⟩ (rn_nd hd rfl rfl) (rn_ks hd rfl rfl rfl)
abbrev VTree_allM_n2_st (p1 : Pool (TNode TMark TSwell)) (a1 : TRef) (ri0 : Int) (rg0 : Int) (r : List TMark × Pool (TNode TMark TSwell)) (m0 : Nat) (m1 : Nat) (m30 : Nat) : Prop := SCon Tryz.prog 60 [SV.p m0 0, .a (.agg ((eTRef a1).map .v)), SV.raw (.slice none 0 0)] [(m0, blk m0 [.p m1 0, .i ri0, .i rg0] 110), (m1, pvM m1 p1)] (.a (.c (.nv m30))) [(m0, blk m0 [.p m1 0, .i ri0, .i rg0] 110), (m1, pvM m1 r.2), (m30, lrow m30 46 eTMark 8 r.1)] [m30]
theorem VTree_allM_n2_con0 {k : Nat}  : ∀ {n : Nat} {p1 : Pool (TNode TMark TSwell)} {a1 : TRef} {ri0 rg0 : Int} {r : List TMark × Pool (TNode TMark TSwell)}  (H0 : VTree_all.r opsM k n p1 a1 ([] : List TMark) = some r), VTree_allM_n2_st p1 a1 ri0 rg0 r 0 1 30 := by
 intro n
 cases n with
 | zero => intro p1 a1 ri0 rg0 r H0; exact absurd H0 (by simp [VTree_all.r])
 | succ n =>
  intro p1 a1 ri0 rg0 r H0
  rw [VTree_all.r] at H0
  refine spec_of [(0, _), (1, _), (2, _)] [(0, _), (1, _)] 28 Tryz.func60 rfl Tryz.ntmps60 rfl rfl rfl rfl (fun β W F => ?_)
  refine G.seq <| G.rg <| K.box Y 100 _ g0 rfl rfl rfl rfl rfl rfl <| K.nilRow 101 46 eTMark 8 (.inl rfl) g0 rfl rfl rfl <| K.nil <| At.ns <| G.seq <| G.rg <| K.fieldAddr Y g0 rfl t108 rfl rfl <| K.load1 Y g0 rfl rfl t3 rfl rfl <| K.bin (V := .bool (a1.gen == 0)) g0 rfl rfl (fun _ => rfl) rfl <| K.nil <| At.next <| G.cond rfl (fun h1 => ?_) (fun h1 => ?_)
  ·
   replace H0 := bif_t H0 h1
   exact G.seq <| G.rg <| K.nilRowS 102 46 eTMark 8 (.inr rfl) g0 rfl rfl rfl rfl <| K.as rfl rfl <| K.nil <| At.next <| G.ret <| At.over_ret <| At.ren (fs' := [(6, .a (.c (.nv 30)))]) (tl := [(0, blk 0 [.p 1 0, .v (.int .i64 ri0), .v (.int .i64 rg0)] 110), (1, pvM 1 p1), (30, lrow 30 46 eTMark 8 ([] : List TMark))]) [(30, 102)] [_, _, _] rfl ⟨rfl, trivial⟩ ⟨rfl, (blk_ren rfl rfl), rfl, (pool_ren rfl), rfl, (lrow_ren rfl), trivial⟩ rfl <| At.dr Y [6] rfl rfl (by cases H0; rfl) (by cases H0; rfl) rfl rfl rfl
  ·
   replace H0 := bif_f H0 h1
   refine G.skip <| At.ns ?_
   obtain ⟨x1, hx1, H0⟩ := bnd H0
   refine G.rg <| K.mv rfl rfl <| K.loadS Y _ g0 rfl rfl t108 rfl rfl rfl <| K.cA (cf 80 rfl) [0] (fun β w S2 h => SCon.rdBlk (VTree_getM_con hx1 0 1) rfl h) g0 rfl rfl rfl <| K.alloc Y 103 _ g0 t133 rfl rfl rfl rfl rfl <| K.store Y _ g0 rfl rfl rfl t133 rfl rfl rfl rfl rfl <| K.nil <| At.ns ?_
   obtain ⟨x2, hx2, H0⟩ := bnd H0
   obtain ⟨h2, H0⟩ := grd H0
   obtain ⟨x3, hx3, H0⟩ := bnd H0
   exact G.rd mixed <| K.mv rfl rfl <| K.fieldAddr Y g0 rfl t133 rfl rfl <| K.loadS Y _ g0 rfl rfl t108 rfl rfl rfl <| K.mv rfl rfl <| K.fieldAddr Y g0 rfl t133 rfl rfl <| K.loadS Y _ g0 rfl rfl t108 rfl rfl rfl <| K.nilRowS 104 46 eTMark 8 (.inr rfl) g0 rfl rfl rfl rfl <| K.cC (cf 60 rfl) [] (fun β w S2 h => SCon.rd0 (VTree_allM_o2_con hx2 0 1 104 105 rfl) S2 w h) g0 (fun _ => rfl) rfl rfl rfl <| K.fieldAddr Y g0 rfl t133 rfl rfl <| K.loadS Y _ g0 rfl rfl t46 rfl rfl rfl <| K.buildL Y 106 ([x1.1.e] : List TMark) [(0, _)] [((.tmp 24), _)] eTMark_len g0 (AllE.spec ⟨rfl, trivial⟩) rfl rfl Tryz.underlying37 t46 rfl rfl rfl rfl rfl rfl rfl rfl <| K.appendL 107 (lrowV 106 46 eTMark 8 ([x1.1.e] : List TMark)) _ el37 (lrowV_is eTMark_len (by decide)) eTMark_one g0 rfl rfl rfl rfl rfl (ap_m h2) (ap_b h2 (by decide)) rfl rfl rfl rfl rfl rfl <| K.cC (cf 60 rfl) [] (fun β w S2 h => SCon.rd0 (VTree_allM_o2_con hx3 0 1 107 108 rfl) S2 w h) g0 (fun _ => rfl) rfl rfl rfl <| K.as rfl rfl <| K.nil <| And.intro (by kernel_rfl) <| At.next <| G.ret <| At.ren (fs' := [(6, .a (.c (.nv 30)))]) (tl := [(0, blk 0 [.p 1 0, .v (.int .i64 ri0), .v (.int .i64 rg0)] 110), (1, pvM 1 x3.2), (30, lrow 30 46 eTMark 8 x3.1)]) [(30, 108)] [_, _, _] rfl ⟨rfl, trivial⟩ ⟨rfl, (blk_ren rfl rfl), rfl, (pool_ren rfl), rfl, (lrow_ren rfl), trivial⟩ rfl <| At.dr Y [6] rfl rfl (by cases H0; rfl) (by cases H0; rfl) rfl rfl rfl
theorem VTree_allM_n2_con {k n : Nat}  {p1 : Pool (TNode TMark TSwell)} {a1 : TRef} {ri0 rg0 : Int} {r : List TMark × Pool (TNode TMark TSwell)}  (H0 : VTree_all.r opsM k n p1 a1 ([] : List TMark) = some r) (m0 m1 m30 : Nat) (hd : ndB [m0, m1, m30] = true) : VTree_allM_n2_st p1 a1 ri0 rg0 r m0 m1 m30 :=
 SCon.ren (rn [(0, m0), (1, m1), (30, m30)]) (VTree_allM_n2_con0 (k := k)   H0) ⟨(blk_ren rfl rfl), (pool_ren rfl), trivial⟩ ⟨(blk_ren rfl rfl), (pool_ren rfl), (lrow_ren rfl), trivial⟩ (rn_nd hd rfl rfl) (rn_ks hd rfl rfl rfl)
abbrev VTree_AllM_st (p1 : Pool (TNode TMark TSwell)) (rt0 : TRef) (r : List TMark × Pool (TNode TMark TSwell)) (m0 : Nat) (m1 : Nat) (m30 : Nat) : Prop := SCon Tryz.prog 19 [SV.p m0 0] [(m0, blk m0 [.p m1 0, .i rt0.index, .i rt0.gen] 110), (m1, pvM m1 p1)] (.a (.c (.nv m30))) [(m0, blk m0 [.p m1 0, .i rt0.index, .i rt0.gen] 110), (m1, pvM m1 r.2), (m30, lrow m30 46 eTMark 8 r.1)] [m30]
theorem VTree_AllM_con0 {k : Nat}  {p1 : Pool (TNode TMark TSwell)} {rt0 : TRef} {r : List TMark × Pool (TNode TMark TSwell)}  (H0 : VTree_All.f opsM k p1 rt0 = some r) : VTree_AllM_st p1 rt0 r 0 1 30 := by
 rw [VTree_All.f] at H0
 refine spec_of [(0, _)] [(0, _), (1, _)] 9 Tryz.func19 rfl Tryz.ntmps19 rfl rfl rfl rfl (fun β W F => ?_)
 refine G.seq <| G.rg <| K.nilRow 100 46 eTMark 8 (.inl rfl) g0 rfl rfl rfl <| K.nil <| At.ns ?_
 obtain ⟨x1, hx1, H0⟩ := bnd H0
 exact G.rg <| K.mv rfl rfl <| K.mv rfl rfl <| K.nilCheck g0 rfl rfl <| K.fieldAddr Y g0 rfl t110 rfl rfl <| K.loadS Y _ g0 rfl rfl t108 rfl rfl rfl <| K.cA (cf 60 rfl) [0] (fun β w S2 h => SCon.rdBlk (VTree_allM_n2_con hx1 0 1 101 rfl) rfl h) g0 rfl rfl rfl <| K.as rfl rfl <| K.nil <| At.next <| G.ret <| At.ren (fs' := [(2, .a (.c (.nv 30)))]) (tl := [(0, blk 0 [.p 1 0, .v (.int .i64 rt0.index), .v (.int .i64 rt0.gen)] 110), (1, pvM 1 x1.2), (30, lrow 30 46 eTMark 8 x1.1)]) [(30, 101)] [_, _, _] rfl ⟨rfl, trivial⟩ ⟨rfl, (blk_ren rfl rfl), rfl, (pool_ren rfl), rfl, (lrow_ren rfl), trivial⟩ rfl <| At.dr Y [2] rfl rfl (by cases H0; rfl) (by cases H0; rfl) rfl rfl rfl
theorem VTree_AllM_con {k : Nat}  {p1 : Pool (TNode TMark TSwell)} {rt0 : TRef} {r : List TMark × Pool (TNode TMark TSwell)}  (H0 : VTree_All.f opsM k p1 rt0 = some r) (m0 m1 m30 : Nat) (hd : ndB [m0, m1, m30] = true) : VTree_AllM_st p1 rt0 r m0 m1 m30 :=
 SCon.ren (rn [(0, m0), (1, m1), (30, m30)]) (VTree_AllM_con0 (k := k)   H0) ⟨(blk_ren rfl rfl), (pool_ren rfl), trivial⟩ ⟨(blk_ren rfl rfl), (pool_ren rfl), (lrow_ren rfl), trivial⟩ (rn_nd hd rfl rfl) (rn_ks hd rfl rfl rfl)
abbrev Vpartial_Queue_Ops_st (q0 : TQueue) (r : List TOp × TQueue) (m0 : Nat) (m1 : Nat) (m2 : Nat) (m3 : Nat) (m4 : Nat) (m5 : Nat) (m6 : Nat) (m7 : Nat) (m8 : Nat) (m30 : Nat) : Prop := SCon Tryz.prog 27 [SV.p m0 0] (tkQueueV m0 m1 m2 m3 m4 m5 m6 m7 m8 q0 []) (.a (.c (.nv m30))) (tkQueueV m0 m1 m2 m3 m4 m5 m6 m7 m8 r.2 [(m30, lrow m30 42 eTOp 4 r.1)]) [m30]
theorem Vpartial_Queue_Ops_con0 {k : Nat}  {q0 : TQueue} {r : List TOp × TQueue}  (H0 : Vpartial_Queue_Ops.f k q0 = some r) : Vpartial_Queue_Ops_st q0 r 0 1 2 3 4 5 6 7 8 30 := by
 rw [Vpartial_Queue_Ops.f] at H0
 refine spec_of [(0, _)] [(0, _), (1, _), (2, _), (3, _), (4, _), (5, _), (6, _), (7, _), (8, _)] 23 Tryz.func27 rfl Tryz.ntmps27 rfl rfl rfl rfl (fun β W F => ?_)
 refine G.seq <| G.rg <| K.nilRow 100 42 eTOp 4 (.inl rfl) g0 rfl rfl rfl <| K.nil <| At.nr <| K.nilRow 101 42 eTOp 4 (.inl rfl) g0 rfl rfl rfl <| K.nil <| At.next ?_
 obtain ⟨x1, H1, H0⟩ := bnd H0
 refine G.sJ (σ := { v : List TOp × TQueue // x1 = v }) (fun q => [(3, .a (.c (.nv 102)))]) (fun q => ((102, lrow 102 42 eTOp 4 q.1.1) :: (tkQueueV 0 1 2 3 4 5 6 7 8 q.1.2 []))) ?_ ?_
 ·
  refine G.seq ?_
  obtain ⟨x2, hx2, H1⟩ := bnd H1
  refine G.rg <| K.mv rfl rfl <| K.nilCheck g0 rfl rfl <| K.fieldAddr Y g0 rfl t98 rfl rfl <| K.load1 Y g0 rfl rfl t38 rfl rfl <| K.c0 (cf 19 rfl) (VTree_AllM_con hx2 1 2 103 rfl) g0 rfl rfl rfl rfl <| K.lenL (lrowV 103 46 eTMark 8 x2.1) (lrowV_is eTMark_len (by decide)) g0 rfl rfl Tryz.underlying37 rfl <| K.mv rfl rfl <| K.nil <| At.next <| G.block <| G.lp (σ := { q : Nat × (List TOp × Int × TQueue) // Vpartial_Queue_Ops.l0 k x2 q.1 q.2 = some x1 }) (fun q => [(3, .a (.c (.nv 108))), (10, .a (.c (.nv 109))), (11, .a (.c (.v (.int .i64 (x2.1.length : Int))))), (12, .a (.c (.v (.int .i64 q.1.2.2.1))))]) (fun q => ((108, lrow 108 42 eTOp 4 q.1.2.1) :: ((109, lrow 109 46 eTMark 8 x2.1) :: (tkQueueV 0 1 2 3 4 5 6 7 8 q.1.2.2.2 [])))) (fun q => q.1.1) ⟨(k, (([] : List TOp), 0, (TQueue.mk q0.capacity (TS.mk x2.2 q0.marks.r) q0.present q0.gone q0.times q0.excess))), H1⟩ ?_ ?_
  · exact At.into [(108, 101), (109, 103)] [_, _, _, _, _, _, _, _, _, _, _] rfl ⟨rfl, rfl, rfl, rfl, trivial⟩ ⟨rfl, (lrow_ren rfl), rfl, (lrow_ren rfl), rfl, (blk_ren rfl rfl), rfl, (blk_ren rfl rfl), rfl, (pool_ren rfl), rfl, (blk_ren rfl rfl), rfl, (pool_ren rfl), rfl, (blk_ren rfl rfl), rfl, (pool_ren rfl), rfl, (blk_ren rfl rfl), rfl, (pool_ren rfl), trivial⟩ rfl
  ·
   rintro ⟨⟨n0, v1, v2, v3⟩, H1⟩
   show G _ _ [(3, .a (.c (.nv 108))), (10, .a (.c (.nv 109))), (11, .a (.c (.v (.int .i64 (x2.1.length : Int))))), (12, .a (.c (.v (.int .i64 v2))))] (sm ((108, lrow 108 42 eTOp 4 v1) :: ((109, lrow 109 46 eTMark 8 x2.1) :: (tkQueueV 0 1 2 3 4 5 6 7 8 v3 [])))) _ _
   cases n0 with
   | zero => exact absurd H1 (by simp [Vpartial_Queue_Ops.l0])
   | succ n0 =>
    have HL0 := H1
    rw [Vpartial_Queue_Ops.l0] at H1
    refine G.seq <| G.rg <| K.bin (V := .bool (decide (v2 < (x2.1.length : Int)))) g0 rfl rfl (fun _ => rfl) rfl <| K.nil <| At.ns <| G.cond rfl (fun h1 => ?_) (fun h1 => ?_)
    ·
     replace H1 := bif_t H1 h1
     refine G.skip <| At.ns <| G.block <| G.seq ?_
     obtain ⟨x3, hx3, H1⟩ := bnd H1
     refine G.rg <| K.idxL (lrowV 109 46 eTMark 8 x2.1) ((v2).toNat) (lrowV_is eTMark_len (by decide)) (atL_get hx3) (atL_nn hx3) g0 rfl rfl rfl Tryz.underlying37 el37.size_run rfl <| K.loadSL Y (lrowV 109 46 eTMark 8 x2.1) ((v2).toNat) 0 [_, _, _, _, _, _, _, _] [_, _, _, _, _, _, _, _] (lrowV_is eTMark_len (by decide)) (atL_get hx3) g0 rfl rfl t46 rfl rfl rfl rfl rfl <| K.alloc Y 110 _ g0 t46 rfl rfl rfl rfl rfl <| K.store Y _ g0 rfl rfl rfl t46 rfl rfl rfl rfl rfl <| K.nil <| At.next ?_
     obtain ⟨h2, H1⟩ := grd H1
     exact G.rg <| K.mv rfl rfl <| K.fieldAddr Y g0 rfl t46 rfl rfl <| K.loadS Y _ g0 rfl rfl t42 rfl rfl rfl <| K.buildL Y 111 ([x3.op] : List TOp) [(0, _)] [((.tmp 18), _)] eTOp_len g0 (AllE.spec ⟨rfl, trivial⟩) rfl rfl Tryz.underlying26 t42 rfl rfl rfl rfl rfl rfl rfl rfl <| K.appendL 112 (lrowV 111 42 eTOp 4 ([x3.op] : List TOp)) _ el26 (lrowV_is eTOp_len (by decide)) eTOp_one g0 rfl rfl rfl rfl rfl (ap_m h2) (ap_b h2 (by decide)) rfl rfl rfl rfl rfl rfl <| K.as rfl rfl <| K.nil <| At.block_normal <| At.next <| G.rg <| K.bin (V := .int .i64 (w64 (v2 + 1))) g0 rfl rfl (fun _ => rfl) rfl <| K.mv rfl rfl <| K.nil <| At.ag ⟨(n0, ((v1 ++ ([x3.op] : List TOp)), (w64 (v2 + 1)), v3)), H1⟩ [(108, 112)] [_, _, _, _, _, _, _, _, _, _, _] (Nat.lt_succ_self _) rfl ⟨rfl, rfl, rfl, rfl, trivial⟩ ⟨rfl, (lrow_ren rfl), rfl, (lrow_ren rfl), rfl, (blk_ren rfl rfl), rfl, (blk_ren rfl rfl), rfl, (pool_ren rfl), rfl, (blk_ren rfl rfl), rfl, (pool_ren rfl), rfl, (blk_ren rfl rfl), rfl, (pool_ren rfl), rfl, (blk_ren rfl rfl), rfl, (pool_ren rfl), trivial⟩ rfl
    ·
     replace H1 := bif_f H1 h1
     exact G.exit <| At.over_exit <| At.over_exit <| At.block_hit <| At.jd ⟨(v1, v3), oi H1⟩ [(102, 108)] [_, _, _, _, _, _, _, _, _, _] rfl ⟨rfl, trivial⟩ ⟨rfl, (lrow_ren rfl), rfl, (blk_ren rfl rfl), rfl, (blk_ren rfl rfl), rfl, (pool_ren rfl), rfl, (blk_ren rfl rfl), rfl, (pool_ren rfl), rfl, (blk_ren rfl rfl), rfl, (pool_ren rfl), rfl, (blk_ren rfl rfl), rfl, (pool_ren rfl), trivial⟩ rfl
 ·
  rintro ⟨_, rfl⟩
  show G _ _ [(3, .a (.c (.nv 102)))] (sm ((102, lrow 102 42 eTOp 4 x1.1) :: (tkQueueV 0 1 2 3 4 5 6 7 8 x1.2 []))) _ _
  exact G.seq <| G.rg <| K.mv rfl rfl <| K.as rfl rfl <| K.nil <| At.next <| G.ret <| At.ren (fs' := [(2, .a (.c (.nv 30)))]) (tl := (tkQueueV 0 1 2 3 4 5 6 7 8 x1.2 [(30, lrow 30 42 eTOp 4 x1.1)])) [(30, 102)] [_, _, _, _, _, _, _, _, _, _] rfl ⟨rfl, trivial⟩ ⟨rfl, (blk_ren rfl rfl), rfl, (blk_ren rfl rfl), rfl, (pool_ren rfl), rfl, (blk_ren rfl rfl), rfl, (pool_ren rfl), rfl, (blk_ren rfl rfl), rfl, (pool_ren rfl), rfl, (blk_ren rfl rfl), rfl, (pool_ren rfl), rfl, (lrow_ren rfl), trivial⟩ rfl <| At.dr Y [2] rfl rfl (by cases H0; rfl) (by cases H0; rfl) rfl rfl rfl
theorem Vpartial_Queue_Ops_con {k : Nat}  {q0 : TQueue} {r : List TOp × TQueue}  (H0 : Vpartial_Queue_Ops.f k q0 = some r) (m0 m1 m2 m3 m4 m5 m6 m7 m8 m30 : Nat) (hd : ndB [m0, m1, m2, m3, m4, m5, m6, m7, m8, m30] = true) : Vpartial_Queue_Ops_st q0 r m0 m1 m2 m3 m4 m5 m6 m7 m8 m30 :=
 SCon.ren (rn [(0, m0), (1, m1), (2, m2), (3, m3), (4, m4), (5, m5), (6, m6), (7, m7), (8, m8), (30, m30)]) (Vpartial_Queue_Ops_con0 (k := k)   H0) ⟨(blk_ren rfl rfl), (blk_ren rfl rfl), (pool_ren rfl), (blk_ren rfl rfl), (pool_ren rfl), (blk_ren rfl rfl), (pool_ren rfl), (blk_ren rfl rfl), (pool_ren rfl), trivial⟩ ⟨(blk_ren rfl rfl), (blk_ren rfl rfl), (pool_ren rfl), (blk_ren rfl rfl), (pool_ren rfl), (blk_ren rfl rfl), (pool_ren rfl), (blk_ren rfl rfl), (pool_ren rfl), (lrow_ren rfl), trivial⟩ (rn_nd hd rfl rfl) (rn_ks hd rfl rfl rfl)
abbrev VLw12_PartialVisits_st (S : Foot) (W0 : World) (s0 : Value) (r : Bool) : Prop := SCon Tryz.prog 4 [SV.raw s0] [(0, rd S W0)] (.a (.c (.v (.bool r)))) [(0, rd S W0)] []
set_option maxHeartbeats 4000000 in
theorem VLw12_PartialVisits_con0 {k : Nat}  {S : Foot} {W0 : World} {s0 : Value} {l0 : List TL12Act} {r : Bool} (hL0 : LArg S W0 s0 eTL12Act 5 l0) (H0 : VLw12_PartialVisits.f k l0 = some r) : VLw12_PartialVisits_st S W0 s0 r := by
 rw [VLw12_PartialVisits.f] at H0
 obtain ⟨b0, o0, hI0⟩ := hL0
 refine spec_of [(0, _)] [(0, _)] 71 Tryz.func4 rfl Tryz.ntmps4 rfl rfl rfl rfl (fun β W F => ?_)
 refine G.seq <| G.rg <| K.as rfl rfl <| K.nil <| At.next ?_
 obtain ⟨x1, H1, H0⟩ := bnd H0
 refine G.sJ (σ := { v : Unit // x1 = Sum.inr v }) (fun q => [(0, SV.raw s0)]) (fun q => [(0, rd S W0)]) ?_ ?_
 ·
  refine G.seq ?_
  obtain ⟨x2, hx2, H1⟩ := bnd H1
  rcases Bool.eq_false_or_eq_true (!x2) with h1 | h1
  ·
   replace H1 := bif_t H1 h1
   refine G.rg <| K.cR (cf 14 rfl) (VLw12_awake_con hx2) g0 rfl rfl rfl rfl <| K.un (V := .bool (!x2)) g0 rfl (fun _ => rfl) rfl <| K.mv rfl rfl <| K.sk rfl rfl h1 rfl <| K.sk rfl rfl h1 rfl <| K.sk rfl rfl h1 rfl <| K.pickT g0 rfl (h1) rfl rfl <| K.nil <| At.next <| G.cond rfl (fun h2 => ?_) (fun h2 => ?_)
   ·
    refine G.seq ?_
    obtain ⟨x3, hx3, H1⟩ := bnd H1
    refine G.rg <| K.cR (cf 14 rfl) (VLw12_awake_con hx3) g0 rfl rfl rfl rfl <| K.as rfl rfl <| K.nil <| At.next <| G.ret <| At.over_ret ?_
    cases H1
    replace H0 := sum_l H0
    exact At.dr Y [2] rfl rfl (by cases H0; rfl) (by cases H0; rfl) rfl rfl rfl
   · cases h2
  ·
   replace H1 := bif_f H1 h1
   refine G.rg <| K.cR (cf 14 rfl) (VLw12_awake_con hx2) g0 rfl rfl rfl rfl <| K.un (V := .bool (!x2)) g0 rfl (fun _ => rfl) rfl <| K.mv rfl rfl <| K.move (.inl rfl) (g1 rfl rfl h1) rfl rfl <| K.lenL (rV 0 S W0 s0 b0 o0 eTL12Act 5 l0) (hI0.is 0) (g1 rfl rfl h1) rfl rfl Tryz.underlying22 rfl <| K.bin (V := .bool (decide ((l0.length : Int) > 60))) (g1 rfl rfl h1) rfl rfl (fun _ => rfl) rfl <| K.pickF g0 rfl (h1) rfl rfl <| K.nil <| At.next <| G.cond rfl (fun h3 => ?_) (fun h3 => ?_)
   ·
    replace H1 := bif_t H1 h3
    refine G.seq ?_
    obtain ⟨x4, hx4, H1⟩ := bnd H1
    refine G.rg <| K.cR (cf 14 rfl) (VLw12_awake_con hx4) g0 rfl rfl rfl rfl <| K.as rfl rfl <| K.nil <| At.next <| G.ret <| At.over_ret ?_
    cases H1
    replace H0 := sum_l H0
    exact At.dr Y [2] rfl rfl (by cases H0; rfl) (by cases H0; rfl) rfl rfl rfl
   ·
    replace H1 := bif_f H1 h3
    exact G.skip <| At.jd ⟨(), oi H1⟩ [] [_] rfl ⟨rfl, trivial⟩ ⟨rfl, (fun _ => rfl), trivial⟩ rfl
 ·
  rintro ⟨w1, rfl⟩
  replace H0 := sum_r H0
  show G _ _ [(0, SV.raw s0)] [(0, some (rd S W0))] _ _
  refine G.seq ?_
  obtain ⟨x5, hx5, H0⟩ := bnd H0
  refine G.rg <| K.c0 (cf 15 rfl) (Vpartial_New_con hx5 100 101 102 103 104 105 106 107 108 rfl) g0 rfl rfl rfl rfl <| K.as rfl rfl <| K.nil <| At.nr <| K.nilRow 109 42 eTOp 4 (.inl rfl) g0 rfl rfl rfl <| K.nil <| At.next ?_
  obtain ⟨x6, H1, H0⟩ := bnd H0
  refine G.sJ (σ := { v : Unit // x6 = Sum.inr v }) (fun q => []) (fun q => [(0, rd S W0)]) ?_ ?_
  ·
   refine G.seq <| G.rg <| K.as rfl rfl <| K.nil <| At.next <| G.block <| G.lp (σ := { q : Nat × (TQueue × List TOp × Int) // VLw12_PartialVisits.l0 k l0 q.1 q.2 = some x6 }) (fun q => [(0, SV.raw s0), (3, .a (.c (.p 130 0))), (4, .a (.c (.nv 139))), (5, .a (.c (.v (.int .i64 q.1.2.2.2))))]) (fun q => ((0, rd S W0) :: (tkQueueV 130 131 132 133 134 135 136 137 138 q.1.2.1 [(139, lrow 139 42 eTOp 4 q.1.2.2.1)]))) (fun q => q.1.1) ⟨(k, (x5, ([] : List TOp), 0)), H1⟩ ?_ ?_
   · exact At.into [(130, 100), (131, 101), (132, 102), (133, 103), (134, 104), (135, 105), (136, 106), (137, 107), (138, 108), (139, 109)] [_, _, _, _, _, _, _, _, _, _, _] rfl ⟨rfl, rfl, rfl, rfl, trivial⟩ ⟨rfl, (fun _ => rfl), rfl, (blk_ren rfl rfl), rfl, (blk_ren rfl rfl), rfl, (pool_ren rfl), rfl, (blk_ren rfl rfl), rfl, (pool_ren rfl), rfl, (blk_ren rfl rfl), rfl, (pool_ren rfl), rfl, (blk_ren rfl rfl), rfl, (pool_ren rfl), rfl, (lrow_ren rfl), trivial⟩ rfl
   ·
    rintro ⟨⟨n0, v1, v2, v3⟩, H1⟩
    show G _ _ [(0, SV.raw s0), (3, .a (.c (.p 130 0))), (4, .a (.c (.nv 139))), (5, .a (.c (.v (.int .i64 v3))))] (sm ((0, rd S W0) :: (tkQueueV 130 131 132 133 134 135 136 137 138 v1 [(139, lrow 139 42 eTOp 4 v2)]))) _ _
    cases n0 with
    | zero => exact absurd H1 (by simp [VLw12_PartialVisits.l0])
    | succ n0 =>
     have HL0 := H1
     rw [VLw12_PartialVisits.l0] at H1
     refine G.seq <| G.seq <| G.rg <| K.mv rfl rfl <| K.mv rfl rfl <| K.lenL (rV 0 S W0 s0 b0 o0 eTL12Act 5 l0) (hI0.is 0) g0 rfl rfl Tryz.underlying22 rfl <| K.bin (V := .bool (decide (v3 < (l0.length : Int)))) g0 rfl rfl (fun _ => rfl) rfl <| K.nil <| At.next <| G.cond rfl (fun h4 => ?_) (fun h4 => ?_)
     ·
      replace H1 := bif_t H1 h4
      refine G.skip <| At.ns <| G.block <| G.seq ?_
      obtain ⟨x7, hx7, H1⟩ := bnd H1
      refine G.rg <| K.mv rfl rfl <| K.lenL (lrowV 139 42 eTOp 4 v2) (lrowV_is eTOp_len (by decide)) g0 rfl rfl Tryz.underlying26 rfl <| K.mv rfl rfl <| K.cR (cf 20 rfl) (Vpartial_Queue_Visits_con hx7 130 131 132 133 134 135 136 137 138) g0 rfl rfl rfl rfl <| K.as rfl rfl <| K.as rfl rfl <| K.nil <| At.ns ?_
      obtain ⟨x8, hx8, H1⟩ := bnd H1
      obtain ⟨x9, hx9, H1⟩ := bnd H1
      refine G.rg <| K.mv rfl rfl <| K.mv rfl rfl <| K.idxL (rV 0 S W0 s0 b0 o0 eTL12Act 5 l0) ((v3).toNat) (hI0.is 0) (atL_get hx8) (atL_nn hx8) g0 rfl rfl rfl Tryz.underlying22 el22.size_run rfl <| K.loadSL Y (rV 0 S W0 s0 b0 o0 eTL12Act 5 l0) ((v3).toNat) 0 [_, _, _, _, _] [_, _, _, _, _] (hI0.is 0) (atL_get hx8) g0 rfl rfl t32 rfl rfl rfl rfl rfl <| K.mv rfl rfl <| K.cV (cf 21 rfl) [139] (fun β w S2 h => Lw12_Act_time_con (la 0 rfl eTOp_len rfl h) hx9) g0 (fun _ => rfl) rfl rfl rfl <| K.as rfl rfl <| K.nil <| At.ns <| G.seq ?_
      obtain ⟨x10, hx10, H1⟩ := bnd H1
      refine G.rg <| K.mv rfl rfl <| K.mv rfl rfl <| K.idxL (rV 0 S W0 s0 b0 o0 eTL12Act 5 l0) ((v3).toNat) (hI0.is 0) (atL_get hx8) (atL_nn hx8) g0 rfl rfl rfl Tryz.underlying22 el22.size_run rfl <| K.fieldL Y (rV 0 S W0 s0 b0 o0 eTL12Act 5 l0) ((v3).toNat) 0 0 (hI0.is 0) (atL_get hx8) g0 rfl rfl t32 rfl rfl rfl rfl <| K.load1L Y (rV 0 S W0 s0 b0 o0 eTL12Act 5 l0) ((v3).toNat) 0 (hI0.is 0) (atL_get hx8) g0 rfl rfl t3 rfl rfl <| K.cR (cf 22 rfl) (R01_Rest_con hx10) g0 rfl rfl rfl rfl <| K.nil <| At.next <| G.block <| G.seq <| G.rg <| K.bin (V := .bool (x10 == 0)) g0 rfl rfl (fun _ => rfl) rfl <| K.as rfl rfl <| K.nil <| At.next <| G.cond rfl (fun h5 => ?_) (fun h5 => ?_)
      ·
       replace H1 := bif_t H1 h5
       obtain ⟨x11, hx11, H1⟩ := bnd H1
       refine G.rg <| K.mv rfl rfl <| K.mv rfl rfl <| K.mv rfl rfl <| K.mv rfl rfl <| K.idxL (rV 0 S W0 s0 b0 o0 eTL12Act 5 l0) ((v3).toNat) (hI0.is 0) (atL_get hx8) (atL_nn hx8) g0 rfl rfl rfl Tryz.underlying22 el22.size_run rfl <| K.fieldL Y (rV 0 S W0 s0 b0 o0 eTL12Act 5 l0) ((v3).toNat) 0 3 (hI0.is 0) (atL_get hx8) g0 rfl rfl t32 rfl rfl rfl rfl <| K.loadSL Y (rV 0 S W0 s0 b0 o0 eTL12Act 5 l0) ((v3).toNat) 3 [_, _] [_, _] (hI0.is 0) (atL_get hx8) g0 rfl rfl t30 rfl rfl rfl rfl rfl <| K.c0 (cf 23 rfl) (Vpartial_Queue_Insert_con hx11 130 131 132 133 134 135 136 137 138 140 141 rfl) g0 rfl rfl rfl rfl <| K.nil <| At.block_normal <| At.ns <| G.seq ?_
       obtain ⟨x12, hx12, H1⟩ := bnd H1
       obtain ⟨x13, hx13, H1⟩ := bnd H1
       refine G.rg <| K.mv rfl rfl <| K.cR (cf 20 rfl) (Vpartial_Queue_Visits_con hx12 130 131 132 133 134 135 136 137 138) g0 rfl rfl rfl rfl <| K.mv rfl rfl <| K.bin (V := .int .i64 (w64 (x12 - x7))) g0 rfl rfl (fun _ => rfl) rfl <| K.mv rfl rfl <| K.cR (cf 26 rfl) (R07_Height_con hx13) g0 rfl rfl rfl rfl <| K.bin (V := .int .i64 (w64 (x13 + 4))) g0 rfl rfl (fun _ => rfl) rfl <| K.bin (V := .int .i64 (w64 (10000 * (w64 (x13 + 4))))) g0 rfl rfl (fun _ => rfl) rfl <| K.bin (V := .bool (decide ((w64 (x12 - x7)) > (w64 (10000 * (w64 (x13 + 4))))))) g0 rfl rfl (fun _ => rfl) rfl <| K.nil <| At.next <| G.cond rfl (fun h6 => ?_) (fun h6 => ?_)
       ·
        replace H1 := bif_t H1 h6
        refine G.seq <| G.rg <| K.as rfl rfl <| K.nil <| At.next <| G.ret <| At.over_ret <| At.block_ret <| At.over_ret <| At.over_ret <| At.block_ret <| At.over_ret ?_
        cases H1
        replace H0 := sum_l H0
        exact At.dr Y [2] rfl rfl (by cases H0; rfl) (by cases H0; rfl) rfl rfl rfl
       ·
        replace H1 := bif_f H1 h6
        refine G.skip <| At.next ?_
        obtain ⟨x14, hx14, H1⟩ := bnd H1
        exact G.rg <| K.mv rfl rfl <| K.c0 (cf 27 rfl) (Vpartial_Queue_Ops_con hx14 130 131 132 133 134 135 136 137 138 142 rfl) g0 rfl rfl rfl rfl <| K.as rfl rfl <| K.nil <| At.block_normal <| At.next <| G.rg <| K.mv rfl rfl <| K.bin (V := .int .i64 (w64 (v3 + 1))) g0 rfl rfl (fun _ => rfl) rfl <| K.as rfl rfl <| K.nil <| At.ag ⟨(n0, (x14.2, x14.1, (w64 (v3 + 1)))), H1⟩ [(139, 142)] [_, _, _, _, _, _, _, _, _, _, _] (Nat.lt_succ_self _) rfl ⟨rfl, rfl, rfl, rfl, trivial⟩ ⟨rfl, (fun _ => rfl), rfl, (blk_ren rfl rfl), rfl, (blk_ren rfl rfl), rfl, (pool_ren rfl), rfl, (blk_ren rfl rfl), rfl, (pool_ren rfl), rfl, (blk_ren rfl rfl), rfl, (pool_ren rfl), rfl, (blk_ren rfl rfl), rfl, (pool_ren rfl), rfl, (lrow_ren rfl), trivial⟩ rfl
      ·
       replace H1 := bif_f H1 h5
       refine G.seq <| G.rg <| K.bin (V := .bool (x10 == 1)) g0 rfl rfl (fun _ => rfl) rfl <| K.as rfl rfl <| K.nil <| At.next <| G.cond rfl (fun h7 => ?_) (fun h7 => ?_)
       ·
        replace H1 := bif_t H1 h7
        obtain ⟨x15, hx15, H1⟩ := bnd H1
        refine G.rg <| K.mv rfl rfl <| K.mv rfl rfl <| K.c0 (cf 24 rfl) (Vpartial_Queue_Delete_con hx15 130 131 132 133 134 135 136 137 138 143 144 rfl) g0 rfl rfl rfl rfl <| K.nil <| At.block_normal <| At.ns <| G.seq ?_
        obtain ⟨x16, hx16, H1⟩ := bnd H1
        obtain ⟨x17, hx17, H1⟩ := bnd H1
        refine G.rg <| K.mv rfl rfl <| K.cR (cf 20 rfl) (Vpartial_Queue_Visits_con hx16 130 131 132 133 134 135 136 137 138) g0 rfl rfl rfl rfl <| K.mv rfl rfl <| K.bin (V := .int .i64 (w64 (x16 - x7))) g0 rfl rfl (fun _ => rfl) rfl <| K.mv rfl rfl <| K.cR (cf 26 rfl) (R07_Height_con hx17) g0 rfl rfl rfl rfl <| K.bin (V := .int .i64 (w64 (x17 + 4))) g0 rfl rfl (fun _ => rfl) rfl <| K.bin (V := .int .i64 (w64 (10000 * (w64 (x17 + 4))))) g0 rfl rfl (fun _ => rfl) rfl <| K.bin (V := .bool (decide ((w64 (x16 - x7)) > (w64 (10000 * (w64 (x17 + 4))))))) g0 rfl rfl (fun _ => rfl) rfl <| K.nil <| At.next <| G.cond rfl (fun h8 => ?_) (fun h8 => ?_)
        ·
         replace H1 := bif_t H1 h8
         refine G.seq <| G.rg <| K.as rfl rfl <| K.nil <| At.next <| G.ret <| At.over_ret <| At.block_ret <| At.over_ret <| At.over_ret <| At.block_ret <| At.over_ret ?_
         cases H1
         replace H0 := sum_l H0
         exact At.dr Y [2] rfl rfl (by cases H0; rfl) (by cases H0; rfl) rfl rfl rfl
        ·
         replace H1 := bif_f H1 h8
         refine G.skip <| At.next ?_
         obtain ⟨x18, hx18, H1⟩ := bnd H1
         exact G.rg <| K.mv rfl rfl <| K.c0 (cf 27 rfl) (Vpartial_Queue_Ops_con hx18 130 131 132 133 134 135 136 137 138 145 rfl) g0 rfl rfl rfl rfl <| K.as rfl rfl <| K.nil <| At.block_normal <| At.next <| G.rg <| K.mv rfl rfl <| K.bin (V := .int .i64 (w64 (v3 + 1))) g0 rfl rfl (fun _ => rfl) rfl <| K.as rfl rfl <| K.nil <| At.ag ⟨(n0, (x18.2, x18.1, (w64 (v3 + 1)))), H1⟩ [(139, 145)] [_, _, _, _, _, _, _, _, _, _, _] (Nat.lt_succ_self _) rfl ⟨rfl, rfl, rfl, rfl, trivial⟩ ⟨rfl, (fun _ => rfl), rfl, (blk_ren rfl rfl), rfl, (blk_ren rfl rfl), rfl, (pool_ren rfl), rfl, (blk_ren rfl rfl), rfl, (pool_ren rfl), rfl, (blk_ren rfl rfl), rfl, (pool_ren rfl), rfl, (blk_ren rfl rfl), rfl, (pool_ren rfl), rfl, (lrow_ren rfl), trivial⟩ rfl
       ·
        replace H1 := bif_f H1 h7
        refine G.seq <| G.rg <| K.bin (V := .bool (x10 == 2)) g0 rfl rfl (fun _ => rfl) rfl <| K.as rfl rfl <| K.nil <| At.next <| G.cond rfl (fun h9 => ?_) (fun h9 => ?_)
        ·
         replace H1 := bif_t H1 h9
         obtain ⟨x19, hx19, H1⟩ := bnd H1
         refine G.rg <| K.mv rfl rfl <| K.mv rfl rfl <| K.c0 (cf 25 rfl) (Vpartial_Queue_Revoke_con hx19 130 131 132 133 134 135 136 137 138 146 147 rfl) g0 rfl rfl rfl rfl <| K.nil <| At.block_normal <| At.ns <| G.seq ?_
         obtain ⟨x20, hx20, H1⟩ := bnd H1
         obtain ⟨x21, hx21, H1⟩ := bnd H1
         refine G.rg <| K.mv rfl rfl <| K.cR (cf 20 rfl) (Vpartial_Queue_Visits_con hx20 130 131 132 133 134 135 136 137 138) g0 rfl rfl rfl rfl <| K.mv rfl rfl <| K.bin (V := .int .i64 (w64 (x20 - x7))) g0 rfl rfl (fun _ => rfl) rfl <| K.mv rfl rfl <| K.cR (cf 26 rfl) (R07_Height_con hx21) g0 rfl rfl rfl rfl <| K.bin (V := .int .i64 (w64 (x21 + 4))) g0 rfl rfl (fun _ => rfl) rfl <| K.bin (V := .int .i64 (w64 (10000 * (w64 (x21 + 4))))) g0 rfl rfl (fun _ => rfl) rfl <| K.bin (V := .bool (decide ((w64 (x20 - x7)) > (w64 (10000 * (w64 (x21 + 4))))))) g0 rfl rfl (fun _ => rfl) rfl <| K.nil <| At.next <| G.cond rfl (fun h10 => ?_) (fun h10 => ?_)
         ·
          replace H1 := bif_t H1 h10
          refine G.seq <| G.rg <| K.as rfl rfl <| K.nil <| At.next <| G.ret <| At.over_ret <| At.block_ret <| At.over_ret <| At.over_ret <| At.block_ret <| At.over_ret ?_
          cases H1
          replace H0 := sum_l H0
          exact At.dr Y [2] rfl rfl (by cases H0; rfl) (by cases H0; rfl) rfl rfl rfl
         ·
          replace H1 := bif_f H1 h10
          refine G.skip <| At.next ?_
          obtain ⟨x22, hx22, H1⟩ := bnd H1
          exact G.rg <| K.mv rfl rfl <| K.c0 (cf 27 rfl) (Vpartial_Queue_Ops_con hx22 130 131 132 133 134 135 136 137 138 148 rfl) g0 rfl rfl rfl rfl <| K.as rfl rfl <| K.nil <| At.block_normal <| At.next <| G.rg <| K.mv rfl rfl <| K.bin (V := .int .i64 (w64 (v3 + 1))) g0 rfl rfl (fun _ => rfl) rfl <| K.as rfl rfl <| K.nil <| At.ag ⟨(n0, (x22.2, x22.1, (w64 (v3 + 1)))), H1⟩ [(139, 148)] [_, _, _, _, _, _, _, _, _, _, _] (Nat.lt_succ_self _) rfl ⟨rfl, rfl, rfl, rfl, trivial⟩ ⟨rfl, (fun _ => rfl), rfl, (blk_ren rfl rfl), rfl, (blk_ren rfl rfl), rfl, (pool_ren rfl), rfl, (blk_ren rfl rfl), rfl, (pool_ren rfl), rfl, (blk_ren rfl rfl), rfl, (pool_ren rfl), rfl, (blk_ren rfl rfl), rfl, (pool_ren rfl), rfl, (lrow_ren rfl), trivial⟩ rfl
        ·
         replace H1 := bif_f H1 h9
         refine G.skip <| At.block_normal <| At.ns <| G.seq ?_
         obtain ⟨x23, hx23, H1⟩ := bnd H1
         obtain ⟨x24, hx24, H1⟩ := bnd H1
         refine G.rg <| K.mv rfl rfl <| K.cR (cf 20 rfl) (Vpartial_Queue_Visits_con hx23 130 131 132 133 134 135 136 137 138) g0 rfl rfl rfl rfl <| K.mv rfl rfl <| K.bin (V := .int .i64 (w64 (x23 - x7))) g0 rfl rfl (fun _ => rfl) rfl <| K.mv rfl rfl <| K.cR (cf 26 rfl) (R07_Height_con hx24) g0 rfl rfl rfl rfl <| K.bin (V := .int .i64 (w64 (x24 + 4))) g0 rfl rfl (fun _ => rfl) rfl <| K.bin (V := .int .i64 (w64 (10000 * (w64 (x24 + 4))))) g0 rfl rfl (fun _ => rfl) rfl <| K.bin (V := .bool (decide ((w64 (x23 - x7)) > (w64 (10000 * (w64 (x24 + 4))))))) g0 rfl rfl (fun _ => rfl) rfl <| K.nil <| At.next <| G.cond rfl (fun h11 => ?_) (fun h11 => ?_)
         ·
          replace H1 := bif_t H1 h11
          refine G.seq <| G.rg <| K.as rfl rfl <| K.nil <| At.next <| G.ret <| At.over_ret <| At.block_ret <| At.over_ret <| At.over_ret <| At.block_ret <| At.over_ret ?_
          cases H1
          replace H0 := sum_l H0
          exact At.dr Y [2] rfl rfl (by cases H0; rfl) (by cases H0; rfl) rfl rfl rfl
         ·
          replace H1 := bif_f H1 h11
          refine G.skip <| At.next ?_
          obtain ⟨x25, hx25, H1⟩ := bnd H1
          exact G.rg <| K.mv rfl rfl <| K.c0 (cf 27 rfl) (Vpartial_Queue_Ops_con hx25 130 131 132 133 134 135 136 137 138 149 rfl) g0 rfl rfl rfl rfl <| K.as rfl rfl <| K.nil <| At.block_normal <| At.next <| G.rg <| K.mv rfl rfl <| K.bin (V := .int .i64 (w64 (v3 + 1))) g0 rfl rfl (fun _ => rfl) rfl <| K.as rfl rfl <| K.nil <| At.ag ⟨(n0, (x25.2, x25.1, (w64 (v3 + 1)))), H1⟩ [(139, 149)] [_, _, _, _, _, _, _, _, _, _, _] (Nat.lt_succ_self _) rfl ⟨rfl, rfl, rfl, rfl, trivial⟩ ⟨rfl, (fun _ => rfl), rfl, (blk_ren rfl rfl), rfl, (blk_ren rfl rfl), rfl, (pool_ren rfl), rfl, (blk_ren rfl rfl), rfl, (pool_ren rfl), rfl, (blk_ren rfl rfl), rfl, (pool_ren rfl), rfl, (blk_ren rfl rfl), rfl, (pool_ren rfl), rfl, (lrow_ren rfl), trivial⟩ rfl
     ·
      replace H1 := bif_f H1 h4
      exact G.exit <| At.over_exit <| At.over_exit <| At.block_hit <| At.jd ⟨(), oi H1⟩ [] [_] rfl trivial ⟨rfl, (fun _ => rfl), trivial⟩ rfl
  ·
   rintro ⟨w6, rfl⟩
   replace H0 := sum_r H0
   show G _ _ [] [(0, some (rd S W0))] _ _
   exact G.seq <| G.rg <| K.as rfl rfl <| K.nil <| At.next <| G.ret <| At.dr Y [2] rfl rfl (by cases H0; rfl) (by cases H0; rfl) rfl rfl rfl
end Go.Proofs.YtpeoalmhccmdiaaGreat
namespace Go.Proofs.YtpeoalmhccmdiaaGreat
open Go Go.Proofs.YtpeoalmhccmdiaaGreat.Sx
theorem w64_id {x : Int} (h0 : -9223372036854775808 ≤ x) (h1 : x < 9223372036854775808) : w64 x = x := by simp only [w64, IntKind.wrap_i64]; omega
theorem w64_succ {i : Nat} (h : i < 4611686018427387904) : w64 ((i : Int) + 1) = ((i + 1 : Nat) : Int) := by rw [w64_id (by omega) (by omega)]; omega
theorem atL_nat {α : Type} {l : List α} {i : Nat} {x : α} (h : l[i]? = some x) : atL l (i : Int) = some x := by
  unfold atL
  have : ¬ ((i : Int) < 0) := by omega
  simp [this, h]
theorem drop_cons {α : Type} {l : List α} {i : Nat} (h : i < l.length) : ∃ x, l[i]? = some x ∧ l.drop i = x :: l.drop (i + 1) :=
  ⟨l[i], List.getElem?_eq_getElem h, List.drop_eq_getElem_cons h⟩
theorem dec_lt {i n : Nat} (h : i < n) : decide ((i : Int) < (n : Int)) = true := by simp; omega
theorem dec_nlt {i n : Nat} (h : n ≤ i) : decide ((i : Int) < (n : Int)) = false := by simp; omega
end Go.Proofs.YtpeoalmhccmdiaaGreat
namespace Go.Proofs.YtpeoalmhccmdiaaGreat
open Go Go.Proofs.YtpeoalmhccmdiaaGreat.Sx
theorem ref_ext {a b : TRef} (h1 : a.index = b.index) (h2 : a.gen = b.gen) : a = b := by cases a; cases b; simp_all
instance : DecidableEq TRef := fun a b => if h : a.index = b.index ∧ a.gen = b.gen then .isTrue (ref_ext h.1 h.2) else .isFalse (fun e => h (by rw [e]; exact ⟨rfl, rfl⟩))
section
variable {α : Type} {z : α}
def look (p : Pool α) (r : TRef) : Option α := (lookC p.cells r.index r.gen).map (·.v)
structure PW (p : Pool α) (L : List TRef) (B : Nat) : Prop where
  len : p.cells.length ≤ B
  small : B < 4294967295
  room : p.free.length + L.length ≤ p.cells.length
  nodup : p.free.Nodup
  free : ∀ i ∈ p.free, 0 ≤ i ∧ ∃ c, p.cells[i.toNat]? = some c ∧ c.live = false ∧ c.gen < 4294967295
  gen : ∀ c ∈ p.cells, 0 ≤ c.gen ∧ c.gen ≤ 4294967295 ∧ (c.live = true → 1 ≤ c.gen)
  live : ∀ r, (look p r).isSome = true ↔ r ∈ L
  ld : L.Nodup
  held : p.held = (L.length : Int)
theorem PW.ok {p : Pool α} {L : List TRef} {B : Nat} (h : PW p L B) : pOk p := by
  refine ⟨Nat.lt_of_le_of_lt h.len h.small, ?_, fun i hi => ?_⟩
  · have := h.room; have := h.len; have := h.small; omega
  · obtain ⟨h0, c, hc, _⟩ := h.free i hi
    exact ⟨h0, (List.getElem?_eq_some_iff.1 hc).1⟩
theorem PW.dok {p : Pool α} {L : List TRef} {B : Nat} (h : PW p L B) : decide (pOk p) = true := decide_eq_true h.ok
theorem PW.mono {p : Pool α} {L : List TRef} {B B' : Nat} (h : PW p L B) (hB : B ≤ B') (hs : B' < 4294967295) : PW p L B' := ⟨Nat.le_trans h.len hB, hs, h.room, h.nodup, h.free, h.gen, h.live, h.ld, h.held⟩
theorem PW.perm {p : Pool α} {L L' : List TRef} {B : Nat} (h : PW p L B) (hp : L.Perm L') : PW p L' B :=
  ⟨h.len, h.small, by rw [← hp.length_eq]; exact h.room, h.nodup, h.free, h.gen, fun r => (h.live r).trans hp.mem_iff, hp.nodup_iff.1 h.ld, by rw [← hp.length_eq]; exact h.held⟩
theorem PW.new (c : Int) (B : Nat) (hB : B < 4294967295) : PW (⟨[], [], c, 0, 0⟩ : Pool α) [] B :=
  ⟨Nat.zero_le _, hB, Nat.le_refl _, List.Pairwise.nil, fun i hi => (by cases hi), fun c hc => (by cases hc), fun r => by simp [look, lookC], List.Pairwise.nil, rfl⟩
theorem look_cell {p : Pool α} {r : TRef} {v : α} (h : look p r = some v) : ∃ (n : Nat) (c : Cell α), r.index = n ∧ p.cells[n]? = some c ∧ c.live = true ∧ c.gen = r.gen ∧ c.v = v ∧ lookC p.cells r.index r.gen = some c := by
  unfold look at h
  cases hc : lookC p.cells r.index r.gen with
  | none => rw [hc] at h; cases h
  | some c =>
    rw [hc] at h
    obtain ⟨n, h1, h2, h3, h4⟩ := lookC_some hc
    exact ⟨n, c, h1, h2, h3, h4, by simpa using h, rfl⟩
theorem lookC_at {cells : List (Cell α)} {n : Nat} {g : Int} : lookC cells (n : Int) g = match cells[n]? with | some c => if c.live = true ∧ c.gen = g then some c else none | none => none := by
  unfold lookC
  rw [if_neg (by omega), Int.toNat_natCast]
  cases cells[n]? <;> rfl
theorem PW.get {p : Pool α} {L : List TRef} {B : Nat} (h : PW p L B) {r : TRef} {v : α} (hl : look p r = some v) : pGet z p r.index r.gen = some (v, true) := by
  obtain ⟨n, c, h1, h2, h3, h4, h5, h6⟩ := look_cell hl
  unfold pGet Pool.get
  rw [h.dok, h6]
  simp [h5]
theorem PW.mem {p : Pool α} {L : List TRef} {B : Nat} (h : PW p L B) {r : TRef} {v : α} (hl : look p r = some v) : r ∈ L := (h.live r).1 (by rw [hl]; rfl)
theorem PW.ex {p : Pool α} {L : List TRef} {B : Nat} (h : PW p L B) {r : TRef} (hr : r ∈ L) : ∃ v, look p r = some v := Option.isSome_iff_exists.1 ((h.live r).2 hr)
theorem PW.gen_ne {p : Pool α} {L : List TRef} {B : Nat} (h : PW p L B) {r : TRef} (hr : r ∈ L) : r.gen ≠ 0 := by
  obtain ⟨v, hv⟩ := h.ex hr
  obtain ⟨n, c, h1, h2, h3, h4, h5, h6⟩ := look_cell hv
  have := (h.gen c (List.mem_of_getElem? h2)).2.2 h3
  omega
theorem look_set {cells : List (Cell α)} {n : Nat} {c : Cell α} (hc : cells[n]? = some c) (c' : Cell α) (r : TRef) : lookC (cells.set n c') r.index r.gen = if r.index = n then (if c'.live = true ∧ c'.gen = r.gen then some c' else none) else lookC cells r.index r.gen := by
  have hlt := (List.getElem?_eq_some_iff.1 hc).1
  by_cases h : r.index = n
  · rw [if_pos h, h, lookC_at]
    simp [hlt]
  · rw [if_neg h]
    unfold lookC
    by_cases h0 : r.index < 0
    · rw [if_pos h0, if_pos h0]
    · rw [if_neg h0, if_neg h0, List.getElem?_set_ne (by omega)]
theorem PW.set {p : Pool α} {L : List TRef} {B : Nat} (h : PW p L B) {r : TRef} {v : α} (hl : look p r = some v) (v' : α) :
    ∃ p', pSet p r.index r.gen v' = some (true, p') ∧ PW p' L B ∧ look p' r = some v' ∧ (∀ x, x ≠ r → look p' x = look p x) ∧ p'.cap = p.cap := by
  obtain ⟨n, c, h1, h2, h3, h4, h5, h6⟩ := look_cell hl
  have hlt := (List.getElem?_eq_some_iff.1 h2).1
  refine ⟨(p.set r.index r.gen v').2, ?_, ?_, ?_, ?_, ?_⟩
  · unfold pSet
    rw [h.dok]
    simp only [cond_true]
    unfold Pool.set
    rw [h6]
  all_goals (unfold Pool.set; rw [h6]; try simp only [h1, Int.toNat_natCast])
  · have hlook : ∀ x, (look ({ p with cells := p.cells.set n { c with v := v' }, vis := IntKind.i64.wrap (p.vis + 1) } : Pool α) x).isSome = (look p x).isSome := by
      intro x
      unfold look
      simp only [look_set h2]
      by_cases hx : x.index = n
      · rw [if_pos hx, hx, lookC_at, h2]
        simp only
        by_cases hg : c.live = true ∧ c.gen = x.gen
        · rw [if_pos hg, if_pos hg]; rfl
        · rw [if_neg hg, if_neg hg]
      · rw [if_neg hx]
    refine ⟨by simpa using h.len, h.small, by simpa using h.room, h.nodup, fun i hi => ?_, fun d hd => ?_, fun x => by rw [hlook]; exact h.live x, h.ld, h.held⟩
    · obtain ⟨h0, d, hd, hl', hg⟩ := h.free i hi
      refine ⟨h0, d, ?_, hl', hg⟩
      have : n ≠ i.toNat := by rintro rfl; rw [h2] at hd; cases hd; rw [h3] at hl'; cases hl'
      simp only
      rw [List.getElem?_set_ne this]; exact hd
    · rcases List.mem_or_eq_of_mem_set hd with hd | rfl
      · exact h.gen d hd
      · exact h.gen c (List.mem_of_getElem? h2)
  · have := look_set h2 { c with v := v' } r
    rw [if_pos h1, if_pos ⟨h3, h4⟩] at this
    unfold look
    simp only
    rw [this]; rfl
  · intro x hx
    unfold look
    simp only [look_set h2]
    by_cases hi : x.index = n
    · rw [if_pos hi, hi, lookC_at, h2]
      have : ¬ (c.live = true ∧ c.gen = x.gen) := fun hc => hx (ref_ext (hi.trans h1.symm) (hc.2.symm.trans h4))
      simp only
      rw [if_neg this, if_neg this]
    · rw [if_neg hi]
theorem PW.drop {p : Pool α} {L : List TRef} {B : Nat} (h : PW p L B) {r : TRef} {v : α} (hl : look p r = some v) :
    ∃ p', pDrop z p r.index r.gen = some ((v, true), p') ∧ PW p' (L.erase r) B ∧ (∀ x, x ≠ r → look p' x = look p x) ∧ p'.cap = p.cap := by
  obtain ⟨n, c, h1, h2, h3, h4, h5, h6⟩ := look_cell hl
  have hlt := (List.getElem?_eq_some_iff.1 h2).1
  have hm := h.mem hl
  have hlen : (L.erase r).length = L.length - 1 := List.length_erase_of_mem hm
  have hpos : 0 < L.length := List.length_pos_of_mem hm
  have hgc := h.gen c (List.mem_of_getElem? h2)
  refine ⟨(p.drop z r.index r.gen).2, ?_, ?_, ?_, ?_⟩
  · unfold pDrop
    rw [h.dok]
    simp only [cond_true]
    unfold Pool.drop
    rw [h6]
    simp [h5]
  all_goals (unfold Pool.drop; rw [h6]; try simp only [h1, Int.toNat_natCast])
  · have hlook : ∀ x, (look (⟨p.cells.set n ⟨z, c.gen, false⟩, bif decide (c.gen < 4294967295) then p.free ++ [(n : Int)] else p.free, p.cap, IntKind.i64.wrap (p.held - 1), IntKind.i64.wrap (p.vis + 1)⟩ : Pool α) x).isSome = true ↔ x ∈ L.erase r := by
      intro x
      rw [h.ld.mem_erase_iff]
      unfold look
      simp only [look_set h2]
      by_cases hi : x.index = n
      · rw [if_pos hi]
        simp only [Bool.false_eq_true, false_and, if_false, Option.map_none, Option.isSome_none, false_iff, not_and]
        intro hne hx
        obtain ⟨v', hv'⟩ := h.ex hx
        obtain ⟨n', c', g1, g2, g3, g4, g5, g6⟩ := look_cell hv'
        have : n' = n := by omega
        subst this
        rw [h2] at g2; cases g2
        exact hne (ref_ext (hi.trans h1.symm) (g4.symm.trans h4))
      · rw [if_neg hi]
        have := h.live x
        unfold look at this
        rw [this]
        exact ⟨fun hx => ⟨fun e => hi (by rw [e]; exact h1), hx⟩, fun hx => hx.2⟩
    have hnf : (n : Int) ∉ p.free := fun hn => by
      obtain ⟨_, d, hd, hl', _⟩ := h.free _ hn
      rw [Int.toNat_natCast, h2] at hd; cases hd; rw [h3] at hl'; cases hl'
    have hheld : IntKind.i64.wrap (p.held - 1) = ((L.erase r).length : Int) := by
      have e := h.held
      have hB := h.room; have hB2 := h.len; have hB3 := h.small
      have : w64 (p.held - 1) = p.held - 1 := w64_id (by omega) (by omega)
      rw [show IntKind.i64.wrap (p.held - 1) = w64 (p.held - 1) from rfl, this, hlen]; omega
    refine ⟨by simpa using h.len, h.small, ?_, ?_, fun i hi => ?_, fun d hd => ?_, hlook, h.ld.erase r, hheld⟩
    · have := h.room
      cases decide (c.gen < 4294967295) <;> simp <;> omega
    · cases decide (c.gen < 4294967295)
      · exact h.nodup
      · simp only [cond_true]
        refine List.nodup_append.2 ⟨h.nodup, List.pairwise_singleton _ _, fun a ha b hb => ?_⟩
        simp at hb; subst hb; rintro rfl; exact hnf ha
    · have hi' : i ∈ p.free ∨ (i = (n : Int) ∧ c.gen < 4294967295) := by
        revert hi
        by_cases hg : c.gen < 4294967295
        · simp only [hg, decide_true, cond_true, List.mem_append, List.mem_singleton]
          rintro (hi | hi)
          · exact .inl hi
          · exact .inr ⟨hi, trivial⟩
        · simp only [hg, decide_false, cond_false]; exact .inl
      rcases hi' with hi' | ⟨rfl, hg⟩
      · obtain ⟨h0, d, hd, hl', hg⟩ := h.free i hi'
        refine ⟨h0, d, ?_, hl', hg⟩
        have : n ≠ i.toNat := fun e => hnf (by rw [show (n : Int) = i by omega]; exact hi')
        simp only
        rw [List.getElem?_set_ne this]; exact hd
      · refine ⟨by omega, ⟨z, c.gen, false⟩, ?_, rfl, hg⟩
        simp [hlt]
    · rcases List.mem_or_eq_of_mem_set hd with hd | rfl
      · exact h.gen d hd
      · exact ⟨hgc.1, hgc.2.1, fun hh => by cases hh⟩
  · intro x hx
    unfold look
    simp only [look_set h2]
    by_cases hi : x.index = n
    · rw [if_pos hi, hi, lookC_at, h2]
      have : ¬ (c.live = true ∧ c.gen = x.gen) := fun hc => hx (ref_ext (hi.trans h1.symm) (hc.2.symm.trans h4))
      simp only [Bool.false_eq_true, false_and, if_false]
      rw [if_neg this]
    · rw [if_neg hi]
theorem PW.put_full {p : Pool α} {L : List TRef} {B : Nat} (h : PW p L B) (hc : (L.length : Int) = p.cap) (v : α) : pPut z p v = some (((0, 0), false), p) := by
  unfold pPut Pool.put
  rw [h.dok, if_pos (h.held.trans hc)]
  rfl
theorem PW.put {p : Pool α} {L : List TRef} {B : Nat} (h : PW p L B) (hc : (L.length : Int) ≠ p.cap) (hB : B + 1 < 4294967295) (v : α) :
    ∃ (r : TRef) (p' : Pool α), pPut z p v = some (((r.index, r.gen), true), p') ∧ r ∉ L ∧ r.gen ≠ 0 ∧ PW p' (r :: L) (B + 1) ∧ look p' r = some v ∧ (∀ x, x ≠ r → look p' x = look p x) ∧ p'.cap = p.cap := by
  have hh : ¬ p.held = p.cap := fun e => hc (h.held.symm.trans e)
  have hr := h.room
  have hheld : IntKind.i64.wrap (p.held + 1) = ((L.length + 1 : Nat) : Int) := by
    have e := h.held
    have hB2 := h.len
    rw [show IntKind.i64.wrap (p.held + 1) = w64 (p.held + 1) from rfl, w64_id (by omega) (by omega)]; omega
  cases hl : p.free.getLast? with
  | none =>
    have hf : p.free = [] := by simpa using hl
    have hnx : p.next z = ((p.cells.length : Int), { p with cells := p.cells ++ [⟨z, 0, false⟩] }) := by unfold Pool.next; rw [hl]
    have hcc : (p.cells ++ [⟨z, 0, false⟩])[p.cells.length]? = some ⟨z, 0, false⟩ := by simp
    have hput : p.put z v = ((((p.cells.length : Int), 1), true), ⟨p.cells ++ [⟨v, 1, true⟩], p.free, p.cap, IntKind.i64.wrap (p.held + 1), p.vis⟩) := by
      unfold Pool.put
      rw [if_neg hh, hnx]
      simp only [Int.toNat_natCast, hcc, Pool.lay]
      simp
      rfl
    have hlook : ∀ x : TRef, lookC (p.cells ++ [⟨v, 1, true⟩]) x.index x.gen = if x.index = (p.cells.length : Int) then (if (1 : Int) = x.gen then some ⟨v, 1, true⟩ else none) else lookC p.cells x.index x.gen := by
      intro x
      by_cases hi : x.index = (p.cells.length : Int)
      · rw [if_pos hi, hi, lookC_at]; simp
      · rw [if_neg hi]
        unfold lookC
        by_cases h0 : x.index < 0
        · rw [if_pos h0, if_pos h0]
        · rw [if_neg h0, if_neg h0]
          by_cases h1 : x.index.toNat < p.cells.length
          · rw [List.getElem?_append_left h1]
          · rw [List.getElem?_eq_none (by simp; omega), List.getElem?_eq_none (by omega)]
    have hnone : ∀ g : Int, look p ⟨(p.cells.length : Int), g⟩ = none := by intro g; unfold look; simp [lookC_at]
    refine ⟨⟨(p.cells.length : Int), 1⟩, ⟨p.cells ++ [⟨v, 1, true⟩], p.free, p.cap, IntKind.i64.wrap (p.held + 1), p.vis⟩, by unfold pPut; rw [h.dok, hput]; rfl, ?_, by simp, ?_, ?_, ?_, rfl⟩
    · intro hm
      have := (h.live _).2 hm
      rw [hnone] at this; cases this
    · refine ⟨by have := h.len; simp; omega, hB, by simp [hf]; simp [hf] at hr; omega, h.nodup, fun i hi => (by rw [hf] at hi; cases hi), fun d hd => ?_, fun x => ?_, ?_, hheld⟩
      · rcases List.mem_append.1 hd with hd | hd
        · exact h.gen d hd
        · simp at hd; subst hd; simp
      · unfold look
        simp only [hlook]
        by_cases hi : x.index = (p.cells.length : Int)
        · rw [if_pos hi]
          by_cases hg : (1 : Int) = x.gen
          · rw [if_pos hg]
            simp only [Option.map_some, Option.isSome_some, List.mem_cons, true_iff]
            exact .inl (ref_ext hi hg.symm)
          · rw [if_neg hg]
            simp only [Option.map_none, Option.isSome_none, Bool.false_eq_true, List.mem_cons, false_iff, not_or]
            refine ⟨fun e => hg (by rw [e]), fun hm => ?_⟩
            have := (h.live _).2 hm
            rw [show x = ⟨(p.cells.length : Int), x.gen⟩ from ref_ext hi rfl, hnone] at this; cases this
        · rw [if_neg hi]
          have := h.live x
          unfold look at this
          rw [this, List.mem_cons]
          exact ⟨.inr, fun hm => hm.resolve_left (fun e => hi (by rw [e]))⟩
      · refine List.nodup_cons.2 ⟨fun hm => ?_, h.ld⟩
        have := (h.live _).2 hm
        rw [hnone] at this; cases this
    · have := hlook ⟨(p.cells.length : Int), 1⟩
      rw [if_pos rfl, if_pos rfl] at this
      unfold look
      simp only
      rw [this]; rfl
    · intro x hx
      unfold look
      simp only [hlook]
      by_cases hi : x.index = (p.cells.length : Int)
      · rw [if_pos hi]
        have : ¬ ((1 : Int) = x.gen) := fun e => hx (ref_ext hi e.symm)
        rw [if_neg this, hi, lookC_at]; simp
      · rw [if_neg hi]
  | some i =>
    have hm : i ∈ p.free := List.mem_of_getLast? hl
    obtain ⟨h0, c, hcell, hlv, hg⟩ := h.free i hm
    have hlt := (List.getElem?_eq_some_iff.1 hcell).1
    have hsplit : p.free = p.free.dropLast ++ [i] := by
      have hne : p.free ≠ [] := List.ne_nil_of_mem hm
      have := List.dropLast_concat_getLast hne
      rw [List.getLast?_eq_some_getLast hne] at hl
      simp at hl; rw [hl] at this; exact this.symm
    have hgc := h.gen c (List.mem_of_getElem? hcell)
    have hnx : p.next z = (i, { p with free := p.free.dropLast }) := by unfold Pool.next; rw [hl]
    have hgw : IntKind.i64.wrap (c.gen + 1) = c.gen + 1 := by
      rw [show IntKind.i64.wrap (c.gen + 1) = w64 (c.gen + 1) from rfl, w64_id (by omega) (by omega)]
    have hput : p.put z v = (((i, c.gen + 1), true), ⟨p.cells.set i.toNat ⟨v, c.gen + 1, true⟩, p.free.dropLast, p.cap, IntKind.i64.wrap (p.held + 1), p.vis⟩) := by
      unfold Pool.put
      rw [if_neg hh, hnx]
      simp only [hcell, Pool.lay, hgw]
    have hnone : ∀ x : TRef, x.index = i → look p x = none := by
      intro x hx
      unfold look
      have : lookC p.cells x.index x.gen = none := by
        rw [hx, show i = ((i.toNat : Nat) : Int) by omega, lookC_at, hcell]
        simp [hlv]
      rw [this]; rfl
    have hii : ∀ x : TRef, x.index = ((i.toNat : Nat) : Int) ↔ x.index = i := fun x => by omega
    refine ⟨⟨i, c.gen + 1⟩, ⟨p.cells.set i.toNat ⟨v, c.gen + 1, true⟩, p.free.dropLast, p.cap, IntKind.i64.wrap (p.held + 1), p.vis⟩, by unfold pPut; rw [h.dok, hput]; rfl, ?_, by simp; omega, ?_, ?_, ?_, rfl⟩
    · intro hmm
      have := (h.live _).2 hmm
      rw [hnone _ rfl] at this; cases this
    · have hdl : p.free.dropLast.length = p.free.length - 1 := by simp
      have hfp : 0 < p.free.length := List.length_pos_of_mem hm
      refine ⟨by have := h.len; simp; omega, hB, by simp; omega, ?_, fun j hj => ?_, fun d hd => ?_, fun x => ?_, ?_, hheld⟩
      · have := h.nodup
        rw [hsplit] at this
        exact (List.nodup_append.1 this).1
      · have hj' : j ∈ p.free := by rw [hsplit]; exact List.mem_append_left _ hj
        obtain ⟨j0, d, hd, hl', hg'⟩ := h.free j hj'
        refine ⟨j0, d, ?_, hl', hg'⟩
        have hne : i.toNat ≠ j.toNat := by
          intro e
          have : i = j := by omega
          subst this
          have hn := h.nodup
          rw [hsplit] at hn
          exact (List.nodup_append.1 hn).2.2 i hj i (by simp) rfl
        simp only
        rw [List.getElem?_set_ne hne]; exact hd
      · rcases List.mem_or_eq_of_mem_set hd with hd | rfl
        · exact h.gen d hd
        · exact ⟨by simp only; omega, by simp only; omega, fun _ => by simp only; omega⟩
      · unfold look
        simp only [look_set hcell, hii]
        by_cases hi : x.index = i
        · rw [if_pos hi]
          by_cases hgx : c.gen + 1 = x.gen
          · simp only [hgx, and_self, if_true, Option.map_some, Option.isSome_some, List.mem_cons, true_iff]
            exact .inl (ref_ext hi rfl)
          · simp only [hgx, and_false, if_false, Option.map_none, Option.isSome_none, Bool.false_eq_true, List.mem_cons, false_iff, not_or]
            refine ⟨fun e => hgx (by rw [e]), fun hmm => ?_⟩
            have := (h.live _).2 hmm
            rw [hnone _ hi] at this; cases this
        · rw [if_neg hi]
          have := h.live x
          unfold look at this
          rw [this, List.mem_cons]
          exact ⟨.inr, fun hmm => hmm.resolve_left (fun e => hi (by rw [e]))⟩
      · refine List.nodup_cons.2 ⟨fun hmm => ?_, h.ld⟩
        have := (h.live _).2 hmm
        rw [hnone _ rfl] at this; cases this
    · have := look_set hcell ⟨v, c.gen + 1, true⟩ ⟨i, c.gen + 1⟩
      rw [if_pos (by simp only; omega), if_pos ⟨rfl, rfl⟩] at this
      unfold look
      simp only
      rw [this]; rfl
    · intro x hx
      by_cases hi : x.index = i
      · rw [hnone x hi]
        unfold look
        simp only [look_set hcell, hii]
        have : ¬ (c.gen + 1 = x.gen) := fun e => hx (ref_ext hi e.symm)
        rw [if_pos hi]; simp [this]
      · unfold look
        simp only [look_set hcell, hii]
        rw [if_neg hi]
end
end Go.Proofs.YtpeoalmhccmdiaaGreat
namespace Go.Proofs.YtpeoalmhccmdiaaGreat
open Go Go.Proofs.YtpeoalmhccmdiaaGreat.Sx
inductive Tr (E : Type) where
  | nil
  | node (r : TRef) (e : E) (l u : Tr E)
namespace Tr
variable {E : Type}
def size : Tr E → Nat
  | nil => 0
  | node _ _ l u => l.size + 1 + u.size
abbrev w (t : Tr E) : Nat := t.size + 1
def toList : Tr E → List E
  | nil => []
  | node _ e l u => l.toList ++ e :: u.toList
def refs : Tr E → List TRef
  | nil => []
  | node r _ l u => l.refs ++ r :: u.refs
theorem len_toList : ∀ t : Tr E, t.toList.length = t.size
  | nil => rfl
  | node _ _ l u => by simp only [toList, List.length_append, List.length_cons, len_toList l, len_toList u, size]; omega
theorem len_refs : ∀ t : Tr E, t.refs.length = t.size
  | nil => rfl
  | node _ _ l u => by simp only [refs, List.length_append, List.length_cons, len_refs l, len_refs u, size]; omega
def turnL : Tr E → Tr E
  | node r e l (node r2 e2 a b) => node r2 e2 (node r e l a) b
  | t => t
def turnR : Tr E → Tr E
  | node r e (node r2 e2 a b) u => node r2 e2 a (node r e b u)
  | t => t
def bal : Tr E → Tr E
  | nil => nil
  | node r e l u =>
    if u.w > 3 * l.w then (match u with
      | node r2 e2 a b => if a.w ≥ 2 * b.w then turnL (node r e l (turnR (node r2 e2 a b))) else turnL (node r e l (node r2 e2 a b))
      | nil => node r e l u)
    else if l.w > 3 * u.w then (match l with
      | node r2 e2 a b => if b.w ≥ 2 * a.w then turnR (node r e (turnL (node r2 e2 a b)) u) else turnR (node r e (node r2 e2 a b) u)
      | nil => node r e l u)
    else node r e l u
def link : Nat → Tr E → TRef → E → Tr E → Tr E
  | 0, l, r, e, u => node r e l u
  | n + 1, l, r, e, u =>
    if u.w > 3 * l.w then (match u with
      | node r2 e2 a b => bal (node r2 e2 (link n l r e a) b)
      | nil => node r e l u)
    else if l.w > 3 * u.w then (match l with
      | node r2 e2 a b => bal (node r2 e2 a (link n b r e u))
      | nil => node r e l u)
    else node r e l u
theorem bal_node (r : TRef) (e : E) (l u : Tr E) : bal (node r e l u) =
    if u.w > 3 * l.w then (match u with
      | node r2 e2 a b => if a.w ≥ 2 * b.w then turnL (node r e l (turnR (node r2 e2 a b))) else turnL (node r e l (node r2 e2 a b))
      | nil => node r e l u)
    else if l.w > 3 * u.w then (match l with
      | node r2 e2 a b => if b.w ≥ 2 * a.w then turnR (node r e (turnL (node r2 e2 a b)) u) else turnR (node r e (node r2 e2 a b) u)
      | nil => node r e l u)
    else node r e l u := by rw [bal.eq_def]
theorem link_succ (n : Nat) (l : Tr E) (r : TRef) (e : E) (u : Tr E) : link (n + 1) l r e u =
    if u.w > 3 * l.w then (match u with
      | node r2 e2 a b => bal (node r2 e2 (link n l r e a) b)
      | nil => node r e l u)
    else if l.w > 3 * u.w then (match l with
      | node r2 e2 a b => bal (node r2 e2 a (link n b r e u))
      | nil => node r e l u)
    else node r e l u := by rw [link.eq_def]
theorem turnL_list (t : Tr E) : t.turnL.toList = t.toList := by
  unfold turnL; split <;> simp [toList]
theorem turnR_list (t : Tr E) : t.turnR.toList = t.toList := by
  unfold turnR; split <;> simp [toList]
theorem turnL_refs (t : Tr E) : t.turnL.refs = t.refs := by
  unfold turnL; split <;> simp [refs]
theorem turnR_refs (t : Tr E) : t.turnR.refs = t.refs := by
  unfold turnR; split <;> simp [refs]
theorem bal_list (t : Tr E) : t.bal.toList = t.toList := by
  cases t with
  | nil => rfl
  | node r e l u =>
    rw [bal_node]
    split
    · cases u with
      | nil => rfl
      | node r2 e2 a b =>
        simp only
        split
        · rw [turnL_list]; simp only [toList]; rw [turnR_list]; simp [toList]
        · rw [turnL_list]
    · split
      · cases l with
        | nil => rfl
        | node r2 e2 a b =>
          simp only
          split
          · rw [turnR_list]; simp only [toList]; rw [turnL_list]; simp [toList]
          · rw [turnR_list]
      · rfl
theorem bal_refs (t : Tr E) : t.bal.refs = t.refs := by
  cases t with
  | nil => rfl
  | node r e l u =>
    rw [bal_node]
    split
    · cases u with
      | nil => rfl
      | node r2 e2 a b =>
        simp only
        split
        · rw [turnL_refs]; simp only [refs]; rw [turnR_refs]; simp [refs]
        · rw [turnL_refs]
    · split
      · cases l with
        | nil => rfl
        | node r2 e2 a b =>
          simp only
          split
          · rw [turnR_refs]; simp only [refs]; rw [turnL_refs]; simp [refs]
          · rw [turnR_refs]
      · rfl
theorem link_list : ∀ (n : Nat) (l : Tr E) (r : TRef) (e : E) (u : Tr E), (link n l r e u).toList = l.toList ++ e :: u.toList
  | 0, l, r, e, u => rfl
  | n + 1, l, r, e, u => by
    rw [link_succ]
    split
    · cases u with
      | nil => rfl
      | node r2 e2 a b => simp only [bal_list, toList, link_list n l r e a]; simp
    · split
      · cases l with
        | nil => rfl
        | node r2 e2 a b => simp only [bal_list, toList, link_list n b r e u]; simp
      · rfl
theorem link_refs : ∀ (n : Nat) (l : Tr E) (r : TRef) (e : E) (u : Tr E), (link n l r e u).refs = l.refs ++ r :: u.refs
  | 0, l, r, e, u => rfl
  | n + 1, l, r, e, u => by
    rw [link_succ]
    split
    · cases u with
      | nil => rfl
      | node r2 e2 a b => simp only [bal_refs, refs, link_refs n l r e a]; simp
    · split
      · cases l with
        | nil => rfl
        | node r2 e2 a b => simp only [bal_refs, refs, link_refs n b r e u]; simp
      · rfl
theorem link_size (n : Nat) (l : Tr E) (r : TRef) (e : E) (u : Tr E) : (link n l r e u).size = l.size + 1 + u.size := by
  rw [← len_toList, link_list]; simp [len_toList]; omega
def last (k : Nat) : Tr E → Tr E × Option (TRef × E)
  | nil => (nil, none)
  | node r e l u => match u with
    | nil => (l, some (r, e))
    | node r2 e2 a b => (link k l r e (last k (node r2 e2 a b)).1, (last k (node r2 e2 a b)).2)
def merge (k : Nat) (l u : Tr E) : Tr E := match l, u with
  | nil, u => u
  | l, nil => l
  | l, u => match last k l with
    | (rest, some (m, e)) => link k rest m e u
    | (rest, none) => u
theorem last_spec (k : Nat) : ∀ (t : Tr E), t ≠ nil → ∃ m e, (last k t).2 = some (m, e) ∧ t.toList = (last k t).1.toList ++ [e] ∧ t.refs = (last k t).1.refs ++ [m]
  | nil, h => absurd rfl h
  | node r e l nil, _ => ⟨r, e, rfl, by simp [last, toList], by simp [last, refs]⟩
  | node r e l (node r2 e2 a b), _ => by
    obtain ⟨m, x, h1, h2, h3⟩ := last_spec k (node r2 e2 a b) (by simp)
    refine ⟨m, x, ?_, ?_, ?_⟩
    · unfold last; exact h1
    · have : (last k (node r e l (node r2 e2 a b))).1 = link k l r e (last k (node r2 e2 a b)).1 := by rw [last]
      rw [this, link_list]
      have e1 : (node r e l (node r2 e2 a b)).toList = l.toList ++ e :: (node r2 e2 a b).toList := rfl
      rw [e1, h2]; simp
    · have : (last k (node r e l (node r2 e2 a b))).1 = link k l r e (last k (node r2 e2 a b)).1 := by rw [last]
      rw [this, link_refs]
      have e1 : (node r e l (node r2 e2 a b)).refs = l.refs ++ r :: (node r2 e2 a b).refs := rfl
      rw [e1, h3]; simp
theorem merge_spec (k : Nat) (l u : Tr E) : (merge k l u).toList = l.toList ++ u.toList ∧ (merge k l u).refs = l.refs ++ u.refs := by
  cases l with
  | nil => simp [merge, toList, refs]
  | node r e a b =>
    cases u with
    | nil => simp [merge, toList, refs]
    | node r2 e2 c d =>
      obtain ⟨m, x, h1, h2, h3⟩ := last_spec k (node r e a b) (by simp)
      have : merge k (node r e a b) (node r2 e2 c d) = link k (last k (node r e a b)).1 m x (node r2 e2 c d) := by
        unfold merge
        have : last k (node r e a b) = ((last k (node r e a b)).1, some (m, x)) := by rw [← h1]
        simp only
        rw [this]
      rw [this, link_list, link_refs, h2, h3]
      simp
end Tr
structure OpsOk {E A : Type} (O : Ops E A) (k N : Nat) (G : E → Prop) (S : A → List E → Prop) (lt : E → E → Prop) : Prop where
  cmp : ∀ a b, ∃ c, O.cmp k a b = some c ∧ (c < 0 ↔ lt a b) ∧ (c > 0 ↔ lt b a)
  sum : ∀ e, G e → ∃ s, O.sum k e = some s ∧ S s [e]
  plus : ∀ {a b l r}, S a l → S b r → (∀ e ∈ l ++ r, G e) → (l ++ r).length < N → ∃ c, O.plus k a b = some c ∧ S c (l ++ r)
  zero : S O.zA []
  irrefl : ∀ a, ¬ lt a a
  trans : ∀ {a b c}, lt a b → lt b c → lt a c
  left : ∀ {a b c}, ¬ lt a b → ¬ lt b a → lt a c → lt b c
  right : ∀ {a b c}, ¬ lt a b → ¬ lt b a → lt c a → lt c b
  big : N < 4294967296
section
variable {E A : Type} {O : Ops E A} {k N : Nat} {G : E → Prop} {S : A → List E → Prop} {lt : E → E → Prop}
abbrev PN (E A : Type) := Pool (TNode E A)
def Rep (S : A → List E → Prop) (p : PN E A) : TRef → Tr E → Prop
  | r, .nil => r = zTRef
  | r, .node r' e l u => r = r' ∧ r.gen ≠ 0 ∧ ∃ n, look p r = some n ∧ n.e = e ∧ n.size = ((l.size + 1 + u.size : Nat) : Int) ∧ S n.sum (l.toList ++ e :: u.toList) ∧ Rep S p n.left l ∧ Rep S p n.right u
theorem Rep.frame {p p' : PN E A} : ∀ {t : Tr E} {r : TRef}, Rep S p r t → (∀ x ∈ t.refs, look p' x = look p x) → Rep S p' r t
  | .nil, _, h, _ => h
  | .node r' e l u, r, ⟨h1, h2, n, h3, h4, h5, h6, h7, h8⟩, hf => by
    subst h1
    refine ⟨rfl, h2, n, (hf r (by simp [Tr.refs])).trans h3, h4, h5, h6, h7.frame (fun x hx => hf x (by simp [Tr.refs, hx])), h8.frame (fun x hx => hf x (by simp [Tr.refs, hx]))⟩
theorem Rep.sub {p : PN E A} {L : List TRef} {B : Nat} (hP : PW p L B) : ∀ {t : Tr E} {r : TRef}, Rep S p r t → ∀ x ∈ t.refs, x ∈ L
  | .nil, _, _, x, hx => by simp [Tr.refs] at hx
  | .node r' e l u, r, ⟨h1, h2, n, h3, h4, h5, h6, h7, h8⟩, x, hx => by
    subst h1
    simp only [Tr.refs, List.mem_append, List.mem_cons] at hx
    rcases hx with hx | rfl | hx
    · exact h7.sub hP x hx
    · exact hP.mem h3
    · exact h8.sub hP x hx
theorem Rep.nil_iff {p : PN E A} {r : TRef} {t : Tr E} (h : Rep S p r t) : r.gen = 0 ↔ t = .nil := by
  cases t with
  | nil => have : r = zTRef := h; rw [this]; simp
  | node r' e l u => obtain ⟨h1, h2, _⟩ := h; simp [h2]
structure IsN (S : A → List E → Prop) (p : PN E A) (r : TRef) (t : Tr E) (n : TNode E A) : Prop where
  size : n.size = (t.size : Int)
  sum : S n.sum t.toList
  node : ∀ {r' e l u}, t = .node r' e l u → r = r' ∧ n.e = e ∧ Rep S p n.left l ∧ Rep S p n.right u ∧ look p r = some n
theorem get_ok (ok : OpsOk O k N G S lt) {p : PN E A} {L : List TRef} {B : Nat} (hP : PW p L B) {t : Tr E} {r : TRef} (h : Rep S p r t) : ∃ n, Tree_get.f O k p r = some n ∧ IsN S p r t n := by
  unfold Tree_get.f
  cases t with
  | nil =>
    have : r = zTRef := h
    subst this
    exact ⟨zNode O, rfl, rfl, ok.zero, fun e => by cases e⟩
  | node r' e l u =>
    obtain ⟨h1, h2, n, h3, h4, h5, h6, h7, h8⟩ := h
    subst h1
    have e0 : (r.gen == 0) = false := by simpa using h2
    refine ⟨n, ?_, h5, by rw [Tr.toList]; exact h6, fun e => by cases e; exact ⟨rfl, h4, h7, h8, h3⟩⟩
    rw [e0, hP.get h3]; rfl
theorem weight_ok (ok : OpsOk O k N G S lt) {p : PN E A} {L : List TRef} {B : Nat} (hP : PW p L B) {t : Tr E} {r : TRef} (h : Rep S p r t) (hs : t.size < 4294967296) : Tree_weight.f O k p r = some ((t.w : Nat) : Int) := by
  obtain ⟨n, h1, h2⟩ := get_ok ok hP h
  unfold Tree_weight.f
  rw [h1]
  simp only [Option.bind_some, h2.size]
  rw [w64_id (by omega) (by omega)]
  rfl
structure Left (S : A → List E → Prop) (p p' : PN E A) (L : List TRef) (B : Nat) (r : TRef) (t : Tr E) (F : List TRef) : Prop where
  pw : PW p' L B
  rep : Rep S p' r t
  frame : ∀ x, x ∉ F → look p' x = look p x
  cap : p'.cap = p.cap
theorem lay_ok (ok : OpsOk O k N G S lt) {p : PN E A} {L : List TRef} {B : Nat} (hP : PW p L B) {r a b : TRef} {n0 : TNode E A} (hr : look p r = some n0) {l u : Tr E} (hl : Rep S p a l) (hu : Rep S p b u)
    (h1 : r ∉ l.refs) (h2 : r ∉ u.refs) (hG : ∀ e ∈ l.toList ++ n0.e :: u.toList, G e) (hN : l.size + 1 + u.size < N) : ∃ p', Tree_lay.f O k p r a b = some (r, p') ∧ Left S p p' L B r (.node r n0.e l u) [r] := by
  have hg := hP.gen_ne (hP.mem hr)
  have e0 : (r.gen == 0) = false := by simpa using hg
  have hget : Tree_get.f O k p r = some n0 := by unfold Tree_get.f; rw [e0, hP.get hr]; rfl
  obtain ⟨nl, l1, l2⟩ := get_ok ok hP hl
  obtain ⟨nu, u1, u2⟩ := get_ok ok hP hu
  obtain ⟨s, s1, s2⟩ := ok.sum n0.e (hG _ (by simp))
  obtain ⟨c1, c2, c3⟩ := ok.plus l2.sum s2 (fun e he => hG e (by simp at he ⊢; rcases he with he | he; exact .inl he; exact .inr (.inl he))) (by simp [Tr.len_toList]; omega)
  obtain ⟨d1, d2, d3⟩ := ok.plus c3 u2.sum (fun e he => hG e (by simpa [or_assoc] using he)) (by simp [Tr.len_toList]; omega)
  have hb := ok.big
  have hsz : w64 (w64 (nl.size + 1) + nu.size) = ((l.size + 1 + u.size : Nat) : Int) := by
    have e1 : w64 ((l.size : Int) + 1) = (l.size : Int) + 1 := w64_id (by omega) (by omega)
    rw [l2.size, u2.size, e1, w64_id (by omega) (by omega)]; omega
  obtain ⟨p', q1, q2, q3, q4, q5⟩ := hP.set hr (TNode.mk n0.e a b (w64 (w64 (nl.size + 1) + nu.size)) d1)
  refine ⟨p', ?_, q2, ⟨rfl, hg, _, q3, rfl, hsz, by simpa using d3, hl.frame (fun x hx => q4 x (fun e => h1 (e ▸ hx))), hu.frame (fun x hx => q4 x (fun e => h2 (e ▸ hx)))⟩, fun x hx => q4 x (by simpa using hx), q5⟩
  unfold Tree_lay.f
  rw [hget, l1, u1]
  simp only [Option.bind_some, s1, c2, d2, q1]
theorem turnLeft_ok (ok : OpsOk O k N G S lt) {p : PN E A} {L : List TRef} {B : Nat} (hP : PW p L B) {r r' r2 : TRef} {e e2 : E} {l a b : Tr E} (h : Rep S p r (.node r' e l (.node r2 e2 a b))) (hnd : (Tr.node r' e l (.node r2 e2 a b)).refs.Nodup)
    (hG : ∀ x ∈ (Tr.node r' e l (.node r2 e2 a b)).toList, G x) (hN : (Tr.node r' e l (.node r2 e2 a b)).size < N) : ∃ p', Tree_turnLeft.f O k p r = some (r2, p') ∧ Left S p p' L B r2 (.node r2 e2 (.node r' e l a) b) (Tr.node r' e l (.node r2 e2 a b)).refs := by
  obtain ⟨n, g1, g2⟩ := get_ok ok hP h
  obtain ⟨rfl, he, hl, hu, hlk⟩ := g2.node rfl
  obtain ⟨n2, g3, g4⟩ := get_ok ok hP hu
  obtain ⟨hr2, he2, ha, hb, hlk2⟩ := g4.node rfl
  simp only [Tr.refs, List.nodup_append, List.nodup_cons, List.mem_append, List.mem_cons, not_or] at hnd
  obtain ⟨nl, ⟨⟨nr1, nr2, nr3⟩, na, ⟨nb1, nb⟩, nab⟩, nlu⟩ := hnd
  simp only [Tr.toList, List.mem_append, List.mem_cons] at hG
  simp only [Tr.size] at hN
  have hra : r ∉ a.refs := nr1
  obtain ⟨p1, q1, q2⟩ := lay_ok ok hP hlk hl ha (fun hm => nlu _ hm _ (.inl rfl) rfl) nr1 (fun x hx => hG x (by rw [he] at hx; simp at hx ⊢; rcases hx with hx | hx | hx <;> simp [hx])) (by omega)
  have hb1 : Rep S p1 n2.right b := hb.frame (fun x hx => q2.frame x (by simp; rintro rfl; exact nr3 hx))
  have hlk2' : look p1 r2 = some n2 := by rw [q2.frame r2 (by simp; exact fun e => nr2 e.symm), ← hr2]; exact hlk2
  have hrep1 : Rep S p1 r (.node r e l a) := by have := q2.rep; rw [he] at this; exact this
  obtain ⟨p2, q3, q4⟩ := lay_ok ok q2.pw hlk2' hrep1 hb1 (by simp only [Tr.refs, List.mem_append, List.mem_cons, not_or]; exact ⟨fun hm => nlu _ hm _ (.inr (.inr (.inl rfl))) rfl, fun e => nr2 e.symm, fun hm => nab _ hm _ (.inl rfl) rfl⟩) nb1
    (fun x hx => hG x (by rw [he2] at hx; simp [Tr.toList] at hx ⊢; rcases hx with hx | hx | hx | hx | hx <;> simp [hx])) (by simp only [Tr.size]; omega)
  refine ⟨p2, ?_, q4.pw, by have := q4.rep; rw [he2] at this; exact this, fun x hx => ?_, q4.cap.trans q2.cap⟩
  · unfold Tree_turnLeft.f
    rw [g1]
    simp only [Option.bind_some, g3, q1]
    rw [hr2, q3]; rfl
  · simp only [Tr.refs, List.mem_append, List.mem_cons, not_or] at hx
    rw [q4.frame x (by simp; exact hx.2.2.2.1), q2.frame x (by simp; exact hx.2.1)]
theorem turnRight_ok (ok : OpsOk O k N G S lt) {p : PN E A} {L : List TRef} {B : Nat} (hP : PW p L B) {r r' r2 : TRef} {e e2 : E} {u a b : Tr E} (h : Rep S p r (.node r' e (.node r2 e2 a b) u)) (hnd : (Tr.node r' e (.node r2 e2 a b) u).refs.Nodup)
    (hG : ∀ x ∈ (Tr.node r' e (.node r2 e2 a b) u).toList, G x) (hN : (Tr.node r' e (.node r2 e2 a b) u).size < N) : ∃ p', Tree_turnRight.f O k p r = some (r2, p') ∧ Left S p p' L B r2 (.node r2 e2 a (.node r' e b u)) (Tr.node r' e (.node r2 e2 a b) u).refs := by
  obtain ⟨n, g1, g2⟩ := get_ok ok hP h
  obtain ⟨rfl, he, hl, hu, hlk⟩ := g2.node rfl
  obtain ⟨n2, g3, g4⟩ := get_ok ok hP hl
  obtain ⟨hr2, he2, ha, hb, hlk2⟩ := g4.node rfl
  simp only [Tr.refs, List.nodup_append, List.nodup_cons, List.mem_append, List.mem_cons, not_or] at hnd
  obtain ⟨⟨na, ⟨nb1, nb⟩, nab⟩, ⟨nu1, nu⟩, nlu⟩ := hnd
  simp only [Tr.toList, List.mem_append, List.mem_cons] at hG
  simp only [Tr.size] at hN
  have hne : r2 ≠ r := fun e => nlu r2 (.inr (.inl rfl)) r (.inl rfl) e
  obtain ⟨p1, q1, q2⟩ := lay_ok ok hP hlk hb hu (fun hm => nlu r (.inr (.inr hm)) r (.inl rfl) rfl) nu1 (fun x hx => hG x (by rw [he] at hx; simp at hx ⊢; rcases hx with hx | hx | hx <;> simp [hx])) (by omega)
  have ha1 : Rep S p1 n2.left a := ha.frame (fun x hx => q2.frame x (by simp; rintro rfl; exact nlu _ (.inl hx) _ (.inl rfl) rfl))
  have hlk2' : look p1 r2 = some n2 := by rw [q2.frame r2 (by simp; exact hne), ← hr2]; exact hlk2
  have hrep1 : Rep S p1 r (.node r e b u) := by have := q2.rep; rw [he] at this; exact this
  obtain ⟨p2, q3, q4⟩ := lay_ok ok q2.pw hlk2' ha1 hrep1 (fun hm => nab _ hm _ (.inl rfl) rfl) (by simp only [Tr.refs, List.mem_append, List.mem_cons, not_or]; exact ⟨nb1, hne, fun hm => nlu _ (.inr (.inl rfl)) _ (.inr hm) rfl⟩)
    (fun x hx => hG x (by rw [he2] at hx; simp [Tr.toList] at hx ⊢; rcases hx with hx | hx | hx | hx | hx <;> simp [hx])) (by simp only [Tr.size]; omega)
  refine ⟨p2, ?_, q4.pw, by have := q4.rep; rw [he2] at this; exact this, fun x hx => ?_, q4.cap.trans q2.cap⟩
  · unfold Tree_turnRight.f
    rw [g1]
    simp only [Option.bind_some, g3, q1]
    rw [hr2, q3]; rfl
  · simp only [Tr.refs, List.mem_append, List.mem_cons, not_or] at hx
    rw [q4.frame x (by simp; exact hx.1.2.1), q2.frame x (by simp; exact hx.2.1)]
end
end Go.Proofs.YtpeoalmhccmdiaaGreat
namespace Go.Proofs.YtpeoalmhccmdiaaGreat
open Go Go.Proofs.YtpeoalmhccmdiaaGreat.Sx
namespace Tr
variable {E : Type}
def WB : Tr E → Prop
  | nil => True
  | node _ _ l u => l.w ≤ 3 * u.w ∧ u.w ≤ 3 * l.w ∧ WB l ∧ WB u
def ht : Tr E → Nat
  | nil => 0
  | node _ _ l u => 1 + max l.ht u.ht
theorem w_node (r : TRef) (e : E) (l u : Tr E) : (node r e l u).w = l.w + u.w := by simp only [w, size]; omega
theorem w_pos (t : Tr E) : 1 ≤ t.w := by simp only [w]; omega
theorem w_nil : (nil : Tr E).w = 1 := rfl
theorem w_one {t : Tr E} (h : t.w ≤ 1) : t = nil := by
  cases t with
  | nil => rfl
  | node r e l u => rw [w_node] at h; have := w_pos l; have := w_pos u; omega
theorem child {t : Tr E} (h : WB t) (h1 : 1 ≤ t.ht) : ∃ c : Tr E, WB c ∧ c.ht + 1 = t.ht ∧ 4 * c.w ≤ 3 * t.w := by
  cases t with
  | nil => simp [ht] at h1
  | node r e l u =>
    obtain ⟨a, b, c, d⟩ := h
    rw [w_node]
    by_cases hh : l.ht ≤ u.ht
    · exact ⟨u, d, by simp only [ht]; omega, by omega⟩
    · exact ⟨l, c, by simp only [ht]; omega, by omega⟩
theorem ht_pow : ∀ (j : Nat) {t : Tr E}, WB t → 3 * (j + 1) ≤ t.ht → 2 ^ (j + 1) ≤ t.w
  | j, t, h, hj => by
    obtain ⟨c1, a1, b1, d1⟩ := child h (by omega)
    obtain ⟨c2, a2, b2, d2⟩ := child a1 (by omega)
    obtain ⟨c3, a3, b3, d3⟩ := child a2 (by omega)
    cases j with
    | zero => have := w_pos c3; omega
    | succ j =>
      have := ht_pow j a3 (by omega)
      rw [Nat.pow_succ] at this ⊢
      rw [Nat.pow_succ]; omega
theorem ht_le {t : Tr E} (h : WB t) : t.ht ≤ 2 + 3 * Nat.log2 t.w := by
  by_cases hh : t.ht ≤ 2 + 3 * Nat.log2 t.w
  · exact hh
  · have h1 := ht_pow (Nat.log2 t.w) h (by omega)
    have h2 := Nat.lt_log2_self (n := t.w)
    omega
def Near (l u : Tr E) : Prop := u.w ≤ 3 * l.w + 3 ∧ l.w ≤ 3 * u.w + 3
theorem link_flat (n : Nat) {l u : Tr E} {r : TRef} {e : E} (h1 : u.w ≤ 3 * l.w) (h2 : l.w ≤ 3 * u.w) : link n l r e u = node r e l u := by
  cases n with
  | zero => rfl
  | succ n => rw [link_succ, if_neg (by omega), if_neg (by omega)]
theorem bal_l {r r2 : TRef} {e e2 : E} {l a b : Tr E} (hl : WB l) (ha : WB a) (hb : WB b) (h1 : l.w ≤ 3 * a.w) (h2 : a.w ≤ 3 * l.w) (h3 : 3 * l.w < a.w + b.w) (h4 : a.w ≤ 3 * b.w) (h5 : b.w ≤ 3 * a.w) (h6 : a.w + b.w ≤ 3 * l.w + 3) : WB (bal (node r2 e2 (node r e l a) b)) := by
  rw [bal_node]
  have p1 := w_pos l; have p2 := w_pos a; have p3 := w_pos b
  rw [w_node]
  rw [if_neg (by omega)]
  split
  · rename_i h
    simp only
    rw [if_pos (by omega)]
    cases a with
    | nil => rw [w_nil] at *; omega
    | node ra ea a1 a2 =>
      obtain ⟨x1, x2, x3, x4⟩ := ha
      rw [w_node] at *
      have q1 := w_pos a1; have q2 := w_pos a2
      simp only [turnL, turnR]
      refine ⟨?_, ?_, ⟨?_, ?_, hl, x3⟩, ⟨?_, ?_, x4, hb⟩⟩
      · rw [w_node, w_node]; omega
      · rw [w_node, w_node]; omega
      · omega
      · omega
      · omega
      · omega
  · exact ⟨by rw [w_node]; omega, by rw [w_node]; omega, ⟨h1, h2, hl, ha⟩, hb⟩
theorem bal_r {r r2 : TRef} {e e2 : E} {u a b : Tr E} (hu : WB u) (ha : WB a) (hb : WB b) (h1 : u.w ≤ 3 * b.w) (h2 : b.w ≤ 3 * u.w) (h3 : 3 * u.w < a.w + b.w) (h4 : a.w ≤ 3 * b.w) (h5 : b.w ≤ 3 * a.w) (h6 : a.w + b.w ≤ 3 * u.w + 3) : WB (bal (node r2 e2 a (node r e b u))) := by
  rw [bal_node]
  have p1 := w_pos u; have p2 := w_pos a; have p3 := w_pos b
  rw [w_node]
  split
  · rename_i h
    simp only
    rw [if_pos (by omega)]
    cases b with
    | nil => rw [w_nil] at *; omega
    | node rb eb b1 b2 =>
      obtain ⟨x1, x2, x3, x4⟩ := hb
      rw [w_node] at *
      have q1 := w_pos b1; have q2 := w_pos b2
      simp only [turnL, turnR]
      refine ⟨?_, ?_, ⟨?_, ?_, ha, x3⟩, ⟨?_, ?_, x4, hu⟩⟩
      · rw [w_node, w_node]; omega
      · rw [w_node, w_node]; omega
      · omega
      · omega
      · omega
      · omega
  · rw [if_neg (by omega)]
    exact ⟨by rw [w_node]; omega, by rw [w_node]; omega, ha, ⟨h2, h1, hb, hu⟩⟩
theorem link_wb (n : Nat) {l u : Tr E} {r : TRef} {e : E} (hl : WB l) (hu : WB u) (hn : Near l u) : WB (link (n + 3) l r e u) := by
  obtain ⟨n1, n2⟩ := hn
  have p1 := w_pos l; have p2 := w_pos u
  by_cases c1 : u.w > 3 * l.w
  · rw [link_succ, if_pos c1]
    cases u with
    | nil => rw [w_nil] at *; omega
    | node r2 e2 a b =>
      simp only
      obtain ⟨x1, x2, x3, x4⟩ := hu
      rw [w_node] at *
      have q1 := w_pos a; have q2 := w_pos b
      by_cases c2 : a.w ≤ 3 * l.w
      · rw [link_flat _ c2 (by omega)]
        exact bal_l hl x3 x4 (by omega) c2 (by omega) x1 x2 (by omega)
      · -- l is nil, a of weight 4, b of weight 2
        have e1 : l.w = 1 := by omega
        have e2' : a.w = 4 := by omega
        have e3 : b.w = 2 := by omega
        have hi : WB (link (n + 2) l r e a) := by
          rw [link_succ, if_pos (by omega)]
          cases a with
          | nil => rw [w_nil] at *; omega
          | node r3 e3' a1 a2 =>
            simp only
            obtain ⟨y1, y2, y3, y4⟩ := x3
            rw [w_node] at *
            have z1 := w_pos a1; have z2 := w_pos a2
            rw [link_flat _ (by omega) (by omega)]
            exact bal_l hl y3 y4 (by omega) (by omega) (by omega) y1 y2 (by omega)
        have hw : (link (n + 2) l r e a).w = 5 := by
          have := link_size (n + 2) l r e a
          simp only [w] at *; omega
        rw [bal_node, if_neg (by omega), if_neg (by omega)]
        exact ⟨by omega, by omega, hi, x4⟩
  · by_cases c2 : l.w > 3 * u.w
    · rw [link_succ, if_neg c1, if_pos c2]
      cases l with
      | nil => rw [w_nil] at *; omega
      | node r2 e2 a b =>
        simp only
        obtain ⟨x1, x2, x3, x4⟩ := hl
        rw [w_node] at *
        have q1 := w_pos a; have q2 := w_pos b
        by_cases c3 : b.w ≤ 3 * u.w
        · rw [link_flat _ (by omega) c3]
          exact bal_r hu x3 x4 (by omega) c3 (by omega) x1 x2 (by omega)
        · have e1 : u.w = 1 := by omega
          have e2' : b.w = 4 := by omega
          have e3 : a.w = 2 := by omega
          have hi : WB (link (n + 2) b r e u) := by
            rw [link_succ, if_neg (by omega), if_pos (by omega)]
            cases b with
            | nil => rw [w_nil] at *; omega
            | node r3 e3' b1 b2 =>
              simp only
              obtain ⟨y1, y2, y3, y4⟩ := x4
              rw [w_node] at *
              have z1 := w_pos b1; have z2 := w_pos b2
              rw [link_flat _ (by omega) (by omega)]
              exact bal_r hu y3 y4 (by omega) (by omega) (by omega) y1 y2 (by omega)
          have hw : (link (n + 2) b r e u).w = 5 := by
            have := link_size (n + 2) b r e u
            simp only [w] at *; omega
          rw [bal_node, if_neg (by omega), if_neg (by omega)]
          exact ⟨by omega, by omega, x3, hi⟩
    · rw [link_flat _ (by omega) (by omega)]
      exact ⟨by omega, by omega, hl, hu⟩
end Tr
end Go.Proofs.YtpeoalmhccmdiaaGreat
namespace Go.Proofs.YtpeoalmhccmdiaaGreat
open Go Go.Proofs.YtpeoalmhccmdiaaGreat.Sx
abbrev vz {α : Type} (p : Pool α) (v : Int) : Pool α := { p with vis := v }
theorem wrap1 {v : Int} (h0 : 0 ≤ v) (h : v < 4611686018427387904) : IntKind.i64.wrap (v + 1) = v + 1 := by simp only [IntKind.wrap_i64]; omega
section
variable {α : Type} {z : α}
theorem vz_ok {p : Pool α} {v : Int} : decide (pOk (vz p v)) = decide (pOk p) := rfl
theorem vGet_v {p : Pool α} {i g : Int} {x : α × Bool} (h : pGet z p i g = some x) {v : Int} (h0 : 0 ≤ v) (hb : v < 4611686018427387904) : ∃ v', vGet z (vz p v) i g = some (x, vz p v') ∧ v ≤ v' ∧ v' ≤ v + 1 := by
  unfold pGet at h
  unfold vGet
  rw [vz_ok]
  cases hp : decide (pOk p) with
  | false => rw [hp] at h; cases h
  | true =>
    rw [hp, cond_true] at h
    rw [cond_true]
    cases h
    unfold Pool.get
    simp only [show (vz p v).cells = p.cells from rfl]
    cases lookC p.cells i g with
    | none => exact ⟨v, rfl, by omega, by omega⟩
    | some c => exact ⟨v + 1, by simp only [Pool.hit, wrap1 h0 hb], by omega, by omega⟩
theorem pSet_v {p : Pool α} {i g : Int} {y : α} {x : Bool × Pool α} (h : pSet p i g y = some x) {v : Int} (h0 : 0 ≤ v) (hb : v < 4611686018427387904) : ∃ v', pSet (vz p v) i g y = some (x.1, vz x.2 v') ∧ v ≤ v' ∧ v' ≤ v + 1 := by
  unfold pSet at h ⊢
  rw [vz_ok]
  cases hp : decide (pOk p) with
  | false => rw [hp] at h; cases h
  | true =>
    rw [hp, cond_true] at h
    rw [cond_true]
    cases h
    unfold Pool.set
    cases hc : lookC p.cells i g with
    | none => exact ⟨v, rfl, by omega, by omega⟩
    | some c => exact ⟨v + 1, by simp only [wrap1 h0 hb], by omega, by omega⟩
theorem pDrop_v {p : Pool α} {i g : Int} {x : (α × Bool) × Pool α} (h : pDrop z p i g = some x) {v : Int} (h0 : 0 ≤ v) (hb : v < 4611686018427387904) : ∃ v', pDrop z (vz p v) i g = some (x.1, vz x.2 v') ∧ v ≤ v' ∧ v' ≤ v + 1 := by
  unfold pDrop at h ⊢
  rw [vz_ok]
  cases hp : decide (pOk p) with
  | false => rw [hp] at h; cases h
  | true =>
    rw [hp, cond_true] at h
    rw [cond_true]
    cases h
    unfold Pool.drop
    cases hc : lookC p.cells i g with
    | none => exact ⟨v, rfl, by omega, by omega⟩
    | some c => exact ⟨v + 1, by simp only [wrap1 h0 hb], by omega, by omega⟩
end
section
variable {E A : Type} {O : Ops E A} {k : Nat}
theorem get_v {p : PN E A} {r : TRef} {n : TNode E A} (h : Tree_get.f O k p r = some n) {v : Int} (h0 : 0 ≤ v) (hb : v < 4611686018427387904) : ∃ v', VTree_get.f O k (vz p v) r = some (n, vz p v') ∧ v ≤ v' ∧ v' ≤ v + 1 := by
  unfold Tree_get.f at h
  unfold VTree_get.f
  cases hg : (r.gen == 0) with
  | true => rw [hg] at h; cases h; exact ⟨v, rfl, by omega, by omega⟩
  | false =>
    rw [hg, cond_false] at h
    rw [cond_false]
    obtain ⟨x, hx, h⟩ := bnd h
    cases h
    obtain ⟨v', h1, h2, h3⟩ := vGet_v hx h0 hb
    exact ⟨v', by rw [h1]; rfl, h2, h3⟩
theorem weight_v {p : PN E A} {r : TRef} {n : Int} (h : Tree_weight.f O k p r = some n) {v : Int} (h0 : 0 ≤ v) (hb : v < 4611686018427387904) : ∃ v', VTree_weight.f O k (vz p v) r = some (n, vz p v') ∧ v ≤ v' ∧ v' ≤ v + 1 := by
  unfold Tree_weight.f at h
  unfold VTree_weight.f
  obtain ⟨x, hx, h⟩ := bnd h
  cases h
  obtain ⟨v', h1, h2, h3⟩ := get_v hx h0 hb
  exact ⟨v', by rw [h1]; rfl, h2, h3⟩
theorem lay_v {p p' : PN E A} {r a b r' : TRef} (h : Tree_lay.f O k p r a b = some (r', p')) {v : Int} (h0 : 0 ≤ v) (hb : v + 10 < 4611686018427387904) : ∃ v', VTree_lay.f O k (vz p v) r a b = some (r', vz p' v') ∧ v ≤ v' ∧ v' ≤ v + 4 := by
  unfold Tree_lay.f at h
  unfold VTree_lay.f
  obtain ⟨x1, g1, h⟩ := bnd h
  obtain ⟨x2, g2, h⟩ := bnd h
  obtain ⟨x3, g3, h⟩ := bnd h
  obtain ⟨x4, g4, h⟩ := bnd h
  obtain ⟨x5, g5, h⟩ := bnd h
  obtain ⟨x6, g6, h⟩ := bnd h
  obtain ⟨x7, g7, h⟩ := bnd h
  cases h
  obtain ⟨v1, a1, b1, c1⟩ := get_v g1 h0 (by omega)
  obtain ⟨v2, a2, b2, c2⟩ := get_v g2 (v := v1) (by omega) (by omega)
  obtain ⟨v3, a3, b3, c3⟩ := get_v g3 (v := v2) (by omega) (by omega)
  obtain ⟨v4, a4, b4, c4⟩ := pSet_v g7 (v := v3) (by omega) (by omega)
  refine ⟨v4, ?_, by omega, by omega⟩
  simp only [a1, a2, a3, g4, g5, g6, a4, Option.bind_some]
theorem turnRight_v {p p' : PN E A} {r r' : TRef} (h : Tree_turnRight.f O k p r = some (r', p')) {v : Int} (h0 : 0 ≤ v) (hb : v + 30 < 4611686018427387904) : ∃ v', VTree_turnRight.f O k (vz p v) r = some (r', vz p' v') ∧ v ≤ v' ∧ v' ≤ v + 10 := by
  unfold Tree_turnRight.f at h
  unfold VTree_turnRight.f
  obtain ⟨x1, g1, h⟩ := bnd h
  obtain ⟨x2, g2, h⟩ := bnd h
  obtain ⟨x3, g3, h⟩ := bnd h
  obtain ⟨x4, g4, h⟩ := bnd h
  cases h
  obtain ⟨v1, a1, b1, c1⟩ := get_v g1 h0 (by omega)
  obtain ⟨v2, a2, b2, c2⟩ := get_v g2 (v := v1) (by omega) (by omega)
  obtain ⟨v3, a3, b3, c3⟩ := lay_v (r' := x3.1) (p' := x3.2) g3 (v := v2) (by omega) (by omega)
  obtain ⟨v4, a4, b4, c4⟩ := lay_v (r' := x4.1) (p' := x4.2) g4 (v := v3) (by omega) (by omega)
  exact ⟨v4, by simp only [a1, a2, a3, a4, Option.bind_some], by omega, by omega⟩
theorem turnLeft_v {p p' : PN E A} {r r' : TRef} (h : Tree_turnLeft.f O k p r = some (r', p')) {v : Int} (h0 : 0 ≤ v) (hb : v + 30 < 4611686018427387904) : ∃ v', VTree_turnLeft.f O k (vz p v) r = some (r', vz p' v') ∧ v ≤ v' ∧ v' ≤ v + 10 := by
  unfold Tree_turnLeft.f at h
  unfold VTree_turnLeft.f
  obtain ⟨x1, g1, h⟩ := bnd h
  obtain ⟨x2, g2, h⟩ := bnd h
  obtain ⟨x3, g3, h⟩ := bnd h
  obtain ⟨x4, g4, h⟩ := bnd h
  cases h
  obtain ⟨v1, a1, b1, c1⟩ := get_v g1 h0 (by omega)
  obtain ⟨v2, a2, b2, c2⟩ := get_v g2 (v := v1) (by omega) (by omega)
  obtain ⟨v3, a3, b3, c3⟩ := lay_v (r' := x3.1) (p' := x3.2) g3 (v := v2) (by omega) (by omega)
  obtain ⟨v4, a4, b4, c4⟩ := lay_v (r' := x4.1) (p' := x4.2) g4 (v := v3) (by omega) (by omega)
  exact ⟨v4, by simp only [a1, a2, a3, a4, Option.bind_some], by omega, by omega⟩
theorem balance_v {p p' : PN E A} {r r' : TRef} (h : Tree_balance.f O k p r = some (r', p')) {v : Int} (h0 : 0 ≤ v) (hb : v + 100 < 4611686018427387904) : ∃ v', VTree_balance.f O k (vz p v) r = some (r', vz p' v') ∧ v ≤ v' ∧ v' ≤ v + 30 := by
  unfold Tree_balance.f at h
  unfold VTree_balance.f
  obtain ⟨x1, g1, h⟩ := bnd h
  obtain ⟨x2, g2, h⟩ := bnd h
  obtain ⟨x3, g3, h⟩ := bnd h
  obtain ⟨v1, a1, b1, c1⟩ := get_v g1 h0 (by omega)
  obtain ⟨v2, a2, b2, c2⟩ := weight_v g2 (v := v1) (by omega) (by omega)
  obtain ⟨v3, a3, b3, c3⟩ := weight_v g3 (v := v2) (by omega) (by omega)
  simp only [a1, a2, a3, Option.bind_some]
  cases hc : decide (x3 > w64 (3 * x2)) with
  | true =>
    rw [hc, cond_true] at h
    rw [cond_true]
    obtain ⟨x4, g4, h⟩ := bnd h
    obtain ⟨x5, g5, h⟩ := bnd h
    obtain ⟨x6, g6, h⟩ := bnd h
    obtain ⟨v4, a4, b4, c4⟩ := get_v g4 (v := v3) (by omega) (by omega)
    obtain ⟨v5, a5, b5, c5⟩ := weight_v g5 (v := v4) (by omega) (by omega)
    obtain ⟨v6, a6, b6, c6⟩ := weight_v g6 (v := v5) (by omega) (by omega)
    simp only [a4, a5, a6, Option.bind_some]
    cases hd : decide (x5 ≥ w64 (2 * x6)) with
    | true =>
      rw [hd, cond_true] at h
      rw [cond_true]
      obtain ⟨x7, g7, h⟩ := bnd h
      obtain ⟨x8, g8, h⟩ := bnd h
      obtain ⟨x9, g9, h⟩ := bnd h
      cases h
      obtain ⟨v7, a7, b7, c7⟩ := turnRight_v (r' := x7.1) (p' := x7.2) g7 (v := v6) (by omega) (by omega)
      obtain ⟨v8, a8, b8, c8⟩ := lay_v (r' := x8.1) (p' := x8.2) g8 (v := v7) (by omega) (by omega)
      obtain ⟨v9, a9, b9, c9⟩ := turnLeft_v (r' := x9.1) (p' := x9.2) g9 (v := v8) (by omega) (by omega)
      exact ⟨v9, by simp only [a7, a8, a9, Option.bind_some], by omega, by omega⟩
    | false =>
      rw [hd, cond_false] at h
      rw [cond_false]
      obtain ⟨x9, g9, h⟩ := bnd h
      cases h
      obtain ⟨v9, a9, b9, c9⟩ := turnLeft_v (r' := x9.1) (p' := x9.2) g9 (v := v6) (by omega) (by omega)
      exact ⟨v9, by simp only [a9, Option.bind_some], by omega, by omega⟩
  | false =>
    rw [hc, cond_false] at h
    rw [cond_false]
    cases he : decide (x2 > w64 (3 * x3)) with
    | true =>
      rw [he, cond_true] at h
      rw [cond_true]
      obtain ⟨x4, g4, h⟩ := bnd h
      obtain ⟨x5, g5, h⟩ := bnd h
      obtain ⟨x6, g6, h⟩ := bnd h
      obtain ⟨v4, a4, b4, c4⟩ := get_v g4 (v := v3) (by omega) (by omega)
      obtain ⟨v5, a5, b5, c5⟩ := weight_v g5 (v := v4) (by omega) (by omega)
      obtain ⟨v6, a6, b6, c6⟩ := weight_v g6 (v := v5) (by omega) (by omega)
      simp only [a4, a5, a6, Option.bind_some]
      cases hd : decide (x5 ≥ w64 (2 * x6)) with
      | true =>
        rw [hd, cond_true] at h
        rw [cond_true]
        obtain ⟨x7, g7, h⟩ := bnd h
        obtain ⟨x8, g8, h⟩ := bnd h
        obtain ⟨x9, g9, h⟩ := bnd h
        cases h
        obtain ⟨v7, a7, b7, c7⟩ := turnLeft_v (r' := x7.1) (p' := x7.2) g7 (v := v6) (by omega) (by omega)
        obtain ⟨v8, a8, b8, c8⟩ := lay_v (r' := x8.1) (p' := x8.2) g8 (v := v7) (by omega) (by omega)
        obtain ⟨v9, a9, b9, c9⟩ := turnRight_v (r' := x9.1) (p' := x9.2) g9 (v := v8) (by omega) (by omega)
        exact ⟨v9, by simp only [a7, a8, a9, Option.bind_some], by omega, by omega⟩
      | false =>
        rw [hd, cond_false] at h
        rw [cond_false]
        obtain ⟨x9, g9, h⟩ := bnd h
        cases h
        obtain ⟨v9, a9, b9, c9⟩ := turnRight_v (r' := x9.1) (p' := x9.2) g9 (v := v6) (by omega) (by omega)
        exact ⟨v9, by simp only [a9, Option.bind_some], by omega, by omega⟩
    | false =>
      rw [he, cond_false] at h
      rw [cond_false]
      cases h
      exact ⟨v3, rfl, by omega, by omega⟩
end
end Go.Proofs.YtpeoalmhccmdiaaGreat
namespace Go.Proofs.YtpeoalmhccmdiaaGreat
open Go Go.Proofs.YtpeoalmhccmdiaaGreat.Sx
section
variable {E A : Type} {O : Ops E A} {k N : Nat} {G : E → Prop} {S : A → List E → Prop} {lt : E → E → Prop}
theorem dec_gt3 {a b : Nat} (hb : b < 4294967296) : decide ((a : Int) > w64 (3 * (b : Int))) = decide (a > 3 * b) := by
  rw [w64_id (by omega) (by omega)]
  by_cases h : a > 3 * b
  · simp only [h, decide_true, decide_eq_true_eq]; omega
  · simp only [h, decide_false, decide_eq_false_iff_not]; omega
theorem dec_ge2 {a b : Nat} (hb : b < 4294967296) : decide ((a : Int) ≥ w64 (2 * (b : Int))) = decide (a ≥ 2 * b) := by
  rw [w64_id (by omega) (by omega)]
  by_cases h : a ≥ 2 * b
  · simp only [h, decide_true, decide_eq_true_eq]; omega
  · simp only [h, decide_false, decide_eq_false_iff_not]; omega
theorem nodup_left {l u : List TRef} {r : TRef} (h : (l ++ r :: u).Nodup) : l.Nodup := (List.nodup_append.1 h).1
theorem nodup_right {l u : List TRef} {r : TRef} (h : (l ++ r :: u).Nodup) : u.Nodup := (List.nodup_cons.1 (List.nodup_append.1 h).2.1).2
theorem nodup_l {l u : List TRef} {r : TRef} (h : (l ++ r :: u).Nodup) : r ∉ l := fun hm => (List.nodup_append.1 h).2.2 r hm r List.mem_cons_self rfl
theorem nodup_u {l u : List TRef} {r : TRef} (h : (l ++ r :: u).Nodup) : r ∉ u := (List.nodup_cons.1 (List.nodup_append.1 h).2.1).1
theorem nodup_lu {l u : List TRef} {r : TRef} (h : (l ++ r :: u).Nodup) {x : TRef} (hl : x ∈ l) (hu : x ∈ u) : False := (List.nodup_append.1 h).2.2 x hl x (List.mem_cons_of_mem _ hu) rfl
theorem balance_ok (ok : OpsOk O k N G S lt) {p : PN E A} {L : List TRef} {B : Nat} (hP : PW p L B) {r r0 : TRef} {e : E} {l u : Tr E} (h : Rep S p r (.node r0 e l u)) (hnd : (Tr.node r0 e l u).refs.Nodup)
    (hG : ∀ x ∈ (Tr.node r0 e l u).toList, G x) (hN : (Tr.node r0 e l u).size < N) : ∃ r' p', Tree_balance.f O k p r = some (r', p') ∧ Left S p p' L B r' (Tr.bal (.node r0 e l u)) (Tr.node r0 e l u).refs := by
  have hbig := ok.big
  obtain ⟨n, g1, g2⟩ := get_ok ok hP h
  obtain ⟨rfl, he, hl, hu, hlk⟩ := g2.node rfl
  have hN' := hN
  simp only [Tr.size] at hN'
  have wl := weight_ok ok hP hl (by omega)
  have wu := weight_ok ok hP hu (by omega)
  unfold Tree_balance.f
  rw [g1]
  simp only [Option.bind_some, wl, wu]
  rw [dec_gt3 (by simp only [Tr.w]; omega), dec_gt3 (by simp only [Tr.w]; omega), Tr.bal_node]
  by_cases c1 : u.w > 3 * l.w
  · simp only [c1, decide_true, cond_true, if_true]
    cases u with
    | nil => simp only [Tr.w, Tr.size] at c1; omega
    | node r2 e2 a b =>
      obtain ⟨n2, q1, q2⟩ := get_ok ok hP hu
      obtain ⟨hr2, he2, ha, hb, hlk2⟩ := q2.node rfl
      simp only [Tr.size] at hN'
      have wa := weight_ok ok hP ha (by omega)
      have wb := weight_ok ok hP hb (by omega)
      simp only [q1, Option.bind_some, wa, wb]
      rw [dec_ge2 (by simp only [Tr.w]; omega)]
      by_cases c2 : a.w ≥ 2 * b.w
      · simp only [c2, decide_true, cond_true, if_true]
        cases a with
        | nil => simp only [Tr.w, Tr.size] at c2; omega
        | node r3 e3 c d =>
          have hndu : (Tr.node r2 e2 (.node r3 e3 c d) b).refs.Nodup := nodup_right hnd
          obtain ⟨p1, t1, t2⟩ := turnRight_ok ok hP hu hndu (fun x hx => hG x (by simp [Tr.toList] at hx ⊢; rcases hx with hx | hx | hx | hx | hx <;> simp [hx])) (by simp only [Tr.size] at hN ⊢; omega)
          have hlk1 : look p1 r = some n := by rw [t2.frame r (nodup_u hnd)]; exact hlk
          have hl1 : Rep S p1 n.left l := hl.frame (fun x hx => t2.frame x (fun hm => nodup_lu hnd hx hm))
          have hrf : (Tr.node r3 e3 c (.node r2 e2 d b)).refs = (Tr.node r2 e2 (.node r3 e3 c d) b).refs := by simp [Tr.refs]
          have htl : (Tr.node r3 e3 c (.node r2 e2 d b)).toList = (Tr.node r2 e2 (.node r3 e3 c d) b).toList := by simp [Tr.toList]
          obtain ⟨p2, v1, v2⟩ := lay_ok ok t2.pw hlk1 hl1 t2.rep (nodup_l hnd) (by rw [hrf]; exact nodup_u hnd) (fun x hx => hG x (by rw [he, htl] at hx; exact hx)) (by simp only [Tr.size] at hN ⊢; omega)
          have hrep : Rep S p2 r (.node r e l (.node r3 e3 c (.node r2 e2 d b))) := by have := v2.rep; rw [he] at this; exact this
          obtain ⟨p3, y1, y2⟩ := turnLeft_ok ok v2.pw hrep (by simp only [Tr.refs] at hnd ⊢; simpa using hnd) (fun x hx => hG x (by simp [Tr.toList] at hx ⊢; exact hx)) (by simp only [Tr.size] at hN ⊢; omega)
          refine ⟨r3, p3, ?_, y2.pw, ?_, fun x hx => ?_, y2.cap.trans (v2.cap.trans t2.cap)⟩
          · simp only [t1, Option.bind_some, v1, y1]
          · simp only [Tr.turnR, Tr.turnL]; exact y2.rep
          · have hx2 : x ∉ (Tr.node r e l (.node r3 e3 c (.node r2 e2 d b))).refs := by simpa [Tr.refs] using hx
            simp only [Tr.refs, List.mem_append, List.mem_cons, not_or] at hx
            rw [y2.frame x hx2, v2.frame x (by simp; exact hx.2.1), t2.frame x (by simp only [Tr.refs, List.mem_append, List.mem_cons, not_or]; exact hx.2.2)]
      · simp only [c2, decide_false, cond_false, if_false]
        obtain ⟨p1, t1, t2⟩ := turnLeft_ok ok hP h hnd hG hN
        refine ⟨r2, p1, ?_, t2.pw, by simp only [Tr.turnL]; exact t2.rep, t2.frame, t2.cap⟩
        simp only [t1, Option.bind_some]
  · simp only [c1, decide_false, cond_false, if_false]
    by_cases c3 : l.w > 3 * u.w
    · simp only [c3, decide_true, cond_true, if_true]
      cases l with
      | nil => simp only [Tr.w, Tr.size] at c3; omega
      | node r2 e2 a b =>
        obtain ⟨n2, q1, q2⟩ := get_ok ok hP hl
        obtain ⟨hr2, he2, ha, hb, hlk2⟩ := q2.node rfl
        simp only [Tr.size] at hN'
        have wa := weight_ok ok hP ha (by omega)
        have wb := weight_ok ok hP hb (by omega)
        simp only [q1, Option.bind_some, wa, wb]
        rw [dec_ge2 (by simp only [Tr.w]; omega)]
        by_cases c2 : b.w ≥ 2 * a.w
        · simp only [c2, decide_true, cond_true, if_true]
          cases b with
          | nil => simp only [Tr.w, Tr.size] at c2; omega
          | node r3 e3 c d =>
            have hndl : (Tr.node r2 e2 a (.node r3 e3 c d)).refs.Nodup := nodup_left hnd
            obtain ⟨p1, t1, t2⟩ := turnLeft_ok ok hP hl hndl (fun x hx => hG x (by simp [Tr.toList] at hx ⊢; rcases hx with hx | hx | hx | hx | hx <;> simp [hx])) (by simp only [Tr.size] at hN ⊢; omega)
            have hlk1 : look p1 r = some n := by rw [t2.frame r (nodup_l hnd)]; exact hlk
            have hu1 : Rep S p1 n.right u := hu.frame (fun x hx => t2.frame x (fun hm => nodup_lu hnd hm hx))
            have hrf : (Tr.node r3 e3 (.node r2 e2 a c) d).refs = (Tr.node r2 e2 a (.node r3 e3 c d)).refs := by simp [Tr.refs]
            have htl : (Tr.node r3 e3 (.node r2 e2 a c) d).toList = (Tr.node r2 e2 a (.node r3 e3 c d)).toList := by simp [Tr.toList]
            obtain ⟨p2, v1, v2⟩ := lay_ok ok t2.pw hlk1 t2.rep hu1 (by rw [hrf]; exact nodup_l hnd) (nodup_u hnd) (fun x hx => hG x (by rw [he, htl] at hx; exact hx)) (by simp only [Tr.size] at hN ⊢; omega)
            have hrep : Rep S p2 r (.node r e (.node r3 e3 (.node r2 e2 a c) d) u) := by have := v2.rep; rw [he] at this; exact this
            obtain ⟨p3, y1, y2⟩ := turnRight_ok ok v2.pw hrep (by simp only [Tr.refs] at hnd ⊢; simpa using hnd) (fun x hx => hG x (by simp [Tr.toList] at hx ⊢; exact hx)) (by simp only [Tr.size] at hN ⊢; omega)
            refine ⟨r3, p3, ?_, y2.pw, ?_, fun x hx => ?_, y2.cap.trans (v2.cap.trans t2.cap)⟩
            · simp only [t1, Option.bind_some, v1, y1]
            · simp only [Tr.turnR, Tr.turnL]; exact y2.rep
            · have hx2 : x ∉ (Tr.node r e (.node r3 e3 (.node r2 e2 a c) d) u).refs := by simpa [Tr.refs] using hx
              simp only [Tr.refs, List.mem_append, List.mem_cons, not_or] at hx
              rw [y2.frame x hx2, v2.frame x (by simp; exact hx.2.1), t2.frame x (by simp only [Tr.refs, List.mem_append, List.mem_cons, not_or]; exact hx.1)]
        · simp only [c2, decide_false, cond_false, if_false]
          obtain ⟨p1, t1, t2⟩ := turnRight_ok ok hP h hnd hG hN
          refine ⟨r2, p1, ?_, t2.pw, by simp only [Tr.turnR]; exact t2.rep, t2.frame, t2.cap⟩
          simp only [t1, Option.bind_some]
    · simp only [c3, decide_false, cond_false, if_false]
      exact ⟨r, p, rfl, hP, h, fun x _ => rfl, rfl⟩
theorem link_ok (ok : OpsOk O k N G S lt) : ∀ (n : Nat) {p : PN E A} {L : List TRef} {B : Nat} (hP : PW p L B) {a m b : TRef} {n0 : TNode E A} {l u : Tr E}, l.size + u.size < n → Rep S p a l → look p m = some n0 → Rep S p b u → (l.refs ++ m :: u.refs).Nodup →
    (∀ x ∈ l.toList ++ n0.e :: u.toList, G x) → l.size + 1 + u.size < N → ∃ r' p', Tree_link.r O k n p a m b = some (r', p') ∧ Left S p p' L B r' (Tr.link n l m n0.e u) (l.refs ++ m :: u.refs)
  | 0, _, _, _, _, _, _, _, _, _, _, h, _, _, _, _, _, _ => by omega
  | n + 1, p, L, B, hP, a, m, b, n0, l, u, hn, hl, hm, hu, hnd, hG, hN => by
    have hbig := ok.big
    have wl := weight_ok ok hP hl (by omega)
    have wu := weight_ok ok hP hu (by omega)
    simp only [Tree_link.r, wl, wu, Option.bind_some]
    rw [dec_gt3 (by simp only [Tr.w]; omega), dec_gt3 (by simp only [Tr.w]; omega), Tr.link_succ]
    by_cases c1 : u.w > 3 * l.w
    · simp only [c1, decide_true, cond_true, if_true]
      cases u with
      | nil => simp only [Tr.w, Tr.size] at c1; omega
      | node r2 e2 c d =>
        obtain ⟨n2, q1, q2⟩ := get_ok ok hP hu
        obtain ⟨hr2, he2, hc, hd, hlk2⟩ := q2.node rfl
        subst hr2
        simp only [Tr.size] at hn hN
        have hnd1 : (l.refs ++ m :: c.refs).Nodup := by
          simp only [Tr.refs] at hnd
          refine List.Nodup.sublist ?_ hnd
          exact List.Sublist.append_left (List.Sublist.cons_cons _ (List.sublist_append_left _ _)) _
        have hndu : (Tr.node b e2 c d).refs.Nodup := nodup_right hnd
        have hbL : b ∉ l.refs ++ m :: c.refs := by
          simp only [List.mem_append, List.mem_cons, not_or]
          refine ⟨fun h => nodup_lu hnd h (by simp [Tr.refs]), fun e => nodup_u hnd (by rw [← e]; simp [Tr.refs]), nodup_l hndu⟩
        have hdL : ∀ x ∈ d.refs, x ∉ l.refs ++ m :: c.refs := by
          intro x hx
          simp only [List.mem_append, List.mem_cons, not_or]
          exact ⟨fun h => nodup_lu hnd h (by simp [Tr.refs, hx]), fun e => nodup_u hnd (by rw [← e]; simp [Tr.refs, hx]), fun h => nodup_lu hndu h hx⟩
        obtain ⟨r1, p1, t1, t2⟩ := link_ok ok n hP (by omega) hl hm hc hnd1 (fun x hx => hG x (by simp [Tr.toList] at hx ⊢; rcases hx with hx | hx | hx <;> simp [hx])) (by omega)
        have hlk1 : look p1 b = some n2 := by rw [t2.frame b hbL]; exact hlk2
        have hd1 : Rep S p1 n2.right d := hd.frame (fun x hx => t2.frame x (hdL x hx))
        have hnd2 : (Tr.node b e2 (Tr.link n l m n0.e c) d).refs.Nodup := by simp only [Tr.refs, Tr.link_refs] at hnd ⊢; simpa using hnd
        have hG2 : ∀ x ∈ (Tr.node b e2 (Tr.link n l m n0.e c) d).toList, G x := fun x hx => hG x (by simp [Tr.toList, Tr.link_list] at hx ⊢; exact hx)
        have hsz : (Tr.node b e2 (Tr.link n l m n0.e c) d).size < N := by simp only [Tr.size, Tr.link_size]; omega
        obtain ⟨p2, v1, v2⟩ := lay_ok ok t2.pw hlk1 t2.rep hd1 (nodup_l hnd2) (nodup_u hnd2) (fun x hx => hG2 x (by rw [he2] at hx; exact hx)) (by simpa [Tr.size] using hsz)
        have hrep : Rep S p2 b (.node b e2 (Tr.link n l m n0.e c) d) := by have := v2.rep; rw [he2] at this; exact this
        obtain ⟨r', p3, y1, y2⟩ := balance_ok ok v2.pw hrep hnd2 hG2 hsz
        refine ⟨r', p3, ?_, y2.pw, y2.rep, fun x hx => ?_, y2.cap.trans (v2.cap.trans t2.cap)⟩
        · simp only [q1, Option.bind_some, t1, v1, y1]
        · have hx1 : x ∉ (Tr.node b e2 (Tr.link n l m n0.e c) d).refs := by simp only [Tr.refs, Tr.link_refs] at hx ⊢; simpa using hx
          simp only [Tr.refs, List.mem_append, List.mem_cons, not_or] at hx
          rw [y2.frame x hx1, v2.frame x (by simp; exact hx.2.2.2.1), t2.frame x (by simp only [List.mem_append, List.mem_cons, not_or]; exact ⟨hx.1, hx.2.1, hx.2.2.1⟩)]
    · simp only [c1, decide_false, cond_false, if_false]
      by_cases c3 : l.w > 3 * u.w
      · simp only [c3, decide_true, cond_true, if_true]
        cases l with
        | nil => simp only [Tr.w, Tr.size] at c3; omega
        | node r2 e2 c d =>
          obtain ⟨n2, q1, q2⟩ := get_ok ok hP hl
          obtain ⟨hr2, he2, hc, hd, hlk2⟩ := q2.node rfl
          subst hr2
          simp only [Tr.size] at hn hN
          have hnd' : (c.refs ++ a :: (d.refs ++ m :: u.refs)).Nodup := by simp only [Tr.refs] at hnd; simpa using hnd
          have hnd1 : (d.refs ++ m :: u.refs).Nodup := nodup_right hnd'
          have haL : a ∉ d.refs ++ m :: u.refs := nodup_u hnd'
          have hcL : ∀ x ∈ c.refs, x ∉ d.refs ++ m :: u.refs := fun x hx h => nodup_lu hnd' hx h
          obtain ⟨r1, p1, t1, t2⟩ := link_ok ok n hP (by omega) hd hm hu hnd1 (fun x hx => hG x (by simp [Tr.toList] at hx ⊢; rcases hx with hx | hx | hx <;> simp [hx])) (by omega)
          have hlk1 : look p1 a = some n2 := by rw [t2.frame a haL]; exact hlk2
          have hc1 : Rep S p1 n2.left c := hc.frame (fun x hx => t2.frame x (hcL x hx))
          have hnd2 : (Tr.node a e2 c (Tr.link n d m n0.e u)).refs.Nodup := by simp only [Tr.refs, Tr.link_refs]; exact hnd'
          have hG2 : ∀ x ∈ (Tr.node a e2 c (Tr.link n d m n0.e u)).toList, G x := fun x hx => hG x (by simp [Tr.toList, Tr.link_list] at hx ⊢; exact hx)
          have hsz : (Tr.node a e2 c (Tr.link n d m n0.e u)).size < N := by simp only [Tr.size, Tr.link_size]; omega
          obtain ⟨p2, v1, v2⟩ := lay_ok ok t2.pw hlk1 hc1 t2.rep (nodup_l hnd2) (nodup_u hnd2) (fun x hx => hG2 x (by rw [he2] at hx; exact hx)) (by simpa [Tr.size] using hsz)
          have hrep : Rep S p2 a (.node a e2 c (Tr.link n d m n0.e u)) := by have := v2.rep; rw [he2] at this; exact this
          obtain ⟨r', p3, y1, y2⟩ := balance_ok ok v2.pw hrep hnd2 hG2 hsz
          refine ⟨r', p3, ?_, y2.pw, y2.rep, fun x hx => ?_, y2.cap.trans (v2.cap.trans t2.cap)⟩
          · simp only [q1, Option.bind_some, t1, v1, y1]
          · have hx1 : x ∉ (Tr.node a e2 c (Tr.link n d m n0.e u)).refs := by simp only [Tr.refs, Tr.link_refs] at hx ⊢; simpa using hx
            simp only [Tr.refs, List.mem_append, List.mem_cons, not_or] at hx
            rw [y2.frame x hx1, v2.frame x (by simp; exact hx.1.2.1), t2.frame x (by simp only [List.mem_append, List.mem_cons, not_or]; exact ⟨hx.1.2.2, hx.2⟩)]
      · simp only [c3, decide_false, cond_false, if_false]
        obtain ⟨p1, t1, t2⟩ := lay_ok ok hP hm hl hu (nodup_l hnd) (nodup_u hnd) hG hN
        refine ⟨m, p1, by simp only [t1, Option.bind_some], t2.pw, t2.rep, fun x hx => t2.frame x ?_, t2.cap⟩
        simp only [List.mem_append, List.mem_cons, not_or] at hx
        simp; exact hx.2.1
theorem linkf_ok (ok : OpsOk O k N G S lt) (hk : N ≤ k) {p : PN E A} {L : List TRef} {B : Nat} (hP : PW p L B) {a m b : TRef} {n0 : TNode E A} {l u : Tr E} (hl : Rep S p a l) (hm : look p m = some n0) (hu : Rep S p b u) (hnd : (l.refs ++ m :: u.refs).Nodup)
    (hG : ∀ x ∈ l.toList ++ n0.e :: u.toList, G x) (hN : l.size + 1 + u.size < N) : ∃ r' p', Tree_link.f O k p a m b = some (r', p') ∧ Left S p p' L B r' (Tr.link k l m n0.e u) (l.refs ++ m :: u.refs) :=
  link_ok ok k hP (by omega) hl hm hu hnd hG hN
end
end Go.Proofs.YtpeoalmhccmdiaaGreat
namespace Go.Proofs.YtpeoalmhccmdiaaGreat
open Go Go.Proofs.YtpeoalmhccmdiaaGreat.Sx
structure Cut {E : Type} (lt : E → E → Prop) (e : E) (l a m b : List E) : Prop where
  eq : l = a ++ (m ++ b)
  la : ∀ x ∈ a, lt x e
  lb : ∀ x ∈ b, lt e x
  lm : m = [] ∨ ∃ y, m = [y] ∧ ¬ lt e y ∧ ¬ lt y e
abbrev InOrd {E : Type} (lt : E → E → Prop) (l : List E) : Prop := l.Pairwise lt
section
variable {E A : Type} {O : Ops E A} {k N : Nat} {G : E → Prop} {S : A → List E → Prop} {lt : E → E → Prop}
theorem Cut.nil (e : E) : Cut lt e [] [] [] [] := ⟨rfl, by simp, by simp, .inl rfl⟩
theorem Cut.left (ok : OpsOk O k N G S lt) {e n : E} {l a m b u : List E} (h : Cut lt e l a m b) (hs : InOrd lt (l ++ n :: u)) (hl : lt e n) : Cut lt e (l ++ n :: u) a m (b ++ n :: u) := by
  refine ⟨by rw [h.eq]; simp, h.la, fun x hx => ?_, h.lm⟩
  rcases List.mem_append.1 hx with hx | hx
  · exact h.lb x hx
  · rcases List.mem_cons.1 hx with rfl | hx
    · exact hl
    · exact ok.trans hl ((List.pairwise_cons.1 (List.pairwise_append.1 hs).2.1).1 x hx)
theorem Cut.right (ok : OpsOk O k N G S lt) {e n : E} {l a m b u : List E} (h : Cut lt e u a m b) (hs : InOrd lt (l ++ n :: u)) (hl : lt n e) : Cut lt e (l ++ n :: u) (l ++ n :: a) m b := by
  refine ⟨by rw [h.eq]; simp, fun x hx => ?_, h.lb, h.lm⟩
  rcases List.mem_append.1 hx with hx | hx
  · exact ok.trans ((List.pairwise_append.1 hs).2.2 x hx n List.mem_cons_self) hl
  · rcases List.mem_cons.1 hx with rfl | hx
    · exact hl
    · exact h.la x hx
theorem Cut.mid (ok : OpsOk O k N G S lt) {e n : E} {l u : List E} (hs : InOrd lt (l ++ n :: u)) (h1 : ¬ lt e n) (h2 : ¬ lt n e) : Cut lt e (l ++ n :: u) l [n] u := by
  refine ⟨by simp, fun x hx => ?_, fun x hx => ?_, .inr ⟨n, rfl, h1, h2⟩⟩
  · exact ok.right h2 h1 ((List.pairwise_append.1 hs).2.2 x hx n List.mem_cons_self)
  · exact ok.left h2 h1 ((List.pairwise_cons.1 (List.pairwise_append.1 hs).2.1).1 x hx)
theorem sorted_l {l u : List E} {n : E} (hs : InOrd lt (l ++ n :: u)) : InOrd lt l := (List.pairwise_append.1 hs).1
theorem sorted_u {l u : List E} {n : E} (hs : InOrd lt (l ++ n :: u)) : InOrd lt u := (List.pairwise_cons.1 (List.pairwise_append.1 hs).2.1).2
theorem Cut.put (ok : OpsOk O k N G S lt) {e : E} {l a m b : List E} (h : Cut lt e l a m b) (hs : InOrd lt l) : InOrd lt (a ++ e :: b) := by
  rw [h.eq] at hs
  obtain ⟨h1, h2, h3⟩ := List.pairwise_append.1 hs
  refine List.pairwise_append.2 ⟨h1, List.pairwise_cons.2 ⟨h.lb, (List.pairwise_append.1 h2).2.1⟩, fun x hx y hy => ?_⟩
  rcases List.mem_cons.1 hy with rfl | hy
  · exact h.la x hx
  · exact h3 x hx y (List.mem_append_right _ hy)
theorem Cut.drop {e : E} {l a m b : List E} (h : Cut lt e l a m b) (hs : InOrd lt l) : InOrd lt (a ++ b) := by
  rw [h.eq] at hs
  exact hs.sublist (List.Sublist.append_left (List.sublist_append_right _ _) _)
structure PutL (S : A → List E → Prop) (p p' : PN E A) (L : List TRef) (B : Nat) (t t' : Tr E) (r' : TRef) (F : List TRef) : Prop where
  pw : PW p' (F ++ L) (B + 1)
  rep : Rep S p' r' t'
  refs : t'.refs.Perm (F ++ t.refs)
  frame : ∀ x, x ∉ F → x ∉ t.refs → look p' x = look p x
  cap : p'.cap = p.cap
theorem put_ok (ok : OpsOk O k N G S lt) (hk : N ≤ k) {p : PN E A} {L : List TRef} {B : Nat} (hP : PW p L B) (hB : B + 1 < 4294967295) (e : E) (hGe : G e) : ∀ (n : Nat) {r : TRef} {t : Tr E}, t.size < n → Rep S p r t → t.refs.Nodup → InOrd lt t.toList → (∀ x ∈ t.toList, G x) → t.size + 1 < N →
    ∃ a m b, Cut lt e t.toList a m b ∧
      ((m = [] ∧ (L.length : Int) = p.cap ∧ ∃ rr, Tree_put.r O k n p r e = some (rr, false, p)) ∨
       (∃ r' p' t' F, (m = [] → (L.length : Int) ≠ p.cap) ∧ F.length + m.length = 1 ∧ Tree_put.r O k n p r e = some (r', true, p') ∧ t'.toList = a ++ e :: b ∧ PutL S p p' L B t t' r' F))
  | 0, _, _, h, _, _, _, _, _ => by omega
  | n + 1, r, .nil, hn, hr, hnd, hs, hG, hN => by
    refine ⟨[], [], [], Cut.nil e, ?_⟩
    have e0 : (r.gen == 0) = true := by simpa using hr.nil_iff.2 rfl
    obtain ⟨s, s1, s2⟩ := ok.sum e hGe
    simp only [Tree_put.r, e0, cond_true, s1, Option.bind_some]
    by_cases hc : (L.length : Int) = p.cap
    · exact .inl ⟨trivial, hc, ⟨⟨0, 0⟩, by rw [hP.put_full hc]; rfl⟩⟩
    · right
      obtain ⟨r1, p1, q1, q2, q3, q4, q5, q6, q7⟩ := hP.put (z := zNode O) hc hB (TNode.mk e zTRef zTRef 1 s)
      refine ⟨r1, p1, .node r1 e .nil .nil, [r1], fun _ => hc, rfl, by rw [q1]; rfl, rfl, q4, ⟨rfl, q3, _, q5, rfl, rfl, by simpa [Tr.toList] using s2, rfl, rfl⟩, by simp [Tr.refs], fun x hx _ => q6 x (by simpa using hx), q7⟩
  | n + 1, r, .node r0 e0 l u, hn, hr, hnd, hs, hG, hN => by
    obtain ⟨n1, g1, g2⟩ := get_ok ok hP hr
    obtain ⟨rfl, he, hl, hu, hlk⟩ := g2.node rfl
    have hg : (r.gen == 0) = false := by
      have := hP.gen_ne (hP.mem hlk); simpa using this
    obtain ⟨c, c1, c2, c3⟩ := ok.cmp e n1.e
    have hsz : (Tr.node r e0 l u).size = l.size + 1 + u.size := rfl
    have hln : (Tr.node r e0 l u).toList = l.toList ++ e0 :: u.toList := rfl
    have hrL : r ∈ L := hP.mem hlk
    simp only [Tree_put.r, hg, cond_false, g1, Option.bind_some, c1]
    rw [he] at c2 c3
    rw [hln] at hs hG ⊢
    by_cases h1 : c < 0
    · have hlt := c2.1 h1
      simp only [h1, decide_true, cond_true]
      obtain ⟨a, m, b, hcut, hres⟩ := put_ok ok hk hP hB e hGe n (by omega) hl (nodup_left hnd) (sorted_l hs) (fun x hx => hG x (List.mem_append_left _ hx)) (by omega)
      refine ⟨a, m, b ++ e0 :: u.toList, hcut.left ok hs hlt, ?_⟩
      rcases hres with ⟨h2, h3, rr, h4⟩ | ⟨r', p', t', F, h2, h3, h4, h5, h6⟩
      · exact .inl ⟨h2, h3, r, by simp only [h4, Option.bind_some]; rfl⟩
      · right
        have hF : ∀ x ∈ F, x ∉ L := fun x hx hL => (List.nodup_append.1 h6.pw.ld).2.2 x hx x hL rfl
        have hrF : r ∉ F := fun h => hF r h hrL
        have hlk1 : look p' r = some n1 := by rw [h6.frame r hrF (nodup_l hnd)]; exact hlk
        have hu1 : Rep S p' n1.right u := hu.frame (fun x hx => h6.frame x (fun h => hF x h (hu.sub hP x hx)) (fun h => nodup_lu hnd h hx))
        have hperm : (t'.refs ++ r :: u.refs).Perm (F ++ (Tr.node r e0 l u).refs) := by
          have := h6.refs.append_right (r :: u.refs)
          simpa [Tr.refs] using this
        have hFn : (F ++ (Tr.node r e0 l u).refs).Nodup := List.nodup_append.2 ⟨(List.nodup_append.1 h6.pw.ld).1, hnd, fun x hx y hy hxy => hF x hx (hxy ▸ hr.sub hP y hy)⟩
        have hts : t'.size ≤ l.size + 1 := by
          have := congrArg List.length h5
          have h7 := congrArg List.length hcut.eq
          simp only [Tr.len_toList, List.length_append, List.length_cons] at this h7; omega
        obtain ⟨r2, p2, v1, v2⟩ := linkf_ok ok hk h6.pw h6.rep hlk1 hu1 (hperm.nodup_iff.2 hFn) (fun x hx => by
          rw [h5, he] at hx
          simp only [List.mem_append, List.mem_cons] at hx
          have h8 : ∀ y, y ∈ a ∨ y ∈ b → y ∈ l.toList := fun y hy => by rw [hcut.eq]; rcases hy with hy | hy <;> simp [hy]
          rcases hx with (hx | rfl | hx) | rfl | hx
          · exact hG x (List.mem_append_left _ (h8 x (.inl hx)))
          · exact hGe
          · exact hG x (List.mem_append_left _ (h8 x (.inr hx)))
          · exact hG x (by simp)
          · exact hG x (by simp [hx])) (by omega)
        refine ⟨r2, p2, Tr.link k t' r n1.e u, F, h2, h3, ?_, ?_, v2.pw, v2.rep, ?_, fun x hx1 hx2 => ?_, v2.cap.trans h6.cap⟩
        · simp only [h4, Option.bind_some, v1]; rfl
        · rw [Tr.link_list, h5, he]; simp
        · rw [Tr.link_refs]; exact hperm
        · have hx3 : x ∉ l.refs := fun h => hx2 (by simp [Tr.refs, h])
          rw [v2.frame x (fun h => by
            rcases List.mem_append.1 (hperm.mem_iff.1 h) with h | h
            · exact hx1 h
            · exact hx2 h), h6.frame x hx1 hx3]
    · simp only [h1, decide_false, cond_false]
      by_cases h1' : c > 0
      · have hlt := c3.1 h1'
        simp only [h1', decide_true, cond_true]
        obtain ⟨a, m, b, hcut, hres⟩ := put_ok ok hk hP hB e hGe n (by omega) hu (nodup_right hnd) (sorted_u hs) (fun x hx => hG x (by simp [hx])) (by omega)
        refine ⟨l.toList ++ e0 :: a, m, b, hcut.right ok hs hlt, ?_⟩
        rcases hres with ⟨h2, h3, rr, h4⟩ | ⟨r', p', t', F, h2, h3, h4, h5, h6⟩
        · exact .inl ⟨h2, h3, r, by simp only [h4, Option.bind_some]; rfl⟩
        · right
          have hF : ∀ x ∈ F, x ∉ L := fun x hx hL => (List.nodup_append.1 h6.pw.ld).2.2 x hx x hL rfl
          have hrF : r ∉ F := fun h => hF r h hrL
          have hlk1 : look p' r = some n1 := by rw [h6.frame r hrF (nodup_u hnd)]; exact hlk
          have hl1 : Rep S p' n1.left l := hl.frame (fun x hx => h6.frame x (fun h => hF x h (hl.sub hP x hx)) (fun h => nodup_lu hnd hx h))
          have hperm : (l.refs ++ r :: t'.refs).Perm (F ++ (Tr.node r e0 l u).refs) := by
            have h7 : (l.refs ++ r :: t'.refs).Perm (l.refs ++ r :: (F ++ u.refs)) := List.Perm.append_left _ (List.Perm.cons _ h6.refs)
            refine h7.trans ?_
            have : (F ++ (Tr.node r e0 l u).refs) = F ++ ((l.refs ++ [r]) ++ u.refs) := by simp [Tr.refs]
            rw [this, show l.refs ++ r :: (F ++ u.refs) = (l.refs ++ [r]) ++ (F ++ u.refs) by simp, ← List.append_assoc, ← List.append_assoc]
            exact List.Perm.append_right _ List.perm_append_comm
          have hFn : (F ++ (Tr.node r e0 l u).refs).Nodup := List.nodup_append.2 ⟨(List.nodup_append.1 h6.pw.ld).1, hnd, fun x hx y hy hxy => hF x hx (hxy ▸ hr.sub hP y hy)⟩
          have hts : t'.size ≤ u.size + 1 := by
            have := congrArg List.length h5
            have h7 := congrArg List.length hcut.eq
            simp only [Tr.len_toList, List.length_append, List.length_cons] at this h7; omega
          obtain ⟨r2, p2, v1, v2⟩ := linkf_ok ok hk h6.pw hl1 hlk1 h6.rep (hperm.nodup_iff.2 hFn) (fun x hx => by
            rw [h5, he] at hx
            simp only [List.mem_append, List.mem_cons] at hx
            have h8 : ∀ y, y ∈ a ∨ y ∈ b → y ∈ u.toList := fun y hy => by rw [hcut.eq]; rcases hy with hy | hy <;> simp [hy]
            rcases hx with hx | rfl | hx | rfl | hx
            · exact hG x (by simp [hx])
            · exact hG x (by simp)
            · exact hG x (by simp [h8 x (.inl hx)])
            · exact hGe
            · exact hG x (by simp [h8 x (.inr hx)])) (by omega)
          refine ⟨r2, p2, Tr.link k l r n1.e t', F, h2, h3, ?_, ?_, v2.pw, v2.rep, ?_, fun x hx1 hx2 => ?_, v2.cap.trans h6.cap⟩
          · simp only [h4, Option.bind_some, v1]; rfl
          · rw [Tr.link_list, h5, he]; simp
          · rw [Tr.link_refs]; exact hperm
          · have hx3 : x ∉ u.refs := fun h => hx2 (by simp [Tr.refs, h])
            rw [v2.frame x (fun h => by
              rcases List.mem_append.1 (hperm.mem_iff.1 h) with h | h
              · exact hx1 h
              · exact hx2 h), h6.frame x hx1 hx3]
      · simp only [h1', decide_false, cond_false]
        have n1' : ¬ lt e e0 := fun h => h1 (c2.2 h)
        have n2' : ¬ lt e0 e := fun h => h1' (c3.2 h)
        refine ⟨l.toList, [e0], u.toList, Cut.mid ok hs n1' n2', .inr ?_⟩
        obtain ⟨p1, q1, q2, q3, q4, q5⟩ := hP.set hlk (TNode.mk e n1.left n1.right n1.size n1.sum)
        have hl1 : Rep S p1 n1.left l := hl.frame (fun x hx => q4 x (fun h => nodup_l hnd (h ▸ hx)))
        have hu1 : Rep S p1 n1.right u := hu.frame (fun x hx => q4 x (fun h => nodup_u hnd (h ▸ hx)))
        obtain ⟨p2, v1, v2⟩ := lay_ok ok q2 q3 hl1 hu1 (nodup_l hnd) (nodup_u hnd) (fun x hx => by
          simp only [List.mem_append, List.mem_cons] at hx
          rcases hx with hx | rfl | hx
          · exact hG x (by simp [hx])
          · exact hGe
          · exact hG x (by simp [hx])) (by omega)
        refine ⟨r, p2, .node r e l u, [], by simp, rfl, ?_, rfl, v2.pw.mono (Nat.le_succ _) hB, v2.rep, by simp [Tr.refs], fun x hx1 hx2 => ?_, v2.cap.trans q5⟩
        · simp only [q1, Option.bind_some, v1]
        · have hxr : x ≠ r := fun h => hx2 (by simp [Tr.refs, h])
          rw [v2.frame x (by simpa using hxr), q4 x hxr]
end
end Go.Proofs.YtpeoalmhccmdiaaGreat
namespace Go.Proofs.YtpeoalmhccmdiaaGreat
open Go Go.Proofs.YtpeoalmhccmdiaaGreat.Sx
namespace Tr
variable {E : Type}
def ld : Nat → Tr E → Tr E → Nat
  | 0, _, _ => 0
  | n + 1, l, u => if u.w > 3 * l.w then (match u with
      | node _ _ a _ => 1 + ld n l a
      | nil => 0)
    else if l.w > 3 * u.w then (match l with
      | node _ _ _ b => 1 + ld n b u
      | nil => 0)
    else 0
theorem ld_flat (n : Nat) {l u : Tr E} (h1 : u.w ≤ 3 * l.w) (h2 : l.w ≤ 3 * u.w) : ld n l u = 0 := by
  cases n with
  | zero => rfl
  | succ n => rw [ld.eq_def]; simp only; rw [if_neg (by omega), if_neg (by omega)]
theorem ld_near (n : Nat) {l u : Tr E} (hl : WB l) (hu : WB u) (hn : Near l u) : ld n l u ≤ 2 := by
  obtain ⟨n1, n2⟩ := hn
  have p1 := w_pos l; have p2 := w_pos u
  cases n with
  | zero => exact Nat.zero_le _
  | succ n =>
    rw [ld.eq_def]; simp only
    by_cases c1 : u.w > 3 * l.w
    · rw [if_pos c1]
      cases u with
      | nil => exact Nat.zero_le _
      | node r2 e2 a b =>
        simp only
        obtain ⟨x1, x2, x3, x4⟩ := hu
        rw [w_node] at *
        have q1 := w_pos a; have q2 := w_pos b
        by_cases c2 : a.w ≤ 3 * l.w
        · rw [ld_flat _ c2 (by omega)]; omega
        · cases n with
          | zero => simp [ld]
          | succ n =>
            rw [ld.eq_def]; simp only
            rw [if_pos (by omega)]
            cases a with
            | nil => simp
            | node r3 e3 a1 a2 =>
              simp only
              obtain ⟨y1, y2, y3, y4⟩ := x3
              rw [w_node] at *
              have z1 := w_pos a1; have z2 := w_pos a2
              rw [ld_flat _ (by omega) (by omega)]
              omega
    · rw [if_neg c1]
      by_cases c2 : l.w > 3 * u.w
      · rw [if_pos c2]
        cases l with
        | nil => exact Nat.zero_le _
        | node r2 e2 a b =>
          simp only
          obtain ⟨x1, x2, x3, x4⟩ := hl
          rw [w_node] at *
          have q1 := w_pos a; have q2 := w_pos b
          by_cases c3 : b.w ≤ 3 * u.w
          · rw [ld_flat _ (by omega) c3]; omega
          · cases n with
            | zero => simp [ld]
            | succ n =>
              rw [ld.eq_def]; simp only
              rw [if_neg (by omega), if_pos (by omega)]
              cases b with
              | nil => simp
              | node r3 e3 b1 b2 =>
                simp only
                obtain ⟨y1, y2, y3, y4⟩ := x4
                rw [w_node] at *
                have z1 := w_pos b1; have z2 := w_pos b2
                rw [ld_flat _ (by omega) (by omega)]
                omega
      · rw [if_neg c2]; exact Nat.zero_le _
end Tr
section
variable {E A : Type} {O : Ops E A} {k N : Nat} {G : E → Prop} {S : A → List E → Prop} {lt : E → E → Prop}
theorem Rep.uniq {p : PN E A} : ∀ {t t2 : Tr E} {r : TRef}, Rep S p r t → Rep S p r t2 → t = t2
  | .nil, .nil, _, _, _ => rfl
  | .nil, .node _ _ _ _, r, h, h2 => by
    obtain ⟨h3, h4, _⟩ := h2
    have : r = zTRef := h
    subst this; exact absurd rfl h4
  | .node _ _ _ _, .nil, r, h, h2 => by
    obtain ⟨h3, h4, _⟩ := h
    have : r = zTRef := h2
    subst this; exact absurd rfl h4
  | .node r1 e1 l1 u1, .node r2 e2 l2 u2, r, h, h2 => by
    obtain ⟨a1, a2, n, a3, a4, a5, a6, a7, a8⟩ := h
    obtain ⟨b1, b2, m, b3, b4, b5, b6, b7, b8⟩ := h2
    rw [a3] at b3; cases b3
    subst a1; subst b1; subst a4; subst b4
    rw [a7.uniq b7, a8.uniq b8]
theorem w3 {n : Nat} (h : n < 4294967296) : w64 (3 * (n : Int)) = ((3 * n : Nat) : Int) := by simp only [w64, IntKind.wrap_i64]; omega
theorem link_v (ok : OpsOk O k N G S lt) : ∀ (n : Nat) {p : PN E A} {L : List TRef} {B : Nat} (hP : PW p L B) {a m b : TRef} {l u : Tr E} (hl : Rep S p a l) (hu : Rep S p b u) (hN : l.size + 1 + u.size < N) {r' : TRef} {p' : PN E A} (h : Tree_link.r O k n p a m b = some (r', p')) {v : Int} (h0 : 0 ≤ v) (hb : v + 100 * (Tr.ld n l u : Nat) + 200 < 4611686018427387904),
    ∃ v', VTree_link.r O k n (vz p v) a m b = some (r', vz p' v') ∧ v ≤ v' ∧ v' ≤ v + 37 * (Tr.ld n l u : Nat) + 6
  | 0, _, _, _, _, _, _, _, _, _, _, _, _, _, _, h, _, _, _ => by cases h
  | n + 1, p, L, B, hP, a, m, b, l, u, hl, hu, hN, r', p', h, v, h0, hb => by
    have hbig := ok.big
    have wl := weight_ok ok hP hl (by omega)
    have wu := weight_ok ok hP hu (by omega)
    simp only [Tree_link.r, wl, wu, Option.bind_some] at h
    obtain ⟨v1, a1, b1, c1⟩ := weight_v wl h0 (by omega)
    obtain ⟨v2, a2, b2, c2⟩ := weight_v wu (v := v1) (by omega) (by omega)
    simp only [VTree_link.r, a1, a2, Option.bind_some]
    rw [w3 (by simp only [Tr.w]; omega), w3 (by simp only [Tr.w]; omega)] at h
    rw [w3 (by simp only [Tr.w]; omega), w3 (by simp only [Tr.w]; omega)]
    rw [Tr.ld.eq_def] at hb ⊢
    simp only at hb ⊢
    by_cases c3 : u.w > 3 * l.w
    · have d3 : decide (((u.w : Nat) : Int) > ((3 * l.w : Nat) : Int)) = true := decide_eq_true (by omega)
      rw [d3, cond_true] at h
      rw [d3, cond_true]
      rw [if_pos c3] at hb ⊢
      cases u with
      | nil => have := Tr.w_pos l; rw [Tr.w_nil] at c3; omega
      | node r2 e2 c d =>
        simp only at hb ⊢
        obtain ⟨n2, q1, q2⟩ := get_ok ok hP hu
        obtain ⟨hr2, he2, hc, hd, hlk2⟩ := q2.node rfl
        simp only [Tr.size] at hN
        rw [q1, Option.bind_some] at h
        obtain ⟨x4, g4, h⟩ := bnd h
        obtain ⟨x5, g5, h⟩ := bnd h
        obtain ⟨x6, g6, h⟩ := bnd h
        cases h
        obtain ⟨v3, a3, b3, e3⟩ := get_v q1 (v := v2) (by omega) (by omega)
        obtain ⟨v4, a4, b4, e4⟩ := link_v ok n hP hl hc (by omega) (r' := x4.1) (p' := x4.2) g4 (v := v3) (by omega) (by omega)
        obtain ⟨v5, a5, b5, e5⟩ := lay_v (r' := x5.1) (p' := x5.2) g5 (v := v4) (by omega) (by omega)
        obtain ⟨v6, a6, b6, e6⟩ := balance_v (r' := x6.1) (p' := x6.2) g6 (v := v5) (by omega) (by omega)
        exact ⟨v6, by simp only [a3, a4, a5, a6, Option.bind_some], by omega, by omega⟩
    · have d3 : decide (((u.w : Nat) : Int) > ((3 * l.w : Nat) : Int)) = false := decide_eq_false (by omega)
      rw [d3, cond_false] at h
      rw [d3, cond_false]
      rw [if_neg c3] at hb ⊢
      by_cases c4 : l.w > 3 * u.w
      · have d4 : decide (((l.w : Nat) : Int) > ((3 * u.w : Nat) : Int)) = true := decide_eq_true (by omega)
        rw [d4, cond_true] at h
        rw [d4, cond_true]
        rw [if_pos c4] at hb ⊢
        cases l with
        | nil => have := Tr.w_pos u; rw [Tr.w_nil] at c4; omega
        | node r2 e2 c d =>
          simp only at hb ⊢
          obtain ⟨n2, q1, q2⟩ := get_ok ok hP hl
          obtain ⟨hr2, he2, hc, hd, hlk2⟩ := q2.node rfl
          simp only [Tr.size] at hN
          rw [q1, Option.bind_some] at h
          obtain ⟨x4, g4, h⟩ := bnd h
          obtain ⟨x5, g5, h⟩ := bnd h
          obtain ⟨x6, g6, h⟩ := bnd h
          cases h
          obtain ⟨v3, a3, b3, e3⟩ := get_v q1 (v := v2) (by omega) (by omega)
          obtain ⟨v4, a4, b4, e4⟩ := link_v ok n hP hd hu (by omega) (r' := x4.1) (p' := x4.2) g4 (v := v3) (by omega) (by omega)
          obtain ⟨v5, a5, b5, e5⟩ := lay_v (r' := x5.1) (p' := x5.2) g5 (v := v4) (by omega) (by omega)
          obtain ⟨v6, a6, b6, e6⟩ := balance_v (r' := x6.1) (p' := x6.2) g6 (v := v5) (by omega) (by omega)
          exact ⟨v6, by simp only [a3, a4, a5, a6, Option.bind_some], by omega, by omega⟩
      · have d4 : decide (((l.w : Nat) : Int) > ((3 * u.w : Nat) : Int)) = false := decide_eq_false (by omega)
        rw [d4, cond_false] at h
        rw [d4, cond_false]
        obtain ⟨x4, g4, h⟩ := bnd h
        cases h
        obtain ⟨v4, a4, b4, e4⟩ := lay_v (r' := x4.1) (p' := x4.2) g4 (v := v2) (by omega) (by omega)
        exact ⟨v4, by simp only [a4, Option.bind_some], by omega, by omega⟩
theorem linkf_v (ok : OpsOk O k N G S lt) {p : PN E A} {L : List TRef} {B : Nat} (hP : PW p L B) {a m b : TRef} {l u : Tr E} (hl : Rep S p a l) (hu : Rep S p b u) (hN : l.size + 1 + u.size < N) (wl : Tr.WB l) (wu : Tr.WB u) (hn : Tr.Near l u) {r' : TRef} {p' : PN E A} (h : Tree_link.f O k p a m b = some (r', p')) {v : Int} (h0 : 0 ≤ v) (hb : v + 400 < 4611686018427387904) :
    ∃ v', VTree_link.f O k (vz p v) a m b = some (r', vz p' v') ∧ v ≤ v' ∧ v' ≤ v + 80 := by
  have hd := Tr.ld_near k wl wu hn
  obtain ⟨v', h1, h2, h3⟩ := link_v ok k hP hl hu hN (m := m) h h0 (by omega)
  exact ⟨v', h1, h2, by omega⟩
end
end Go.Proofs.YtpeoalmhccmdiaaGreat
namespace Go.Proofs.YtpeoalmhccmdiaaGreat
open Go Go.Proofs.YtpeoalmhccmdiaaGreat.Sx
theorem pPut_v {α : Type} {z : α} {p : Pool α} {y : α} {x : ((Int × Int) × Bool) × Pool α} (h : pPut z p y = some x) (v : Int) : pPut z (vz p v) y = some (x.1, vz x.2 v) := by
  unfold pPut at h ⊢
  rw [vz_ok]
  cases hp : decide (pOk p) with
  | false => rw [hp] at h; cases h
  | true =>
    rw [hp, cond_true] at h
    rw [cond_true]
    cases h
    unfold Pool.put Pool.next
    by_cases hh : p.held = p.cap
    · simp only [hh, if_true]
    · simp only [hh, if_false]
      cases hl : p.free.getLast? with
      | none =>
        simp only
        split <;> rfl
      | some i =>
        simp only
        split <;> rfl
namespace Tr
variable {E : Type}
theorem wb_one {t : Tr E} (h : t.size = 1) : WB t := by
  cases t with
  | nil => trivial
  | node r e l u =>
    simp only [size] at h
    have hl := w_one (t := l) (by simp only [w]; omega)
    have hu := w_one (t := u) (by simp only [w]; omega)
    subst hl; subst hu
    exact ⟨by rw [w_nil]; omega, by rw [w_nil]; omega, trivial, trivial⟩
theorem link_wbk {k : Nat} (hk : 3 ≤ k) {l u : Tr E} {r : TRef} {e : E} (hl : WB l) (hu : WB u) (hn : Near l u) : WB (link k l r e u) := by
  obtain ⟨n, rfl⟩ : ∃ n, k = n + 3 := ⟨k - 3, by omega⟩
  exact link_wb n hl hu hn
end Tr
section
variable {E A : Type} {O : Ops E A} {k N : Nat} {G : E → Prop} {S : A → List E → Prop} {lt : E → E → Prop}
theorem put_v (ok : OpsOk O k N G S lt) (hk : N ≤ k) (h3 : 3 ≤ k) {p : PN E A} {L : List TRef} {B : Nat} (hP : PW p L B) (hB : B + 1 < 4294967295) (e : E) (hGe : G e) : ∀ (n : Nat) {r : TRef} {t : Tr E}, t.size < n → Rep S p r t → t.refs.Nodup → InOrd lt t.toList → (∀ x ∈ t.toList, G x) → t.size + 1 < N → Tr.WB t →
    ∀ {r' : TRef} {f : Bool} {p' : PN E A}, Tree_put.r O k n p r e = some (r', f, p') → ∀ {v : Int}, 0 ≤ v → v + 1000 * (t.ht + 1 : Nat) < 4611686018427387904 →
    (f = true → ∃ t', Rep S p' r' t' ∧ Tr.WB t' ∧ t.w ≤ t'.w ∧ t'.w ≤ t.w + 1) ∧ ∃ v', VTree_put.r O k n (vz p v) r e = some (r', f, vz p' v') ∧ v ≤ v' ∧ v' ≤ v + 82 * (t.ht : Nat)
  | 0, _, _, h, _, _, _, _, _, _, _, _, _, _, _, _, _ => by omega
  | n + 1, r, .nil, hn, hr, hnd, hs, hG, hN, hw, r', f, p', h, v, h0, hb => by
    have e0 : (r.gen == 0) = true := by simpa using hr.nil_iff.2 rfl
    obtain ⟨s, s1, s2⟩ := ok.sum e hGe
    have h' := h
    simp only [Tree_put.r, e0, cond_true, s1, Option.bind_some] at h
    simp only [VTree_put.r, e0, cond_true, s1, Option.bind_some]
    obtain ⟨x, g, h⟩ := bnd h
    cases h
    refine ⟨fun hf => ?_, v, by rw [pPut_v g v]; rfl, by omega, by omega⟩
    obtain ⟨a, m, b, hcut, hres⟩ := put_ok ok hk hP hB e hGe (n + 1) (t := .nil) hn hr hnd hs hG hN
    rcases hres with ⟨_, _, rr, h4⟩ | ⟨r2, p2, t', F, h2, h3', h4, h5, h6⟩
    · rw [h4] at h'; simp only [Option.some.injEq, Prod.mk.injEq] at h'; rw [← h'.2.1] at hf; cases hf
    · rw [h4] at h'; simp only [Option.some.injEq, Prod.mk.injEq] at h'
      have hsz : t'.size = 1 := by
        have h7 := congrArg List.length h5
        have h8 := congrArg List.length hcut.eq
        simp only [Tr.len_toList, List.length_append, List.length_cons, Tr.toList, List.length_nil] at h7 h8; omega
      refine ⟨t', ?_, Tr.wb_one hsz, by simp only [Tr.w, Tr.size]; omega, by simp only [Tr.w, Tr.size]; omega⟩
      rw [← h'.1, ← h'.2.2]; exact h6.rep
  | n + 1, r, .node r0 e0 l u, hn, hr, hnd, hs, hG, hN, hw, rz, f, pz, h, v, h0, hb => by
    obtain ⟨n1, g1, g2⟩ := get_ok ok hP hr
    obtain ⟨rfl, he, hl, hu, hlk⟩ := g2.node rfl
    have hg : (r.gen == 0) = false := by
      have := hP.gen_ne (hP.mem hlk); simpa using this
    obtain ⟨c, c1, c2, c3⟩ := ok.cmp e n1.e
    have hsz : (Tr.node r e0 l u).size = l.size + 1 + u.size := rfl
    have hln : (Tr.node r e0 l u).toList = l.toList ++ e0 :: u.toList := rfl
    have hht : (Tr.node r e0 l u).ht = 1 + max l.ht u.ht := rfl
    have hww := Tr.w_node r e0 l u
    obtain ⟨w1, w2, w3', w4⟩ := hw
    have hrL : r ∈ L := hP.mem hlk
    obtain ⟨v1, a1, b1, d1⟩ := get_v g1 h0 (by omega)
    simp only [Tree_put.r, hg, cond_false, g1, Option.bind_some, c1] at h
    simp only [VTree_put.r, hg, cond_false, a1, Option.bind_some, c1]
    rw [hln] at hs hG
    by_cases h1 : c < 0
    · simp only [h1, decide_true, cond_true] at h ⊢
      obtain ⟨x5, g5, h⟩ := bnd h
      obtain ⟨ih1, v2, a2, b2, d2⟩ := put_v ok hk h3 hP hB e hGe n (by omega) hl (nodup_left hnd) (sorted_l hs) (fun x hx => hG x (List.mem_append_left _ hx)) (by omega) w3' (r' := x5.1) (f := x5.2.1) (p' := x5.2.2) g5 (v := v1) (by omega) (by omega)
      simp only [a2, Option.bind_some]
      obtain ⟨a, m, b, hcut, hres⟩ := put_ok ok hk hP hB e hGe n (by omega) hl (nodup_left hnd) (sorted_l hs) (fun x hx => hG x (List.mem_append_left _ hx)) (by omega)
      rcases hres with ⟨_, _, rr, h4⟩ | ⟨r', p', t', F, h2, h3', h4, h5, h6⟩
      · rw [h4] at g5
        cases g5
        simp only [Bool.not_false, cond_true] at h ⊢
        cases h
        exact ⟨fun h => (by cases h), v2, rfl, by omega, by omega⟩
      · rw [h4] at g5
        cases g5
        simp only [Bool.not_true, cond_false] at h ⊢
        obtain ⟨x6, g6, h⟩ := bnd h
        cases h
        have hF : ∀ x ∈ F, x ∉ L := fun x hx hL => (List.nodup_append.1 h6.pw.ld).2.2 x hx x hL rfl
        have hrF : r ∉ F := fun h => hF r h hrL
        have hlk1 : look p' r = some n1 := by rw [h6.frame r hrF (nodup_l hnd)]; exact hlk
        have hu1 : Rep S p' n1.right u := hu.frame (fun x hx => h6.frame x (fun h => hF x h (hu.sub hP x hx)) (fun h => nodup_lu hnd h hx))
        have hperm : (t'.refs ++ r :: u.refs).Perm (F ++ (Tr.node r e0 l u).refs) := by
          have := h6.refs.append_right (r :: u.refs)
          simpa [Tr.refs] using this
        have hFn : (F ++ (Tr.node r e0 l u).refs).Nodup := List.nodup_append.2 ⟨(List.nodup_append.1 h6.pw.ld).1, hnd, fun x hx y hy hxy => hF x hx (hxy ▸ hr.sub hP y hy)⟩
        obtain ⟨t2, k1, k2, k3, k4⟩ := ih1 rfl
        have k1' : Rep S p' r' t2 := k1
        have := h6.rep.uniq k1'
        subst this
        have hts : t'.size ≤ l.size + 1 := by simp only [Tr.w] at k4; omega
        obtain ⟨r2, p2, y1, y2⟩ := linkf_ok ok hk h6.pw h6.rep hlk1 hu1 (hperm.nodup_iff.2 hFn) (fun x hx => by
          rw [h5, he] at hx
          simp only [List.mem_append, List.mem_cons] at hx
          have h8 : ∀ y, y ∈ a ∨ y ∈ b → y ∈ l.toList := fun y hy => by rw [hcut.eq]; rcases hy with hy | hy <;> simp [hy]
          rcases hx with (hx | rfl | hx) | rfl | hx
          · exact hG x (List.mem_append_left _ (h8 x (.inl hx)))
          · exact hGe
          · exact hG x (List.mem_append_left _ (h8 x (.inr hx)))
          · exact hG x (by simp)
          · exact hG x (by simp [hx])) (by omega)
        have hnear : Tr.Near t' u := ⟨by omega, by omega⟩
        have g6' : Tree_link.f O k p' r' r n1.right = some x6 := g6
        have y1' := y1
        rw [y1] at g6'
        cases g6'
        obtain ⟨v3, a3, b3, d3⟩ := linkf_v ok h6.pw h6.rep hu1 (by omega) k2 w4 hnear y1' (v := v2) (by omega) (by omega)
        have a3' : VTree_link.f O k (vz p' v2) r' r n1.right = _ := a3
        refine ⟨fun _ => ⟨_, y2.rep, Tr.link_wbk h3 k2 w4 hnear, ?_, ?_⟩, v3, by simp only [a3', Option.bind_some], by omega, by omega⟩
        · have := Tr.link_size k t' r n1.e u
          simp only [Tr.w] at *; omega
        · have := Tr.link_size k t' r n1.e u
          simp only [Tr.w] at *; omega
    · simp only [h1, decide_false, cond_false] at h ⊢
      by_cases h1' : c > 0
      · simp only [h1', decide_true, cond_true] at h ⊢
        obtain ⟨x5, g5, h⟩ := bnd h
        obtain ⟨ih1, v2, a2, b2, d2⟩ := put_v ok hk h3 hP hB e hGe n (by omega) hu (nodup_right hnd) (sorted_u hs) (fun x hx => hG x (by simp [hx])) (by omega) w4 (r' := x5.1) (f := x5.2.1) (p' := x5.2.2) g5 (v := v1) (by omega) (by omega)
        simp only [a2, Option.bind_some]
        obtain ⟨a, m, b, hcut, hres⟩ := put_ok ok hk hP hB e hGe n (by omega) hu (nodup_right hnd) (sorted_u hs) (fun x hx => hG x (by simp [hx])) (by omega)
        rcases hres with ⟨_, _, rr, h4⟩ | ⟨r', p', t', F, h2, h3', h4, h5, h6⟩
        · rw [h4] at g5
          cases g5
          simp only [Bool.not_false, cond_true] at h ⊢
          cases h
          exact ⟨fun h => (by cases h), v2, rfl, by omega, by omega⟩
        · rw [h4] at g5
          cases g5
          simp only [Bool.not_true, cond_false] at h ⊢
          obtain ⟨x6, g6, h⟩ := bnd h
          cases h
          have hF : ∀ x ∈ F, x ∉ L := fun x hx hL => (List.nodup_append.1 h6.pw.ld).2.2 x hx x hL rfl
          have hrF : r ∉ F := fun h => hF r h hrL
          have hlk1 : look p' r = some n1 := by rw [h6.frame r hrF (nodup_u hnd)]; exact hlk
          have hl1 : Rep S p' n1.left l := hl.frame (fun x hx => h6.frame x (fun h => hF x h (hl.sub hP x hx)) (fun h => nodup_lu hnd hx h))
          have hperm : (l.refs ++ r :: t'.refs).Perm (F ++ (Tr.node r e0 l u).refs) := by
            have h7 : (l.refs ++ r :: t'.refs).Perm (l.refs ++ r :: (F ++ u.refs)) := List.Perm.append_left _ (List.Perm.cons _ h6.refs)
            refine h7.trans ?_
            have : (F ++ (Tr.node r e0 l u).refs) = F ++ ((l.refs ++ [r]) ++ u.refs) := by simp [Tr.refs]
            rw [this, show l.refs ++ r :: (F ++ u.refs) = (l.refs ++ [r]) ++ (F ++ u.refs) by simp, ← List.append_assoc, ← List.append_assoc]
            exact List.Perm.append_right _ List.perm_append_comm
          have hFn : (F ++ (Tr.node r e0 l u).refs).Nodup := List.nodup_append.2 ⟨(List.nodup_append.1 h6.pw.ld).1, hnd, fun x hx y hy hxy => hF x hx (hxy ▸ hr.sub hP y hy)⟩
          obtain ⟨t2, k1, k2, k3, k4⟩ := ih1 rfl
          have k1' : Rep S p' r' t2 := k1
          have := h6.rep.uniq k1'
          subst this
          have hts : t'.size ≤ u.size + 1 := by simp only [Tr.w] at k4; omega
          obtain ⟨r2, p2, y1, y2⟩ := linkf_ok ok hk h6.pw hl1 hlk1 h6.rep (hperm.nodup_iff.2 hFn) (fun x hx => by
            rw [h5, he] at hx
            simp only [List.mem_append, List.mem_cons] at hx
            have h8 : ∀ y, y ∈ a ∨ y ∈ b → y ∈ u.toList := fun y hy => by rw [hcut.eq]; rcases hy with hy | hy <;> simp [hy]
            rcases hx with hx | rfl | hx | rfl | hx
            · exact hG x (by simp [hx])
            · exact hG x (by simp)
            · exact hG x (by simp [h8 x (.inl hx)])
            · exact hGe
            · exact hG x (by simp [h8 x (.inr hx)])) (by omega)
          have hnear : Tr.Near l t' := ⟨by omega, by omega⟩
          have g6' : Tree_link.f O k p' n1.left r r' = some x6 := g6
          have y1' := y1
          rw [y1] at g6'
          cases g6'
          obtain ⟨v3, a3, b3, d3⟩ := linkf_v ok h6.pw hl1 h6.rep (by omega) w3' k2 hnear y1' (v := v2) (by omega) (by omega)
          have a3' : VTree_link.f O k (vz p' v2) n1.left r r' = _ := a3
          refine ⟨fun _ => ⟨_, y2.rep, Tr.link_wbk h3 w3' k2 hnear, ?_, ?_⟩, v3, by simp only [a3', Option.bind_some], by omega, by omega⟩
          · have := Tr.link_size k l r n1.e t'
            simp only [Tr.w] at *; omega
          · have := Tr.link_size k l r n1.e t'
            simp only [Tr.w] at *; omega
      · simp only [h1', decide_false, cond_false] at h ⊢
        obtain ⟨x9, g9, h⟩ := bnd h
        obtain ⟨x10, g10, h⟩ := bnd h
        cases h
        obtain ⟨v2, a2, b2, d2⟩ := pSet_v g9 (v := v1) (by omega) (by omega)
        obtain ⟨v3, a3, b3, d3⟩ := lay_v (r' := x10.1) (p' := x10.2) g10 (v := v2) (by omega) (by omega)
        refine ⟨fun _ => ?_, v3, by simp only [a2, a3, Option.bind_some], by omega, by omega⟩
        obtain ⟨p1, q1, q2, q3, q4, q5⟩ := hP.set hlk (TNode.mk e n1.left n1.right n1.size n1.sum)
        have hl1 : Rep S p1 n1.left l := hl.frame (fun x hx => q4 x (fun h => nodup_l hnd (h ▸ hx)))
        have hu1 : Rep S p1 n1.right u := hu.frame (fun x hx => q4 x (fun h => nodup_u hnd (h ▸ hx)))
        obtain ⟨p2, y1, y2⟩ := lay_ok ok q2 q3 hl1 hu1 (nodup_l hnd) (nodup_u hnd) (fun x hx => by
          simp only [List.mem_append, List.mem_cons] at hx
          rcases hx with hx | rfl | hx
          · exact hG x (by simp [hx])
          · exact hGe
          · exact hG x (by simp [hx])) (by omega)
        rw [q1] at g9
        cases g9
        rw [y1] at g10
        cases g10
        exact ⟨.node r e l u, y2.rep, ⟨w1, w2, w3', w4⟩, by rw [hww, Tr.w_node]; exact Nat.le_refl _, by rw [hww, Tr.w_node]; omega⟩
end
end Go.Proofs.YtpeoalmhccmdiaaGreat
namespace Go.Proofs.YtpeoalmhccmdiaaGreat
open Go Go.Proofs.YtpeoalmhccmdiaaGreat.Sx
section
variable {E A : Type} {O : Ops E A} {k N : Nat} {G : E → Prop} {S : A → List E → Prop} {lt : E → E → Prop}
theorem PW.ne0 {p : PN E A} {L : List TRef} {B : Nat} (hP : PW p L B) {r : TRef} {n : TNode E A} (h : look p r = some n) : (r.gen == 0) = false := by
  have := hP.gen_ne (hP.mem h); simpa using this
theorem find_ok (ok : OpsOk O k N G S lt) {p : PN E A} {L : List TRef} {B : Nat} (hP : PW p L B) (e : E) : ∀ (n : Nat) {r : TRef} {t : Tr E}, t.size < n → Rep S p r t → InOrd lt t.toList →
    ∃ a m b, Cut lt e t.toList a m b ∧ Tree_Find.l0 O k p e n r = some (match m with | y :: _ => Sum.inl (y, true) | [] => Sum.inr ())
  | 0, _, _, h, _, _ => by omega
  | n + 1, r, .nil, hn, hr, hs => by
    refine ⟨[], [], [], Cut.nil e, ?_⟩
    have e0 : (r.gen != 0) = false := by simpa using hr.nil_iff.2 rfl
    simp only [Tree_Find.l0, e0, cond_false]
  | n + 1, r, .node r0 e0 l u, hn, hr, hs => by
    obtain ⟨n1, g1, g2⟩ := get_ok ok hP hr
    obtain ⟨rfl, he, hl, hu, hlk⟩ := g2.node rfl
    have hg : (r.gen != 0) = true := by have := hP.ne0 hlk; rw [bne, this]; rfl
    obtain ⟨c, c1, c2, c3⟩ := ok.cmp e n1.e
    have hsz : (Tr.node r e0 l u).size = l.size + 1 + u.size := rfl
    have hln : (Tr.node r e0 l u).toList = l.toList ++ e0 :: u.toList := rfl
    simp only [Tree_Find.l0, hg, cond_true, g1, Option.bind_some, c1]
    rw [he] at c2 c3
    rw [hln] at hs ⊢
    by_cases h1 : c < 0
    · have h0 : (c == 0) = false := by simp; omega
      simp only [h1, h0, decide_true, cond_true, cond_false]
      obtain ⟨a, m, b, hcut, hres⟩ := find_ok ok hP e n (by omega) hl (sorted_l hs)
      exact ⟨a, m, b ++ e0 :: u.toList, hcut.left ok hs (c2.1 h1), hres⟩
    · by_cases h2 : c > 0
      · have h0 : (c == 0) = false := by simp; omega
        simp only [h1, h0, decide_false, cond_false]
        obtain ⟨a, m, b, hcut, hres⟩ := find_ok ok hP e n (by omega) hu (sorted_u hs)
        exact ⟨l.toList ++ e0 :: a, m, b, hcut.right ok hs (c3.1 h2), hres⟩
      · have h0 : (c == 0) = true := by simp; omega
        simp only [h0, cond_true]
        exact ⟨l.toList, [e0], u.toList, Cut.mid ok hs (fun h => h1 (c2.2 h)) (fun h => h2 (c3.2 h)), by rw [he]⟩
theorem rank_ok (ok : OpsOk O k N G S lt) {p : PN E A} {L : List TRef} {B : Nat} (hP : PW p L B) (e : E) : ∀ (n : Nat) {r : TRef} {t : Tr E} (s : Nat), t.size < n → Rep S p r t → InOrd lt t.toList → s + t.size < 4294967296 →
    ∃ a m b, Cut lt e t.toList a m b ∧ Tree_Rank.l0 O k p e n ((s : Int), r) = some (((s + a.length : Nat)) : Int)
  | 0, _, _, _, h, _, _, _ => by omega
  | n + 1, r, .nil, s, hn, hr, hs, hb => by
    refine ⟨[], [], [], Cut.nil e, ?_⟩
    have e0 : (r.gen != 0) = false := by simpa using hr.nil_iff.2 rfl
    simp only [Tree_Rank.l0, e0, cond_false, List.length_nil, Nat.add_zero]
  | n + 1, r, .node r0 e0 l u, s, hn, hr, hs, hb => by
    obtain ⟨n1, g1, g2⟩ := get_ok ok hP hr
    obtain ⟨rfl, he, hl, hu, hlk⟩ := g2.node rfl
    have hg : (r.gen != 0) = true := by have := hP.ne0 hlk; rw [bne, this]; rfl
    obtain ⟨c, c1, c2, c3⟩ := ok.cmp e n1.e
    have hsz : (Tr.node r e0 l u).size = l.size + 1 + u.size := rfl
    have hln : (Tr.node r e0 l u).toList = l.toList ++ e0 :: u.toList := rfl
    have hw := weight_ok ok hP hl (by omega)
    simp only [Tree_Rank.l0, hg, cond_true, g1, Option.bind_some, c1]
    rw [he] at c2 c3
    rw [hln] at hs ⊢
    by_cases h2 : c > 0
    · have h0 : decide (c ≤ 0) = false := by simp; omega
      simp only [h0, cond_false, hw, Option.bind_some]
      rw [w64_id (by simp only [Tr.w]; omega) (by simp only [Tr.w]; omega), show (s : Int) + ((l.w : Nat) : Int) = ((s + l.w : Nat) : Int) by omega]
      obtain ⟨a, m, b, hcut, hres⟩ := rank_ok ok hP e n (s + l.w) (by omega) hu (sorted_u hs) (by simp only [Tr.w]; omega)
      refine ⟨l.toList ++ e0 :: a, m, b, hcut.right ok hs (c3.1 h2), ?_⟩
      rw [hres]
      simp only [List.length_append, List.length_cons, Tr.len_toList, Tr.w]
      congr 2; omega
    · have h0 : decide (c ≤ 0) = true := by simp; omega
      simp only [h0, cond_true]
      by_cases h1 : c < 0
      · obtain ⟨a, m, b, hcut, hres⟩ := rank_ok ok hP e n s (by omega) hl (sorted_l hs) (by omega)
        exact ⟨a, m, b ++ e0 :: u.toList, hcut.left ok hs (c2.1 h1), hres⟩
      · have m1 : ¬ lt e e0 := fun h => h1 (c2.2 h)
        have m2 : ¬ lt e0 e := fun h => h2 (c3.2 h)
        obtain ⟨a, m, b, hcut, hres⟩ := rank_ok ok hP e n s (by omega) hl (sorted_l hs) (by omega)
        refine ⟨l.toList, [e0], u.toList, Cut.mid ok hs m1 m2, ?_⟩
        have hmid := Cut.mid ok hs m1 m2
        have hmb : m ++ b = [] := by
          cases hmb : m ++ b with
          | nil => rfl
          | cons x q =>
            have hx : x ∈ l.toList := by rw [hcut.eq, hmb]; simp
            have h3 := hmid.la x hx
            cases m with
            | nil =>
              have hbx : b = x :: q := by simpa using hmb
              exact absurd (ok.trans h3 (hcut.lb x (by rw [hbx]; simp))) (ok.irrefl x)
            | cons y ys =>
              rcases hcut.lm with h | ⟨y', h, h4, h5⟩
              · cases h
              · cases h
                have : y = x := by simpa using (List.cons.inj hmb).1
                exact absurd h3 (this ▸ h5)
        rw [hres, hcut.eq, hmb, List.append_nil]
def seg {α : Type} (l : List α) (i j : Int) : List α := (l.take j.toNat).drop i.toNat
theorem seg_nil {α : Type} {l : List α} {i j : Int} (h : i ≥ j ∨ i ≥ l.length ∨ j ≤ 0 ∨ l.length = 0) : seg l i j = [] := by
  unfold seg
  apply List.drop_eq_nil_of_le
  rw [List.length_take]
  omega
theorem seg_all {α : Type} {l : List α} {i j : Int} (h1 : i ≤ 0) (h2 : j ≥ l.length) : seg l i j = l := by
  unfold seg
  rw [List.take_of_length_le (by omega), show i.toNat = 0 by omega, List.drop_zero]
theorem seg_node {α : Type} (l u : List α) (e : α) (i j : Int) : seg (l ++ e :: u) i j = seg l i j ++ ((if i ≤ l.length ∧ j > l.length then [e] else []) ++ seg u (i - l.length - 1) (j - l.length - 1)) := by
  by_cases hj : j > l.length
  · have h1 : (l ++ e :: u).take j.toNat = l ++ e :: u.take (j - l.length - 1).toNat := by
      rw [List.take_append, List.take_of_length_le (by omega), show j.toNat - l.length = (j - l.length - 1).toNat + 1 by omega, List.take_succ_cons]
    have h2 : seg l i j = l.drop i.toNat := by unfold seg; rw [List.take_of_length_le (by omega)]
    unfold seg at h2 ⊢
    rw [h1, h2, List.drop_append]
    congr 1
    by_cases hi : i ≤ l.length
    · rw [if_pos ⟨hi, hj⟩, show i.toNat - l.length = 0 by omega, show (i - (l.length : Int) - 1).toNat = 0 by omega]; rfl
    · rw [if_neg (fun h => hi h.1), show i.toNat - l.length = (i - (l.length : Int) - 1).toNat + 1 by omega]; rfl
  · rw [if_neg (fun h => hj h.2), seg_nil (l := u) (.inr (.inr (.inl (by omega))))]
    unfold seg
    rw [List.take_append_of_le_length (by omega)]; simp
theorem seg_sub {α : Type} (l : List α) (i j : Int) : (seg l i j).Sublist l := (List.drop_sublist _ _).trans (List.take_sublist _ _)
theorem between_ok (ok : OpsOk O k N G S lt) {p : PN E A} {L : List TRef} {B : Nat} (hP : PW p L B) : ∀ (n : Nat) {r : TRef} {t : Tr E} (i j : Int), t.size < n → Rep S p r t → (∀ x ∈ t.toList, G x) → t.size < N →
    -4611686018427387904 ≤ i - t.size → -4611686018427387904 ≤ j - t.size → i ≤ 4611686018427387904 → j ≤ 4611686018427387904 → ∃ c, Tree_between.r O k n p r i j = some c ∧ S c (seg t.toList i j)
  | 0, _, _, _, _, h, _, _, _, _, _, _, _ => by omega
  | n + 1, r, t, i, j, hn, hr, hG, hN, b1, b2, b3, b4 => by
    have hbig := ok.big
    obtain ⟨n1, g1, g2⟩ := get_ok ok hP hr
    have hll := Tr.len_toList t
    simp only [Tree_between.r, g1, Option.bind_some, g2.size]
    by_cases h1 : i ≥ j
    · simp only [h1, decide_true, cond_true, Option.bind_some, Sum.elim_inl]
      exact ⟨_, rfl, by rw [seg_nil (.inl h1)]; exact ok.zero⟩
    · simp only [h1, decide_false, cond_false]
      by_cases h2 : i ≥ (t.size : Int)
      · simp only [h2, decide_true, cond_true, Option.bind_some, Sum.elim_inl]
        exact ⟨_, rfl, by rw [seg_nil (.inr (.inl (by omega)))]; exact ok.zero⟩
      · simp only [h2, decide_false, cond_false]
        by_cases h3 : j ≤ 0
        · simp only [h3, decide_true, cond_true, Option.bind_some, Sum.elim_inl]
          exact ⟨_, rfl, by rw [seg_nil (.inr (.inr (.inl h3)))]; exact ok.zero⟩
        · simp only [h3, decide_false, cond_false]
          cases t with
          | nil => exact ⟨_, rfl, by rw [seg_nil (.inr (.inr (.inr rfl)))]; exact ok.zero⟩
          | node r0 e0 l u =>
            have hsz : (Tr.node r0 e0 l u).size = l.size + 1 + u.size := rfl
            have h4 : ((((Tr.node r0 e0 l u).size : Nat) : Int) == 0) = false := by simp; omega
            simp only [h4, cond_false, Option.bind_some, Sum.elim_inr]
            by_cases h5 : i ≤ 0 ∧ j ≥ ((Tr.node r0 e0 l u).size : Int)
            · simp only [h5.1, h5.2, decide_true, cond_true, Option.bind_some, Sum.elim_inl]
              exact ⟨_, rfl, by rw [seg_all h5.1 (by rw [hll]; exact h5.2)]; exact g2.sum⟩
            · have h6 : (bif decide (i ≤ 0) then (bif decide (j ≥ ((Tr.node r0 e0 l u).size : Int)) then some (Sum.inl n1.sum) else some (Sum.inr ())) else some (Sum.inr () : Sum A Unit)) = some (Sum.inr ()) := by
                by_cases h7 : i ≤ 0
                · have h8 : ¬ j ≥ ((Tr.node r0 e0 l u).size : Int) := fun h => h5 ⟨h7, h⟩
                  simp only [h7, h8, decide_true, decide_false, cond_true, cond_false]
                · simp only [h7, decide_false, cond_false]
              rw [h6]
              obtain ⟨rfl, he, hl, hu, hlk⟩ := g2.node rfl
              obtain ⟨n2, g3, g4⟩ := get_ok ok hP hl
              have hln : (Tr.node r e0 l u).toList = l.toList ++ e0 :: u.toList := rfl
              rw [hln] at hG
              rw [hsz] at hn hN b1 b2 h2
              obtain ⟨cl, d1, d2⟩ := between_ok ok hP n i j (by omega) hl (fun x hx => hG x (List.mem_append_left _ hx)) (by omega) (by omega) (by omega) (by omega) (by omega)
              obtain ⟨cu, f1, f2⟩ := between_ok ok hP n (i - (l.size : Int) - 1) (j - (l.size : Int) - 1) (by omega) hu (fun x hx => hG x (by simp [hx])) (by omega) (by omega) (by omega) (by omega) (by omega)
              have w1 : w64 (w64 (i - (l.size : Int)) - 1) = i - (l.size : Int) - 1 := by
                rw [w64_id (x := i - (l.size : Int)) (by omega) (by omega), w64_id (by omega) (by omega)]
              have w2 : w64 (w64 (j - (l.size : Int)) - 1) = j - (l.size : Int) - 1 := by
                rw [w64_id (x := j - (l.size : Int)) (by omega) (by omega), w64_id (by omega) (by omega)]
              simp only [Option.bind_some, Sum.elim_inr, g3, d1, g4.size, w1, w2, f1]
              have hsl := (seg_sub l.toList i j)
              have hsu := (seg_sub u.toList (i - (l.size : Int) - 1) (j - (l.size : Int) - 1))
              have hl1 := hsl.length_le
              have hl2 := hsu.length_le
              rw [Tr.len_toList] at hl1 hl2
              rw [hln, seg_node, Tr.len_toList]
              have hGl : ∀ x ∈ seg l.toList i j, G x := fun x hx => hG x (List.mem_append_left _ (hsl.subset hx))
              have hGu : ∀ x ∈ seg u.toList (i - (l.size : Int) - 1) (j - (l.size : Int) - 1), G x := fun x hx => hG x (by simp [hsu.subset hx])
              by_cases h7 : i ≤ (l.size : Int) ∧ j > (l.size : Int)
              · rw [if_pos h7]
                obtain ⟨s, s1, s2⟩ := ok.sum n1.e (hG _ (by rw [he]; simp))
                rw [he] at s2
                obtain ⟨x, x1, x2⟩ := ok.plus d2 s2 (fun y hy => by
                  rcases List.mem_append.1 hy with hy | hy
                  · exact hGl y hy
                  · simp at hy; subst hy; exact hG y (by simp)) (by simp; omega)
                obtain ⟨z, z1, z2⟩ := ok.plus x2 f2 (fun y hy => by
                  simp only [List.mem_append, List.mem_singleton] at hy
                  rcases hy with (hy | rfl) | hy
                  · exact hGl y hy
                  · exact hG y (by simp)
                  · exact hGu y hy) (by simp; omega)
                refine ⟨z, ?_, by simpa using z2⟩
                simp only [h7.1, h7.2, decide_true, cond_true, s1, Option.bind_some, x1, z1]
              · rw [if_neg h7, List.nil_append]
                obtain ⟨z, z1, z2⟩ := ok.plus d2 f2 (fun y hy => by
                  rcases List.mem_append.1 hy with hy | hy
                  · exact hGl y hy
                  · exact hGu y hy) (by simp; omega)
                refine ⟨z, ?_, z2⟩
                by_cases h8 : i ≤ (l.size : Int)
                · have h9 : ¬ j > (l.size : Int) := fun h => h7 ⟨h8, h⟩
                  simp only [h8, h9, decide_true, decide_false, cond_true, cond_false, Option.bind_some, z1]
                · simp only [h8, decide_false, cond_false, Option.bind_some, z1]
structure Gr (S : A → List E → Prop) (lt : E → E → Prop) (G : E → Prop) (p : PN E A) (r : TRef) (l : List E) (c : Int) (B : Nat) : Prop where
  ex : ∃ t, PW p t.refs B ∧ Rep S p r t ∧ t.toList = l
  sorted : InOrd lt l
  good : ∀ x ∈ l, G x
  cap : p.cap = c
theorem Gr.new (c : Int) (B : Nat) (hB : B < 4294967295) : Gr S lt G (⟨[], [], c, 0, 0⟩ : PN E A) zTRef [] c B :=
  ⟨⟨.nil, PW.new c B hB, rfl, rfl⟩, List.Pairwise.nil, by simp, rfl⟩
theorem Gr.put (ok : OpsOk O k N G S lt) (hk : N ≤ k) {p : PN E A} {r : TRef} {l : List E} {c : Int} {B : Nat} (h : Gr S lt G p r l c B) (e : E) (hG : G e) (hB : B + 1 < 4294967295) (hN : l.length + 1 < N) :
    ∃ a m b, Cut lt e l a m b ∧ ((m = [] ∧ (l.length : Int) = c ∧ Tree_Put.f O k p r e = some (false, r, p)) ∨
      (∃ r' p', (m = [] → (l.length : Int) ≠ c) ∧ Tree_Put.f O k p r e = some (true, r', p') ∧ Gr S lt G p' r' (a ++ e :: b) c (B + 1))) := by
  obtain ⟨t, hP, hr, rfl⟩ := h.ex
  have hlen : t.refs.length = t.toList.length := by rw [Tr.len_refs, Tr.len_toList]
  have hll := Tr.len_toList t
  obtain ⟨a, m, b, hcut, hres⟩ := put_ok ok hk hP hB e hG k (by omega) hr hP.ld h.sorted h.good (by omega)
  refine ⟨a, m, b, hcut, ?_⟩
  unfold Tree_Put.f Tree_put.f
  rcases hres with ⟨h1, h2, rr, h3⟩ | ⟨r', p', t', F, h1, h2, h3, h4, h5⟩
  · exact .inl ⟨h1, by rw [← hlen, h2, h.cap], by rw [h3]; rfl⟩
  · refine .inr ⟨r', p', fun hm => by rw [← hlen, ← h.cap]; exact h1 hm, by rw [h3]; rfl, ⟨t', h5.pw.perm h5.refs.symm, h5.rep, h4⟩, hcut.put ok h.sorted, fun x hx => ?_, h5.cap.trans h.cap⟩
    have h8 : ∀ y, y ∈ a ∨ y ∈ b → y ∈ t.toList := fun y hy => by rw [hcut.eq]; rcases hy with hy | hy <;> simp [hy]
    simp only [List.mem_append, List.mem_cons] at hx
    rcases hx with hx | rfl | hx
    · exact h.good x (h8 x (.inl hx))
    · exact hG
    · exact h.good x (h8 x (.inr hx))
theorem Gr.len (ok : OpsOk O k N G S lt) {p : PN E A} {r : TRef} {l : List E} {c : Int} {B : Nat} (h : Gr S lt G p r l c B) : Tree_Len.f O k p r = some (l.length : Int) := by
  obtain ⟨t, hP, hr, rfl⟩ := h.ex
  obtain ⟨n, g1, g2⟩ := get_ok ok hP hr
  unfold Tree_Len.f
  rw [g1]; simp only [Option.bind_some, g2.size, Tr.len_toList]
theorem Gr.find (ok : OpsOk O k N G S lt) (hk : N ≤ k) {p : PN E A} {r : TRef} {l : List E} {c : Int} {B : Nat} (h : Gr S lt G p r l c B) (e : E) (hN : l.length < N) :
    ∃ a m b, Cut lt e l a m b ∧ Tree_Find.f O k p r e = some (match m with | y :: _ => (y, true) | [] => (O.zE, false)) := by
  obtain ⟨t, hP, hr, rfl⟩ := h.ex
  have hll := Tr.len_toList t
  obtain ⟨a, m, b, hcut, hres⟩ := find_ok ok hP e k (by omega) hr h.sorted
  refine ⟨a, m, b, hcut, ?_⟩
  unfold Tree_Find.f
  rw [hres]
  cases m <;> rfl
theorem Gr.rank (ok : OpsOk O k N G S lt) (hk : N ≤ k) {p : PN E A} {r : TRef} {l : List E} {c : Int} {B : Nat} (h : Gr S lt G p r l c B) (e : E) (hN : l.length < N) :
    ∃ a m b, Cut lt e l a m b ∧ Tree_Rank.f O k p r e = some (a.length : Int) := by
  obtain ⟨t, hP, hr, rfl⟩ := h.ex
  have hbig := ok.big
  have hll := Tr.len_toList t
  obtain ⟨a, m, b, hcut, hres⟩ := rank_ok ok hP e k 0 (by omega) hr h.sorted (by omega)
  refine ⟨a, m, b, hcut, ?_⟩
  unfold Tree_Rank.f
  have : Tree_Rank.l0 O k p e k (0, r) = some ((0 + a.length : Nat) : Int) := hres
  rw [this, Nat.zero_add]; rfl
theorem Gr.between (ok : OpsOk O k N G S lt) (hk : N ≤ k) {p : PN E A} {r : TRef} {l : List E} {c : Int} {B : Nat} (h : Gr S lt G p r l c B) (i j : Int) (hN : l.length < N) :
    ∃ s, Tree_Between.f O k p r i j = some s ∧ S s (seg l i j) := by
  have hlen := h.len ok
  obtain ⟨t, hP, hr, rfl⟩ := h.ex
  have hbig := ok.big
  have hll := Tr.len_toList t
  unfold Tree_Between.f
  rw [hlen]
  simp only [Option.bind_some]
  have hg : ∀ x : Int, gmin (gmax x 0) (t.toList.length : Int) = min (max x 0) (t.toList.length : Int) := fun x => by unfold gmin gmax; split <;> split <;> omega
  rw [hg, hg]
  obtain ⟨s, s1, s2⟩ := between_ok ok hP k (min (max i 0) (t.toList.length : Int)) (min (max j 0) (t.toList.length : Int)) (by omega) hr h.good (by omega) (by omega) (by omega) (by omega) (by omega)
  refine ⟨s, by unfold Tree_between.f; rw [s1]; rfl, ?_⟩
  have : seg t.toList (min (max i 0) (t.toList.length : Int)) (min (max j 0) (t.toList.length : Int)) = seg t.toList i j := by
    unfold seg
    have e1 : t.toList.take (min (max j 0) (t.toList.length : Int)).toNat = t.toList.take j.toNat := by
      by_cases hj : j ≤ t.toList.length
      · rw [show (min (max j 0) (t.toList.length : Int)).toNat = j.toNat by omega]
      · rw [List.take_of_length_le (by omega), List.take_of_length_le (by omega)]
    rw [e1]
    by_cases hi : i ≤ t.toList.length
    · rw [show (min (max i 0) (t.toList.length : Int)).toNat = i.toNat by omega]
    · rw [List.drop_eq_nil_of_le (by rw [List.length_take]; omega), List.drop_eq_nil_of_le (by rw [List.length_take]; omega)]
  rw [← this]; exact s2
end
end Go.Proofs.YtpeoalmhccmdiaaGreat
namespace Go.Proofs.YtpeoalmhccmdiaaGreat
open Go Go.Proofs.YtpeoalmhccmdiaaGreat.Sx
theorem Tr.ht_size {E : Type} : ∀ t : Tr E, t.ht ≤ t.size
  | .nil => Nat.le_refl _
  | .node r e l u => by
    have := Tr.ht_size l; have := Tr.ht_size u
    simp only [Tr.ht, Tr.size]; omega
section
variable {E A : Type} {O : Ops E A} {k N : Nat} {G : E → Prop} {S : A → List E → Prop} {lt : E → E → Prop}
theorem between_v (ok : OpsOk O k N G S lt) {p : PN E A} {L : List TRef} {B : Nat} (hP : PW p L B) : ∀ (n : Nat) {r : TRef} {t : Tr E} (i j : Int), Rep S p r t → t.size < N → -4611686018427387904 ≤ i - t.size → -4611686018427387904 ≤ j - t.size → i ≤ 4611686018427387904 → j ≤ 4611686018427387904 →
    ∀ {c : A}, Tree_between.r O k n p r i j = some c → ∀ {v : Int}, 0 ≤ v → v + 1000 * (t.size + 1 : Nat) < 4611686018427387904 →
    ∃ v', VTree_between.r O k n (vz p v) r i j = some (c, vz p v') ∧ v ≤ v' ∧ ((i ≥ j ∨ i ≥ t.size ∨ j ≤ 0 ∨ (i ≤ 0 ∧ j ≥ t.size)) → v' ≤ v + 1) ∧ ((i ≤ 0 ∨ j ≥ t.size) → v' ≤ v + 3 * (t.ht : Nat) + 1) ∧ v' ≤ v + 9 * (t.ht : Nat) + 1
  | 0, _, _, _, _, _, _, _, _, _, _, _, h, _, _, _ => by cases h
  | n + 1, r, t, i, j, hr, hN, b1, b2, b3, b4, c, h, v, h0, hb => by
    have hbig := ok.big
    obtain ⟨n1, g1, g2⟩ := get_ok ok hP hr
    obtain ⟨v1, a1, e1, d1⟩ := get_v g1 h0 (by omega)
    simp only [Tree_between.r, g1, Option.bind_some, g2.size] at h
    simp only [VTree_between.r, a1, Option.bind_some, g2.size]
    by_cases h1 : i ≥ j
    · simp only [h1, decide_true, cond_true, Option.bind_some, Sum.elim_inl] at h ⊢
      cases h
      exact ⟨v1, rfl, e1, fun _ => by omega, fun _ => by omega, by omega⟩
    · simp only [h1, decide_false, cond_false] at h ⊢
      by_cases h2 : i ≥ (t.size : Int)
      · simp only [h2, decide_true, cond_true, Option.bind_some, Sum.elim_inl] at h ⊢
        cases h
        exact ⟨v1, rfl, e1, fun _ => by omega, fun _ => by omega, by omega⟩
      · simp only [h2, decide_false, cond_false] at h ⊢
        by_cases h3 : j ≤ 0
        · simp only [h3, decide_true, cond_true, Option.bind_some, Sum.elim_inl] at h ⊢
          cases h
          exact ⟨v1, rfl, e1, fun _ => by omega, fun _ => by omega, by omega⟩
        · simp only [h3, decide_false, cond_false] at h ⊢
          cases t with
          | nil =>
            have h4 : ((((Tr.nil : Tr E).size : Nat) : Int) == 0) = true := rfl
            simp only [h4, cond_true, Option.bind_some, Sum.elim_inl] at h ⊢
            cases h
            exact ⟨v1, rfl, e1, fun _ => by omega, fun _ => by omega, by omega⟩
          | node r0 e0 l u =>
            have hsz : (Tr.node r0 e0 l u).size = l.size + 1 + u.size := rfl
            have hht : (Tr.node r0 e0 l u).ht = 1 + max l.ht u.ht := rfl
            have h4 : ((((Tr.node r0 e0 l u).size : Nat) : Int) == 0) = false := by simp; omega
            simp only [h4, cond_false, Option.bind_some, Sum.elim_inr] at h ⊢
            by_cases h5 : i ≤ 0 ∧ j ≥ ((Tr.node r0 e0 l u).size : Int)
            · simp only [h5.1, h5.2, decide_true, cond_true, Option.bind_some, Sum.elim_inl] at h ⊢
              cases h
              exact ⟨v1, rfl, e1, fun _ => by omega, fun _ => by omega, by omega⟩
            · have h6 : ∀ {X : Type} (x : X), (bif decide (i ≤ 0) then (bif decide (j ≥ ((Tr.node r0 e0 l u).size : Int)) then some (Sum.inl x) else some (Sum.inr ())) else some (Sum.inr () : Sum X Unit)) = some (Sum.inr ()) := fun x => by
                by_cases h7 : i ≤ 0
                · have h8 : ¬ j ≥ ((Tr.node r0 e0 l u).size : Int) := fun h => h5 ⟨h7, h⟩
                  simp only [h7, h8, decide_true, decide_false, cond_true, cond_false]
                · simp only [h7, decide_false, cond_false]
              rw [h6] at h
              rw [h6]
              obtain ⟨rfl, he, hl, hu, hlk⟩ := g2.node rfl
              obtain ⟨n2, g3, g4⟩ := get_ok ok hP hl
              have w1 : w64 (w64 (i - (l.size : Int)) - 1) = i - (l.size : Int) - 1 := by
                rw [w64_id (x := i - (l.size : Int)) (by omega) (by omega), w64_id (by omega) (by omega)]
              have w2 : w64 (w64 (j - (l.size : Int)) - 1) = j - (l.size : Int) - 1 := by
                rw [w64_id (x := j - (l.size : Int)) (by omega) (by omega), w64_id (by omega) (by omega)]
              simp only [Option.bind_some, Sum.elim_inr, g3, g4.size, w1, w2] at h
              obtain ⟨v2, a2, e2, d2⟩ := get_v g3 (v := v1) (by omega) (by omega)
              simp only [Option.bind_some, Sum.elim_inr, a2, g4.size, w1, w2]
              have hl9 := Tr.ht_size l
              have hu9 := Tr.ht_size u
              obtain ⟨x5, f5, h⟩ := bnd h
              obtain ⟨x6, f6, h⟩ := bnd h
              obtain ⟨x9, f9, h⟩ := bnd h
              obtain ⟨x10, f10, h⟩ := bnd h
              cases h
              obtain ⟨v3, a3, e3, p1, p2, p3⟩ := between_v ok hP n i j hl (by omega) (by omega) (by omega) b3 b4 f5 (v := v2) (by omega) (by omega)
              obtain ⟨v4, a4, e4, q1, q2, q3⟩ := between_v ok hP n (i - (l.size : Int) - 1) (j - (l.size : Int) - 1) hu (by omega) (by omega) (by omega) (by omega) (by omega) f9 (v := v3) (by omega) (by omega)
              refine ⟨v4, by simp only [a3, f6, a4, f10, Option.bind_some], by omega, fun h => ?_, fun h => ?_, ?_⟩
              · exfalso
                rcases h with h | h | h | h
                · exact h.elim
                · exact h.elim
                · exact h.elim
                · exact h5 h
              · rcases h with h | h
                · by_cases hj : j ≤ (l.size : Int)
                  · have := p2 (.inl h); have := q1 (by omega); omega
                  · have := p1 (by omega); have := q2 (by omega); omega
                · by_cases hi : i < (l.size : Int)
                  · have := p2 (by omega); have := q1 (by omega); omega
                  · have := p1 (by omega); have := q2 (by omega); omega
              · by_cases hj : j ≤ (l.size : Int)
                · have := q1 (by omega); omega
                · by_cases hi : i < (l.size : Int)
                  · have := p2 (by omega); have := q2 (by omega); omega
                  · have := p1 (by omega); omega
end
end Go.Proofs.YtpeoalmhccmdiaaGreat
namespace Go.Proofs.YtpeoalmhccmdiaaGreat
open Go Go.Proofs.YtpeoalmhccmdiaaGreat.Sx
section
variable {E A : Type} {O : Ops E A} {k N : Nat} {G : E → Prop} {S : A → List E → Prop} {lt : E → E → Prop}
structure PredOk (N : Nat) (G : E → Prop) (S : A → List E → Prop) (P : List E → List E → Bool) (fn : A → A → Option Bool) : Prop where
  run : ∀ {a b l m}, S a l → S b m → (∀ e ∈ l ++ m, G e) → (l ++ m).length < N → fn a b = some (P l m)
  nil : ∀ l, P l [] = false
  app : ∀ l m n, P l (m ++ n) = (P l m || P (l ++ m) n)
def firstF (P : List E → List E → Bool) : List E → List E → Int → Int
  | _, [], _ => -1
  | pre, e :: u, s => if s ≤ 0 ∧ P pre [e] = true then 0 else if firstF P (pre ++ [e]) u (s - 1) ≥ 0 then firstF P (pre ++ [e]) u (s - 1) + 1 else -1
def lastF (P : List E → List E → Bool) : List E → List E → Int → Int
  | _, [], _ => -1
  | pre, e :: u, s => if lastF P (pre ++ [e]) u (s - 1) ≥ 0 then lastF P (pre ++ [e]) u (s - 1) + 1 else if s > 0 ∧ P pre [e] = true then 0 else -1
variable {P : List E → List E → Bool} {fn : A → A → Option Bool}
theorem firstF_cons (pre : List E) (e : E) (u : List E) (s : Int) : firstF P pre (e :: u) s = if s ≤ 0 ∧ P pre [e] = true then 0 else if firstF P (pre ++ [e]) u (s - 1) ≥ 0 then firstF P (pre ++ [e]) u (s - 1) + 1 else -1 := by rw [firstF]
theorem lastF_cons (pre : List E) (e : E) (u : List E) (s : Int) : lastF P pre (e :: u) s = if lastF P (pre ++ [e]) u (s - 1) ≥ 0 then lastF P (pre ++ [e]) u (s - 1) + 1 else if s > 0 ∧ P pre [e] = true then 0 else -1 := by rw [lastF]
theorem firstF_bound : ∀ (pre l : List E) (s : Int), firstF P pre l s = -1 ∨ (0 ≤ firstF P pre l s ∧ firstF P pre l s < l.length)
  | pre, [], s => .inl rfl
  | pre, e :: u, s => by
    rw [firstF]
    have := firstF_bound (pre ++ [e]) u (s - 1)
    simp only [List.length_cons]
    split
    · omega
    · split <;> omega
theorem lastF_bound : ∀ (pre l : List E) (s : Int), lastF P pre l s = -1 ∨ (0 ≤ lastF P pre l s ∧ lastF P pre l s < l.length)
  | pre, [], s => .inl rfl
  | pre, e :: u, s => by
    rw [lastF]
    have := lastF_bound (pre ++ [e]) u (s - 1)
    simp only [List.length_cons]
    split
    · omega
    · split <;> omega
theorem firstF_append : ∀ (pre l m : List E) (s : Int), firstF P pre (l ++ m) s = if firstF P pre l s ≥ 0 then firstF P pre l s else if firstF P (pre ++ l) m (s - l.length) ≥ 0 then firstF P (pre ++ l) m (s - l.length) + l.length else -1
  | pre, [], m, s => by
    have h := firstF_bound (P := P) pre m s
    simp only [firstF, List.nil_append, List.append_nil, List.length_nil, Int.natCast_zero, Int.sub_zero, Int.add_zero]
    rw [if_neg (by omega)]
    split <;> omega
  | pre, e :: u, m, s => by
    rw [List.cons_append, firstF, firstF, firstF_append (pre ++ [e]) u m (s - 1)]
    have e1 : pre ++ [e] ++ u = pre ++ e :: u := by simp
    have e2 : s - 1 - (u.length : Int) = s - ((e :: u).length : Int) := by simp; omega
    have e3 : ((e :: u).length : Int) = u.length + 1 := by simp
    rw [e1, e2, e3]
    have h := firstF_bound (P := P) (pre ++ [e]) u (s - 1)
    have h' := firstF_bound (P := P) (pre ++ e :: u) m (s - (u.length + 1))
    by_cases h1 : s ≤ 0 ∧ P pre [e] = true
    · simp [h1]
    · rw [if_neg h1, if_neg h1]
      generalize firstF P (pre ++ [e]) u (s - 1) = x at h ⊢
      generalize firstF P (pre ++ e :: u) m (s - (u.length + 1)) = y at h' ⊢
      repeat' split
      all_goals omega
theorem lastF_append : ∀ (pre l m : List E) (s : Int), lastF P pre (l ++ m) s = if lastF P (pre ++ l) m (s - l.length) ≥ 0 then lastF P (pre ++ l) m (s - l.length) + l.length else lastF P pre l s
  | pre, [], m, s => by
    have h := lastF_bound (P := P) pre m s
    simp only [lastF, List.nil_append, List.append_nil, List.length_nil, Int.natCast_zero, Int.sub_zero, Int.add_zero]
    split <;> omega
  | pre, e :: u, m, s => by
    rw [List.cons_append, lastF, lastF, lastF_append (pre ++ [e]) u m (s - 1)]
    have e1 : pre ++ [e] ++ u = pre ++ e :: u := by simp
    have e2 : s - 1 - (u.length : Int) = s - ((e :: u).length : Int) := by simp; omega
    have e3 : ((e :: u).length : Int) = u.length + 1 := by simp
    rw [e1, e2, e3]
    have h := lastF_bound (P := P) (pre ++ [e]) u (s - 1)
    have h' := lastF_bound (P := P) (pre ++ e :: u) m (s - (u.length + 1))
    by_cases h3 : lastF P (pre ++ e :: u) m (s - (u.length + 1)) ≥ 0
    · rw [if_pos h3, if_pos h3, if_pos (by omega)]; omega
    · rw [if_neg h3, if_neg h3]
theorem firstF_none (hp : PredOk N G S P fn) : ∀ (pre l : List E) (s : Int), P pre l = false → firstF P pre l s = -1
  | pre, [], s, _ => rfl
  | pre, e :: u, s, h => by
    have h1 := hp.app pre [e] u
    rw [show [e] ++ u = e :: u from rfl, h] at h1
    have h2 := Bool.or_eq_false_iff.1 h1.symm
    rw [firstF, firstF_none hp (pre ++ [e]) u (s - 1) h2.2, h2.1]
    simp
theorem lastF_none (hp : PredOk N G S P fn) : ∀ (pre l : List E) (s : Int), P pre l = false → lastF P pre l s = -1
  | pre, [], s, _ => rfl
  | pre, e :: u, s, h => by
    have h1 := hp.app pre [e] u
    rw [show [e] ++ u = e :: u from rfl, h] at h1
    have h2 := Bool.or_eq_false_iff.1 h1.symm
    rw [lastF, lastF_none hp (pre ++ [e]) u (s - 1) h2.2, h2.1]
    simp
theorem firstF_skip : ∀ (pre l : List E) (s : Int), s ≥ l.length → firstF P pre l s = -1
  | pre, [], s, _ => rfl
  | pre, e :: u, s, h => by
    simp only [List.length_cons] at h
    rw [firstF, firstF_skip (pre ++ [e]) u (s - 1) (by omega), if_neg (by omega)]; simp
theorem lastF_lim : ∀ (pre l : List E) (s : Int), s ≤ 0 → lastF P pre l s = -1
  | pre, [], s, _ => rfl
  | pre, e :: u, s, h => by
    rw [lastF, lastF_lim (pre ++ [e]) u (s - 1) (by omega), if_neg (by omega), if_neg (by omega)]
theorem firstF_low : ∀ (pre l : List E) (s s' : Int), s ≤ 0 → s' ≤ 0 → firstF P pre l s = firstF P pre l s'
  | pre, [], s, s', _, _ => rfl
  | pre, e :: u, s, s', h, h' => by
    rw [firstF, firstF, firstF_low (pre ++ [e]) u (s - 1) (s' - 1) (by omega) (by omega)]
    simp only [h, h', true_and]
theorem lastF_high : ∀ (pre l : List E) (s s' : Int), s ≥ l.length → s' ≥ l.length → lastF P pre l s = lastF P pre l s'
  | pre, [], s, s', _, _ => rfl
  | pre, e :: u, s, s', h, h' => by
    simp only [List.length_cons] at h h'
    rw [lastF, lastF, lastF_high (pre ++ [e]) u (s - 1) (s' - 1) (by omega) (by omega)]
    have h1 : s > 0 := by omega
    have h2 : s' > 0 := by omega
    simp only [h1, h2, true_and]
theorem firstF_clamp (l : List E) (s : Int) : firstF P [] l (min (max s 0) (l.length : Int)) = firstF P [] l s := by
  by_cases h : s ≤ 0
  · exact firstF_low _ _ _ _ (by omega) h
  · by_cases h' : s ≤ l.length
    · rw [show min (max s 0) (l.length : Int) = s by omega]
    · rw [firstF_skip _ _ _ (by omega), firstF_skip _ _ _ (by omega)]
theorem lastF_clamp (l : List E) (s : Int) : lastF P [] l (min (max s 0) (l.length : Int)) = lastF P [] l s := by
  by_cases h : s ≤ 0
  · rw [lastF_lim _ _ _ (by omega), lastF_lim _ _ _ h]
  · by_cases h' : s ≤ l.length
    · rw [show min (max s 0) (l.length : Int) = s by omega]
    · exact lastF_high _ _ _ _ (by omega) (by omega)
theorem first_ok (ok : OpsOk O k N G S lt) (hp : PredOk N G S P fn) {p : PN E A} {L : List TRef} {B : Nat} (hP : PW p L B) : ∀ (n : Nat) {r : TRef} {t : Tr E} (pre : List E) (s : Int) (acc : A), t.size < n → Rep S p r t → S acc pre → (∀ x ∈ pre ++ t.toList, G x) → (pre ++ t.toList).length < N →
    -4611686018427387904 ≤ s - t.size → s ≤ 4611686018427387904 → ∃ c, Tree_first.r O k n p r s acc fn = some (firstF P pre t.toList s, c) ∧ (firstF P pre t.toList s < 0 → S c (pre ++ t.toList))
  | 0, _, _, _, _, _, h, _, _, _, _, _, _ => by omega
  | n + 1, r, t, pre, s, acc, hn, hr, ha, hG, hN, b1, b2 => by
    have hbig := ok.big
    obtain ⟨n1, g1, g2⟩ := get_ok ok hP hr
    have hll := Tr.len_toList t
    obtain ⟨w, w1, w2⟩ := ok.plus ha g2.sum hG hN
    simp only [Tree_first.r, g1, Option.bind_some, g2.size, w1]
    by_cases h0 : t.size = 0
    · have e0 : ((t.size : Int) == 0) = true := by simp; exact h0
      have : t.toList = [] := List.eq_nil_of_length_eq_zero (by omega)
      simp only [e0, cond_true, Option.bind_some, Sum.elim_inl]
      have hf : firstF P pre t.toList s = -1 := by rw [this]; rfl
      rw [hf]; exact ⟨w, rfl, fun _ => w2⟩
    · have e0 : ((t.size : Int) == 0) = false := by simp; exact h0
      simp only [e0, cond_false]
      by_cases h1 : s ≥ (t.size : Int)
      · simp only [h1, decide_true, cond_true, Option.bind_some, Sum.elim_inl]
        rw [firstF_skip pre t.toList s (by omega)]; exact ⟨w, rfl, fun _ => w2⟩
      · simp only [h1, decide_false, cond_false, hp.run ha g2.sum hG hN, Option.bind_some]
        by_cases h2 : s ≤ 0 ∧ P pre t.toList = false
        · simp only [h2.1, h2.2, decide_true, cond_true, Bool.not_false, Option.bind_some, Sum.elim_inl]
          rw [firstF_none hp pre t.toList s h2.2]; exact ⟨w, rfl, fun _ => w2⟩
        · have h3 : (bif decide (s ≤ 0) then (bif !P pre t.toList then some (Sum.inl (-1, w)) else some (Sum.inr ())) else some (Sum.inr () : Sum (Int × A) Unit)) = some (Sum.inr ()) := by
            by_cases h4 : s ≤ 0
            · have h5 : P pre t.toList = true := by
                cases h6 : P pre t.toList
                · exact absurd ⟨h4, h6⟩ h2
                · rfl
              simp only [h4, h5, decide_true, cond_true, Bool.not_true, cond_false]
            · simp only [h4, decide_false, cond_false]
          rw [h3]
          cases t with
          | nil => exact absurd rfl h0
          | node r0 e0' l u =>
            obtain ⟨rfl, he, hl, hu, hlk⟩ := g2.node rfl
            obtain ⟨n2, g3, g4⟩ := get_ok ok hP hl
            have hsz : (Tr.node r e0' l u).size = l.size + 1 + u.size := rfl
            have hln : (Tr.node r e0' l u).toList = l.toList ++ e0' :: u.toList := rfl
            have hlu := Tr.len_toList u
            have hlL := Tr.len_toList l
            rw [hsz] at hn b1
            rw [hln] at hG hN ⊢
            simp only [List.length_append, List.length_cons] at hN
            have sub1 : ∀ x ∈ pre ++ l.toList, G x := fun x hx => hG x (by simp at hx ⊢; rcases hx with hx | hx <;> simp [hx])
            obtain ⟨c1, d1, d2⟩ := first_ok ok hp hP n pre s acc (by omega) hl ha sub1 (by simp; omega) (by omega) b2
            simp only [Option.bind_some, Sum.elim_inr, g3, d1]
            have hb := firstF_bound (P := P) pre l.toList s
            have happ := firstF_append (P := P) pre l.toList (e0' :: u.toList) s
            by_cases h4 : firstF P pre l.toList s ≥ 0
            · simp only [h4, decide_true, cond_true]
              rw [if_pos h4] at happ
              exact ⟨c1, by rw [happ], fun h => by omega⟩
            · simp only [h4, decide_false, cond_false]
              rw [if_neg h4] at happ
              have hc1 := d2 (by omega)
              obtain ⟨se, s1, s2⟩ := ok.sum n1.e (hG _ (by rw [he]; simp))
              rw [he] at s2
              have hGe : ∀ x ∈ (pre ++ l.toList) ++ [e0'], G x := fun x hx => hG x (by simp at hx ⊢; rcases hx with hx | hx | hx <;> simp [hx])
              have hNe : ((pre ++ l.toList) ++ [e0']).length < N := by simp; omega
              have hfn := hp.run hc1 s2 hGe hNe
              obtain ⟨c2, f1, f2⟩ := ok.plus hc1 s2 hGe hNe
              simp only [s1, Option.bind_some, g4.size, hfn, f1]
              have hq := firstF_cons (P := P) (pre ++ l.toList) e0' u.toList (s - l.toList.length)
              generalize firstF P (pre ++ l.toList) (e0' :: u.toList) (s - l.toList.length) = q at happ hq
              by_cases h5 : s ≤ (l.size : Int) ∧ P (pre ++ l.toList) [e0'] = true
              · simp only [h5.1, h5.2, decide_true, cond_true, Option.bind_some, Sum.elim_inl]
                rw [if_pos ⟨by omega, h5.2⟩] at hq
                rw [hq, if_pos (by omega)] at happ
                exact ⟨c1, by rw [happ]; congr 2; omega, fun h => by omega⟩
              · have h6 : (bif decide (s ≤ (l.size : Int)) then (bif P (pre ++ l.toList) [e0'] then some (Sum.inl ((l.size : Int), c1)) else some (Sum.inr ())) else some (Sum.inr () : Sum (Int × A) Unit)) = some (Sum.inr ()) := by
                  by_cases h7 : s ≤ (l.size : Int)
                  · have h8 : P (pre ++ l.toList) [e0'] = false := by
                      cases h6 : P (pre ++ l.toList) [e0']
                      · rfl
                      · exact absurd ⟨h7, h6⟩ h5
                    simp only [h7, h8, decide_true, cond_true, cond_false]
                  · simp only [h7, decide_false, cond_false]
                rw [h6]
                rw [if_neg (fun h => h5 ⟨by have := h.1; omega, h.2⟩)] at hq
                have v1 : w64 (w64 (s - (l.size : Int)) - 1) = s - (l.toList.length : Int) - 1 := by
                  rw [w64_id (x := s - (l.size : Int)) (by omega) (by omega), w64_id (by omega) (by omega), hlL]
                have hGr : ∀ x ∈ (pre ++ l.toList ++ [e0']) ++ u.toList, G x := fun x hx => hG x (by simpa using hx)
                obtain ⟨c3, y1, y2⟩ := first_ok ok hp hP n (pre ++ l.toList ++ [e0']) (s - (l.toList.length : Int) - 1) c2 (by omega) hu f2 hGr (by simp; omega) (by omega) (by omega)
                have hb3 := firstF_bound (P := P) (pre ++ l.toList ++ [e0']) u.toList (s - (l.toList.length : Int) - 1)
                simp only [Option.bind_some, Sum.elim_inr, v1, y1]
                by_cases h7 : firstF P (pre ++ l.toList ++ [e0']) u.toList (s - (l.toList.length : Int) - 1) ≥ 0
                · simp only [h7, decide_true, cond_true]
                  rw [if_pos h7] at hq
                  rw [hq, if_pos (by omega)] at happ
                  refine ⟨c3, ?_, fun h => by omega⟩
                  rw [happ, w64_id (x := (l.size : Int) + 1) (by omega) (by omega), w64_id (by omega) (by omega)]
                  congr 2; omega
                · simp only [h7, decide_false, cond_false]
                  rw [if_neg h7] at hq
                  rw [hq, if_neg (by omega)] at happ
                  refine ⟨c3, ?_, fun _ => by have := y2 (by omega); simpa using this⟩
                  rw [happ]
                  congr 2; omega
theorem last_of_ok (ok : OpsOk O k N G S lt) (hp : PredOk N G S P fn) {p : PN E A} {L : List TRef} {B : Nat} (hP : PW p L B) : ∀ (n : Nat) {r : TRef} {t : Tr E} (pre : List E) (s : Int) (acc : A), t.size < n → Rep S p r t → S acc pre → (∀ x ∈ pre ++ t.toList, G x) → (pre ++ t.toList).length < N →
    -4611686018427387904 ≤ s - t.size → s ≤ 4611686018427387904 → Tree_lastOf.r O k n p r s acc fn = some (lastF P pre t.toList s)
  | 0, _, _, _, _, _, h, _, _, _, _, _, _ => by omega
  | n + 1, r, t, pre, s, acc, hn, hr, ha, hG, hN, b1, b2 => by
    have hbig := ok.big
    obtain ⟨n1, g1, g2⟩ := get_ok ok hP hr
    have hll := Tr.len_toList t
    simp only [Tree_lastOf.r, g1, Option.bind_some, g2.size]
    by_cases h0 : t.size = 0
    · have e0 : ((t.size : Int) == 0) = true := by simp; exact h0
      have : t.toList = [] := List.eq_nil_of_length_eq_zero (by omega)
      simp only [e0, cond_true, Option.bind_some, Sum.elim_inl]
      have hf : lastF P pre t.toList s = -1 := by rw [this]; rfl
      rw [hf]
    · have e0 : ((t.size : Int) == 0) = false := by simp; exact h0
      simp only [e0, cond_false]
      by_cases h1 : s ≤ 0
      · simp only [h1, decide_true, cond_true, Option.bind_some, Sum.elim_inl]
        rw [lastF_lim pre t.toList s h1]
      · simp only [h1, decide_false, cond_false, hp.run ha g2.sum hG hN, Option.bind_some]
        by_cases h2 : s ≥ (t.size : Int) ∧ P pre t.toList = false
        · simp only [h2.1, h2.2, decide_true, cond_true, Bool.not_false, Option.bind_some, Sum.elim_inl]
          rw [lastF_none hp pre t.toList s h2.2]
        · have h3 : (bif decide (s ≥ (t.size : Int)) then (bif !P pre t.toList then some (Sum.inl (-1)) else some (Sum.inr ())) else some (Sum.inr () : Sum Int Unit)) = some (Sum.inr ()) := by
            by_cases h4 : s ≥ (t.size : Int)
            · have h5 : P pre t.toList = true := by
                cases h6 : P pre t.toList
                · exact absurd ⟨h4, h6⟩ h2
                · rfl
              simp only [h4, h5, decide_true, cond_true, Bool.not_true, cond_false]
            · simp only [h4, decide_false, cond_false]
          rw [h3]
          cases t with
          | nil => exact absurd rfl h0
          | node r0 e0' l u =>
            obtain ⟨rfl, he, hl, hu, hlk⟩ := g2.node rfl
            obtain ⟨n2, g3, g4⟩ := get_ok ok hP hl
            have hsz : (Tr.node r e0' l u).size = l.size + 1 + u.size := rfl
            have hln : (Tr.node r e0' l u).toList = l.toList ++ e0' :: u.toList := rfl
            have hlu := Tr.len_toList u
            have hlL := Tr.len_toList l
            rw [hsz] at hn b1
            rw [hln] at hG hN ⊢
            simp only [List.length_append, List.length_cons] at hN
            have sub1 : ∀ x ∈ pre ++ l.toList, G x := fun x hx => hG x (by simp at hx ⊢; rcases hx with hx | hx <;> simp [hx])
            obtain ⟨c1, d1, d2⟩ := ok.plus ha g4.sum sub1 (by simp; omega)
            obtain ⟨se, s1, s2⟩ := ok.sum n1.e (hG _ (by rw [he]; simp))
            rw [he] at s2
            have hGe : ∀ x ∈ (pre ++ l.toList) ++ [e0'], G x := fun x hx => hG x (by simp at hx ⊢; rcases hx with hx | hx | hx <;> simp [hx])
            have hNe : ((pre ++ l.toList) ++ [e0']).length < N := by simp; omega
            have hfn := hp.run d2 s2 hGe hNe
            obtain ⟨c2, f1, f2⟩ := ok.plus d2 s2 hGe hNe
            have v1 : w64 (w64 (s - (l.size : Int)) - 1) = s - (l.toList.length : Int) - 1 := by
              rw [w64_id (x := s - (l.size : Int)) (by omega) (by omega), w64_id (by omega) (by omega), hlL]
            have hGr : ∀ x ∈ (pre ++ l.toList ++ [e0']) ++ u.toList, G x := fun x hx => hG x (by simpa using hx)
            have hr1 := last_of_ok ok hp hP n (pre ++ l.toList ++ [e0']) (s - (l.toList.length : Int) - 1) c2 (by omega) hu f2 hGr (by simp; omega) (by omega) (by omega)
            have hl1 := last_of_ok ok hp hP n pre s acc (by omega) hl ha sub1 (by simp; omega) (by omega) b2
            have hb3 := lastF_bound (P := P) (pre ++ l.toList ++ [e0']) u.toList (s - (l.toList.length : Int) - 1)
            have happ := lastF_append (P := P) pre l.toList (e0' :: u.toList) s
            have hq := lastF_cons (P := P) (pre ++ l.toList) e0' u.toList (s - l.toList.length)
            generalize lastF P (pre ++ l.toList) (e0' :: u.toList) (s - l.toList.length) = q at happ hq
            simp only [Option.bind_some, Sum.elim_inr, g3, d1, s1, f1, v1, hr1, g4.size, hfn, hl1]
            by_cases h4 : lastF P (pre ++ l.toList ++ [e0']) u.toList (s - (l.toList.length : Int) - 1) ≥ 0
            · simp only [h4, decide_true, cond_true]
              rw [if_pos h4] at hq
              rw [hq, if_pos (by omega)] at happ
              rw [happ, w64_id (x := _ + (l.size : Int)) (by omega) (by omega), w64_id (by omega) (by omega)]
              congr 1; omega
            · simp only [h4, decide_false, cond_false]
              rw [if_neg h4] at hq
              by_cases h5 : s > (l.size : Int) ∧ P (pre ++ l.toList) [e0'] = true
              · simp only [h5.1, h5.2, decide_true, cond_true]
                rw [if_pos ⟨by omega, h5.2⟩] at hq
                rw [hq, if_pos (by omega)] at happ
                rw [happ]; congr 1; omega
              · rw [if_neg (fun h => h5 ⟨by have := h.1; omega, h.2⟩)] at hq
                rw [hq, if_neg (by omega)] at happ
                rw [happ]
                by_cases h7 : s > (l.size : Int)
                · have h8 : P (pre ++ l.toList) [e0'] = false := by
                    cases h6 : P (pre ++ l.toList) [e0']
                    · rfl
                    · exact absurd ⟨h7, h6⟩ h5
                  simp only [h7, h8, decide_true, cond_true, cond_false]
                · simp only [h7, decide_false, cond_false]
theorem Gr.first (ok : OpsOk O k N G S lt) (hk : N ≤ k) (hp : PredOk N G S P fn) {p : PN E A} {r : TRef} {l : List E} {c : Int} {B : Nat} (h : Gr S lt G p r l c B) (i : Int) (hN : l.length < N) :
    Tree_First.f O k p r i fn = some (firstF P [] l i) := by
  have hlen := h.len ok
  obtain ⟨t, hP, hr, rfl⟩ := h.ex
  have hbig := ok.big
  have hll := Tr.len_toList t
  have hg : gmin (gmax i 0) (t.toList.length : Int) = min (max i 0) (t.toList.length : Int) := by unfold gmin gmax; split <;> split <;> omega
  obtain ⟨c, h1, h2⟩ := first_ok ok hp hP k [] (min (max i 0) (t.toList.length : Int)) O.zA (by omega) hr ok.zero (by simpa using h.good) (by simpa using hN) (by omega) (by omega)
  unfold Tree_First.f Tree_first.f
  rw [hlen]
  simp only [Option.bind_some, hg, h1, firstF_clamp]
theorem Gr.last (ok : OpsOk O k N G S lt) (hk : N ≤ k) (hp : PredOk N G S P fn) {p : PN E A} {r : TRef} {l : List E} {c : Int} {B : Nat} (h : Gr S lt G p r l c B) (i : Int) (hN : l.length < N) :
    Tree_Last.f O k p r i fn = some (lastF P [] l i) := by
  have hlen := h.len ok
  obtain ⟨t, hP, hr, rfl⟩ := h.ex
  have hbig := ok.big
  have hll := Tr.len_toList t
  have hg : gmin (gmax i 0) (t.toList.length : Int) = min (max i 0) (t.toList.length : Int) := by unfold gmin gmax; split <;> split <;> omega
  have h1 := last_of_ok ok hp hP k [] (min (max i 0) (t.toList.length : Int)) O.zA (by omega) hr ok.zero (by simpa using h.good) (by simpa using hN) (by omega) (by omega)
  unfold Tree_Last.f Tree_lastOf.f
  rw [hlen]
  simp only [Option.bind_some, hg, h1, lastF_clamp]
end
end Go.Proofs.YtpeoalmhccmdiaaGreat
namespace Go.Proofs.YtpeoalmhccmdiaaGreat
open Go Go.Proofs.YtpeoalmhccmdiaaGreat.Sx
section
variable {E A : Type} {O : Ops E A} {k N : Nat} {G : E → Prop} {S : A → List E → Prop} {lt : E → E → Prop} {P : List E → List E → Bool} {fn : A → A → Option Bool}
theorem firstF_some (hp : PredOk N G S P fn) : ∀ (pre l : List E) (s : Int), s ≤ 0 → P pre l = true → firstF P pre l s ≥ 0
  | pre, [], s, _, h => by rw [hp.nil] at h; cases h
  | pre, e :: u, s, hs, h => by
    have h1 := hp.app pre [e] u
    rw [show [e] ++ u = e :: u from rfl, h] at h1
    rw [firstF_cons]
    by_cases h2 : P pre [e] = true
    · rw [if_pos ⟨hs, h2⟩]; omega
    · rw [if_neg (fun h => h2 h.2)]
      have h3 : P (pre ++ [e]) u = true := by simpa [h2] using h1.symm
      have := firstF_some hp (pre ++ [e]) u (s - 1) (by omega) h3
      rw [if_pos this]; omega
theorem lastF_some (hp : PredOk N G S P fn) : ∀ (pre l : List E) (s : Int), s ≥ l.length → P pre l = true → lastF P pre l s ≥ 0
  | pre, [], s, _, h => by rw [hp.nil] at h; cases h
  | pre, e :: u, s, hs, h => by
    simp only [List.length_cons] at hs
    have h1 := hp.app pre [e] u
    rw [show [e] ++ u = e :: u from rfl, h] at h1
    rw [lastF_cons]
    by_cases h3 : P (pre ++ [e]) u = true
    · have := lastF_some hp (pre ++ [e]) u (s - 1) (by omega) h3
      rw [if_pos this]; omega
    · have h2 : P pre [e] = true := by simpa [h3] using h1.symm
      split
      · omega
      · rw [if_pos ⟨by omega, h2⟩]; omega
theorem first_v (ok : OpsOk O k N G S lt) (hp : PredOk N G S P fn) {p : PN E A} {L : List TRef} {B : Nat} (hP : PW p L B) : ∀ (n : Nat) {r : TRef} {t : Tr E} (pre : List E) (s : Int) (acc : A), t.size < n → Rep S p r t → S acc pre → (∀ x ∈ pre ++ t.toList, G x) → (pre ++ t.toList).length < N →
    -4611686018427387904 ≤ s - t.size → s ≤ 4611686018427387904 → ∀ {v : Int}, 0 ≤ v → v + 1000 * (t.size + 1 : Nat) < 4611686018427387904 →
    ∃ c v', VTree_first.r O k n (vz p v) r s acc fn = some (firstF P pre t.toList s, c, vz p v') ∧ (firstF P pre t.toList s < 0 → S c (pre ++ t.toList)) ∧ v ≤ v' ∧
      (s ≥ (t.size : Int) ∨ (s ≤ 0 ∧ firstF P pre t.toList s < 0) → v' ≤ v + 1) ∧ (s ≤ 0 ∨ firstF P pre t.toList s < 0 → v' ≤ v + 3 * (t.ht : Nat) + 1) ∧ v' ≤ v + 6 * (t.ht : Nat) + 1
  | 0, _, _, _, _, _, h, _, _, _, _, _, _, _, _, _ => by omega
  | n + 1, r, t, pre, s, acc, hn, hr, ha, hG, hN, b1, b2, v, h0v, hbv => by
    have hbig := ok.big
    obtain ⟨n1, g1, g2⟩ := get_ok ok hP hr
    obtain ⟨v1, a1, e1, d1v⟩ := get_v g1 h0v (by omega)
    have hll := Tr.len_toList t
    obtain ⟨w, w1, w2⟩ := ok.plus ha g2.sum hG hN
    simp only [VTree_first.r, a1, Option.bind_some, g2.size, w1]
    by_cases h0 : t.size = 0
    · have e0 : ((t.size : Int) == 0) = true := by simp; exact h0
      have : t.toList = [] := List.eq_nil_of_length_eq_zero (by omega)
      simp only [e0, cond_true, Option.bind_some, Sum.elim_inl]
      have hf : firstF P pre t.toList s = -1 := by rw [this]; rfl
      rw [hf]; exact ⟨w, v1, rfl, fun _ => w2, e1, fun _ => by omega, fun _ => by omega, by omega⟩
    · have e0 : ((t.size : Int) == 0) = false := by simp; exact h0
      simp only [e0, cond_false]
      by_cases h1 : s ≥ (t.size : Int)
      · simp only [h1, decide_true, cond_true, Option.bind_some, Sum.elim_inl]
        rw [firstF_skip pre t.toList s (by omega)]; exact ⟨w, v1, rfl, fun _ => w2, e1, fun _ => by omega, fun _ => by omega, by omega⟩
      · simp only [h1, decide_false, cond_false, hp.run ha g2.sum hG hN, Option.bind_some]
        by_cases h2 : s ≤ 0 ∧ P pre t.toList = false
        · simp only [h2.1, h2.2, decide_true, cond_true, Bool.not_false, Option.bind_some, Sum.elim_inl]
          rw [firstF_none hp pre t.toList s h2.2]; exact ⟨w, v1, rfl, fun _ => w2, e1, fun _ => by omega, fun _ => by omega, by omega⟩
        · have h9 : s ≤ 0 → firstF P pre t.toList s ≥ 0 := fun h4 => by
            have h5 : P pre t.toList = true := by
              cases h6 : P pre t.toList
              · exact absurd ⟨h4, h6⟩ h2
              · rfl
            exact firstF_some hp _ _ _ h4 h5
          have h3 : ∀ {X : Type} (y : X), (bif decide (s ≤ 0) then (bif !P pre t.toList then some (Sum.inl y) else some (Sum.inr ())) else some (Sum.inr () : Sum X Unit)) = some (Sum.inr ()) := fun y => by
            by_cases h4 : s ≤ 0
            · have h5 : P pre t.toList = true := by
                cases h6 : P pre t.toList
                · exact absurd ⟨h4, h6⟩ h2
                · rfl
              simp only [h4, h5, decide_true, cond_true, Bool.not_true, cond_false]
            · simp only [h4, decide_false, cond_false]
          rw [h3]
          cases t with
          | nil => exact absurd rfl h0
          | node r0 e0' l u =>
            obtain ⟨rfl, he, hl, hu, hlk⟩ := g2.node rfl
            obtain ⟨n2, g3, g4⟩ := get_ok ok hP hl
            have hsz : (Tr.node r e0' l u).size = l.size + 1 + u.size := rfl
            have hht : (Tr.node r e0' l u).ht = 1 + max l.ht u.ht := rfl
            have hln : (Tr.node r e0' l u).toList = l.toList ++ e0' :: u.toList := rfl
            have hlu := Tr.len_toList u
            have hlL := Tr.len_toList l
            have hl9 := Tr.ht_size l
            have hu9 := Tr.ht_size u
            rw [hsz] at hn b1 hbv h1
            rw [hht]
            rw [hln] at hG hN h9 ⊢
            simp only [List.length_append, List.length_cons] at hN
            have sub1 : ∀ x ∈ pre ++ l.toList, G x := fun x hx => hG x (by simp at hx ⊢; rcases hx with hx | hx <;> simp [hx])
            obtain ⟨v2, a2, e2, d2v⟩ := get_v g3 (v := v1) (by omega) (by omega)
            obtain ⟨c1, v3, d1, d2, e3, p1, p2, p3⟩ := first_v ok hp hP n pre s acc (by omega) hl ha sub1 (by simp; omega) (by omega) b2 (v := v2) (by omega) (by omega)
            simp only [Option.bind_some, Sum.elim_inr, a2, d1]
            have hb := firstF_bound (P := P) pre l.toList s
            have happ := firstF_append (P := P) pre l.toList (e0' :: u.toList) s
            by_cases h4 : firstF P pre l.toList s ≥ 0
            · simp only [h4, decide_true, cond_true]
              rw [if_pos h4] at happ
              exact ⟨c1, v3, by rw [happ], fun h => by omega, by omega, fun h => by rcases h with h | h <;> first | exact h.elim | (exfalso; omega), fun h => by have := p2 (by omega); omega, by omega⟩
            · simp only [h4, decide_false, cond_false]
              rw [if_neg h4] at happ
              have hc1 := d2 (by omega)
              obtain ⟨se, s1, s2⟩ := ok.sum n1.e (hG _ (by rw [he]; simp))
              rw [he] at s2
              have hGe : ∀ x ∈ (pre ++ l.toList) ++ [e0'], G x := fun x hx => hG x (by simp at hx ⊢; rcases hx with hx | hx | hx <;> simp [hx])
              have hNe : ((pre ++ l.toList) ++ [e0']).length < N := by simp; omega
              have hfn := hp.run hc1 s2 hGe hNe
              obtain ⟨c2, f1, f2⟩ := ok.plus hc1 s2 hGe hNe
              simp only [s1, Option.bind_some, g4.size, hfn, f1]
              have hq := firstF_cons (P := P) (pre ++ l.toList) e0' u.toList (s - l.toList.length)
              generalize firstF P (pre ++ l.toList) (e0' :: u.toList) (s - l.toList.length) = q at happ hq
              -- what the left part has cost
              have q3 : v3 ≤ v2 + 3 * (l.ht : Nat) + 1 := p2 (.inr (by omega))
              by_cases h5 : s ≤ (l.size : Int) ∧ P (pre ++ l.toList) [e0'] = true
              · simp only [h5.1, h5.2, decide_true, cond_true, Option.bind_some, Sum.elim_inl]
                rw [if_pos ⟨by omega, h5.2⟩] at hq
                rw [hq, if_pos (by omega)] at happ
                exact ⟨c1, v3, by rw [happ]; congr 2; omega, fun h => by omega, by omega, fun h => by rcases h with h | h <;> first | exact h.elim | (exfalso; omega), fun h => by omega, by omega⟩
              · have h6 : ∀ {X : Type} (y : X), (bif decide (s ≤ (l.size : Int)) then (bif P (pre ++ l.toList) [e0'] then some (Sum.inl y) else some (Sum.inr ())) else some (Sum.inr () : Sum X Unit)) = some (Sum.inr ()) := fun y => by
                  by_cases h7 : s ≤ (l.size : Int)
                  · have h8 : P (pre ++ l.toList) [e0'] = false := by
                      cases h6 : P (pre ++ l.toList) [e0']
                      · rfl
                      · exact absurd ⟨h7, h6⟩ h5
                    simp only [h7, h8, decide_true, cond_true, cond_false]
                  · simp only [h7, decide_false, cond_false]
                rw [h6]
                rw [if_neg (fun h => h5 ⟨by have := h.1; omega, h.2⟩)] at hq
                have w1' : w64 (w64 (s - (l.size : Int)) - 1) = s - (l.toList.length : Int) - 1 := by
                  rw [w64_id (x := s - (l.size : Int)) (by omega) (by omega), w64_id (by omega) (by omega), hlL]
                have hGr : ∀ x ∈ (pre ++ l.toList ++ [e0']) ++ u.toList, G x := fun x hx => hG x (by simpa using hx)
                obtain ⟨c3, v4, y1, y2, e4, q1', q2', q3'⟩ := first_v ok hp hP n (pre ++ l.toList ++ [e0']) (s - (l.toList.length : Int) - 1) c2 (by omega) hu f2 hGr (by simp; omega) (by omega) (by omega) (v := v3) (by omega) (by omega)
                have hb3 := firstF_bound (P := P) (pre ++ l.toList ++ [e0']) u.toList (s - (l.toList.length : Int) - 1)
                simp only [Option.bind_some, Sum.elim_inr, w1', y1]
                have k1 : s ≥ (l.size : Int) → v3 ≤ v2 + 1 := fun h => p1 (.inl h)
                have k2 : s ≤ 0 → v3 ≤ v2 + 1 := fun h => p1 (.inr ⟨h, by omega⟩)
                have k3 : s ≤ (l.size : Int) → v4 ≤ v3 + 3 * (u.ht : Nat) + 1 := fun h => q2' (.inl (by omega))
                have hC : v4 ≤ v + 6 * ((1 + max l.ht u.ht : Nat) : Int) + 1 := by
                  by_cases h8 : s ≥ (l.size : Int)
                  · have := k1 h8; omega
                  · have := k3 (by omega); omega
                by_cases h7 : firstF P (pre ++ l.toList ++ [e0']) u.toList (s - (l.toList.length : Int) - 1) ≥ 0
                · simp only [h7, decide_true, cond_true]
                  rw [if_pos h7] at hq
                  rw [hq, if_pos (by omega)] at happ
                  refine ⟨c3, v4, ?_, fun h => by omega, by omega, fun h => by rcases h with h | h <;> first | exact h.elim | (exfalso; omega), fun h => ?_, hC⟩
                  · rw [happ, w64_id (x := (l.size : Int) + 1) (by omega) (by omega), w64_id (by omega) (by omega)]
                    congr 2; omega
                  · have h8 : s ≤ 0 := by omega
                    have := k2 h8; have := k3 (by omega); omega
                · simp only [h7, decide_false, cond_false]
                  rw [if_neg h7] at hq
                  rw [hq, if_neg (by omega)] at happ
                  have k4 : s ≤ (l.size : Int) → v4 ≤ v3 + 1 := fun h => q1' (.inr ⟨by omega, by omega⟩)
                  have k5 := q2' (.inr (by omega))
                  refine ⟨c3, v4, ?_, fun _ => by have := y2 (by omega); simpa using this, by omega, fun h => ?_, fun h => ?_, hC⟩
                  · rw [happ]
                    congr 2; omega
                  · exfalso
                    rcases h with h | h
                    · exact h.elim
                    · have := h9 h.1; omega
                  · by_cases h8 : s ≥ (l.size : Int)
                    · have := k1 h8; omega
                    · have := k4 (by omega); omega
theorem lastOf_v (ok : OpsOk O k N G S lt) (hp : PredOk N G S P fn) {p : PN E A} {L : List TRef} {B : Nat} (hP : PW p L B) : ∀ (n : Nat) {r : TRef} {t : Tr E} (pre : List E) (s : Int) (acc : A), t.size < n → Rep S p r t → S acc pre → (∀ x ∈ pre ++ t.toList, G x) → (pre ++ t.toList).length < N →
    -4611686018427387904 ≤ s - t.size → s ≤ 4611686018427387904 → ∀ {v : Int}, 0 ≤ v → v + 1000 * (t.size + 1 : Nat) < 4611686018427387904 →
    ∃ v', VTree_lastOf.r O k n (vz p v) r s acc fn = some (lastF P pre t.toList s, vz p v') ∧ v ≤ v' ∧
      (s ≤ 0 ∨ (s ≥ (t.size : Int) ∧ lastF P pre t.toList s < 0) → v' ≤ v + 1) ∧ (s ≥ (t.size : Int) ∨ lastF P pre t.toList s < 0 → v' ≤ v + 3 * (t.ht : Nat) + 1) ∧ v' ≤ v + 6 * (t.ht : Nat) + 1
  | 0, _, _, _, _, _, h, _, _, _, _, _, _, _, _, _ => by omega
  | n + 1, r, t, pre, s, acc, hn, hr, ha, hG, hN, b1, b2, v, h0v, hbv => by
    have hbig := ok.big
    obtain ⟨n1, g1, g2⟩ := get_ok ok hP hr
    obtain ⟨v1, a1, e1, d1v⟩ := get_v g1 h0v (by omega)
    have hll := Tr.len_toList t
    simp only [VTree_lastOf.r, a1, Option.bind_some, g2.size]
    by_cases h0 : t.size = 0
    · have e0 : ((t.size : Int) == 0) = true := by simp; exact h0
      have : t.toList = [] := List.eq_nil_of_length_eq_zero (by omega)
      simp only [e0, cond_true, Option.bind_some, Sum.elim_inl]
      have hf : lastF P pre t.toList s = -1 := by rw [this]; rfl
      rw [hf]; exact ⟨v1, rfl, e1, fun _ => by omega, fun _ => by omega, by omega⟩
    · have e0 : ((t.size : Int) == 0) = false := by simp; exact h0
      simp only [e0, cond_false]
      by_cases h1 : s ≤ 0
      · simp only [h1, decide_true, cond_true, Option.bind_some, Sum.elim_inl]
        rw [lastF_lim pre t.toList s h1]; exact ⟨v1, rfl, e1, fun _ => by omega, fun _ => by omega, by omega⟩
      · simp only [h1, decide_false, cond_false, hp.run ha g2.sum hG hN, Option.bind_some]
        by_cases h2 : s ≥ (t.size : Int) ∧ P pre t.toList = false
        · simp only [h2.1, h2.2, decide_true, cond_true, Bool.not_false, Option.bind_some, Sum.elim_inl]
          rw [lastF_none hp pre t.toList s h2.2]; exact ⟨v1, rfl, e1, fun _ => by omega, fun _ => by omega, by omega⟩
        · have h9 : s ≥ (t.size : Int) → lastF P pre t.toList s ≥ 0 := fun h4 => by
            have h5 : P pre t.toList = true := by
              cases h6 : P pre t.toList
              · exact absurd ⟨h4, h6⟩ h2
              · rfl
            exact lastF_some hp _ _ _ (by omega) h5
          have h3 : ∀ {X : Type} (y : X), (bif decide (s ≥ (t.size : Int)) then (bif !P pre t.toList then some (Sum.inl y) else some (Sum.inr ())) else some (Sum.inr () : Sum X Unit)) = some (Sum.inr ()) := fun y => by
            by_cases h4 : s ≥ (t.size : Int)
            · have h5 : P pre t.toList = true := by
                cases h6 : P pre t.toList
                · exact absurd ⟨h4, h6⟩ h2
                · rfl
              simp only [h4, h5, decide_true, cond_true, Bool.not_true, cond_false]
            · simp only [h4, decide_false, cond_false]
          rw [h3]
          cases t with
          | nil => exact absurd rfl h0
          | node r0 e0' l u =>
            obtain ⟨rfl, he, hl, hu, hlk⟩ := g2.node rfl
            obtain ⟨n2, g3, g4⟩ := get_ok ok hP hl
            have hsz : (Tr.node r e0' l u).size = l.size + 1 + u.size := rfl
            have hht : (Tr.node r e0' l u).ht = 1 + max l.ht u.ht := rfl
            have hln : (Tr.node r e0' l u).toList = l.toList ++ e0' :: u.toList := rfl
            have hlu := Tr.len_toList u
            have hlL := Tr.len_toList l
            have hl9 := Tr.ht_size l
            have hu9 := Tr.ht_size u
            rw [hsz] at hn b1 hbv h9 ⊢
            rw [hht]
            rw [hln] at hG hN h9 ⊢
            simp only [List.length_append, List.length_cons] at hN
            have sub1 : ∀ x ∈ pre ++ l.toList, G x := fun x hx => hG x (by simp at hx ⊢; rcases hx with hx | hx <;> simp [hx])
            obtain ⟨v2, a2, e2, d2v⟩ := get_v g3 (v := v1) (by omega) (by omega)
            obtain ⟨c1, d1, d2⟩ := ok.plus ha g4.sum sub1 (by simp; omega)
            obtain ⟨se, s1, s2⟩ := ok.sum n1.e (hG _ (by rw [he]; simp))
            rw [he] at s2
            have hGe : ∀ x ∈ (pre ++ l.toList) ++ [e0'], G x := fun x hx => hG x (by simp at hx ⊢; rcases hx with hx | hx | hx <;> simp [hx])
            have hNe : ((pre ++ l.toList) ++ [e0']).length < N := by simp; omega
            have hfn := hp.run d2 s2 hGe hNe
            obtain ⟨c2, f1, f2⟩ := ok.plus d2 s2 hGe hNe
            have w1' : w64 (w64 (s - (l.size : Int)) - 1) = s - (l.toList.length : Int) - 1 := by
              rw [w64_id (x := s - (l.size : Int)) (by omega) (by omega), w64_id (by omega) (by omega), hlL]
            have hGr : ∀ x ∈ (pre ++ l.toList ++ [e0']) ++ u.toList, G x := fun x hx => hG x (by simpa using hx)
            obtain ⟨v3, hr1, e3, p1, p2, p3⟩ := lastOf_v ok hp hP n (pre ++ l.toList ++ [e0']) (s - (l.toList.length : Int) - 1) c2 (by omega) hu f2 hGr (by simp; omega) (by omega) (by omega) (v := v2) (by omega) (by omega)
            obtain ⟨v4, hl1, e4, q1, q2, q3⟩ := lastOf_v ok hp hP n pre s acc (by omega) hl ha sub1 (by simp; omega) (by omega) b2 (v := v3) (by omega) (by omega)
            have hb3 := lastF_bound (P := P) (pre ++ l.toList ++ [e0']) u.toList (s - (l.toList.length : Int) - 1)
            have hb4 := lastF_bound (P := P) pre l.toList s
            have happ := lastF_append (P := P) pre l.toList (e0' :: u.toList) s
            have hq := lastF_cons (P := P) (pre ++ l.toList) e0' u.toList (s - l.toList.length)
            generalize lastF P (pre ++ l.toList) (e0' :: u.toList) (s - l.toList.length) = q at happ hq
            simp only [Option.bind_some, Sum.elim_inr, a2, d1, s1, f1, w1', hr1, g4.size, hfn, hl1]
            by_cases h4 : lastF P (pre ++ l.toList ++ [e0']) u.toList (s - (l.toList.length : Int) - 1) ≥ 0
            · simp only [h4, decide_true, cond_true]
              rw [if_pos h4] at hq
              rw [hq, if_pos (by omega)] at happ
              refine ⟨v3, ?_, by omega, fun h => by rcases h with h | h <;> first | exact h.elim | (exfalso; omega), fun h => ?_, by omega⟩
              · rw [happ, w64_id (x := _ + (l.size : Int)) (by omega) (by omega), w64_id (by omega) (by omega)]
                congr 2; omega
              · have := p2 (by omega); omega
            · simp only [h4, decide_false, cond_false]
              rw [if_neg h4] at hq
              have k1 : s ≤ (l.size : Int) → v3 ≤ v2 + 1 := fun h => p1 (.inl (by omega))
              have k2 : s ≥ ((l.size + 1 + u.size : Nat) : Int) → v3 ≤ v2 + 1 := fun h => p1 (.inr ⟨by omega, by omega⟩)
              have k3 := p2 (.inr (by omega))
              by_cases h5 : s > (l.size : Int) ∧ P (pre ++ l.toList) [e0'] = true
              · simp only [h5.1, h5.2, decide_true, cond_true]
                rw [if_pos ⟨by omega, h5.2⟩] at hq
                rw [hq, if_pos (by omega)] at happ
                exact ⟨v3, by rw [happ]; congr 2; omega, by omega, fun h => by rcases h with h | h <;> first | exact h.elim | (exfalso; omega), fun h => by have := k2 (by omega); omega, by omega⟩
              · rw [if_neg (fun h => h5 ⟨by have := h.1; omega, h.2⟩)] at hq
                rw [hq, if_neg (by omega)] at happ
                rw [happ] at h9 ⊢
                refine ⟨v4, ?_, by omega, fun h => ?_, fun h => ?_, ?_⟩
                · by_cases h7 : s > (l.size : Int)
                  · have h8 : P (pre ++ l.toList) [e0'] = false := by
                      cases h6 : P (pre ++ l.toList) [e0']
                      · rfl
                      · exact absurd ⟨h7, h6⟩ h5
                    simp only [h7, h8, decide_true, cond_true, cond_false]
                  · simp only [h7, decide_false, cond_false]
                · exfalso
                  rcases h with h | h
                  · exact h.elim
                  · have := h9 h.1; omega
                · rcases h with h | h
                  · have := k2 h; have := q2 (.inl (by omega)); omega
                  · by_cases h8 : s ≥ (l.size : Int)
                    · have := q1 (.inr ⟨h8, h⟩); omega
                    · have := k1 (by omega); have := q2 (.inr h); omega
                · by_cases h8 : s ≥ (l.size : Int)
                  · have := q2 (.inl h8); omega
                  · have := k1 (by omega); omega
end
structure GrV {E A : Type} (S : A → List E → Prop) (lt : E → E → Prop) (G : E → Prop) (p : PN E A) (r : TRef) (l : List E) (c : Int) (B : Nat) : Prop where
  ex : ∃ t, PW p t.refs B ∧ Rep S p r t ∧ t.toList = l ∧ Tr.WB t
  sorted : InOrd lt l
  good : ∀ x ∈ l, G x
  cap : p.cap = c
def hmax (n : Nat) : Nat := 2 + 3 * Nat.log2 (n + 1)
section
variable {E A : Type} {O : Ops E A} {k N : Nat} {G : E → Prop} {S : A → List E → Prop} {lt : E → E → Prop} {P : List E → List E → Bool} {fn : A → A → Option Bool}
variable {p : PN E A} {r : TRef} {l : List E} {c : Int} {B : Nat}
theorem GrV.gr (h : GrV S lt G p r l c B) : Gr S lt G p r l c B := by
  obtain ⟨t, h1, h2, h3, _⟩ := h.ex
  exact ⟨⟨t, h1, h2, h3⟩, h.sorted, h.good, h.cap⟩
theorem wb_h {t : Tr E} (h : Tr.WB t) : t.ht ≤ hmax t.toList.length := by
  have := Tr.ht_le h
  rw [Tr.len_toList]; exact this
theorem GrV.new (c : Int) (B : Nat) (hB : B < 4294967295) : GrV S lt G (⟨[], [], c, 0, 0⟩ : PN E A) zTRef [] c B :=
  ⟨⟨.nil, PW.new c B hB, rfl, rfl, trivial⟩, List.Pairwise.nil, by simp, rfl⟩
theorem GrV.len (ok : OpsOk O k N G S lt) (h : GrV S lt G p r l c B) {v : Int} (h0 : 0 ≤ v) (hb : v < 4611686018427387904) : ∃ v', VTree_Len.f O k (vz p v) r = some ((l.length : Int), vz p v') ∧ v ≤ v' ∧ v' ≤ v + 1 := by
  obtain ⟨t, hP, hr, rfl, hw⟩ := h.ex
  obtain ⟨n, g1, g2⟩ := get_ok ok hP hr
  obtain ⟨v', a1, b1, c1⟩ := get_v g1 h0 hb
  exact ⟨v', by unfold VTree_Len.f; rw [a1]; simp only [Option.bind_some, g2.size, Tr.len_toList], b1, c1⟩
theorem clampI (x : Int) (n : Nat) : gmin (gmax x 0) (n : Int) = min (max x 0) (n : Int) := by unfold gmin gmax; split <;> split <;> omega
theorem GrV.between (ok : OpsOk O k N G S lt) (hk : N ≤ k) (h : GrV S lt G p r l c B) (i j : Int) (hN : l.length < N) {v : Int} (h0 : 0 ≤ v) (hb : v + 1000 * (l.length + 1 : Nat) + 1000 < 4611686018427387904) {s : A} (hs : Tree_Between.f O k p r i j = some s) :
    ∃ v', VTree_Between.f O k (vz p v) r i j = some (s, vz p v') ∧ v ≤ v' ∧ v' ≤ v + 9 * (hmax l.length : Nat) + 2 := by
  have hbig := ok.big
  obtain ⟨v1, a1, b1, c1⟩ := h.len ok h0 (by omega)
  have hlen := h.gr.len ok
  obtain ⟨t, hP, hr, rfl, hw⟩ := h.ex
  have hll := Tr.len_toList t
  have hwh := wb_h hw
  unfold Tree_Between.f Tree_between.f at hs
  rw [hlen] at hs
  simp only [Option.bind_some, clampI] at hs
  obtain ⟨x, s1, hs⟩ := bnd hs
  cases hs
  obtain ⟨v', a2, b2, c2, d2, e2⟩ := between_v (k := k) ok hP k (min (max i 0) (t.toList.length : Int)) (min (max j 0) (t.toList.length : Int)) hr (by omega) (by omega) (by omega) (by omega) (by omega) s1 (v := v1) (by omega) (by omega)
  refine ⟨v', ?_, by omega, by omega⟩
  unfold VTree_Between.f VTree_between.f
  rw [a1]
  simp only [Option.bind_some, clampI, a2]
theorem GrV.first (ok : OpsOk O k N G S lt) (hk : N ≤ k) (hp : PredOk N G S P fn) (h : GrV S lt G p r l c B) (i : Int) (hN : l.length < N) {v : Int} (h0 : 0 ≤ v) (hb : v + 1000 * (l.length + 1 : Nat) + 1000 < 4611686018427387904) :
    ∃ v', VTree_First.f O k (vz p v) r i fn = some (firstF P [] l i, vz p v') ∧ v ≤ v' ∧ v' ≤ v + 6 * (hmax l.length : Nat) + 2 := by
  have hbig := ok.big
  obtain ⟨v1, a1, b1, c1⟩ := h.len ok h0 (by omega)
  obtain ⟨t, hP, hr, rfl, hw⟩ := h.ex
  have hll := Tr.len_toList t
  have hwh := wb_h hw
  obtain ⟨c, v', h1, h2, e1, _, _, e2⟩ := first_v ok hp hP k [] (min (max i 0) (t.toList.length : Int)) O.zA (by omega) hr ok.zero (by simpa using h.good) (by simpa using hN) (by omega) (by omega) (v := v1) (by omega) (by omega)
  refine ⟨v', ?_, by omega, by omega⟩
  unfold VTree_First.f VTree_first.f
  rw [a1]
  simp only [Option.bind_some, clampI, h1, firstF_clamp]
theorem GrV.last (ok : OpsOk O k N G S lt) (hk : N ≤ k) (hp : PredOk N G S P fn) (h : GrV S lt G p r l c B) (i : Int) (hN : l.length < N) {v : Int} (h0 : 0 ≤ v) (hb : v + 1000 * (l.length + 1 : Nat) + 1000 < 4611686018427387904) :
    ∃ v', VTree_Last.f O k (vz p v) r i fn = some (lastF P [] l i, vz p v') ∧ v ≤ v' ∧ v' ≤ v + 6 * (hmax l.length : Nat) + 2 := by
  have hbig := ok.big
  obtain ⟨v1, a1, b1, c1⟩ := h.len ok h0 (by omega)
  obtain ⟨t, hP, hr, rfl, hw⟩ := h.ex
  have hll := Tr.len_toList t
  have hwh := wb_h hw
  obtain ⟨v', h1, e1, _, _, e2⟩ := lastOf_v ok hp hP k [] (min (max i 0) (t.toList.length : Int)) O.zA (by omega) hr ok.zero (by simpa using h.good) (by simpa using hN) (by omega) (by omega) (v := v1) (by omega) (by omega)
  refine ⟨v', ?_, by omega, by omega⟩
  unfold VTree_Last.f VTree_lastOf.f
  rw [a1]
  simp only [Option.bind_some, clampI, h1, lastF_clamp]
end
end Go.Proofs.YtpeoalmhccmdiaaGreat

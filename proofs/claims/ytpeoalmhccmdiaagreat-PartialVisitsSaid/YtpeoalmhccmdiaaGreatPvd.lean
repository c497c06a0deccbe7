/- My texts that the proof of PartialVisits rests on, part 4: a calculus of walks, the walks, and the plain law. -/
import Derived.KernelRfl
import Derived.Test.YtpeoalmhccmdiaaGreatPvc
set_option linter.unusedVariables false
set_option linter.unusedSimpArgs false
namespace Go.Proofs.YtpeoalmhccmdiaaGreat
open Go Go.Proofs.YtpeoalmhccmdiaaGreat.Sx
abbrev pvM (k : Nat) (p : Pool (TNode TMark TSwell)) : Tok := pool k 175 195 3 31 fCM p
theorem pvgetM {p : Pool (TNode TMark TSwell)} {i g : Int} {x : ((TNode TMark TSwell) × Bool) × Pool (TNode TMark TSwell)} (h : vGet zNodeM p i g = some x) (k : Nat) : SCon Tryz.prog 108 [SV.p k 0, SV.agg [.i i, .i g]] [(k, pvM k p)] (.tup [avM x.1.1, .c (.b x.1.2)]) [(k, pvM k x.2)] [] := by
 obtain ⟨hp, hx⟩ := grd h
 cases hx
 exact getM' p i g ((hp.ok p.vis : PoolOk 4294967294 p)) (by decide) k
theorem pvsetM {p : Pool (TNode TMark TSwell)} {i g : Int} {y : (TNode TMark TSwell)} {x : Bool × Pool (TNode TMark TSwell)} (h : pSet p i g y = some x) (k : Nat) : SCon Tryz.prog 126 [SV.p k 0, SV.agg [.i i, .i g], .a (avM y)] [(k, pvM k p)] (SV.b x.1) [(k, pvM k x.2)] [] := by
 obtain ⟨hp, hx⟩ := grd h
 cases hx
 exact setM' p i g y ((hp.ok p.vis : PoolOk 4294967294 p)) (by decide) k
theorem pvputM {p : Pool (TNode TMark TSwell)} {y : (TNode TMark TSwell)} {x : ((Int × Int) × Bool) × Pool (TNode TMark TSwell)} (h : pPut zNodeM p y = some x) (k : Nat) : SCon Tryz.prog 124 [SV.p k 0, .a (avM y)] [(k, pvM k p)] (.tup [.agg [.i x.1.1.1, .i x.1.1.2], .c (.b x.1.2)]) [(k, pvM k x.2)] [] := by
 obtain ⟨hp, hx⟩ := grd h
 cases hx
 exact putM p y ((hp.ok p.vis : PoolOk 4294967294 p)) (by decide) k
theorem pvdropM {p : Pool (TNode TMark TSwell)} {i g : Int} {x : ((TNode TMark TSwell) × Bool) × Pool (TNode TMark TSwell)} (h : pDrop zNodeM p i g = some x) (k : Nat) : SCon Tryz.prog 131 [SV.p k 0, SV.agg [.i i, .i g]] [(k, pvM k p)] (.tup [avM x.1.1, .c (.b x.1.2)]) [(k, pvM k x.2)] [] := by
 obtain ⟨hp, hx⟩ := grd h
 cases hx
 exact dropM' p i g ((hp.ok p.vis : PoolOk 4294967294 p)) (by decide) k
theorem pvvisitsM (p : Pool (TNode TMark TSwell)) (k : Nat) : SCon Tryz.prog 94 [SV.p k 0] [(k, pvM k p)] (SV.i p.vis) [(k, pvM k p)] [] := visitsM' p k
theorem pvnewM (c : Int) (k : Nat) : SCon Tryz.prog 116 [SV.i c] [] (SV.p k 0) [(k, pvM k ⟨[], [], capOf c, 0, 0⟩)] [k] := newM c k
abbrev pvS (k : Nat) (p : Pool (TNode TSlot TSize)) : Tok := pool k 178 191 3 12 fCS p
theorem pvgetS {p : Pool (TNode TSlot TSize)} {i g : Int} {x : ((TNode TSlot TSize) × Bool) × Pool (TNode TSlot TSize)} (h : vGet zNodeS p i g = some x) (k : Nat) : SCon Tryz.prog 107 [SV.p k 0, SV.agg [.i i, .i g]] [(k, pvS k p)] (.tup [avS x.1.1, .c (.b x.1.2)]) [(k, pvS k x.2)] [] := by
 obtain ⟨hp, hx⟩ := grd h
 cases hx
 exact getS' p i g ((hp.ok p.vis : PoolOk 4294967294 p)) (by decide) k
theorem pvsetS {p : Pool (TNode TSlot TSize)} {i g : Int} {y : (TNode TSlot TSize)} {x : Bool × Pool (TNode TSlot TSize)} (h : pSet p i g y = some x) (k : Nat) : SCon Tryz.prog 122 [SV.p k 0, SV.agg [.i i, .i g], .a (avS y)] [(k, pvS k p)] (SV.b x.1) [(k, pvS k x.2)] [] := by
 obtain ⟨hp, hx⟩ := grd h
 cases hx
 exact setS' p i g y ((hp.ok p.vis : PoolOk 4294967294 p)) (by decide) k
theorem pvputS {p : Pool (TNode TSlot TSize)} {y : (TNode TSlot TSize)} {x : ((Int × Int) × Bool) × Pool (TNode TSlot TSize)} (h : pPut zNodeS p y = some x) (k : Nat) : SCon Tryz.prog 120 [SV.p k 0, .a (avS y)] [(k, pvS k p)] (.tup [.agg [.i x.1.1.1, .i x.1.1.2], .c (.b x.1.2)]) [(k, pvS k x.2)] [] := by
 obtain ⟨hp, hx⟩ := grd h
 cases hx
 exact putS p y ((hp.ok p.vis : PoolOk 4294967294 p)) (by decide) k
theorem pvdropS {p : Pool (TNode TSlot TSize)} {i g : Int} {x : ((TNode TSlot TSize) × Bool) × Pool (TNode TSlot TSize)} (h : pDrop zNodeS p i g = some x) (k : Nat) : SCon Tryz.prog 133 [SV.p k 0, SV.agg [.i i, .i g]] [(k, pvS k p)] (.tup [avS x.1.1, .c (.b x.1.2)]) [(k, pvS k x.2)] [] := by
 obtain ⟨hp, hx⟩ := grd h
 cases hx
 exact dropS' p i g ((hp.ok p.vis : PoolOk 4294967294 p)) (by decide) k
theorem pvvisitsS (p : Pool (TNode TSlot TSize)) (k : Nat) : SCon Tryz.prog 95 [SV.p k 0] [(k, pvS k p)] (SV.i p.vis) [(k, pvS k p)] [] := visitsS' p k
theorem pvnewS (c : Int) (k : Nat) : SCon Tryz.prog 117 [SV.i c] [] (SV.p k 0) [(k, pvS k ⟨[], [], capOf c, 0, 0⟩)] [k] := newS c k
abbrev tkQueueV (n0 n1 n2 n3 n4 n5 n6 n7 n8 : Nat) (q : TQueue) (l : List (Nat × Tok)) : List (Nat × Tok) := (n0, blk n0 [.v (.int .i64 q.capacity), .p n1 0, .p n3 0, .p n5 0, .p n7 0, .v (.int .i64 q.excess)] 98) :: (n1, blk n1 [.p n2 0, .v (.int .i64 q.marks.r.index), .v (.int .i64 q.marks.r.gen)] 110) :: (n2, pvM n2 (q.marks.p)) :: (n3, blk n3 [.p n4 0, .v (.int .i64 q.present.r.index), .v (.int .i64 q.present.r.gen)] 131) :: (n4, pvS n4 (q.present.p)) :: (n5, blk n5 [.p n6 0, .v (.int .i64 q.gone.r.index), .v (.int .i64 q.gone.r.gen)] 131) :: (n6, pvS n6 (q.gone.p)) :: (n7, blk n7 [.p n8 0, .v (.int .i64 q.times.r.index), .v (.int .i64 q.times.r.gen)] 131) :: (n8, pvS n8 (q.times.p)) :: l
abbrev VTree_NewM_st (a0 : Int) (r : TRef × Pool (TNode TMark TSwell)) (m40 : Nat) (m41 : Nat) : Prop := SCon Tryz.prog 91 [.a (.c (.v (.int .i64 a0)))] [] (.a (.c (.p m40 0))) [(m40, blk m40 [.p m41 0, .i r.1.index, .i r.1.gen] 110), (m41, pvM m41 r.2)] [m40, m41]
theorem VTree_NewM_con0 {k : Nat}  {a0 : Int} {r : TRef × Pool (TNode TMark TSwell)}  (H0 : VTree_New.f opsM k a0 = some r) : VTree_NewM_st a0 r 40 41 := by
 rw [VTree_New.f] at H0
 refine spec_of [(0, _)] [] 7 Tryz.func91 rfl Tryz.ntmps91 rfl rfl rfl rfl (fun β W F => ?_)
 exact G.seq <| G.rg <| K.as rfl rfl <| K.nil <| At.nr <| K.mv rfl rfl <| K.call0 [(.func 116, _), ((.tmp 3), _)] (pvnewM a0 100) (toFn_func (cf 116 rfl) rfl) g0 ⟨rfl, rfl, trivial⟩ trivial rfl rfl rfl rfl rfl rfl <| K.build Y [(0, _)] [_, _, _] [((.tmp 4), _)] g0 (AllE.spec ⟨rfl, trivial⟩) rfl rfl t110 rfl rfl <| K.box Y 101 _ g0 rfl rfl rfl rfl rfl rfl <| K.as rfl rfl <| K.nil <| At.next <| G.ret <| At.ren (fs' := [(2, .a (.c (.p 40 0)))]) (tl := [(40, blk 40 [.p 41 0, .v (.int .i64 0), .v (.int .i64 0)] 110), (41, pvM 41 (⟨[], [], capOf a0, 0, 0⟩ : Pool (TNode TMark TSwell)))]) [(40, 101), (41, 100)] [_, _] rfl ⟨rfl, trivial⟩ ⟨rfl, (blk_ren rfl rfl), rfl, (pool_ren rfl), trivial⟩ rfl <| At.dr Y [2] rfl rfl (by cases H0; rfl) (by cases H0; rfl) rfl rfl rfl
theorem VTree_NewM_con {k : Nat}  {a0 : Int} {r : TRef × Pool (TNode TMark TSwell)}  (H0 : VTree_New.f opsM k a0 = some r) (m40 m41 : Nat) (hd : ndB [m40, m41] = true) : VTree_NewM_st a0 r m40 m41 :=
 SCon.ren (rn [(40, m40), (41, m41)]) (VTree_NewM_con0 (k := k)   H0) trivial ⟨(blk_ren rfl rfl), (pool_ren rfl), trivial⟩ (rn_nd hd rfl rfl) (rn_ks hd rfl rfl rfl)
abbrev Vwave_New_st (a0 : Int) (r : TRef × Pool (TNode TMark TSwell)) (m40 : Nat) (m41 : Nat) : Prop := SCon Tryz.prog 52 [.a (.c (.v (.int .i64 a0)))] [] (.a (.c (.p m40 0))) [(m40, blk m40 [.p m41 0, .i r.1.index, .i r.1.gen] 110), (m41, pvM m41 r.2)] [m40, m41]
theorem Vwave_New_con0 {k : Nat}  {a0 : Int} {r : TRef × Pool (TNode TMark TSwell)}  (H0 : Vwave_New.f k a0 = some r) : Vwave_New_st a0 r 40 41 := by
 rw [Vwave_New.f] at H0
 refine spec_of [(0, _)] [] 5 Tryz.func52 rfl Tryz.ntmps52 rfl rfl rfl rfl (fun β W F => ?_)
 refine G.seq <| G.rg <| K.as rfl rfl <| K.nil <| At.ns ?_
 obtain ⟨x1, hx1, H0⟩ := bnd H0
 exact G.rg <| K.mv rfl rfl <| K.c0 (cf 91 rfl) (VTree_NewM_con hx1 100 101 rfl) g0 rfl rfl rfl rfl <| K.as rfl rfl <| K.nil <| At.next <| G.ret <| At.ren (fs' := [(2, .a (.c (.p 40 0)))]) (tl := [(40, blk 40 [.p 41 0, .v (.int .i64 x1.1.index), .v (.int .i64 x1.1.gen)] 110), (41, pvM 41 x1.2)]) [(40, 100), (41, 101)] [_, _] rfl ⟨rfl, trivial⟩ ⟨rfl, (blk_ren rfl rfl), rfl, (pool_ren rfl), trivial⟩ rfl <| At.dr Y [2] rfl rfl (by cases H0; rfl) (by cases H0; rfl) rfl rfl rfl
theorem Vwave_New_con {k : Nat}  {a0 : Int} {r : TRef × Pool (TNode TMark TSwell)}  (H0 : Vwave_New.f k a0 = some r) (m40 m41 : Nat) (hd : ndB [m40, m41] = true) : Vwave_New_st a0 r m40 m41 :=
 SCon.ren (rn [(40, m40), (41, m41)]) (Vwave_New_con0 (k := k)   H0) trivial ⟨(blk_ren rfl rfl), (pool_ren rfl), trivial⟩ (rn_nd hd rfl rfl) (rn_ks hd rfl rfl rfl)
abbrev VTree_NewS_st (a0 : Int) (r : TRef × Pool (TNode TSlot TSize)) (m40 : Nat) (m41 : Nat) : Prop := SCon Tryz.prog 92 [.a (.c (.v (.int .i64 a0)))] [] (.a (.c (.p m40 0))) [(m40, blk m40 [.p m41 0, .i r.1.index, .i r.1.gen] 131), (m41, pvS m41 r.2)] [m40, m41]
theorem VTree_NewS_con0 {k : Nat}  {a0 : Int} {r : TRef × Pool (TNode TSlot TSize)}  (H0 : VTree_New.f opsS k a0 = some r) : VTree_NewS_st a0 r 40 41 := by
 rw [VTree_New.f] at H0
 refine spec_of [(0, _)] [] 7 Tryz.func92 rfl Tryz.ntmps92 rfl rfl rfl rfl (fun β W F => ?_)
 exact G.seq <| G.rg <| K.as rfl rfl <| K.nil <| At.nr <| K.mv rfl rfl <| K.call0 [(.func 117, _), ((.tmp 3), _)] (pvnewS a0 100) (toFn_func (cf 117 rfl) rfl) g0 ⟨rfl, rfl, trivial⟩ trivial rfl rfl rfl rfl rfl rfl <| K.build Y [(0, _)] [_, _, _] [((.tmp 4), _)] g0 (AllE.spec ⟨rfl, trivial⟩) rfl rfl t131 rfl rfl <| K.box Y 101 _ g0 rfl rfl rfl rfl rfl rfl <| K.as rfl rfl <| K.nil <| At.next <| G.ret <| At.ren (fs' := [(2, .a (.c (.p 40 0)))]) (tl := [(40, blk 40 [.p 41 0, .v (.int .i64 0), .v (.int .i64 0)] 131), (41, pvS 41 (⟨[], [], capOf a0, 0, 0⟩ : Pool (TNode TSlot TSize)))]) [(40, 101), (41, 100)] [_, _] rfl ⟨rfl, trivial⟩ ⟨rfl, (blk_ren rfl rfl), rfl, (pool_ren rfl), trivial⟩ rfl <| At.dr Y [2] rfl rfl (by cases H0; rfl) (by cases H0; rfl) rfl rfl rfl
theorem VTree_NewS_con {k : Nat}  {a0 : Int} {r : TRef × Pool (TNode TSlot TSize)}  (H0 : VTree_New.f opsS k a0 = some r) (m40 m41 : Nat) (hd : ndB [m40, m41] = true) : VTree_NewS_st a0 r m40 m41 :=
 SCon.ren (rn [(40, m40), (41, m41)]) (VTree_NewS_con0 (k := k)   H0) trivial ⟨(blk_ren rfl rfl), (pool_ren rfl), trivial⟩ (rn_nd hd rfl rfl) (rn_ks hd rfl rfl rfl)
abbrev Vshelf_New_st (a0 : Int) (r : TRef × Pool (TNode TSlot TSize)) (m40 : Nat) (m41 : Nat) : Prop := SCon Tryz.prog 53 [.a (.c (.v (.int .i64 a0)))] [] (.a (.c (.p m40 0))) [(m40, blk m40 [.p m41 0, .i r.1.index, .i r.1.gen] 131), (m41, pvS m41 r.2)] [m40, m41]
theorem Vshelf_New_con0 {k : Nat}  {a0 : Int} {r : TRef × Pool (TNode TSlot TSize)}  (H0 : Vshelf_New.f k a0 = some r) : Vshelf_New_st a0 r 40 41 := by
 rw [Vshelf_New.f] at H0
 refine spec_of [(0, _)] [] 5 Tryz.func53 rfl Tryz.ntmps53 rfl rfl rfl rfl (fun β W F => ?_)
 refine G.seq <| G.rg <| K.as rfl rfl <| K.nil <| At.ns ?_
 obtain ⟨x1, hx1, H0⟩ := bnd H0
 exact G.rg <| K.mv rfl rfl <| K.c0 (cf 92 rfl) (VTree_NewS_con hx1 100 101 rfl) g0 rfl rfl rfl rfl <| K.as rfl rfl <| K.nil <| At.next <| G.ret <| At.ren (fs' := [(2, .a (.c (.p 40 0)))]) (tl := [(40, blk 40 [.p 41 0, .v (.int .i64 x1.1.index), .v (.int .i64 x1.1.gen)] 131), (41, pvS 41 x1.2)]) [(40, 100), (41, 101)] [_, _] rfl ⟨rfl, trivial⟩ ⟨rfl, (blk_ren rfl rfl), rfl, (pool_ren rfl), trivial⟩ rfl <| At.dr Y [2] rfl rfl (by cases H0; rfl) (by cases H0; rfl) rfl rfl rfl
theorem Vshelf_New_con {k : Nat}  {a0 : Int} {r : TRef × Pool (TNode TSlot TSize)}  (H0 : Vshelf_New.f k a0 = some r) (m40 m41 : Nat) (hd : ndB [m40, m41] = true) : Vshelf_New_st a0 r m40 m41 :=
 SCon.ren (rn [(40, m40), (41, m41)]) (Vshelf_New_con0 (k := k)   H0) trivial ⟨(blk_ren rfl rfl), (pool_ren rfl), trivial⟩ (rn_nd hd rfl rfl) (rn_ks hd rfl rfl rfl)
abbrev Vpartial_New_st (a0 : Int) (r : TQueue) (m80 : Nat) (m81 : Nat) (m82 : Nat) (m83 : Nat) (m84 : Nat) (m85 : Nat) (m86 : Nat) (m87 : Nat) (m88 : Nat) : Prop := SCon Tryz.prog 15 [.a (.c (.v (.int .i64 a0)))] [] (.a (.c (.p m80 0))) (tkQueueV m80 m81 m82 m83 m84 m85 m86 m87 m88 r []) [m80, m81, m82, m83, m84, m85, m86, m87, m88]
theorem Vpartial_New_con0 {k : Nat}  {a0 : Int} {r : TQueue}  (H0 : Vpartial_New.f k a0 = some r) : Vpartial_New_st a0 r 80 81 82 83 84 85 86 87 88 := by
 rw [Vpartial_New.f] at H0
 refine spec_of [(0, _)] [] 18 Tryz.func15 rfl Tryz.ntmps15 rfl rfl rfl rfl (fun β W F => ?_)
 refine G.seq <| G.rg <| K.as rfl rfl <| K.nil <| At.nr <| K.mv rfl rfl <| K.bi2 (V := .int .i64 (gmax a0 0)) g0 rfl rfl (fun _ _ => rfl) rfl <| K.bi2 (V := .int .i64 (gmin (gmax a0 0) 65536)) g0 rfl rfl (fun _ _ => rfl) rfl <| K.as rfl rfl <| K.nil <| At.ns ?_
 obtain ⟨x1, hx1, H0⟩ := bnd H0
 obtain ⟨x2, hx2, H0⟩ := bnd H0
 obtain ⟨x3, hx3, H0⟩ := bnd H0
 obtain ⟨x4, hx4, H0⟩ := bnd H0
 exact G.rg <| K.mv rfl rfl <| K.mv rfl rfl <| K.c0 (cf 52 rfl) (Vwave_New_con hx1 100 101 rfl) g0 rfl rfl rfl rfl <| K.mv rfl rfl <| K.c0 (cf 53 rfl) (Vshelf_New_con hx2 102 103 rfl) g0 rfl rfl rfl rfl <| K.mv rfl rfl <| K.c0 (cf 53 rfl) (Vshelf_New_con hx3 104 105 rfl) g0 rfl rfl rfl rfl <| K.mv rfl rfl <| K.c0 (cf 53 rfl) (Vshelf_New_con hx4 106 107 rfl) g0 rfl rfl rfl rfl <| K.build Y [(0, _), (1, _), (2, _), (3, _), (4, _)] [_, _, _, _, _, _] [((.tmp 7), _), ((.tmp 9), _), ((.tmp 11), _), ((.tmp 13), _), ((.tmp 15), _)] g0 (AllE.spec ⟨rfl, rfl, rfl, rfl, rfl, trivial⟩) rfl rfl t98 rfl rfl <| K.box Y 108 _ g0 rfl rfl rfl rfl rfl rfl <| K.as rfl rfl <| K.nil <| At.next <| G.ret <| At.ren (fs' := [(2, .a (.c (.p 80 0)))]) (tl := (tkQueueV 80 81 82 83 84 85 86 87 88 (TQueue.mk (gmin (gmax a0 0) 65536) (TS.mk x1.2 x1.1) (TS.mk x2.2 x2.1) (TS.mk x3.2 x3.1) (TS.mk x4.2 x4.1) 0) [])) [(80, 108), (81, 100), (82, 101), (83, 102), (84, 103), (85, 104), (86, 105), (87, 106), (88, 107)] [_, _, _, _, _, _, _, _, _] rfl ⟨rfl, trivial⟩ ⟨rfl, (blk_ren rfl rfl), rfl, (blk_ren rfl rfl), rfl, (pool_ren rfl), rfl, (blk_ren rfl rfl), rfl, (pool_ren rfl), rfl, (blk_ren rfl rfl), rfl, (pool_ren rfl), rfl, (blk_ren rfl rfl), rfl, (pool_ren rfl), trivial⟩ rfl <| At.dr Y [2] rfl rfl (by cases H0; rfl) (by cases H0; rfl) rfl rfl rfl
theorem Vpartial_New_con {k : Nat}  {a0 : Int} {r : TQueue}  (H0 : Vpartial_New.f k a0 = some r) (m80 m81 m82 m83 m84 m85 m86 m87 m88 : Nat) (hd : ndB [m80, m81, m82, m83, m84, m85, m86, m87, m88] = true) : Vpartial_New_st a0 r m80 m81 m82 m83 m84 m85 m86 m87 m88 :=
 SCon.ren (rn [(80, m80), (81, m81), (82, m82), (83, m83), (84, m84), (85, m85), (86, m86), (87, m87), (88, m88)]) (Vpartial_New_con0 (k := k)   H0) trivial ⟨(blk_ren rfl rfl), (blk_ren rfl rfl), (pool_ren rfl), (blk_ren rfl rfl), (pool_ren rfl), (blk_ren rfl rfl), (pool_ren rfl), (blk_ren rfl rfl), (pool_ren rfl), trivial⟩ (rn_nd hd rfl rfl) (rn_ks hd rfl rfl rfl)
abbrev VTree_getM_st (p1 : Pool (TNode TMark TSwell)) (a1 : TRef) (ri0 : Int) (rg0 : Int) (r : TNode TMark TSwell × Pool (TNode TMark TSwell)) (m0 : Nat) (m1 : Nat) : Prop := SCon Tryz.prog 80 [SV.p m0 0, .a (.agg ((eTRef a1).map .v))] [(m0, blk m0 [.p m1 0, .i ri0, .i rg0] 110), (m1, pvM m1 p1)] (.a (.agg ((eTNode_TMark_TSwell r.1).map .v))) [(m0, blk m0 [.p m1 0, .i ri0, .i rg0] 110), (m1, pvM m1 r.2)] []
theorem VTree_getM_con0 {k : Nat}  {p1 : Pool (TNode TMark TSwell)} {a1 : TRef} {ri0 rg0 : Int} {r : TNode TMark TSwell × Pool (TNode TMark TSwell)}  (H0 : VTree_get.f opsM k p1 a1 = some r) : VTree_getM_st p1 a1 ri0 rg0 r 0 1 := by
 rw [VTree_get.f] at H0
 refine spec_of [(0, _), (1, _)] [(0, _), (1, _)] 21 Tryz.func80 rfl Tryz.ntmps80 rfl rfl rfl rfl (fun β W F => ?_)
 refine G.seq <| G.rg <| K.box Y 100 _ g0 rfl rfl rfl rfl rfl rfl <| K.alloc Y 101 _ g0 t133 rfl rfl rfl rfl rfl <| K.nil <| At.ns <| G.seq <| G.rg <| K.fieldAddr Y g0 rfl t108 rfl rfl <| K.load1 Y g0 rfl rfl t3 rfl rfl <| K.bin (V := .bool (a1.gen == 0)) g0 rfl rfl (fun _ => rfl) rfl <| K.nil <| At.next <| G.cond rfl (fun h1 => ?_) (fun h1 => ?_)
 ·
  replace H0 := bif_t H0 h1
  refine G.seq <| G.rg <| K.build Y [] [_, _, _, _, _, _, _, _, _, _, _, _, _, _, _, _, _, _, _, _, _, _, _, _, _, _, _, _, _] [] g0 (AllE.spec trivial) rfl rfl t133 rfl rfl <| K.store Y _ g0 rfl rfl rfl t133 rfl rfl rfl rfl rfl <| K.nil <| At.next <| G.ret <| At.over_ret <| At.done Y [(.cell 4 133, .agg [_, _, _, _, _, _, _, _, _, _, _, _, _, _, _, _, _, _, _, _, _, _, _, _, _, _, _, _, _])] rfl ⟨.st rfl rfl t133 rfl rfl, trivial⟩ (to' := [(0, _), (1, _)]) ⟨rfl, rfl, trivial⟩ ?_ ?_ rfl rfl rfl (.inl rfl)
  · cases H0; rfl
  · cases H0; rfl
 ·
  replace H0 := bif_f H0 h1
  refine G.skip <| At.ns ?_
  obtain ⟨x1, hx1, H0⟩ := bnd H0
  refine G.rd mixed <| K.mv rfl rfl <| K.nilCheck g0 rfl rfl <| K.fieldAddr Y g0 rfl t110 rfl rfl <| K.load1 Y g0 rfl rfl t106 rfl rfl <| K.loadS Y _ g0 rfl rfl t108 rfl rfl rfl <| K.call0 [(.func 108, _), ((.tmp 15), _), ((.tmp 16), _)] (pvgetM hx1 1) (toFn_func (cf 108 rfl) rfl) g0 ⟨rfl, rfl, rfl, trivial⟩ ⟨rfl, trivial⟩ rfl rfl rfl rfl rfl rfl <| K.mv rfl rfl <| K.extract g0 rfl rfl rfl <| K.extract g0 rfl rfl rfl <| K.alloc Y 102 _ g0 t133 rfl rfl rfl rfl rfl <| K.store Y _ g0 rfl rfl rfl t133 rfl rfl rfl rfl rfl <| K.as rfl rfl <| K.nil <| And.intro (by kernel_rfl) <| At.nr <| K.loadS Y _ g0 rfl rfl t133 rfl rfl rfl <| K.store Y _ g0 rfl rfl rfl t133 rfl rfl rfl rfl rfl <| K.nil <| At.next <| G.ret <| At.done Y [(.cell 4 133, .agg [_, _, _, _, _, _, _, _, _, _, _, _, _, _, _, _, _, _, _, _, _, _, _, _, _, _, _, _, _])] rfl ⟨.st rfl rfl t133 rfl rfl, trivial⟩ (to' := [(0, _), (1, _)]) ⟨rfl, rfl, trivial⟩ ?_ ?_ rfl rfl rfl (.inl rfl)
  · cases H0; rfl
  · cases H0; rfl
theorem VTree_getM_con {k : Nat}  {p1 : Pool (TNode TMark TSwell)} {a1 : TRef} {ri0 rg0 : Int} {r : TNode TMark TSwell × Pool (TNode TMark TSwell)}  (H0 : VTree_get.f opsM k p1 a1 = some r) (m0 m1 : Nat) : VTree_getM_st p1 a1 ri0 rg0 r m0 m1 :=
 SCon.ren (rn [(0, m0), (1, m1)]) (VTree_getM_con0 (k := k)   H0) ⟨(blk_ren rfl rfl), (pool_ren rfl), trivial⟩ ⟨(blk_ren rfl rfl), (pool_ren rfl), trivial⟩ (by simp) (by simp)
abbrev VTree_LenM_st (p1 : Pool (TNode TMark TSwell)) (rt0 : TRef) (r : Int × Pool (TNode TMark TSwell)) (m0 : Nat) (m1 : Nat) : Prop := SCon Tryz.prog 34 [SV.p m0 0] [(m0, blk m0 [.p m1 0, .i rt0.index, .i rt0.gen] 110), (m1, pvM m1 p1)] (.a (.c (.v (.int .i64 r.1)))) [(m0, blk m0 [.p m1 0, .i rt0.index, .i rt0.gen] 110), (m1, pvM m1 r.2)] []
theorem VTree_LenM_con0 {k : Nat}  {p1 : Pool (TNode TMark TSwell)} {rt0 : TRef} {r : Int × Pool (TNode TMark TSwell)}  (H0 : VTree_Len.f opsM k p1 rt0 = some r) : VTree_LenM_st p1 rt0 r 0 1 := by
 rw [VTree_Len.f] at H0
 refine spec_of [(0, _)] [(0, _), (1, _)] 10 Tryz.func34 rfl Tryz.ntmps34 rfl rfl rfl rfl (fun β W F => ?_)
 refine G.seq <| G.rg <| K.as rfl rfl <| K.nil <| At.ns ?_
 obtain ⟨x1, hx1, H0⟩ := bnd H0
 exact G.rg <| K.mv rfl rfl <| K.mv rfl rfl <| K.nilCheck g0 rfl rfl <| K.fieldAddr Y g0 rfl t110 rfl rfl <| K.loadS Y _ g0 rfl rfl t108 rfl rfl rfl <| K.cA (cf 80 rfl) [0] (fun β w S2 h => SCon.rdBlk (VTree_getM_con hx1 0 1) rfl h) g0 rfl rfl rfl <| K.field1 Y g0 rfl t133 rfl t3 rfl rfl <| K.as rfl rfl <| K.nil <| At.next <| G.ret <| At.dr Y [2] rfl rfl (by cases H0; rfl) (by cases H0; rfl) rfl rfl rfl
theorem VTree_LenM_con {k : Nat}  {p1 : Pool (TNode TMark TSwell)} {rt0 : TRef} {r : Int × Pool (TNode TMark TSwell)}  (H0 : VTree_Len.f opsM k p1 rt0 = some r) (m0 m1 : Nat) : VTree_LenM_st p1 rt0 r m0 m1 :=
 SCon.ren (rn [(0, m0), (1, m1)]) (VTree_LenM_con0 (k := k)   H0) ⟨(blk_ren rfl rfl), (pool_ren rfl), trivial⟩ ⟨(blk_ren rfl rfl), (pool_ren rfl), trivial⟩ (by simp) (by simp)
abbrev VTree_FindM_st (p1 : Pool (TNode TMark TSwell)) (rt0 : TRef) (a1 : TMark) (r : TMark × Bool × Pool (TNode TMark TSwell)) (m0 : Nat) (m1 : Nat) : Prop := SCon Tryz.prog 74 [SV.p m0 0, .a (.agg ((eTMark a1).map .v))] [(m0, blk m0 [.p m1 0, .i rt0.index, .i rt0.gen] 110), (m1, pvM m1 p1)] (.tup [.agg ((eTMark r.1).map .v), .c (.v (.bool r.2.1))]) [(m0, blk m0 [.p m1 0, .i rt0.index, .i rt0.gen] 110), (m1, pvM m1 r.2.2)] []
theorem VTree_FindM_con0 {k : Nat}  {p1 : Pool (TNode TMark TSwell)} {rt0 : TRef} {a1 : TMark} {r : TMark × Bool × Pool (TNode TMark TSwell)}  (H0 : VTree_Find.f opsM k p1 rt0 a1 = some r) : VTree_FindM_st p1 rt0 a1 r 0 1 := by
 rw [VTree_Find.f] at H0
 refine spec_of [(0, _), (1, _)] [(0, _), (1, _)] 37 Tryz.func74 rfl Tryz.ntmps74 rfl rfl rfl rfl (fun β W F => ?_)
 refine G.seq <| G.rg <| K.box Y 100 _ g0 rfl rfl rfl rfl rfl rfl <| K.alloc Y 101 _ g0 t46 rfl rfl rfl rfl rfl <| K.as rfl rfl <| K.nil <| At.next ?_
 obtain ⟨x1, H1, H0⟩ := bnd H0
 refine G.sJ (σ := { v : Pool (TNode TMark TSwell) // x1 = Sum.inr v }) (fun q => [(4, .a (.c (.p 102 0)))]) (fun q => [(102, blk 102 [.v (.int .i64 0), .v (.bool false), .v (.int .i64 0), .v (.int .i64 0), .v (.bool false), .v (.bool false), .v (.int .i64 0), .v (.int .i64 0)] 46), (1, pvM 1 q.1), (0, blk 0 [.p 1 0, .v (.int .i64 rt0.index), .v (.int .i64 rt0.gen)] 110)]) ?_ ?_
 ·
  refine G.seq <| G.rg <| K.mv rfl rfl <| K.nilCheck g0 rfl rfl <| K.fieldAddr Y g0 rfl t110 rfl rfl <| K.loadS Y _ g0 rfl rfl t108 rfl rfl rfl <| K.alloc Y 103 _ g0 t108 rfl rfl rfl rfl rfl <| K.store Y _ g0 rfl rfl rfl t108 rfl rfl rfl rfl rfl <| K.nil <| At.next <| G.block <| G.lp (σ := { q : Nat × (Pool (TNode TMark TSwell) × TRef) // VTree_Find.l0 opsM k a1 q.1 q.2 = some x1 }) (fun q => [(0, .a (.c (.p 0 0))), (3, .a (.c (.p 110 0))), (4, .a (.c (.p 111 0))), (6, .a (.c (.p 112 0)))]) (fun q => [(1, pvM 1 q.1.2.1), (0, blk 0 [.p 1 0, .v (.int .i64 rt0.index), .v (.int .i64 rt0.gen)] 110), (110, blk 110 [.v (.int .i64 a1.op.time), .v (.bool a1.op.insert), .v (.int .i64 a1.op.item.key), .v (.int .i64 a1.op.item.id), .v (.bool a1.here), .v (.bool a1.took.found), .v (.int .i64 a1.took.item.key), .v (.int .i64 a1.took.item.id)] 46), (111, blk 111 [.v (.int .i64 0), .v (.bool false), .v (.int .i64 0), .v (.int .i64 0), .v (.bool false), .v (.bool false), .v (.int .i64 0), .v (.int .i64 0)] 46), (112, blk 112 [.v (.int .i64 q.1.2.2.index), .v (.int .i64 q.1.2.2.gen)] 108)]) (fun q => q.1.1) ⟨(k, (p1, rt0)), H1⟩ ?_ ?_
  · exact At.into [(110, 100), (111, 101), (112, 103)] [_, _, _, _, _] rfl ⟨rfl, rfl, rfl, rfl, trivial⟩ ⟨rfl, (pool_ren rfl), rfl, (blk_ren rfl rfl), rfl, (blk_ren rfl rfl), rfl, (blk_ren rfl rfl), rfl, (blk_ren rfl rfl), trivial⟩ rfl
  ·
   rintro ⟨⟨n0, v1, v2⟩, H1⟩
   show G _ _ [(0, .a (.c (.p 0 0))), (3, .a (.c (.p 110 0))), (4, .a (.c (.p 111 0))), (6, .a (.c (.p 112 0)))] [(1, some (pvM 1 v1)), (0, some (blk 0 [.p 1 0, .v (.int .i64 rt0.index), .v (.int .i64 rt0.gen)] 110)), (110, some (blk 110 [.v (.int .i64 a1.op.time), .v (.bool a1.op.insert), .v (.int .i64 a1.op.item.key), .v (.int .i64 a1.op.item.id), .v (.bool a1.here), .v (.bool a1.took.found), .v (.int .i64 a1.took.item.key), .v (.int .i64 a1.took.item.id)] 46)), (111, some (blk 111 [.v (.int .i64 0), .v (.bool false), .v (.int .i64 0), .v (.int .i64 0), .v (.bool false), .v (.bool false), .v (.int .i64 0), .v (.int .i64 0)] 46)), (112, some (blk 112 [.v (.int .i64 v2.index), .v (.int .i64 v2.gen)] 108))] _ _
   cases n0 with
   | zero => exact absurd H1 (by simp [VTree_Find.l0])
   | succ n0 =>
    have HL0 := H1
    rw [VTree_Find.l0] at H1
    refine G.seq <| G.seq <| G.rg <| K.fieldAddr Y g0 rfl t108 rfl rfl <| K.load1 Y g0 rfl rfl t3 rfl rfl <| K.bin (V := .bool (v2.gen != 0)) g0 rfl rfl (fun _ => rfl) rfl <| K.nil <| At.next <| G.cond rfl (fun h1 => ?_) (fun h1 => ?_)
    ·
     replace H1 := bif_t H1 h1
     refine G.skip <| At.ns <| G.block <| G.seq ?_
     obtain ⟨x2, hx2, H1⟩ := bnd H1
     refine G.rg <| K.mv rfl rfl <| K.loadS Y _ g0 rfl rfl t108 rfl rfl rfl <| K.cA (cf 80 rfl) [0] (fun β w S2 h => SCon.rdBlk (VTree_getM_con hx2 0 1) rfl h) g0 rfl rfl rfl <| K.alloc Y 113 _ g0 t133 rfl rfl rfl rfl rfl <| K.store Y _ g0 rfl rfl rfl t133 rfl rfl rfl rfl rfl <| K.nil <| At.ns ?_
     obtain ⟨x3, hx3, H1⟩ := bnd H1
     refine G.rg <| K.loadS Y _ g0 rfl rfl t46 rfl rfl rfl <| K.mkIface Y g0 rfl (mkI Tryz.underlying46 rfl) rfl <| K.fieldAddr Y g0 rfl t133 rfl rfl <| K.loadS Y _ g0 rfl rfl t46 rfl rfl rfl <| K.callR [((.tmp 21), _), ((.tmp 23), _)] (wave_Mark_Compare_con (k := k) hx3) (toFn_invoke (cf 196 rfl) (me46_196) rfl) g0 ⟨rfl, rfl, trivial⟩ trivial rfl rfl rfl <| K.as rfl rfl <| K.nil <| At.ns <| G.seq <| G.rg <| K.mv rfl rfl <| K.bin (V := .bool (x3 == 0)) g0 rfl rfl (fun _ => rfl) rfl <| K.nil <| At.next <| G.cond rfl (fun h2 => ?_) (fun h2 => ?_)
     ·
      replace H1 := bif_t H1 h2
      refine G.seq <| G.rg <| K.fieldAddr Y g0 rfl t133 rfl rfl <| K.loadS Y _ g0 rfl rfl t46 rfl rfl rfl <| K.store Y _ g0 rfl rfl rfl t46 rfl rfl rfl rfl rfl <| K.as rfl rfl <| K.nil <| At.next <| G.ret <| At.over_ret <| At.block_ret <| At.over_ret <| At.over_ret <| At.block_ret <| At.over_ret ?_
      cases H1
      replace H0 := sum_l H0
      refine At.done Y [(.cell 4 46, .agg [_, _, _, _, _, _, _, _]), (.tmp 5, .c _)] rfl ⟨.st rfl rfl t46 rfl rfl, .tmp rfl, trivial⟩ (to' := [(0, _), (1, _)]) ⟨rfl, rfl, trivial⟩ ?_ ?_ rfl rfl rfl (.inl rfl)
      · cases H0; rfl
      · cases H0; rfl
     ·
      replace H1 := bif_f H1 h2
      refine G.skip <| At.nr <| K.fieldAddr Y g0 rfl t133 rfl rfl <| K.loadS Y _ g0 rfl rfl t108 rfl rfl rfl <| K.store Y _ g0 rfl rfl rfl t108 rfl rfl rfl rfl rfl <| K.nil <| At.nr <| K.mv rfl rfl <| K.bin (V := .bool (decide (x3 < 0))) g0 rfl rfl (fun _ => rfl) rfl <| K.nil <| At.next <| G.cond rfl (fun h3 => ?_) (fun h3 => ?_)
      ·
       replace H1 := bif_t H1 h3
       exact G.rg <| K.fieldAddr Y g0 rfl t133 rfl rfl <| K.loadS Y _ g0 rfl rfl t108 rfl rfl rfl <| K.store Y _ g0 rfl rfl rfl t108 rfl rfl rfl rfl rfl <| K.nil <| At.block_normal <| At.nr <| K.loadS Y _ g0 rfl rfl t108 rfl rfl rfl <| K.nil <| At.next <| G.rg <| K.alloc Y 114 _ g0 t108 rfl rfl rfl rfl rfl <| K.store Y _ g0 rfl rfl rfl t108 rfl rfl rfl rfl rfl <| K.nil <| At.ag ⟨(n0, (x2.2, x2.1.left)), H1⟩ [(112, 114)] [_, _, _, _, _] (Nat.lt_succ_self _) rfl ⟨rfl, rfl, rfl, rfl, trivial⟩ ⟨rfl, (pool_ren rfl), rfl, (blk_ren rfl rfl), rfl, (blk_ren rfl rfl), rfl, (blk_ren rfl rfl), rfl, (blk_ren rfl rfl), trivial⟩ rfl
      ·
       replace H1 := bif_f H1 h3
       exact G.skip <| At.block_normal <| At.nr <| K.loadS Y _ g0 rfl rfl t108 rfl rfl rfl <| K.nil <| At.next <| G.rg <| K.alloc Y 115 _ g0 t108 rfl rfl rfl rfl rfl <| K.store Y _ g0 rfl rfl rfl t108 rfl rfl rfl rfl rfl <| K.nil <| At.ag ⟨(n0, (x2.2, x2.1.right)), H1⟩ [(112, 115)] [_, _, _, _, _] (Nat.lt_succ_self _) rfl ⟨rfl, rfl, rfl, rfl, trivial⟩ ⟨rfl, (pool_ren rfl), rfl, (blk_ren rfl rfl), rfl, (blk_ren rfl rfl), rfl, (blk_ren rfl rfl), rfl, (blk_ren rfl rfl), trivial⟩ rfl
    ·
     replace H1 := bif_f H1 h1
     exact G.exit <| At.over_exit <| At.over_exit <| At.block_hit <| At.jd ⟨v1, oi H1⟩ [(102, 111)] [_, _, _] rfl ⟨rfl, trivial⟩ ⟨rfl, (blk_ren rfl rfl), rfl, (pool_ren rfl), rfl, (blk_ren rfl rfl), trivial⟩ rfl
 ·
  rintro ⟨w1, rfl⟩
  replace H0 := sum_r H0
  show G _ _ [(4, .a (.c (.p 102 0)))] [(102, some (blk 102 [.v (.int .i64 0), .v (.bool false), .v (.int .i64 0), .v (.int .i64 0), .v (.bool false), .v (.bool false), .v (.int .i64 0), .v (.int .i64 0)] 46)), (1, some (pvM 1 w1)), (0, some (blk 0 [.p 1 0, .v (.int .i64 rt0.index), .v (.int .i64 rt0.gen)] 110))] _ _
  refine G.seq <| G.rg <| K.alloc Y 116 _ g0 t46 rfl rfl rfl rfl rfl <| K.nil <| At.nr <| K.loadS Y _ g0 rfl rfl t46 rfl rfl rfl <| K.store Y _ g0 rfl rfl rfl t46 rfl rfl rfl rfl rfl <| K.as rfl rfl <| K.nil <| At.next <| G.ret <| At.done Y [(.cell 4 46, .agg [_, _, _, _, _, _, _, _]), (.tmp 5, .c _)] rfl ⟨.st rfl rfl t46 rfl rfl, .tmp rfl, trivial⟩ (to' := [(0, _), (1, _)]) ⟨rfl, rfl, trivial⟩ ?_ ?_ rfl rfl rfl (.inl rfl)
  · cases H0; rfl
  · cases H0; rfl
theorem VTree_FindM_con {k : Nat}  {p1 : Pool (TNode TMark TSwell)} {rt0 : TRef} {a1 : TMark} {r : TMark × Bool × Pool (TNode TMark TSwell)}  (H0 : VTree_Find.f opsM k p1 rt0 a1 = some r) (m0 m1 : Nat) : VTree_FindM_st p1 rt0 a1 r m0 m1 :=
 SCon.ren (rn [(0, m0), (1, m1)]) (VTree_FindM_con0 (k := k)   H0) ⟨(blk_ren rfl rfl), (pool_ren rfl), trivial⟩ ⟨(blk_ren rfl rfl), (pool_ren rfl), trivial⟩ (by simp) (by simp)
abbrev Vpartial_Queue_may_st (q0 : TQueue) (a1 : Int) (r : Int × TQueue) (m0 : Nat) (m1 : Nat) (m2 : Nat) (m3 : Nat) (m4 : Nat) (m5 : Nat) (m6 : Nat) (m7 : Nat) (m8 : Nat) : Prop := SCon Tryz.prog 63 [SV.p m0 0, .a (.c (.v (.int .i64 a1)))] (tkQueueV m0 m1 m2 m3 m4 m5 m6 m7 m8 q0 []) (.a (.c (.v (.int .i64 r.1)))) (tkQueueV m0 m1 m2 m3 m4 m5 m6 m7 m8 r.2 []) []
theorem Vpartial_Queue_may_con0 {k : Nat}  {q0 : TQueue} {a1 : Int} {r : Int × TQueue}  (H0 : Vpartial_Queue_may.f k q0 a1 = some r) : Vpartial_Queue_may_st q0 a1 r 0 1 2 3 4 5 6 7 8 := by
 rw [Vpartial_Queue_may.f] at H0
 refine spec_of [(0, _), (1, _)] [(0, _), (1, _), (2, _), (3, _), (4, _), (5, _), (6, _), (7, _), (8, _)] 28 Tryz.func63 rfl Tryz.ntmps63 rfl rfl rfl rfl (fun β W F => ?_)
 refine G.seq <| G.rg <| K.as rfl rfl <| K.nil <| At.ns <| G.seq ?_
 obtain ⟨x1, hx1, H0⟩ := bnd H0
 refine G.rd mixed <| K.mv rfl rfl <| K.nilCheck g0 rfl rfl <| K.fieldAddr Y g0 rfl t98 rfl rfl <| K.load1 Y g0 rfl rfl t38 rfl rfl <| K.c0 (cf 34 rfl) (VTree_LenM_con hx1 1 2) g0 rfl rfl rfl rfl <| K.mv rfl rfl <| K.nilCheck g0 rfl rfl <| K.fieldAddr Y g0 rfl t98 rfl rfl <| K.load1 Y g0 rfl rfl t3 rfl rfl <| K.bin (V := .bool (x1.1 == q0.capacity)) g0 rfl rfl (fun _ => rfl) rfl <| K.nil <| And.intro (by kernel_rfl) <| At.next <| G.cond rfl (fun h1 => ?_) (fun h1 => ?_)
 ·
  replace H0 := bif_t H0 h1
  exact G.seq <| G.rg <| K.as rfl rfl <| K.nil <| At.next <| G.ret <| At.over_ret <| At.dr Y [4] rfl rfl (by cases H0; rfl) (by cases H0; rfl) rfl rfl rfl
 ·
  replace H0 := bif_f H0 h1
  refine G.skip <| At.ns <| G.seq ?_
  obtain ⟨x2, hx2, H0⟩ := bnd H0
  obtain ⟨x3, hx3, H0⟩ := bnd H0
  refine G.rd mixed <| K.mv rfl rfl <| K.nilCheck g0 rfl rfl <| K.fieldAddr Y g0 rfl t98 rfl rfl <| K.load1 Y g0 rfl rfl t38 rfl rfl <| K.mv rfl rfl <| K.cR (cf 67 rfl) (wave_Key_con hx2) g0 rfl rfl rfl rfl <| K.c0 (cf 74 rfl) (VTree_FindM_con hx3 1 2) g0 rfl rfl rfl rfl <| K.mv rfl rfl <| K.extract g0 rfl rfl rfl <| K.extract g0 rfl rfl rfl <| K.alloc Y 100 _ g0 t46 rfl rfl rfl rfl rfl <| K.store Y _ g0 rfl rfl rfl t46 rfl rfl rfl rfl rfl <| K.as rfl rfl <| K.nil <| And.intro (by kernel_rfl) <| At.nr <| K.mv rfl rfl <| K.nil <| At.next <| G.cond rfl (fun h2 => ?_) (fun h2 => ?_)
  ·
   replace H0 := bif_t H0 h2
   exact G.seq <| G.rg <| K.as rfl rfl <| K.nil <| At.next <| G.ret <| At.over_ret <| At.dr Y [4] rfl rfl (by cases H0; rfl) (by cases H0; rfl) rfl rfl rfl
  ·
   replace H0 := bif_f H0 h2
   exact G.skip <| At.nr <| K.as rfl rfl <| K.nil <| At.next <| G.ret <| At.dr Y [4] rfl rfl (by cases H0; rfl) (by cases H0; rfl) rfl rfl rfl
theorem Vpartial_Queue_may_con {k : Nat}  {q0 : TQueue} {a1 : Int} {r : Int × TQueue}  (H0 : Vpartial_Queue_may.f k q0 a1 = some r) (m0 m1 m2 m3 m4 m5 m6 m7 m8 : Nat) : Vpartial_Queue_may_st q0 a1 r m0 m1 m2 m3 m4 m5 m6 m7 m8 :=
 SCon.ren (rn [(0, m0), (1, m1), (2, m2), (3, m3), (4, m4), (5, m5), (6, m6), (7, m7), (8, m8)]) (Vpartial_Queue_may_con0 (k := k)   H0) ⟨(blk_ren rfl rfl), (blk_ren rfl rfl), (pool_ren rfl), (blk_ren rfl rfl), (pool_ren rfl), (blk_ren rfl rfl), (pool_ren rfl), (blk_ren rfl rfl), (pool_ren rfl), trivial⟩ ⟨(blk_ren rfl rfl), (blk_ren rfl rfl), (pool_ren rfl), (blk_ren rfl rfl), (pool_ren rfl), (blk_ren rfl rfl), (pool_ren rfl), (blk_ren rfl rfl), (pool_ren rfl), trivial⟩ (by simp) (by simp)
abbrev VTree_getS_st (p1 : Pool (TNode TSlot TSize)) (a1 : TRef) (ri0 : Int) (rg0 : Int) (r : TNode TSlot TSize × Pool (TNode TSlot TSize)) (m0 : Nat) (m1 : Nat) : Prop := SCon Tryz.prog 79 [SV.p m0 0, .a (.agg ((eTRef a1).map .v))] [(m0, blk m0 [.p m1 0, .i ri0, .i rg0] 131), (m1, pvS m1 p1)] (.a (.agg ((eTNode_TSlot_TSize r.1).map .v))) [(m0, blk m0 [.p m1 0, .i ri0, .i rg0] 131), (m1, pvS m1 r.2)] []
theorem VTree_getS_con0 {k : Nat}  {p1 : Pool (TNode TSlot TSize)} {a1 : TRef} {ri0 rg0 : Int} {r : TNode TSlot TSize × Pool (TNode TSlot TSize)}  (H0 : VTree_get.f opsS k p1 a1 = some r) : VTree_getS_st p1 a1 ri0 rg0 r 0 1 := by
 rw [VTree_get.f] at H0
 refine spec_of [(0, _), (1, _)] [(0, _), (1, _)] 21 Tryz.func79 rfl Tryz.ntmps79 rfl rfl rfl rfl (fun β W F => ?_)
 refine G.seq <| G.rg <| K.box Y 100 _ g0 rfl rfl rfl rfl rfl rfl <| K.alloc Y 101 _ g0 t127 rfl rfl rfl rfl rfl <| K.nil <| At.ns <| G.seq <| G.rg <| K.fieldAddr Y g0 rfl t108 rfl rfl <| K.load1 Y g0 rfl rfl t3 rfl rfl <| K.bin (V := .bool (a1.gen == 0)) g0 rfl rfl (fun _ => rfl) rfl <| K.nil <| At.next <| G.cond rfl (fun h1 => ?_) (fun h1 => ?_)
 ·
  replace H0 := bif_t H0 h1
  refine G.seq <| G.rg <| K.build Y [] [_, _, _, _, _, _, _, _, _, _] [] g0 (AllE.spec trivial) rfl rfl t127 rfl rfl <| K.store Y _ g0 rfl rfl rfl t127 rfl rfl rfl rfl rfl <| K.nil <| At.next <| G.ret <| At.over_ret <| At.done Y [(.cell 4 127, .agg [_, _, _, _, _, _, _, _, _, _])] rfl ⟨.st rfl rfl t127 rfl rfl, trivial⟩ (to' := [(0, _), (1, _)]) ⟨rfl, rfl, trivial⟩ ?_ ?_ rfl rfl rfl (.inl rfl)
  · cases H0; rfl
  · cases H0; rfl
 ·
  replace H0 := bif_f H0 h1
  refine G.skip <| At.ns ?_
  obtain ⟨x1, hx1, H0⟩ := bnd H0
  refine G.rd mixed <| K.mv rfl rfl <| K.nilCheck g0 rfl rfl <| K.fieldAddr Y g0 rfl t131 rfl rfl <| K.load1 Y g0 rfl rfl t129 rfl rfl <| K.loadS Y _ g0 rfl rfl t108 rfl rfl rfl <| K.call0 [(.func 107, _), ((.tmp 15), _), ((.tmp 16), _)] (pvgetS hx1 1) (toFn_func (cf 107 rfl) rfl) g0 ⟨rfl, rfl, rfl, trivial⟩ ⟨rfl, trivial⟩ rfl rfl rfl rfl rfl rfl <| K.mv rfl rfl <| K.extract g0 rfl rfl rfl <| K.extract g0 rfl rfl rfl <| K.alloc Y 102 _ g0 t127 rfl rfl rfl rfl rfl <| K.store Y _ g0 rfl rfl rfl t127 rfl rfl rfl rfl rfl <| K.as rfl rfl <| K.nil <| And.intro (by kernel_rfl) <| At.nr <| K.loadS Y _ g0 rfl rfl t127 rfl rfl rfl <| K.store Y _ g0 rfl rfl rfl t127 rfl rfl rfl rfl rfl <| K.nil <| At.next <| G.ret <| At.done Y [(.cell 4 127, .agg [_, _, _, _, _, _, _, _, _, _])] rfl ⟨.st rfl rfl t127 rfl rfl, trivial⟩ (to' := [(0, _), (1, _)]) ⟨rfl, rfl, trivial⟩ ?_ ?_ rfl rfl rfl (.inl rfl)
  · cases H0; rfl
  · cases H0; rfl
theorem VTree_getS_con {k : Nat}  {p1 : Pool (TNode TSlot TSize)} {a1 : TRef} {ri0 rg0 : Int} {r : TNode TSlot TSize × Pool (TNode TSlot TSize)}  (H0 : VTree_get.f opsS k p1 a1 = some r) (m0 m1 : Nat) : VTree_getS_st p1 a1 ri0 rg0 r m0 m1 :=
 SCon.ren (rn [(0, m0), (1, m1)]) (VTree_getS_con0 (k := k)   H0) ⟨(blk_ren rfl rfl), (pool_ren rfl), trivial⟩ ⟨(blk_ren rfl rfl), (pool_ren rfl), trivial⟩ (by simp) (by simp)
abbrev VTree_FindS_st (p1 : Pool (TNode TSlot TSize)) (rt0 : TRef) (a1 : TSlot) (r : TSlot × Bool × Pool (TNode TSlot TSize)) (m0 : Nat) (m1 : Nat) : Prop := SCon Tryz.prog 64 [SV.p m0 0, .a (.agg ((eTSlot a1).map .v))] [(m0, blk m0 [.p m1 0, .i rt0.index, .i rt0.gen] 131), (m1, pvS m1 p1)] (.tup [.agg ((eTSlot r.1).map .v), .c (.v (.bool r.2.1))]) [(m0, blk m0 [.p m1 0, .i rt0.index, .i rt0.gen] 131), (m1, pvS m1 r.2.2)] []
theorem VTree_FindS_con0 {k : Nat}  {p1 : Pool (TNode TSlot TSize)} {rt0 : TRef} {a1 : TSlot} {r : TSlot × Bool × Pool (TNode TSlot TSize)}  (H0 : VTree_Find.f opsS k p1 rt0 a1 = some r) : VTree_FindS_st p1 rt0 a1 r 0 1 := by
 rw [VTree_Find.f] at H0
 refine spec_of [(0, _), (1, _)] [(0, _), (1, _)] 37 Tryz.func64 rfl Tryz.ntmps64 rfl rfl rfl rfl (fun β W F => ?_)
 refine G.seq <| G.rg <| K.box Y 100 _ g0 rfl rfl rfl rfl rfl rfl <| K.alloc Y 101 _ g0 t66 rfl rfl rfl rfl rfl <| K.as rfl rfl <| K.nil <| At.next ?_
 obtain ⟨x1, H1, H0⟩ := bnd H0
 refine G.sJ (σ := { v : Pool (TNode TSlot TSize) // x1 = Sum.inr v }) (fun q => [(4, .a (.c (.p 102 0)))]) (fun q => [(102, blk 102 [.v (.int .i64 0), .v (.int .i64 0), .v (.bool false), .v (.int .i64 0)] 66), (1, pvS 1 q.1), (0, blk 0 [.p 1 0, .v (.int .i64 rt0.index), .v (.int .i64 rt0.gen)] 131)]) ?_ ?_
 ·
  refine G.seq <| G.rg <| K.mv rfl rfl <| K.nilCheck g0 rfl rfl <| K.fieldAddr Y g0 rfl t131 rfl rfl <| K.loadS Y _ g0 rfl rfl t108 rfl rfl rfl <| K.alloc Y 103 _ g0 t108 rfl rfl rfl rfl rfl <| K.store Y _ g0 rfl rfl rfl t108 rfl rfl rfl rfl rfl <| K.nil <| At.next <| G.block <| G.lp (σ := { q : Nat × (Pool (TNode TSlot TSize) × TRef) // VTree_Find.l0 opsS k a1 q.1 q.2 = some x1 }) (fun q => [(0, .a (.c (.p 0 0))), (3, .a (.c (.p 110 0))), (4, .a (.c (.p 111 0))), (6, .a (.c (.p 112 0)))]) (fun q => [(1, pvS 1 q.1.2.1), (0, blk 0 [.p 1 0, .v (.int .i64 rt0.index), .v (.int .i64 rt0.gen)] 131), (110, blk 110 [.v (.int .i64 a1.item.key), .v (.int .i64 a1.item.id), .v (.bool a1.eaten), .v (.int .i64 a1.time)] 66), (111, blk 111 [.v (.int .i64 0), .v (.int .i64 0), .v (.bool false), .v (.int .i64 0)] 66), (112, blk 112 [.v (.int .i64 q.1.2.2.index), .v (.int .i64 q.1.2.2.gen)] 108)]) (fun q => q.1.1) ⟨(k, (p1, rt0)), H1⟩ ?_ ?_
  · exact At.into [(110, 100), (111, 101), (112, 103)] [_, _, _, _, _] rfl ⟨rfl, rfl, rfl, rfl, trivial⟩ ⟨rfl, (pool_ren rfl), rfl, (blk_ren rfl rfl), rfl, (blk_ren rfl rfl), rfl, (blk_ren rfl rfl), rfl, (blk_ren rfl rfl), trivial⟩ rfl
  ·
   rintro ⟨⟨n0, v1, v2⟩, H1⟩
   show G _ _ [(0, .a (.c (.p 0 0))), (3, .a (.c (.p 110 0))), (4, .a (.c (.p 111 0))), (6, .a (.c (.p 112 0)))] [(1, some (pvS 1 v1)), (0, some (blk 0 [.p 1 0, .v (.int .i64 rt0.index), .v (.int .i64 rt0.gen)] 131)), (110, some (blk 110 [.v (.int .i64 a1.item.key), .v (.int .i64 a1.item.id), .v (.bool a1.eaten), .v (.int .i64 a1.time)] 66)), (111, some (blk 111 [.v (.int .i64 0), .v (.int .i64 0), .v (.bool false), .v (.int .i64 0)] 66)), (112, some (blk 112 [.v (.int .i64 v2.index), .v (.int .i64 v2.gen)] 108))] _ _
   cases n0 with
   | zero => exact absurd H1 (by simp [VTree_Find.l0])
   | succ n0 =>
    have HL0 := H1
    rw [VTree_Find.l0] at H1
    refine G.seq <| G.seq <| G.rg <| K.fieldAddr Y g0 rfl t108 rfl rfl <| K.load1 Y g0 rfl rfl t3 rfl rfl <| K.bin (V := .bool (v2.gen != 0)) g0 rfl rfl (fun _ => rfl) rfl <| K.nil <| At.next <| G.cond rfl (fun h1 => ?_) (fun h1 => ?_)
    ·
     replace H1 := bif_t H1 h1
     refine G.skip <| At.ns <| G.block <| G.seq ?_
     obtain ⟨x2, hx2, H1⟩ := bnd H1
     refine G.rg <| K.mv rfl rfl <| K.loadS Y _ g0 rfl rfl t108 rfl rfl rfl <| K.cA (cf 79 rfl) [0] (fun β w S2 h => SCon.rdBlk (VTree_getS_con hx2 0 1) rfl h) g0 rfl rfl rfl <| K.alloc Y 113 _ g0 t127 rfl rfl rfl rfl rfl <| K.store Y _ g0 rfl rfl rfl t127 rfl rfl rfl rfl rfl <| K.nil <| At.ns ?_
     obtain ⟨x3, hx3, H1⟩ := bnd H1
     refine G.rg <| K.loadS Y _ g0 rfl rfl t66 rfl rfl rfl <| K.mkIface Y g0 rfl (mkI Tryz.underlying66 rfl) rfl <| K.fieldAddr Y g0 rfl t127 rfl rfl <| K.loadS Y _ g0 rfl rfl t66 rfl rfl rfl <| K.callR [((.tmp 21), _), ((.tmp 23), _)] (shelf_Slot_Compare_con (k := k) hx3) (toFn_invoke (cf 212 rfl) (me66_212) rfl) g0 ⟨rfl, rfl, trivial⟩ trivial rfl rfl rfl <| K.as rfl rfl <| K.nil <| At.ns <| G.seq <| G.rg <| K.mv rfl rfl <| K.bin (V := .bool (x3 == 0)) g0 rfl rfl (fun _ => rfl) rfl <| K.nil <| At.next <| G.cond rfl (fun h2 => ?_) (fun h2 => ?_)
     ·
      replace H1 := bif_t H1 h2
      refine G.seq <| G.rg <| K.fieldAddr Y g0 rfl t127 rfl rfl <| K.loadS Y _ g0 rfl rfl t66 rfl rfl rfl <| K.store Y _ g0 rfl rfl rfl t66 rfl rfl rfl rfl rfl <| K.as rfl rfl <| K.nil <| At.next <| G.ret <| At.over_ret <| At.block_ret <| At.over_ret <| At.over_ret <| At.block_ret <| At.over_ret ?_
      cases H1
      replace H0 := sum_l H0
      refine At.done Y [(.cell 4 66, .agg [_, _, _, _]), (.tmp 5, .c _)] rfl ⟨.st rfl rfl t66 rfl rfl, .tmp rfl, trivial⟩ (to' := [(0, _), (1, _)]) ⟨rfl, rfl, trivial⟩ ?_ ?_ rfl rfl rfl (.inl rfl)
      · cases H0; rfl
      · cases H0; rfl
     ·
      replace H1 := bif_f H1 h2
      refine G.skip <| At.nr <| K.fieldAddr Y g0 rfl t127 rfl rfl <| K.loadS Y _ g0 rfl rfl t108 rfl rfl rfl <| K.store Y _ g0 rfl rfl rfl t108 rfl rfl rfl rfl rfl <| K.nil <| At.nr <| K.mv rfl rfl <| K.bin (V := .bool (decide (x3 < 0))) g0 rfl rfl (fun _ => rfl) rfl <| K.nil <| At.next <| G.cond rfl (fun h3 => ?_) (fun h3 => ?_)
      ·
       replace H1 := bif_t H1 h3
       exact G.rg <| K.fieldAddr Y g0 rfl t127 rfl rfl <| K.loadS Y _ g0 rfl rfl t108 rfl rfl rfl <| K.store Y _ g0 rfl rfl rfl t108 rfl rfl rfl rfl rfl <| K.nil <| At.block_normal <| At.nr <| K.loadS Y _ g0 rfl rfl t108 rfl rfl rfl <| K.nil <| At.next <| G.rg <| K.alloc Y 114 _ g0 t108 rfl rfl rfl rfl rfl <| K.store Y _ g0 rfl rfl rfl t108 rfl rfl rfl rfl rfl <| K.nil <| At.ag ⟨(n0, (x2.2, x2.1.left)), H1⟩ [(112, 114)] [_, _, _, _, _] (Nat.lt_succ_self _) rfl ⟨rfl, rfl, rfl, rfl, trivial⟩ ⟨rfl, (pool_ren rfl), rfl, (blk_ren rfl rfl), rfl, (blk_ren rfl rfl), rfl, (blk_ren rfl rfl), rfl, (blk_ren rfl rfl), trivial⟩ rfl
      ·
       replace H1 := bif_f H1 h3
       exact G.skip <| At.block_normal <| At.nr <| K.loadS Y _ g0 rfl rfl t108 rfl rfl rfl <| K.nil <| At.next <| G.rg <| K.alloc Y 115 _ g0 t108 rfl rfl rfl rfl rfl <| K.store Y _ g0 rfl rfl rfl t108 rfl rfl rfl rfl rfl <| K.nil <| At.ag ⟨(n0, (x2.2, x2.1.right)), H1⟩ [(112, 115)] [_, _, _, _, _] (Nat.lt_succ_self _) rfl ⟨rfl, rfl, rfl, rfl, trivial⟩ ⟨rfl, (pool_ren rfl), rfl, (blk_ren rfl rfl), rfl, (blk_ren rfl rfl), rfl, (blk_ren rfl rfl), rfl, (blk_ren rfl rfl), trivial⟩ rfl
    ·
     replace H1 := bif_f H1 h1
     exact G.exit <| At.over_exit <| At.over_exit <| At.block_hit <| At.jd ⟨v1, oi H1⟩ [(102, 111)] [_, _, _] rfl ⟨rfl, trivial⟩ ⟨rfl, (blk_ren rfl rfl), rfl, (pool_ren rfl), rfl, (blk_ren rfl rfl), trivial⟩ rfl
 ·
  rintro ⟨w1, rfl⟩
  replace H0 := sum_r H0
  show G _ _ [(4, .a (.c (.p 102 0)))] [(102, some (blk 102 [.v (.int .i64 0), .v (.int .i64 0), .v (.bool false), .v (.int .i64 0)] 66)), (1, some (pvS 1 w1)), (0, some (blk 0 [.p 1 0, .v (.int .i64 rt0.index), .v (.int .i64 rt0.gen)] 131))] _ _
  refine G.seq <| G.rg <| K.alloc Y 116 _ g0 t66 rfl rfl rfl rfl rfl <| K.nil <| At.nr <| K.loadS Y _ g0 rfl rfl t66 rfl rfl rfl <| K.store Y _ g0 rfl rfl rfl t66 rfl rfl rfl rfl rfl <| K.as rfl rfl <| K.nil <| At.next <| G.ret <| At.done Y [(.cell 4 66, .agg [_, _, _, _]), (.tmp 5, .c _)] rfl ⟨.st rfl rfl t66 rfl rfl, .tmp rfl, trivial⟩ (to' := [(0, _), (1, _)]) ⟨rfl, rfl, trivial⟩ ?_ ?_ rfl rfl rfl (.inl rfl)
  · cases H0; rfl
  · cases H0; rfl
theorem VTree_FindS_con {k : Nat}  {p1 : Pool (TNode TSlot TSize)} {rt0 : TRef} {a1 : TSlot} {r : TSlot × Bool × Pool (TNode TSlot TSize)}  (H0 : VTree_Find.f opsS k p1 rt0 a1 = some r) (m0 m1 : Nat) : VTree_FindS_st p1 rt0 a1 r m0 m1 :=
 SCon.ren (rn [(0, m0), (1, m1)]) (VTree_FindS_con0 (k := k)   H0) ⟨(blk_ren rfl rfl), (pool_ren rfl), trivial⟩ ⟨(blk_ren rfl rfl), (pool_ren rfl), trivial⟩ (by simp) (by simp)
abbrev VTree_weightM_st (p1 : Pool (TNode TMark TSwell)) (a1 : TRef) (ri0 : Int) (rg0 : Int) (r : Int × Pool (TNode TMark TSwell)) (m0 : Nat) (m1 : Nat) : Prop := SCon Tryz.prog 96 [SV.p m0 0, .a (.agg ((eTRef a1).map .v))] [(m0, blk m0 [.p m1 0, .i ri0, .i rg0] 110), (m1, pvM m1 p1)] (.a (.c (.v (.int .i64 r.1)))) [(m0, blk m0 [.p m1 0, .i ri0, .i rg0] 110), (m1, pvM m1 r.2)] []
theorem VTree_weightM_con0 {k : Nat}  {p1 : Pool (TNode TMark TSwell)} {a1 : TRef} {ri0 rg0 : Int} {r : Int × Pool (TNode TMark TSwell)}  (H0 : VTree_weight.f opsM k p1 a1 = some r) : VTree_weightM_st p1 a1 ri0 rg0 r 0 1 := by
 rw [VTree_weight.f] at H0
 refine spec_of [(0, _), (1, _)] [(0, _), (1, _)] 10 Tryz.func96 rfl Tryz.ntmps96 rfl rfl rfl rfl (fun β W F => ?_)
 refine G.seq <| G.rg <| K.box Y 100 _ g0 rfl rfl rfl rfl rfl rfl <| K.as rfl rfl <| K.nil <| At.ns ?_
 obtain ⟨x1, hx1, H0⟩ := bnd H0
 exact G.rg <| K.mv rfl rfl <| K.loadS Y _ g0 rfl rfl t108 rfl rfl rfl <| K.cA (cf 80 rfl) [0] (fun β w S2 h => SCon.rdBlk (VTree_getM_con hx1 0 1) rfl h) g0 rfl rfl rfl <| K.field1 Y g0 rfl t133 rfl t3 rfl rfl <| K.bin (V := .int .i64 (w64 (x1.1.size + 1))) g0 rfl rfl (fun _ => rfl) rfl <| K.as rfl rfl <| K.nil <| At.next <| G.ret <| At.dr Y [4] rfl rfl (by cases H0; rfl) (by cases H0; rfl) rfl rfl rfl
theorem VTree_weightM_con {k : Nat}  {p1 : Pool (TNode TMark TSwell)} {a1 : TRef} {ri0 rg0 : Int} {r : Int × Pool (TNode TMark TSwell)}  (H0 : VTree_weight.f opsM k p1 a1 = some r) (m0 m1 : Nat) : VTree_weightM_st p1 a1 ri0 rg0 r m0 m1 :=
 SCon.ren (rn [(0, m0), (1, m1)]) (VTree_weightM_con0 (k := k)   H0) ⟨(blk_ren rfl rfl), (pool_ren rfl), trivial⟩ ⟨(blk_ren rfl rfl), (pool_ren rfl), trivial⟩ (by simp) (by simp)
abbrev VTree_RankM_st (p1 : Pool (TNode TMark TSwell)) (rt0 : TRef) (a1 : TMark) (r : Int × Pool (TNode TMark TSwell)) (m0 : Nat) (m1 : Nat) : Prop := SCon Tryz.prog 66 [SV.p m0 0, .a (.agg ((eTMark a1).map .v))] [(m0, blk m0 [.p m1 0, .i rt0.index, .i rt0.gen] 110), (m1, pvM m1 p1)] (.a (.c (.v (.int .i64 r.1)))) [(m0, blk m0 [.p m1 0, .i rt0.index, .i rt0.gen] 110), (m1, pvM m1 r.2)] []
theorem VTree_RankM_con0 {k : Nat}  {p1 : Pool (TNode TMark TSwell)} {rt0 : TRef} {a1 : TMark} {r : Int × Pool (TNode TMark TSwell)}  (H0 : VTree_Rank.f opsM k p1 rt0 a1 = some r) : VTree_RankM_st p1 rt0 a1 r 0 1 := by
 rw [VTree_Rank.f] at H0
 refine spec_of [(0, _), (1, _)] [(0, _), (1, _)] 36 Tryz.func66 rfl Tryz.ntmps66 rfl rfl rfl rfl (fun β W F => ?_)
 refine G.seq <| G.rg <| K.box Y 100 _ g0 rfl rfl rfl rfl rfl rfl <| K.as rfl rfl <| K.nil <| At.nr <| K.as rfl rfl <| K.nil <| At.next ?_
 obtain ⟨x1, H1, H0⟩ := bnd H0
 refine G.sJ (σ := { v : Int × Pool (TNode TMark TSwell) // x1 = v }) (fun q => [(5, .a (.c (.v (.int .i64 q.1.1))))]) (fun q => [(1, pvM 1 q.1.2), (0, blk 0 [.p 1 0, .v (.int .i64 rt0.index), .v (.int .i64 rt0.gen)] 110)]) ?_ ?_
 ·
  refine G.seq <| G.rg <| K.mv rfl rfl <| K.nilCheck g0 rfl rfl <| K.fieldAddr Y g0 rfl t110 rfl rfl <| K.loadS Y _ g0 rfl rfl t108 rfl rfl rfl <| K.alloc Y 101 _ g0 t108 rfl rfl rfl rfl rfl <| K.store Y _ g0 rfl rfl rfl t108 rfl rfl rfl rfl rfl <| K.nil <| At.next <| G.block <| G.lp (σ := { q : Nat × (Pool (TNode TMark TSwell) × Int × TRef) // VTree_Rank.l0 opsM k a1 q.1 q.2 = some x1 }) (fun q => [(0, .a (.c (.p 0 0))), (3, .a (.c (.p 106 0))), (5, .a (.c (.v (.int .i64 q.1.2.2.1)))), (6, .a (.c (.p 107 0)))]) (fun q => [(1, pvM 1 q.1.2.1), (0, blk 0 [.p 1 0, .v (.int .i64 rt0.index), .v (.int .i64 rt0.gen)] 110), (106, blk 106 [.v (.int .i64 a1.op.time), .v (.bool a1.op.insert), .v (.int .i64 a1.op.item.key), .v (.int .i64 a1.op.item.id), .v (.bool a1.here), .v (.bool a1.took.found), .v (.int .i64 a1.took.item.key), .v (.int .i64 a1.took.item.id)] 46), (107, blk 107 [.v (.int .i64 q.1.2.2.2.index), .v (.int .i64 q.1.2.2.2.gen)] 108)]) (fun q => q.1.1) ⟨(k, (p1, 0, rt0)), H1⟩ ?_ ?_
  · exact At.into [(106, 100), (107, 101)] [_, _, _, _] rfl ⟨rfl, rfl, rfl, rfl, trivial⟩ ⟨rfl, (pool_ren rfl), rfl, (blk_ren rfl rfl), rfl, (blk_ren rfl rfl), rfl, (blk_ren rfl rfl), trivial⟩ rfl
  ·
   rintro ⟨⟨n0, v1, v2, v3⟩, H1⟩
   show G _ _ [(0, .a (.c (.p 0 0))), (3, .a (.c (.p 106 0))), (5, .a (.c (.v (.int .i64 v2)))), (6, .a (.c (.p 107 0)))] [(1, some (pvM 1 v1)), (0, some (blk 0 [.p 1 0, .v (.int .i64 rt0.index), .v (.int .i64 rt0.gen)] 110)), (106, some (blk 106 [.v (.int .i64 a1.op.time), .v (.bool a1.op.insert), .v (.int .i64 a1.op.item.key), .v (.int .i64 a1.op.item.id), .v (.bool a1.here), .v (.bool a1.took.found), .v (.int .i64 a1.took.item.key), .v (.int .i64 a1.took.item.id)] 46)), (107, some (blk 107 [.v (.int .i64 v3.index), .v (.int .i64 v3.gen)] 108))] _ _
   cases n0 with
   | zero => exact absurd H1 (by simp [VTree_Rank.l0])
   | succ n0 =>
    have HL0 := H1
    rw [VTree_Rank.l0] at H1
    refine G.seq <| G.seq <| G.rg <| K.fieldAddr Y g0 rfl t108 rfl rfl <| K.load1 Y g0 rfl rfl t3 rfl rfl <| K.bin (V := .bool (v3.gen != 0)) g0 rfl rfl (fun _ => rfl) rfl <| K.nil <| At.next <| G.cond rfl (fun h1 => ?_) (fun h1 => ?_)
    ·
     replace H1 := bif_t H1 h1
     refine G.skip <| At.ns <| G.block <| G.seq ?_
     obtain ⟨x2, hx2, H1⟩ := bnd H1
     refine G.rg <| K.mv rfl rfl <| K.loadS Y _ g0 rfl rfl t108 rfl rfl rfl <| K.cA (cf 80 rfl) [0] (fun β w S2 h => SCon.rdBlk (VTree_getM_con hx2 0 1) rfl h) g0 rfl rfl rfl <| K.alloc Y 108 _ g0 t133 rfl rfl rfl rfl rfl <| K.store Y _ g0 rfl rfl rfl t133 rfl rfl rfl rfl rfl <| K.nil <| At.ns <| G.seq ?_
     obtain ⟨x3, hx3, H1⟩ := bnd H1
     refine G.rg <| K.loadS Y _ g0 rfl rfl t46 rfl rfl rfl <| K.mkIface Y g0 rfl (mkI Tryz.underlying46 rfl) rfl <| K.fieldAddr Y g0 rfl t133 rfl rfl <| K.loadS Y _ g0 rfl rfl t46 rfl rfl rfl <| K.callR [((.tmp 19), _), ((.tmp 21), _)] (wave_Mark_Compare_con (k := k) hx3) (toFn_invoke (cf 196 rfl) (me46_196) rfl) g0 ⟨rfl, rfl, trivial⟩ trivial rfl rfl rfl <| K.bin (V := .bool (decide (x3 ≤ 0))) g0 rfl rfl (fun _ => rfl) rfl <| K.nil <| At.next <| G.cond rfl (fun h2 => ?_) (fun h2 => ?_)
     ·
      replace H1 := bif_t H1 h2
      exact G.seq <| G.rg <| K.fieldAddr Y g0 rfl t133 rfl rfl <| K.loadS Y _ g0 rfl rfl t108 rfl rfl rfl <| K.store Y _ g0 rfl rfl rfl t108 rfl rfl rfl rfl rfl <| K.nil <| At.next <| G.exit <| At.over_exit <| At.block_hit <| At.nr <| K.loadS Y _ g0 rfl rfl t108 rfl rfl rfl <| K.nil <| At.next <| G.rg <| K.alloc Y 109 _ g0 t108 rfl rfl rfl rfl rfl <| K.store Y _ g0 rfl rfl rfl t108 rfl rfl rfl rfl rfl <| K.nil <| At.ag ⟨(n0, (x2.2, v2, x2.1.left)), H1⟩ [(107, 109)] [_, _, _, _] (Nat.lt_succ_self _) rfl ⟨rfl, rfl, rfl, rfl, trivial⟩ ⟨rfl, (pool_ren rfl), rfl, (blk_ren rfl rfl), rfl, (blk_ren rfl rfl), rfl, (blk_ren rfl rfl), trivial⟩ rfl
     ·
      replace H1 := bif_f H1 h2
      refine G.skip <| At.ns ?_
      obtain ⟨x4, hx4, H1⟩ := bnd H1
      exact G.rg <| K.mv rfl rfl <| K.mv rfl rfl <| K.fieldAddr Y g0 rfl t133 rfl rfl <| K.loadS Y _ g0 rfl rfl t108 rfl rfl rfl <| K.cA (cf 96 rfl) [0] (fun β w S2 h => SCon.rdBlk (VTree_weightM_con hx4 0 1) rfl h) g0 rfl rfl rfl <| K.bin (V := .int .i64 (w64 (v2 + x4.1))) g0 rfl rfl (fun _ => rfl) rfl <| K.as rfl rfl <| K.nil <| At.next <| G.rg <| K.fieldAddr Y g0 rfl t133 rfl rfl <| K.loadS Y _ g0 rfl rfl t108 rfl rfl rfl <| K.store Y _ g0 rfl rfl rfl t108 rfl rfl rfl rfl rfl <| K.nil <| At.block_normal <| At.nr <| K.loadS Y _ g0 rfl rfl t108 rfl rfl rfl <| K.nil <| At.next <| G.rg <| K.alloc Y 110 _ g0 t108 rfl rfl rfl rfl rfl <| K.store Y _ g0 rfl rfl rfl t108 rfl rfl rfl rfl rfl <| K.nil <| At.ag ⟨(n0, (x4.2, (w64 (v2 + x4.1)), x2.1.right)), H1⟩ [(107, 110)] [_, _, _, _] (Nat.lt_succ_self _) rfl ⟨rfl, rfl, rfl, rfl, trivial⟩ ⟨rfl, (pool_ren rfl), rfl, (blk_ren rfl rfl), rfl, (blk_ren rfl rfl), rfl, (blk_ren rfl rfl), trivial⟩ rfl
    ·
     replace H1 := bif_f H1 h1
     exact G.exit <| At.over_exit <| At.over_exit <| At.block_hit <| At.jd ⟨(v2, v1), oi H1⟩ [] [_, _] rfl ⟨rfl, trivial⟩ ⟨rfl, (pool_ren rfl), rfl, (blk_ren rfl rfl), trivial⟩ rfl
 ·
  rintro ⟨_, rfl⟩
  show G _ _ [(5, .a (.c (.v (.int .i64 x1.1))))] [(1, some (pvM 1 x1.2)), (0, some (blk 0 [.p 1 0, .v (.int .i64 rt0.index), .v (.int .i64 rt0.gen)] 110))] _ _
  exact G.seq <| G.rg <| K.mv rfl rfl <| K.as rfl rfl <| K.nil <| At.next <| G.ret <| At.dr Y [4] rfl rfl (by cases H0; rfl) (by cases H0; rfl) rfl rfl rfl
theorem VTree_RankM_con {k : Nat}  {p1 : Pool (TNode TMark TSwell)} {rt0 : TRef} {a1 : TMark} {r : Int × Pool (TNode TMark TSwell)}  (H0 : VTree_Rank.f opsM k p1 rt0 a1 = some r) (m0 m1 : Nat) : VTree_RankM_st p1 rt0 a1 r m0 m1 :=
 SCon.ren (rn [(0, m0), (1, m1)]) (VTree_RankM_con0 (k := k)   H0) ⟨(blk_ren rfl rfl), (pool_ren rfl), trivial⟩ ⟨(blk_ren rfl rfl), (pool_ren rfl), trivial⟩ (by simp) (by simp)
abbrev Vbridge_clamp_st (p1 : Pool (TNode TMark TSwell)) (rt0 : TRef) (a1 : Int) (r : Int × Pool (TNode TMark TSwell)) (m0 : Nat) (m1 : Nat) : Prop := SCon Tryz.prog 98 [SV.p m0 0, .a (.c (.v (.int .i64 a1)))] [(m0, blk m0 [.p m1 0, .i rt0.index, .i rt0.gen] 110), (m1, pvM m1 p1)] (.a (.c (.v (.int .i64 r.1)))) [(m0, blk m0 [.p m1 0, .i rt0.index, .i rt0.gen] 110), (m1, pvM m1 r.2)] []
theorem Vbridge_clamp_con0 {k : Nat}  {p1 : Pool (TNode TMark TSwell)} {rt0 : TRef} {a1 : Int} {r : Int × Pool (TNode TMark TSwell)}  (H0 : Vbridge_clamp.f k p1 rt0 a1 = some r) : Vbridge_clamp_st p1 rt0 a1 r 0 1 := by
 rw [Vbridge_clamp.f] at H0
 refine spec_of [(0, _), (1, _)] [(0, _), (1, _)] 10 Tryz.func98 rfl Tryz.ntmps98 rfl rfl rfl rfl (fun β W F => ?_)
 refine G.seq <| G.rg <| K.as rfl rfl <| K.nil <| At.ns ?_
 obtain ⟨x1, hx1, H0⟩ := bnd H0
 exact G.rg <| K.mv rfl rfl <| K.bi2 (V := .int .i64 (gmax a1 0)) g0 rfl rfl (fun _ _ => rfl) rfl <| K.mv rfl rfl <| K.cA (cf 34 rfl) [0] (fun β w S2 h => SCon.rdBlk (VTree_LenM_con hx1 0 1) rfl h) g0 rfl rfl rfl <| K.bi2 (V := .int .i64 (gmin (gmax a1 0) x1.1)) g0 rfl rfl (fun _ _ => rfl) rfl <| K.as rfl rfl <| K.nil <| At.next <| G.ret <| At.dr Y [4] rfl rfl (by cases H0; rfl) (by cases H0; rfl) rfl rfl rfl
theorem Vbridge_clamp_con {k : Nat}  {p1 : Pool (TNode TMark TSwell)} {rt0 : TRef} {a1 : Int} {r : Int × Pool (TNode TMark TSwell)}  (H0 : Vbridge_clamp.f k p1 rt0 a1 = some r) (m0 m1 : Nat) : Vbridge_clamp_st p1 rt0 a1 r m0 m1 :=
 SCon.ren (rn [(0, m0), (1, m1)]) (Vbridge_clamp_con0 (k := k)   H0) ⟨(blk_ren rfl rfl), (pool_ren rfl), trivial⟩ ⟨(blk_ren rfl rfl), (pool_ren rfl), trivial⟩ (by simp) (by simp)
abbrev VTree_lastOfM_f14_st (g4 : FuncId) (cv4 : List Value) (Tc4 : TypeId) (p1 : Pool (TNode TMark TSwell)) (a1 : TRef) (a2 : Int) (a3 : TSwell) (ri0 : Int) (rg0 : Int) (r : Int × Pool (TNode TMark TSwell)) (m0 : Nat) (m1 : Nat) (m2 : Nat) : Prop := SCon Tryz.prog 118 [SV.p m0 0, .a (.agg ((eTRef a1).map .v)), .a (.c (.v (.int .i64 a2))), .a (.agg ((eTSwell a3).map .v)), .a (.c (.fn (.func g4) [m2]))] [(m0, blk m0 [.p m1 0, .i ri0, .i rg0] 110), (m1, pvM m1 p1), (m2, vblk m2 cv4 Tc4)] (.a (.c (.v (.int .i64 r.1)))) [(m0, blk m0 [.p m1 0, .i ri0, .i rg0] 110), (m1, pvM m1 r.2), (m2, vblk m2 cv4 Tc4)] []
set_option maxHeartbeats 4000000 in
theorem VTree_lastOfM_f14_con0 {k : Nat} {g4 : FuncId} {fn4 : TSwell → TSwell → Option Bool} {cv4 : List Value} {Tc4 : TypeId} (cg4 : fnB Tryz.prog g4 = true) (hm4 : ∀ (c : Nat) {z0 : TSwell} {z1 : TSwell} {y : Bool}, fn4 z0 z1 = some y → SCon Tryz.prog g4 [.a (.agg ((eTSwell z0).map .v)), .a (.agg ((eTSwell z1).map .v)), SV.p c 0] [(c, vblk c cv4 Tc4)] (SV.b y) [(c, vblk c cv4 Tc4)] []) : ∀ {n : Nat} {p1 : Pool (TNode TMark TSwell)} {a1 : TRef} {a2 : Int} {a3 : TSwell} {ri0 rg0 : Int} {r : Int × Pool (TNode TMark TSwell)}  (H0 : VTree_lastOf.r opsM k n p1 a1 a2 a3 fn4 = some r), VTree_lastOfM_f14_st g4 cv4 Tc4 p1 a1 a2 a3 ri0 rg0 r 0 1 2 := by
 intro n
 induction n with
 | zero => intro p1 a1 a2 a3 ri0 rg0 r H0; exact absurd H0 (by simp [VTree_lastOf.r])
 | succ n ih =>
  intro p1 a1 a2 a3 ri0 rg0 r H0
  rw [VTree_lastOf.r] at H0
  refine spec_of [(0, _), (1, _), (2, _), (3, _), (4, _)] [(0, _), (1, _), (2, _)] 93 Tryz.func118 rfl Tryz.ntmps118 rfl rfl rfl rfl (fun β W F => ?_)
  refine G.seq <| G.rg <| K.box Y 100 _ g0 rfl rfl rfl rfl rfl rfl <| K.box Y 101 _ g0 rfl rfl rfl rfl rfl rfl <| K.as rfl rfl <| K.nil <| At.ns ?_
  obtain ⟨x1, hx1, H0⟩ := bnd H0
  refine G.rg <| K.mv rfl rfl <| K.loadS Y _ g0 rfl rfl t108 rfl rfl rfl <| K.cA (cf 80 rfl) [0] (fun β w S2 h => SCon.rdBlk (VTree_getM_con hx1 0 1) rfl h) g0 rfl rfl rfl <| K.alloc Y 102 _ g0 t133 rfl rfl rfl rfl rfl <| K.store Y _ g0 rfl rfl rfl t133 rfl rfl rfl rfl rfl <| K.nil <| At.next ?_
  obtain ⟨x2, H1, H0⟩ := bnd H0
  refine G.sJ (σ := { v : Unit // x2 = Sum.inr v }) (fun q => [(0, .a (.c (.p 0 0))), (2, .a (.c (.v (.int .i64 a2)))), (4, .a (.c (.fn (.func g4) [2]))), (8, .a (.c (.p 103 0))), (11, .a (.c (.p 104 0)))]) (fun q => [(1, pvM 1 x1.2), (0, blk 0 [.p 1 0, .v (.int .i64 ri0), .v (.int .i64 rg0)] 110), (2, vblk 2 cv4 Tc4), (103, blk 103 [.v (.int .i64 a3.count.n), .v (.int .i64 a3.count.sum), .v (.int .i64 a3.count.low), .v (.int .i64 a3.weight.n), .v (.int .i64 a3.weight.sum), .v (.int .i64 a3.weight.low), .v (.int .i64 a3.deletes), .v (.int .i64 a3.free), .v (.int .i64 a3.most.key), .v (.int .i64 a3.most.id), .v (.bool a3.gone.found), .v (.int .i64 a3.gone.item.key), .v (.int .i64 a3.gone.item.id), .v (.bool a3.least.found), .v (.int .i64 a3.least.item.key), .v (.int .i64 a3.least.item.id)] 50), (104, blk 104 [.v (.int .i64 x1.1.e.op.time), .v (.bool x1.1.e.op.insert), .v (.int .i64 x1.1.e.op.item.key), .v (.int .i64 x1.1.e.op.item.id), .v (.bool x1.1.e.here), .v (.bool x1.1.e.took.found), .v (.int .i64 x1.1.e.took.item.key), .v (.int .i64 x1.1.e.took.item.id), .v (.int .i64 x1.1.left.index), .v (.int .i64 x1.1.left.gen), .v (.int .i64 x1.1.right.index), .v (.int .i64 x1.1.right.gen), .v (.int .i64 x1.1.size), .v (.int .i64 x1.1.sum.count.n), .v (.int .i64 x1.1.sum.count.sum), .v (.int .i64 x1.1.sum.count.low), .v (.int .i64 x1.1.sum.weight.n), .v (.int .i64 x1.1.sum.weight.sum), .v (.int .i64 x1.1.sum.weight.low), .v (.int .i64 x1.1.sum.deletes), .v (.int .i64 x1.1.sum.free), .v (.int .i64 x1.1.sum.most.key), .v (.int .i64 x1.1.sum.most.id), .v (.bool x1.1.sum.gone.found), .v (.int .i64 x1.1.sum.gone.item.key), .v (.int .i64 x1.1.sum.gone.item.id), .v (.bool x1.1.sum.least.found), .v (.int .i64 x1.1.sum.least.item.key), .v (.int .i64 x1.1.sum.least.item.id)] 133)]) ?_ ?_
  ·
   refine G.seq ?_
   rcases Bool.eq_false_or_eq_true (x1.1.size == 0) with h1 | h1
   ·
    replace H1 := bif_t H1 h1
    refine G.rg <| K.fieldAddr Y g0 rfl t133 rfl rfl <| K.load1 Y g0 rfl rfl t3 rfl rfl <| K.bin (V := .bool (x1.1.size == 0)) g0 rfl rfl (fun _ => rfl) rfl <| K.mv rfl rfl <| K.sk rfl rfl h1 rfl <| K.sk rfl rfl h1 rfl <| K.pickT g0 rfl (h1) rfl rfl <| K.mv rfl rfl <| K.sk rfl rfl rfl rfl <| K.sk rfl rfl rfl rfl <| K.sk rfl rfl rfl rfl <| K.sk rfl rfl rfl rfl <| K.sk rfl rfl rfl rfl <| K.skipU rfl rfl rfl rfl rfl <| K.skipU rfl rfl rfl rfl rfl <| K.skipU rfl rfl rfl rfl rfl <| K.skipU rfl rfl rfl rfl rfl <| K.skipU rfl rfl rfl rfl rfl <| K.skipU rfl rfl rfl rfl rfl <| K.sk rfl rfl rfl rfl <| K.pickT g0 rfl (rfl) rfl rfl <| K.nil <| At.next <| G.cond rfl (fun h2 => ?_) (fun h2 => ?_)
    ·
     refine G.seq <| G.rg <| K.as rfl rfl <| K.nil <| At.next <| G.ret <| At.over_ret ?_
     cases H1
     replace H0 := sum_l H0
     exact At.dr Y [10] rfl rfl (by cases H0; rfl) (by cases H0; rfl) rfl rfl rfl
    · cases h2
   ·
    replace H1 := bif_f H1 h1
    rcases Bool.eq_false_or_eq_true (decide (a2 ≤ 0)) with h3 | h3
    ·
     replace H1 := bif_t H1 h3
     refine G.rg <| K.fieldAddr Y g0 rfl t133 rfl rfl <| K.load1 Y g0 rfl rfl t3 rfl rfl <| K.bin (V := .bool (x1.1.size == 0)) g0 rfl rfl (fun _ => rfl) rfl <| K.mv rfl rfl <| K.move (.inl rfl) (g1 rfl rfl h1) rfl rfl <| K.bin (V := .bool (decide (a2 ≤ 0))) (g1 rfl rfl h1) rfl rfl (fun _ => rfl) rfl <| K.pickF g0 rfl (h1) rfl rfl <| K.mv rfl rfl <| K.sk rfl rfl h3 rfl <| K.sk rfl rfl h3 rfl <| K.sk rfl rfl h3 rfl <| K.sk rfl rfl h3 rfl <| K.sk rfl rfl h3 rfl <| K.skipU rfl rfl rfl rfl rfl <| K.skipU rfl rfl rfl rfl rfl <| K.skipU rfl rfl rfl rfl rfl <| K.skipU rfl rfl rfl rfl rfl <| K.skipU rfl rfl rfl rfl rfl <| K.skipU rfl rfl rfl rfl rfl <| K.sk rfl rfl h3 rfl <| K.pickT g0 rfl (h3) rfl rfl <| K.nil <| At.next <| G.cond rfl (fun h4 => ?_) (fun h4 => ?_)
     ·
      refine G.seq <| G.rg <| K.as rfl rfl <| K.nil <| At.next <| G.ret <| At.over_ret ?_
      cases H1
      replace H0 := sum_l H0
      exact At.dr Y [10] rfl rfl (by cases H0; rfl) (by cases H0; rfl) rfl rfl rfl
     · cases h4
    ·
     replace H1 := bif_f H1 h3
     rcases Bool.eq_false_or_eq_true (decide (a2 ≥ x1.1.size)) with h5 | h5
     ·
      replace H1 := bif_t H1 h5
      obtain ⟨x3, hx3, H1⟩ := bnd H1
      refine G.rg <| K.fieldAddr Y g0 rfl t133 rfl rfl <| K.load1 Y g0 rfl rfl t3 rfl rfl <| K.bin (V := .bool (x1.1.size == 0)) g0 rfl rfl (fun _ => rfl) rfl <| K.mv rfl rfl <| K.move (.inl rfl) (g1 rfl rfl h1) rfl rfl <| K.bin (V := .bool (decide (a2 ≤ 0))) (g1 rfl rfl h1) rfl rfl (fun _ => rfl) rfl <| K.pickF g0 rfl (h1) rfl rfl <| K.mv rfl rfl <| K.move (.inl rfl) (g1 rfl rfl h3) rfl rfl <| K.fieldAddr Y (g1 rfl rfl h3) rfl t133 rfl rfl <| K.load1 Y (g1 rfl rfl h3) rfl rfl t3 rfl rfl <| K.bin (V := .bool (decide (a2 ≥ x1.1.size))) (g1 rfl rfl h3) rfl rfl (fun _ => rfl) rfl <| K.move (.inl rfl) (g1 rfl rfl h3) rfl rfl <| K.move (.inl rfl) (g1 rfl rfl h5) rfl rfl <| K.loadS Y _ (g1 rfl rfl h5) rfl rfl t50 rfl rfl rfl <| K.fieldAddr Y (g1 rfl rfl h5) rfl t133 rfl rfl <| K.loadS Y _ (g1 rfl rfl h5) rfl rfl t50 rfl rfl rfl <| K.callR [((.tmp 32), _), ((.tmp 33), _), ((.tmp 35), _)] (hm4 2 hx3) (toFn_val cg4 rfl) (g1 rfl rfl h5) ⟨rfl, rfl, rfl, trivial⟩ ⟨rfl, trivial⟩ rfl rfl rfl <| K.un (V := .bool (!x3)) (g1 rfl rfl h5) rfl (fun _ => rfl) rfl <| K.pickT (g1 rfl rfl h3) rfl (h5) rfl rfl <| K.pickF g0 rfl (h3) rfl rfl <| K.nil <| At.next <| G.cond rfl (fun h6 => ?_) (fun h6 => ?_)
      ·
       replace H1 := bif_t H1 h6
       refine G.seq <| G.rg <| K.as rfl rfl <| K.nil <| At.next <| G.ret <| At.over_ret ?_
       cases H1
       replace H0 := sum_l H0
       exact At.dr Y [10] rfl rfl (by cases H0; rfl) (by cases H0; rfl) rfl rfl rfl
      ·
       replace H1 := bif_f H1 h6
       exact G.skip <| At.jd ⟨(), oi H1⟩ [(103, 101), (104, 102)] [_, _, _, _, _] rfl ⟨rfl, rfl, rfl, rfl, rfl, trivial⟩ ⟨rfl, (pool_ren rfl), rfl, (blk_ren rfl rfl), rfl, (vblk_ren rfl), rfl, (blk_ren rfl rfl), rfl, (blk_ren rfl rfl), trivial⟩ rfl
     ·
      replace H1 := bif_f H1 h5
      refine G.rg <| K.fieldAddr Y g0 rfl t133 rfl rfl <| K.load1 Y g0 rfl rfl t3 rfl rfl <| K.bin (V := .bool (x1.1.size == 0)) g0 rfl rfl (fun _ => rfl) rfl <| K.mv rfl rfl <| K.move (.inl rfl) (g1 rfl rfl h1) rfl rfl <| K.bin (V := .bool (decide (a2 ≤ 0))) (g1 rfl rfl h1) rfl rfl (fun _ => rfl) rfl <| K.pickF g0 rfl (h1) rfl rfl <| K.mv rfl rfl <| K.move (.inl rfl) (g1 rfl rfl h3) rfl rfl <| K.fieldAddr Y (g1 rfl rfl h3) rfl t133 rfl rfl <| K.load1 Y (g1 rfl rfl h3) rfl rfl t3 rfl rfl <| K.bin (V := .bool (decide (a2 ≥ x1.1.size))) (g1 rfl rfl h3) rfl rfl (fun _ => rfl) rfl <| K.move (.inl rfl) (g1 rfl rfl h3) rfl rfl <| K.sk rfl rfl h5 rfl <| K.sk rfl rfl h5 rfl <| K.sk rfl rfl h5 rfl <| K.sk rfl rfl h5 rfl <| K.sk rfl rfl h5 rfl <| K.sk rfl rfl h5 rfl <| K.pickF (g1 rfl rfl h3) rfl (h5) rfl rfl <| K.pickF g0 rfl (h3) rfl rfl <| K.nil <| At.next <| G.cond rfl (fun h7 => ?_) (fun h7 => ?_)
      · cases h7
      ·
       exact G.skip <| At.jd ⟨(), oi H1⟩ [(103, 101), (104, 102)] [_, _, _, _, _] rfl ⟨rfl, rfl, rfl, rfl, rfl, trivial⟩ ⟨rfl, (pool_ren rfl), rfl, (blk_ren rfl rfl), rfl, (vblk_ren rfl), rfl, (blk_ren rfl rfl), rfl, (blk_ren rfl rfl), trivial⟩ rfl
  ·
   rintro ⟨w2, rfl⟩
   replace H0 := sum_r H0
   show G _ _ [(0, .a (.c (.p 0 0))), (2, .a (.c (.v (.int .i64 a2)))), (4, .a (.c (.fn (.func g4) [2]))), (8, .a (.c (.p 103 0))), (11, .a (.c (.p 104 0)))] [(1, some (pvM 1 x1.2)), (0, some (blk 0 [.p 1 0, .v (.int .i64 ri0), .v (.int .i64 rg0)] 110)), (2, some (vblk 2 cv4 Tc4)), (103, some (blk 103 [.v (.int .i64 a3.count.n), .v (.int .i64 a3.count.sum), .v (.int .i64 a3.count.low), .v (.int .i64 a3.weight.n), .v (.int .i64 a3.weight.sum), .v (.int .i64 a3.weight.low), .v (.int .i64 a3.deletes), .v (.int .i64 a3.free), .v (.int .i64 a3.most.key), .v (.int .i64 a3.most.id), .v (.bool a3.gone.found), .v (.int .i64 a3.gone.item.key), .v (.int .i64 a3.gone.item.id), .v (.bool a3.least.found), .v (.int .i64 a3.least.item.key), .v (.int .i64 a3.least.item.id)] 50)), (104, some (blk 104 [.v (.int .i64 x1.1.e.op.time), .v (.bool x1.1.e.op.insert), .v (.int .i64 x1.1.e.op.item.key), .v (.int .i64 x1.1.e.op.item.id), .v (.bool x1.1.e.here), .v (.bool x1.1.e.took.found), .v (.int .i64 x1.1.e.took.item.key), .v (.int .i64 x1.1.e.took.item.id), .v (.int .i64 x1.1.left.index), .v (.int .i64 x1.1.left.gen), .v (.int .i64 x1.1.right.index), .v (.int .i64 x1.1.right.gen), .v (.int .i64 x1.1.size), .v (.int .i64 x1.1.sum.count.n), .v (.int .i64 x1.1.sum.count.sum), .v (.int .i64 x1.1.sum.count.low), .v (.int .i64 x1.1.sum.weight.n), .v (.int .i64 x1.1.sum.weight.sum), .v (.int .i64 x1.1.sum.weight.low), .v (.int .i64 x1.1.sum.deletes), .v (.int .i64 x1.1.sum.free), .v (.int .i64 x1.1.sum.most.key), .v (.int .i64 x1.1.sum.most.id), .v (.bool x1.1.sum.gone.found), .v (.int .i64 x1.1.sum.gone.item.key), .v (.int .i64 x1.1.sum.gone.item.id), .v (.bool x1.1.sum.least.found), .v (.int .i64 x1.1.sum.least.item.key), .v (.int .i64 x1.1.sum.least.item.id)] 133))] _ _
   refine G.seq ?_
   obtain ⟨x4, hx4, H0⟩ := bnd H0
   refine G.rg <| K.mv rfl rfl <| K.fieldAddr Y g0 rfl t133 rfl rfl <| K.loadS Y _ g0 rfl rfl t108 rfl rfl rfl <| K.cA (cf 80 rfl) [0] (fun β w S2 h => SCon.rdBlk (VTree_getM_con hx4 0 1) rfl h) g0 rfl rfl rfl <| K.alloc Y 105 _ g0 t133 rfl rfl rfl rfl rfl <| K.store Y _ g0 rfl rfl rfl t133 rfl rfl rfl rfl rfl <| K.nil <| At.ns ?_
   obtain ⟨x5, hx5, H0⟩ := bnd H0
   obtain ⟨x6, hx6, H0⟩ := bnd H0
   refine G.rd mixed <| K.loadS Y _ g0 rfl rfl t50 rfl rfl rfl <| K.mkIface Y g0 rfl (mkI Tryz.underlying50 rfl) rfl <| K.fieldAddr Y g0 rfl t133 rfl rfl <| K.loadS Y _ g0 rfl rfl t50 rfl rfl rfl <| K.callR [((.tmp 45), _), ((.tmp 47), _)] (wave_Swell_Plus_con (k := k) hx5) (toFn_invoke (cf 201 rfl) (me50_201) rfl) g0 ⟨rfl, rfl, trivial⟩ trivial rfl rfl rfl <| K.fieldAddr Y g0 rfl t133 rfl rfl <| K.loadS Y _ g0 rfl rfl t46 rfl rfl rfl <| K.mkIface Y g0 rfl (mkI Tryz.underlying46 rfl) rfl <| K.callR [((.tmp 51), _)] (wave_Mark_Sum_con (k := k) hx6) (toFn_invoke (cf 197 rfl) (me46_197) rfl) g0 ⟨rfl, trivial⟩ trivial rfl rfl rfl <| K.alloc Y 106 _ g0 t50 rfl rfl rfl rfl rfl <| K.alloc Y 107 _ g0 t50 rfl rfl rfl rfl rfl <| K.store Y _ g0 rfl rfl rfl t50 rfl rfl rfl rfl rfl <| K.store Y _ g0 rfl rfl rfl t50 rfl rfl rfl rfl rfl <| K.nil <| And.intro (by kernel_rfl) <| At.ns <| G.seq ?_
   obtain ⟨x7, hx7, H0⟩ := bnd H0
   obtain ⟨x8, hx8, H0⟩ := bnd H0
   refine G.rd mixed <| K.mv rfl rfl <| K.fieldAddr Y g0 rfl t133 rfl rfl <| K.loadS Y _ g0 rfl rfl t108 rfl rfl rfl <| K.mv rfl rfl <| K.fieldAddr Y g0 rfl t133 rfl rfl <| K.load1 Y g0 rfl rfl t3 rfl rfl <| K.bin (V := .int .i64 (w64 (a2 - x4.1.size))) g0 rfl rfl (fun _ => rfl) rfl <| K.bin (V := .int .i64 (w64 ((w64 (a2 - x4.1.size)) - 1))) g0 rfl rfl (fun _ => rfl) rfl <| K.loadS Y _ g0 rfl rfl t50 rfl rfl rfl <| K.mkIface Y g0 rfl (mkI Tryz.underlying50 rfl) rfl <| K.loadS Y _ g0 rfl rfl t50 rfl rfl rfl <| K.callR [((.tmp 62), _), ((.tmp 63), _)] (wave_Swell_Plus_con (k := k) hx7) (toFn_invoke (cf 201 rfl) (me50_201) rfl) g0 ⟨rfl, rfl, trivial⟩ trivial rfl rfl rfl <| K.mv rfl rfl <| K.cA (cf 118 rfl) [0] (fun β w S2 h => SCon.rdBlk (ih hx8) rfl h) g0 rfl rfl rfl <| K.as rfl rfl <| K.nil <| And.intro (by kernel_rfl) <| At.nr <| K.mv rfl rfl <| K.bin (V := .bool (decide (x8.1 ≥ 0))) g0 rfl rfl (fun _ => rfl) rfl <| K.nil <| At.next <| G.cond rfl (fun h8 => ?_) (fun h8 => ?_)
   ·
    replace H0 := bif_t H0 h8
    exact G.seq <| G.rg <| K.mv rfl rfl <| K.fieldAddr Y g0 rfl t133 rfl rfl <| K.load1 Y g0 rfl rfl t3 rfl rfl <| K.bin (V := .int .i64 (w64 (x8.1 + x4.1.size))) g0 rfl rfl (fun _ => rfl) rfl <| K.bin (V := .int .i64 (w64 ((w64 (x8.1 + x4.1.size)) + 1))) g0 rfl rfl (fun _ => rfl) rfl <| K.as rfl rfl <| K.nil <| At.next <| G.ret <| At.over_ret <| At.dr Y [10] rfl rfl (by cases H0; rfl) (by cases H0; rfl) rfl rfl rfl
   ·
    replace H0 := bif_f H0 h8
    refine G.skip <| At.ns <| G.seq ?_
    rcases Bool.eq_false_or_eq_true (decide (a2 > x4.1.size)) with h9 | h9
    ·
     replace H0 := bif_t H0 h9
     obtain ⟨x9, hx9, H0⟩ := bnd H0
     refine G.rg <| K.mv rfl rfl <| K.fieldAddr Y g0 rfl t133 rfl rfl <| K.load1 Y g0 rfl rfl t3 rfl rfl <| K.bin (V := .bool (decide (a2 > x4.1.size))) g0 rfl rfl (fun _ => rfl) rfl <| K.mv rfl rfl <| K.move (.inl rfl) (g1 rfl rfl h9) rfl rfl <| K.loadS Y _ (g1 rfl rfl h9) rfl rfl t50 rfl rfl rfl <| K.loadS Y _ (g1 rfl rfl h9) rfl rfl t50 rfl rfl rfl <| K.callR [((.tmp 79), _), ((.tmp 80), _), ((.tmp 81), _)] (hm4 2 hx9) (toFn_val cg4 rfl) (g1 rfl rfl h9) ⟨rfl, rfl, rfl, trivial⟩ ⟨rfl, trivial⟩ rfl rfl rfl <| K.pickT g0 rfl (h9) rfl rfl <| K.nil <| At.next <| G.cond rfl (fun h10 => ?_) (fun h10 => ?_)
     ·
      replace H0 := bif_t H0 h10
      exact G.seq <| G.rg <| K.fieldAddr Y g0 rfl t133 rfl rfl <| K.load1 Y g0 rfl rfl t3 rfl rfl <| K.as rfl rfl <| K.nil <| At.next <| G.ret <| At.over_ret <| At.dr Y [10] rfl rfl (by cases H0; rfl) (by cases H0; rfl) rfl rfl rfl
     ·
      replace H0 := bif_f H0 h10
      refine G.skip <| At.ns ?_
      obtain ⟨x10, hx10, H0⟩ := bnd H0
      exact G.rg <| K.mv rfl rfl <| K.fieldAddr Y g0 rfl t133 rfl rfl <| K.loadS Y _ g0 rfl rfl t108 rfl rfl rfl <| K.mv rfl rfl <| K.loadS Y _ g0 rfl rfl t50 rfl rfl rfl <| K.mv rfl rfl <| K.cA (cf 118 rfl) [0] (fun β w S2 h => SCon.rdBlk (ih hx10) rfl h) g0 rfl rfl rfl <| K.as rfl rfl <| K.nil <| At.next <| G.ret <| At.dr Y [10] rfl rfl (by cases H0; rfl) (by cases H0; rfl) rfl rfl rfl
    ·
     replace H0 := bif_f H0 h9
     refine G.rg <| K.mv rfl rfl <| K.fieldAddr Y g0 rfl t133 rfl rfl <| K.load1 Y g0 rfl rfl t3 rfl rfl <| K.bin (V := .bool (decide (a2 > x4.1.size))) g0 rfl rfl (fun _ => rfl) rfl <| K.mv rfl rfl <| K.sk rfl rfl h9 rfl <| K.sk rfl rfl h9 rfl <| K.sk rfl rfl h9 rfl <| K.sk rfl rfl h9 rfl <| K.pickF g0 rfl (h9) rfl rfl <| K.nil <| At.next <| G.cond rfl (fun h11 => ?_) (fun h11 => ?_)
     · cases h11
     ·
      refine G.skip <| At.ns ?_
      obtain ⟨x11, hx11, H0⟩ := bnd H0
      exact G.rg <| K.mv rfl rfl <| K.fieldAddr Y g0 rfl t133 rfl rfl <| K.loadS Y _ g0 rfl rfl t108 rfl rfl rfl <| K.mv rfl rfl <| K.loadS Y _ g0 rfl rfl t50 rfl rfl rfl <| K.mv rfl rfl <| K.cA (cf 118 rfl) [0] (fun β w S2 h => SCon.rdBlk (ih hx11) rfl h) g0 rfl rfl rfl <| K.as rfl rfl <| K.nil <| At.next <| G.ret <| At.dr Y [10] rfl rfl (by cases H0; rfl) (by cases H0; rfl) rfl rfl rfl
theorem VTree_lastOfM_f14_con {k n : Nat} {g4 : FuncId} {fn4 : TSwell → TSwell → Option Bool} {cv4 : List Value} {Tc4 : TypeId} (cg4 : fnB Tryz.prog g4 = true) (hm4 : ∀ (c : Nat) {z0 : TSwell} {z1 : TSwell} {y : Bool}, fn4 z0 z1 = some y → SCon Tryz.prog g4 [.a (.agg ((eTSwell z0).map .v)), .a (.agg ((eTSwell z1).map .v)), SV.p c 0] [(c, vblk c cv4 Tc4)] (SV.b y) [(c, vblk c cv4 Tc4)] []) {p1 : Pool (TNode TMark TSwell)} {a1 : TRef} {a2 : Int} {a3 : TSwell} {ri0 rg0 : Int} {r : Int × Pool (TNode TMark TSwell)}  (H0 : VTree_lastOf.r opsM k n p1 a1 a2 a3 fn4 = some r) (m0 m1 m2 : Nat) : VTree_lastOfM_f14_st g4 cv4 Tc4 p1 a1 a2 a3 ri0 rg0 r m0 m1 m2 :=
 SCon.ren (rn [(0, m0), (1, m1), (2, m2)]) (VTree_lastOfM_f14_con0 (k := k) cg4 hm4  H0) ⟨(blk_ren rfl rfl), (pool_ren rfl), (vblk_ren rfl), trivial⟩ ⟨(blk_ren rfl rfl), (pool_ren rfl), (vblk_ren rfl), trivial⟩ (by simp) (by simp)
abbrev VTree_LastM_f12_st (g2 : FuncId) (cv2 : List Value) (Tc2 : TypeId) (p1 : Pool (TNode TMark TSwell)) (rt0 : TRef) (a1 : Int) (r : Int × Pool (TNode TMark TSwell)) (m0 : Nat) (m1 : Nat) (m2 : Nat) : Prop := SCon Tryz.prog 97 [SV.p m0 0, .a (.c (.v (.int .i64 a1))), .a (.c (.fn (.func g2) [m2]))] [(m0, blk m0 [.p m1 0, .i rt0.index, .i rt0.gen] 110), (m1, pvM m1 p1), (m2, vblk m2 cv2 Tc2)] (.a (.c (.v (.int .i64 r.1)))) [(m0, blk m0 [.p m1 0, .i rt0.index, .i rt0.gen] 110), (m1, pvM m1 r.2), (m2, vblk m2 cv2 Tc2)] []
theorem VTree_LastM_f12_con0 {k : Nat} {g2 : FuncId} {fn2 : TSwell → TSwell → Option Bool} {cv2 : List Value} {Tc2 : TypeId} (cg2 : fnB Tryz.prog g2 = true) (hm2 : ∀ (c : Nat) {z0 : TSwell} {z1 : TSwell} {y : Bool}, fn2 z0 z1 = some y → SCon Tryz.prog g2 [.a (.agg ((eTSwell z0).map .v)), .a (.agg ((eTSwell z1).map .v)), SV.p c 0] [(c, vblk c cv2 Tc2)] (SV.b y) [(c, vblk c cv2 Tc2)] []) {p1 : Pool (TNode TMark TSwell)} {rt0 : TRef} {a1 : Int} {r : Int × Pool (TNode TMark TSwell)}  (H0 : VTree_Last.f opsM k p1 rt0 a1 fn2 = some r) : VTree_LastM_f12_st g2 cv2 Tc2 p1 rt0 a1 r 0 1 2 := by
 rw [VTree_Last.f] at H0
 refine spec_of [(0, _), (1, _), (2, _)] [(0, _), (1, _), (2, _)] 21 Tryz.func97 rfl Tryz.ntmps97 rfl rfl rfl rfl (fun β W F => ?_)
 refine G.seq <| G.rg <| K.as rfl rfl <| K.nil <| At.nr <| K.alloc Y 100 _ g0 t50 rfl rfl rfl rfl rfl <| K.nil <| At.ns ?_
 obtain ⟨x1, hx1, H0⟩ := bnd H0
 obtain ⟨x2, hx2, H0⟩ := bnd H0
 exact G.rd mixed <| K.mv rfl rfl <| K.mv rfl rfl <| K.nilCheck g0 rfl rfl <| K.fieldAddr Y g0 rfl t110 rfl rfl <| K.loadS Y _ g0 rfl rfl t108 rfl rfl rfl <| K.mv rfl rfl <| K.bi2 (V := .int .i64 (gmax a1 0)) g0 rfl rfl (fun _ _ => rfl) rfl <| K.mv rfl rfl <| K.cA (cf 34 rfl) [0] (fun β w S2 h => SCon.rdBlk (VTree_LenM_con hx1 0 1) rfl h) g0 rfl rfl rfl <| K.bi2 (V := .int .i64 (gmin (gmax a1 0) x1.1)) g0 rfl rfl (fun _ _ => rfl) rfl <| K.loadS Y _ g0 rfl rfl t50 rfl rfl rfl <| K.mv rfl rfl <| K.cA (cf 118 rfl) [0] (fun β w S2 h => SCon.rdBlk (VTree_lastOfM_f14_con cg2 hm2 hx2 0 1 2) rfl h) g0 rfl rfl rfl <| K.as rfl rfl <| K.nil <| And.intro (by kernel_rfl) <| At.next <| G.ret <| At.dr Y [6] rfl rfl (by cases H0; rfl) (by cases H0; rfl) rfl rfl rfl
theorem VTree_LastM_f12_con {k : Nat} {g2 : FuncId} {fn2 : TSwell → TSwell → Option Bool} {cv2 : List Value} {Tc2 : TypeId} (cg2 : fnB Tryz.prog g2 = true) (hm2 : ∀ (c : Nat) {z0 : TSwell} {z1 : TSwell} {y : Bool}, fn2 z0 z1 = some y → SCon Tryz.prog g2 [.a (.agg ((eTSwell z0).map .v)), .a (.agg ((eTSwell z1).map .v)), SV.p c 0] [(c, vblk c cv2 Tc2)] (SV.b y) [(c, vblk c cv2 Tc2)] []) {p1 : Pool (TNode TMark TSwell)} {rt0 : TRef} {a1 : Int} {r : Int × Pool (TNode TMark TSwell)}  (H0 : VTree_Last.f opsM k p1 rt0 a1 fn2 = some r) (m0 m1 m2 : Nat) : VTree_LastM_f12_st g2 cv2 Tc2 p1 rt0 a1 r m0 m1 m2 :=
 SCon.ren (rn [(0, m0), (1, m1), (2, m2)]) (VTree_LastM_f12_con0 (k := k) cg2 hm2  H0) ⟨(blk_ren rfl rfl), (pool_ren rfl), (vblk_ren rfl), trivial⟩ ⟨(blk_ren rfl rfl), (pool_ren rfl), (vblk_ren rfl), trivial⟩ (by simp) (by simp)
abbrev Vbridge_Prior_st (p1 : Pool (TNode TMark TSwell)) (rt0 : TRef) (a1 : Int) (a2 : Int) (r : Int × Pool (TNode TMark TSwell)) (m0 : Nat) (m1 : Nat) : Prop := SCon Tryz.prog 68 [SV.p m0 0, .a (.c (.v (.int .i64 a1))), .a (.c (.v (.int .i64 a2)))] [(m0, blk m0 [.p m1 0, .i rt0.index, .i rt0.gen] 110), (m1, pvM m1 p1)] (.a (.c (.v (.int .i64 r.1)))) [(m0, blk m0 [.p m1 0, .i rt0.index, .i rt0.gen] 110), (m1, pvM m1 r.2)] []
theorem Vbridge_Prior_con0 {k : Nat}  {p1 : Pool (TNode TMark TSwell)} {rt0 : TRef} {a1 : Int} {a2 : Int} {r : Int × Pool (TNode TMark TSwell)}  (H0 : Vbridge_Prior.f k p1 rt0 a1 a2 = some r) : Vbridge_Prior_st p1 rt0 a1 a2 r 0 1 := by
 rw [Vbridge_Prior.f] at H0
 refine spec_of [(0, _), (1, _), (2, _)] [(0, _), (1, _)] 21 Tryz.func68 rfl Tryz.ntmps68 rfl rfl rfl rfl (fun β W F => ?_)
 refine G.seq <| G.rg <| K.as rfl rfl <| K.nil <| At.ns <| G.seq ?_
 obtain ⟨x1, hx1, H0⟩ := bnd H0
 obtain ⟨x2, hx2, H0⟩ := bnd H0
 obtain ⟨x3, hx3, H0⟩ := bnd H0
 refine G.rg <| K.mv rfl rfl <| K.mv rfl rfl <| K.mv rfl rfl <| K.cA (cf 98 rfl) [0] (fun β w S2 h => SCon.rdBlk (Vbridge_clamp_con hx1 0 1) rfl h) g0 rfl rfl rfl <| K.mv rfl rfl <| K.c0 (cf 99 rfl) (bridge_low_con hx2 100 rfl) g0 rfl rfl rfl rfl <| K.cA (cf 97 rfl) [0] (fun β w S2 h => SCon.rdBlk (VTree_LastM_f12_con (cv2 := [(.int .i64 x2)]) (Tc2 := 3) (cf 119 rfl) (fun c _ _ _ h => bridge_low_1_con h c) hx3 0 1 100) rfl h) g0 rfl rfl rfl <| K.as rfl rfl <| K.nil <| At.nr <| K.mv rfl rfl <| K.bin (V := .bool (decide (x3.1 ≥ 0))) g0 rfl rfl (fun _ => rfl) rfl <| K.nil <| At.next <| G.cond rfl (fun h1 => ?_) (fun h1 => ?_)
 ·
  replace H0 := bif_t H0 h1
  exact G.seq <| G.rg <| K.mv rfl rfl <| K.bin (V := .int .i64 (w64 (x3.1 + 1))) g0 rfl rfl (fun _ => rfl) rfl <| K.as rfl rfl <| K.nil <| At.next <| G.ret <| At.over_ret <| At.dr Y [6] rfl rfl (by cases H0; rfl) (by cases H0; rfl) rfl rfl rfl
 ·
  replace H0 := bif_f H0 h1
  refine G.skip <| At.ns <| G.seq <| G.rg <| K.mv rfl rfl <| K.bin (V := .bool (decide (a2 ≤ 0))) g0 rfl rfl (fun _ => rfl) rfl <| K.nil <| At.next <| G.cond rfl (fun h2 => ?_) (fun h2 => ?_)
  ·
   replace H0 := bif_t H0 h2
   exact G.seq <| G.rg <| K.as rfl rfl <| K.nil <| At.next <| G.ret <| At.over_ret <| At.dr Y [6] rfl rfl (by cases H0; rfl) (by cases H0; rfl) rfl rfl rfl
  ·
   replace H0 := bif_f H0 h2
   exact G.skip <| At.nr <| K.as rfl rfl <| K.nil <| At.next <| G.ret <| At.dr Y [6] rfl rfl (by cases H0; rfl) (by cases H0; rfl) rfl rfl rfl
theorem Vbridge_Prior_con {k : Nat}  {p1 : Pool (TNode TMark TSwell)} {rt0 : TRef} {a1 : Int} {a2 : Int} {r : Int × Pool (TNode TMark TSwell)}  (H0 : Vbridge_Prior.f k p1 rt0 a1 a2 = some r) (m0 m1 : Nat) : Vbridge_Prior_st p1 rt0 a1 a2 r m0 m1 :=
 SCon.ren (rn [(0, m0), (1, m1)]) (Vbridge_Prior_con0 (k := k)   H0) ⟨(blk_ren rfl rfl), (pool_ren rfl), trivial⟩ ⟨(blk_ren rfl rfl), (pool_ren rfl), trivial⟩ (by simp) (by simp)
abbrev VTree_weightS_st (p1 : Pool (TNode TSlot TSize)) (a1 : TRef) (ri0 : Int) (rg0 : Int) (r : Int × Pool (TNode TSlot TSize)) (m0 : Nat) (m1 : Nat) : Prop := SCon Tryz.prog 144 [SV.p m0 0, .a (.agg ((eTRef a1).map .v))] [(m0, blk m0 [.p m1 0, .i ri0, .i rg0] 131), (m1, pvS m1 p1)] (.a (.c (.v (.int .i64 r.1)))) [(m0, blk m0 [.p m1 0, .i ri0, .i rg0] 131), (m1, pvS m1 r.2)] []
theorem VTree_weightS_con0 {k : Nat}  {p1 : Pool (TNode TSlot TSize)} {a1 : TRef} {ri0 rg0 : Int} {r : Int × Pool (TNode TSlot TSize)}  (H0 : VTree_weight.f opsS k p1 a1 = some r) : VTree_weightS_st p1 a1 ri0 rg0 r 0 1 := by
 rw [VTree_weight.f] at H0
 refine spec_of [(0, _), (1, _)] [(0, _), (1, _)] 10 Tryz.func144 rfl Tryz.ntmps144 rfl rfl rfl rfl (fun β W F => ?_)
 refine G.seq <| G.rg <| K.box Y 100 _ g0 rfl rfl rfl rfl rfl rfl <| K.as rfl rfl <| K.nil <| At.ns ?_
 obtain ⟨x1, hx1, H0⟩ := bnd H0
 exact G.rg <| K.mv rfl rfl <| K.loadS Y _ g0 rfl rfl t108 rfl rfl rfl <| K.cA (cf 79 rfl) [0] (fun β w S2 h => SCon.rdBlk (VTree_getS_con hx1 0 1) rfl h) g0 rfl rfl rfl <| K.field1 Y g0 rfl t127 rfl t3 rfl rfl <| K.bin (V := .int .i64 (w64 (x1.1.size + 1))) g0 rfl rfl (fun _ => rfl) rfl <| K.as rfl rfl <| K.nil <| At.next <| G.ret <| At.dr Y [4] rfl rfl (by cases H0; rfl) (by cases H0; rfl) rfl rfl rfl
theorem VTree_weightS_con {k : Nat}  {p1 : Pool (TNode TSlot TSize)} {a1 : TRef} {ri0 rg0 : Int} {r : Int × Pool (TNode TSlot TSize)}  (H0 : VTree_weight.f opsS k p1 a1 = some r) (m0 m1 : Nat) : VTree_weightS_st p1 a1 ri0 rg0 r m0 m1 :=
 SCon.ren (rn [(0, m0), (1, m1)]) (VTree_weightS_con0 (k := k)   H0) ⟨(blk_ren rfl rfl), (pool_ren rfl), trivial⟩ ⟨(blk_ren rfl rfl), (pool_ren rfl), trivial⟩ (by simp) (by simp)
abbrev VTree_layS_st (p1 : Pool (TNode TSlot TSize)) (a1 : TRef) (a2 : TRef) (a3 : TRef) (ri0 : Int) (rg0 : Int) (r : TRef × Pool (TNode TSlot TSize)) (m0 : Nat) (m1 : Nat) : Prop := SCon Tryz.prog 123 [SV.p m0 0, .a (.agg ((eTRef a1).map .v)), .a (.agg ((eTRef a2).map .v)), .a (.agg ((eTRef a3).map .v))] [(m0, blk m0 [.p m1 0, .i ri0, .i rg0] 131), (m1, pvS m1 p1)] (.a (.agg ((eTRef r.1).map .v))) [(m0, blk m0 [.p m1 0, .i ri0, .i rg0] 131), (m1, pvS m1 r.2)] []
theorem VTree_layS_con0 {k : Nat}  {p1 : Pool (TNode TSlot TSize)} {a1 : TRef} {a2 : TRef} {a3 : TRef} {ri0 rg0 : Int} {r : TRef × Pool (TNode TSlot TSize)}  (H0 : VTree_lay.f opsS k p1 a1 a2 a3 = some r) : VTree_layS_st p1 a1 a2 a3 ri0 rg0 r 0 1 := by
 rw [VTree_lay.f] at H0
 refine spec_of [(0, _), (1, _), (2, _), (3, _)] [(0, _), (1, _)] 53 Tryz.func123 rfl Tryz.ntmps123 rfl rfl rfl rfl (fun β W F => ?_)
 refine G.seq <| G.rg <| K.box Y 100 _ g0 rfl rfl rfl rfl rfl rfl <| K.box Y 101 _ g0 rfl rfl rfl rfl rfl rfl <| K.box Y 102 _ g0 rfl rfl rfl rfl rfl rfl <| K.alloc Y 103 _ g0 t108 rfl rfl rfl rfl rfl <| K.nil <| At.ns ?_
 obtain ⟨x1, hx1, H0⟩ := bnd H0
 refine G.rg <| K.mv rfl rfl <| K.loadS Y _ g0 rfl rfl t108 rfl rfl rfl <| K.cA (cf 79 rfl) [0] (fun β w S2 h => SCon.rdBlk (VTree_getS_con hx1 0 1) rfl h) g0 rfl rfl rfl <| K.alloc Y 104 _ g0 t127 rfl rfl rfl rfl rfl <| K.store Y _ g0 rfl rfl rfl t127 rfl rfl rfl rfl rfl <| K.nil <| At.ns ?_
 obtain ⟨x2, hx2, H0⟩ := bnd H0
 obtain ⟨x3, hx3, H0⟩ := bnd H0
 refine G.rd mixed <| K.mv rfl rfl <| K.loadS Y _ g0 rfl rfl t108 rfl rfl rfl <| K.cA (cf 79 rfl) [0] (fun β w S2 h => SCon.rdBlk (VTree_getS_con hx2 0 1) rfl h) g0 rfl rfl rfl <| K.mv rfl rfl <| K.loadS Y _ g0 rfl rfl t108 rfl rfl rfl <| K.cA (cf 79 rfl) [0] (fun β w S2 h => SCon.rdBlk (VTree_getS_con hx3 0 1) rfl h) g0 rfl rfl rfl <| K.alloc Y 105 _ g0 t127 rfl rfl rfl rfl rfl <| K.alloc Y 106 _ g0 t127 rfl rfl rfl rfl rfl <| K.store Y _ g0 rfl rfl rfl t127 rfl rfl rfl rfl rfl <| K.store Y _ g0 rfl rfl rfl t127 rfl rfl rfl rfl rfl <| K.nil <| And.intro (by kernel_rfl) <| At.ns <| G.rd mixed <| K.loadS Y _ g0 rfl rfl t108 rfl rfl rfl <| K.loadS Y _ g0 rfl rfl t108 rfl rfl rfl <| K.fieldAddr Y g0 rfl t127 rfl rfl <| K.store Y _ g0 rfl rfl rfl t108 rfl rfl rfl rfl rfl <| K.fieldAddr Y g0 rfl t127 rfl rfl <| K.store Y _ g0 rfl rfl rfl t108 rfl rfl rfl rfl rfl <| K.nil <| And.intro (by kernel_rfl) <| At.nr <| K.fieldAddr Y g0 rfl t127 rfl rfl <| K.load1 Y g0 rfl rfl t3 rfl rfl <| K.bin (V := .int .i64 (w64 (x2.1.size + 1))) g0 rfl rfl (fun _ => rfl) rfl <| K.fieldAddr Y g0 rfl t127 rfl rfl <| K.load1 Y g0 rfl rfl t3 rfl rfl <| K.bin (V := .int .i64 (w64 ((w64 (x2.1.size + 1)) + x3.1.size))) g0 rfl rfl (fun _ => rfl) rfl <| K.fieldAddr Y g0 rfl t127 rfl rfl <| K.store Y _ g0 rfl rfl rfl t3 rfl rfl rfl rfl rfl <| K.nil <| At.ns ?_
 obtain ⟨x4, hx4, H0⟩ := bnd H0
 obtain ⟨x5, hx5, H0⟩ := bnd H0
 obtain ⟨x6, hx6, H0⟩ := bnd H0
 refine G.rd mixed <| K.fieldAddr Y g0 rfl t127 rfl rfl <| K.load1 Y g0 rfl rfl t67 rfl rfl <| K.mkIface Y g0 rfl (mkI Tryz.underlying67 rfl) rfl <| K.fieldAddr Y g0 rfl t127 rfl rfl <| K.loadS Y _ g0 rfl rfl t66 rfl rfl rfl <| K.mkIface Y g0 rfl (mkI Tryz.underlying66 rfl) rfl <| K.callR [((.tmp 37), _)] (shelf_Slot_Sum_con (k := k) hx4) (toFn_invoke (cf 213 rfl) (me66_213) rfl) g0 ⟨rfl, trivial⟩ trivial rfl rfl rfl <| K.callR [((.tmp 34), _), ((.tmp 38), _)] (shelf_Size_Plus_con (k := k) hx5) (toFn_invoke (cf 214 rfl) (me67_214) rfl) g0 ⟨rfl, rfl, trivial⟩ trivial rfl rfl rfl <| K.mkIface Y g0 rfl (mkI Tryz.underlying67 rfl) rfl <| K.fieldAddr Y g0 rfl t127 rfl rfl <| K.load1 Y g0 rfl rfl t67 rfl rfl <| K.callR [((.tmp 40), _), ((.tmp 42), _)] (shelf_Size_Plus_con (k := k) hx6) (toFn_invoke (cf 214 rfl) (me67_214) rfl) g0 ⟨rfl, rfl, trivial⟩ trivial rfl rfl rfl <| K.fieldAddr Y g0 rfl t127 rfl rfl <| K.store Y _ g0 rfl rfl rfl t67 rfl rfl rfl rfl rfl <| K.nil <| And.intro (by kernel_rfl) <| At.ns ?_
 obtain ⟨x7, hx7, H0⟩ := bnd H0
 refine G.rd mixed <| K.mv rfl rfl <| K.nilCheck g0 rfl rfl <| K.fieldAddr Y g0 rfl t131 rfl rfl <| K.load1 Y g0 rfl rfl t129 rfl rfl <| K.loadS Y _ g0 rfl rfl t108 rfl rfl rfl <| K.loadS Y _ g0 rfl rfl t127 rfl rfl rfl <| K.call0 [(.func 122, _), ((.tmp 48), _), ((.tmp 49), _), ((.tmp 50), _)] (pvsetS hx7 1) (toFn_func (cf 122 rfl) rfl) g0 ⟨rfl, rfl, rfl, rfl, trivial⟩ ⟨rfl, trivial⟩ rfl rfl rfl rfl rfl rfl <| K.nil <| And.intro (by kernel_rfl) <| At.nr <| K.loadS Y _ g0 rfl rfl t108 rfl rfl rfl <| K.store Y _ g0 rfl rfl rfl t108 rfl rfl rfl rfl rfl <| K.nil <| At.next <| G.ret <| At.done Y [(.cell 8 108, .agg [_, _])] rfl ⟨.st rfl rfl t108 rfl rfl, trivial⟩ (to' := [(0, _), (1, _)]) ⟨rfl, rfl, trivial⟩ ?_ ?_ rfl rfl rfl (.inl rfl)
 · cases H0; rfl
 · cases H0; rfl
theorem VTree_layS_con {k : Nat}  {p1 : Pool (TNode TSlot TSize)} {a1 : TRef} {a2 : TRef} {a3 : TRef} {ri0 rg0 : Int} {r : TRef × Pool (TNode TSlot TSize)}  (H0 : VTree_lay.f opsS k p1 a1 a2 a3 = some r) (m0 m1 : Nat) : VTree_layS_st p1 a1 a2 a3 ri0 rg0 r m0 m1 :=
 SCon.ren (rn [(0, m0), (1, m1)]) (VTree_layS_con0 (k := k)   H0) ⟨(blk_ren rfl rfl), (pool_ren rfl), trivial⟩ ⟨(blk_ren rfl rfl), (pool_ren rfl), trivial⟩ (by simp) (by simp)
abbrev VTree_turnRightS_st (p1 : Pool (TNode TSlot TSize)) (a1 : TRef) (ri0 : Int) (rg0 : Int) (r : TRef × Pool (TNode TSlot TSize)) (m0 : Nat) (m1 : Nat) : Prop := SCon Tryz.prog 156 [SV.p m0 0, .a (.agg ((eTRef a1).map .v))] [(m0, blk m0 [.p m1 0, .i ri0, .i rg0] 131), (m1, pvS m1 p1)] (.a (.agg ((eTRef r.1).map .v))) [(m0, blk m0 [.p m1 0, .i ri0, .i rg0] 131), (m1, pvS m1 r.2)] []
theorem VTree_turnRightS_con0 {k : Nat}  {p1 : Pool (TNode TSlot TSize)} {a1 : TRef} {ri0 rg0 : Int} {r : TRef × Pool (TNode TSlot TSize)}  (H0 : VTree_turnRight.f opsS k p1 a1 = some r) : VTree_turnRightS_st p1 a1 ri0 rg0 r 0 1 := by
 rw [VTree_turnRight.f] at H0
 refine spec_of [(0, _), (1, _)] [(0, _), (1, _)] 28 Tryz.func156 rfl Tryz.ntmps156 rfl rfl rfl rfl (fun β W F => ?_)
 refine G.seq <| G.rg <| K.box Y 100 _ g0 rfl rfl rfl rfl rfl rfl <| K.alloc Y 101 _ g0 t108 rfl rfl rfl rfl rfl <| K.nil <| At.ns ?_
 obtain ⟨x1, hx1, H0⟩ := bnd H0
 refine G.rg <| K.mv rfl rfl <| K.loadS Y _ g0 rfl rfl t108 rfl rfl rfl <| K.cA (cf 79 rfl) [0] (fun β w S2 h => SCon.rdBlk (VTree_getS_con hx1 0 1) rfl h) g0 rfl rfl rfl <| K.alloc Y 102 _ g0 t127 rfl rfl rfl rfl rfl <| K.store Y _ g0 rfl rfl rfl t127 rfl rfl rfl rfl rfl <| K.nil <| At.ns ?_
 obtain ⟨x2, hx2, H0⟩ := bnd H0
 refine G.rg <| K.mv rfl rfl <| K.fieldAddr Y g0 rfl t127 rfl rfl <| K.loadS Y _ g0 rfl rfl t108 rfl rfl rfl <| K.cA (cf 79 rfl) [0] (fun β w S2 h => SCon.rdBlk (VTree_getS_con hx2 0 1) rfl h) g0 rfl rfl rfl <| K.alloc Y 103 _ g0 t127 rfl rfl rfl rfl rfl <| K.store Y _ g0 rfl rfl rfl t127 rfl rfl rfl rfl rfl <| K.nil <| At.ns ?_
 obtain ⟨x3, hx3, H0⟩ := bnd H0
 refine G.rg <| K.mv rfl rfl <| K.loadS Y _ g0 rfl rfl t108 rfl rfl rfl <| K.fieldAddr Y g0 rfl t127 rfl rfl <| K.loadS Y _ g0 rfl rfl t108 rfl rfl rfl <| K.fieldAddr Y g0 rfl t127 rfl rfl <| K.loadS Y _ g0 rfl rfl t108 rfl rfl rfl <| K.cA (cf 123 rfl) [0] (fun β w S2 h => SCon.rdBlk (VTree_layS_con hx3 0 1) rfl h) g0 rfl rfl rfl <| K.nil <| At.ns ?_
 obtain ⟨x4, hx4, H0⟩ := bnd H0
 refine G.rg <| K.mv rfl rfl <| K.fieldAddr Y g0 rfl t127 rfl rfl <| K.loadS Y _ g0 rfl rfl t108 rfl rfl rfl <| K.fieldAddr Y g0 rfl t127 rfl rfl <| K.loadS Y _ g0 rfl rfl t108 rfl rfl rfl <| K.loadS Y _ g0 rfl rfl t108 rfl rfl rfl <| K.cA (cf 123 rfl) [0] (fun β w S2 h => SCon.rdBlk (VTree_layS_con hx4 0 1) rfl h) g0 rfl rfl rfl <| K.store Y _ g0 rfl rfl rfl t108 rfl rfl rfl rfl rfl <| K.nil <| At.next <| G.ret <| At.done Y [(.cell 4 108, .agg [_, _])] rfl ⟨.st rfl rfl t108 rfl rfl, trivial⟩ (to' := [(0, _), (1, _)]) ⟨rfl, rfl, trivial⟩ ?_ ?_ rfl rfl rfl (.inl rfl)
 · cases H0; rfl
 · cases H0; rfl
theorem VTree_turnRightS_con {k : Nat}  {p1 : Pool (TNode TSlot TSize)} {a1 : TRef} {ri0 rg0 : Int} {r : TRef × Pool (TNode TSlot TSize)}  (H0 : VTree_turnRight.f opsS k p1 a1 = some r) (m0 m1 : Nat) : VTree_turnRightS_st p1 a1 ri0 rg0 r m0 m1 :=
 SCon.ren (rn [(0, m0), (1, m1)]) (VTree_turnRightS_con0 (k := k)   H0) ⟨(blk_ren rfl rfl), (pool_ren rfl), trivial⟩ ⟨(blk_ren rfl rfl), (pool_ren rfl), trivial⟩ (by simp) (by simp)
abbrev VTree_turnLeftS_st (p1 : Pool (TNode TSlot TSize)) (a1 : TRef) (ri0 : Int) (rg0 : Int) (r : TRef × Pool (TNode TSlot TSize)) (m0 : Nat) (m1 : Nat) : Prop := SCon Tryz.prog 157 [SV.p m0 0, .a (.agg ((eTRef a1).map .v))] [(m0, blk m0 [.p m1 0, .i ri0, .i rg0] 131), (m1, pvS m1 p1)] (.a (.agg ((eTRef r.1).map .v))) [(m0, blk m0 [.p m1 0, .i ri0, .i rg0] 131), (m1, pvS m1 r.2)] []
theorem VTree_turnLeftS_con0 {k : Nat}  {p1 : Pool (TNode TSlot TSize)} {a1 : TRef} {ri0 rg0 : Int} {r : TRef × Pool (TNode TSlot TSize)}  (H0 : VTree_turnLeft.f opsS k p1 a1 = some r) : VTree_turnLeftS_st p1 a1 ri0 rg0 r 0 1 := by
 rw [VTree_turnLeft.f] at H0
 refine spec_of [(0, _), (1, _)] [(0, _), (1, _)] 28 Tryz.func157 rfl Tryz.ntmps157 rfl rfl rfl rfl (fun β W F => ?_)
 refine G.seq <| G.rg <| K.box Y 100 _ g0 rfl rfl rfl rfl rfl rfl <| K.alloc Y 101 _ g0 t108 rfl rfl rfl rfl rfl <| K.nil <| At.ns ?_
 obtain ⟨x1, hx1, H0⟩ := bnd H0
 refine G.rg <| K.mv rfl rfl <| K.loadS Y _ g0 rfl rfl t108 rfl rfl rfl <| K.cA (cf 79 rfl) [0] (fun β w S2 h => SCon.rdBlk (VTree_getS_con hx1 0 1) rfl h) g0 rfl rfl rfl <| K.alloc Y 102 _ g0 t127 rfl rfl rfl rfl rfl <| K.store Y _ g0 rfl rfl rfl t127 rfl rfl rfl rfl rfl <| K.nil <| At.ns ?_
 obtain ⟨x2, hx2, H0⟩ := bnd H0
 refine G.rg <| K.mv rfl rfl <| K.fieldAddr Y g0 rfl t127 rfl rfl <| K.loadS Y _ g0 rfl rfl t108 rfl rfl rfl <| K.cA (cf 79 rfl) [0] (fun β w S2 h => SCon.rdBlk (VTree_getS_con hx2 0 1) rfl h) g0 rfl rfl rfl <| K.alloc Y 103 _ g0 t127 rfl rfl rfl rfl rfl <| K.store Y _ g0 rfl rfl rfl t127 rfl rfl rfl rfl rfl <| K.nil <| At.ns ?_
 obtain ⟨x3, hx3, H0⟩ := bnd H0
 refine G.rg <| K.mv rfl rfl <| K.loadS Y _ g0 rfl rfl t108 rfl rfl rfl <| K.fieldAddr Y g0 rfl t127 rfl rfl <| K.loadS Y _ g0 rfl rfl t108 rfl rfl rfl <| K.fieldAddr Y g0 rfl t127 rfl rfl <| K.loadS Y _ g0 rfl rfl t108 rfl rfl rfl <| K.cA (cf 123 rfl) [0] (fun β w S2 h => SCon.rdBlk (VTree_layS_con hx3 0 1) rfl h) g0 rfl rfl rfl <| K.nil <| At.ns ?_
 obtain ⟨x4, hx4, H0⟩ := bnd H0
 refine G.rg <| K.mv rfl rfl <| K.fieldAddr Y g0 rfl t127 rfl rfl <| K.loadS Y _ g0 rfl rfl t108 rfl rfl rfl <| K.loadS Y _ g0 rfl rfl t108 rfl rfl rfl <| K.fieldAddr Y g0 rfl t127 rfl rfl <| K.loadS Y _ g0 rfl rfl t108 rfl rfl rfl <| K.cA (cf 123 rfl) [0] (fun β w S2 h => SCon.rdBlk (VTree_layS_con hx4 0 1) rfl h) g0 rfl rfl rfl <| K.store Y _ g0 rfl rfl rfl t108 rfl rfl rfl rfl rfl <| K.nil <| At.next <| G.ret <| At.done Y [(.cell 4 108, .agg [_, _])] rfl ⟨.st rfl rfl t108 rfl rfl, trivial⟩ (to' := [(0, _), (1, _)]) ⟨rfl, rfl, trivial⟩ ?_ ?_ rfl rfl rfl (.inl rfl)
 · cases H0; rfl
 · cases H0; rfl
theorem VTree_turnLeftS_con {k : Nat}  {p1 : Pool (TNode TSlot TSize)} {a1 : TRef} {ri0 rg0 : Int} {r : TRef × Pool (TNode TSlot TSize)}  (H0 : VTree_turnLeft.f opsS k p1 a1 = some r) (m0 m1 : Nat) : VTree_turnLeftS_st p1 a1 ri0 rg0 r m0 m1 :=
 SCon.ren (rn [(0, m0), (1, m1)]) (VTree_turnLeftS_con0 (k := k)   H0) ⟨(blk_ren rfl rfl), (pool_ren rfl), trivial⟩ ⟨(blk_ren rfl rfl), (pool_ren rfl), trivial⟩ (by simp) (by simp)
abbrev VTree_balanceS_st (p1 : Pool (TNode TSlot TSize)) (a1 : TRef) (ri0 : Int) (rg0 : Int) (r : TRef × Pool (TNode TSlot TSize)) (m0 : Nat) (m1 : Nat) : Prop := SCon Tryz.prog 145 [SV.p m0 0, .a (.agg ((eTRef a1).map .v))] [(m0, blk m0 [.p m1 0, .i ri0, .i rg0] 131), (m1, pvS m1 p1)] (.a (.agg ((eTRef r.1).map .v))) [(m0, blk m0 [.p m1 0, .i ri0, .i rg0] 131), (m1, pvS m1 r.2)] []
theorem VTree_balanceS_con0 {k : Nat}  {p1 : Pool (TNode TSlot TSize)} {a1 : TRef} {ri0 rg0 : Int} {r : TRef × Pool (TNode TSlot TSize)}  (H0 : VTree_balance.f opsS k p1 a1 = some r) : VTree_balanceS_st p1 a1 ri0 rg0 r 0 1 := by
 rw [VTree_balance.f] at H0
 refine spec_of [(0, _), (1, _)] [(0, _), (1, _)] 84 Tryz.func145 rfl Tryz.ntmps145 rfl rfl rfl rfl (fun β W F => ?_)
 refine G.seq <| G.rg <| K.box Y 100 _ g0 rfl rfl rfl rfl rfl rfl <| K.alloc Y 101 _ g0 t108 rfl rfl rfl rfl rfl <| K.nil <| At.ns ?_
 obtain ⟨x1, hx1, H0⟩ := bnd H0
 refine G.rg <| K.mv rfl rfl <| K.loadS Y _ g0 rfl rfl t108 rfl rfl rfl <| K.cA (cf 79 rfl) [0] (fun β w S2 h => SCon.rdBlk (VTree_getS_con hx1 0 1) rfl h) g0 rfl rfl rfl <| K.alloc Y 102 _ g0 t127 rfl rfl rfl rfl rfl <| K.store Y _ g0 rfl rfl rfl t127 rfl rfl rfl rfl rfl <| K.nil <| At.ns ?_
 obtain ⟨x2, hx2, H0⟩ := bnd H0
 obtain ⟨x3, hx3, H0⟩ := bnd H0
 refine G.rd mixed <| K.mv rfl rfl <| K.fieldAddr Y g0 rfl t127 rfl rfl <| K.loadS Y _ g0 rfl rfl t108 rfl rfl rfl <| K.cA (cf 144 rfl) [0] (fun β w S2 h => SCon.rdBlk (VTree_weightS_con hx2 0 1) rfl h) g0 rfl rfl rfl <| K.mv rfl rfl <| K.fieldAddr Y g0 rfl t127 rfl rfl <| K.loadS Y _ g0 rfl rfl t108 rfl rfl rfl <| K.cA (cf 144 rfl) [0] (fun β w S2 h => SCon.rdBlk (VTree_weightS_con hx3 0 1) rfl h) g0 rfl rfl rfl <| K.as rfl rfl <| K.as rfl rfl <| K.nil <| And.intro (by kernel_rfl) <| At.ns <| G.block <| G.seq <| G.rg <| K.mv rfl rfl <| K.mv rfl rfl <| K.bin (V := .int .i64 (w64 (3 * x2.1))) g0 rfl rfl (fun _ => rfl) rfl <| K.bin (V := .bool (decide (x3.1 > (w64 (3 * x2.1))))) g0 rfl rfl (fun _ => rfl) rfl <| K.as rfl rfl <| K.nil <| At.next <| G.cond rfl (fun h1 => ?_) (fun h1 => ?_)
 ·
  replace H0 := bif_t H0 h1
  refine G.seq ?_
  obtain ⟨x4, hx4, H0⟩ := bnd H0
  refine G.rg <| K.mv rfl rfl <| K.fieldAddr Y g0 rfl t127 rfl rfl <| K.loadS Y _ g0 rfl rfl t108 rfl rfl rfl <| K.cA (cf 79 rfl) [0] (fun β w S2 h => SCon.rdBlk (VTree_getS_con hx4 0 1) rfl h) g0 rfl rfl rfl <| K.alloc Y 103 _ g0 t127 rfl rfl rfl rfl rfl <| K.store Y _ g0 rfl rfl rfl t127 rfl rfl rfl rfl rfl <| K.nil <| At.ns <| G.seq ?_
  obtain ⟨x5, hx5, H0⟩ := bnd H0
  obtain ⟨x6, hx6, H0⟩ := bnd H0
  refine G.rd mixed <| K.mv rfl rfl <| K.fieldAddr Y g0 rfl t127 rfl rfl <| K.loadS Y _ g0 rfl rfl t108 rfl rfl rfl <| K.cA (cf 144 rfl) [0] (fun β w S2 h => SCon.rdBlk (VTree_weightS_con hx5 0 1) rfl h) g0 rfl rfl rfl <| K.mv rfl rfl <| K.fieldAddr Y g0 rfl t127 rfl rfl <| K.loadS Y _ g0 rfl rfl t108 rfl rfl rfl <| K.cA (cf 144 rfl) [0] (fun β w S2 h => SCon.rdBlk (VTree_weightS_con hx6 0 1) rfl h) g0 rfl rfl rfl <| K.bin (V := .int .i64 (w64 (2 * x6.1))) g0 rfl rfl (fun _ => rfl) rfl <| K.bin (V := .bool (decide (x5.1 ≥ (w64 (2 * x6.1))))) g0 rfl rfl (fun _ => rfl) rfl <| K.nil <| And.intro (by kernel_rfl) <| At.next <| G.cond rfl (fun h2 => ?_) (fun h2 => ?_)
  ·
   replace H0 := bif_t H0 h2
   obtain ⟨x7, hx7, H0⟩ := bnd H0
   obtain ⟨x8, hx8, H0⟩ := bnd H0
   refine G.rd mixed <| K.mv rfl rfl <| K.loadS Y _ g0 rfl rfl t108 rfl rfl rfl <| K.fieldAddr Y g0 rfl t127 rfl rfl <| K.loadS Y _ g0 rfl rfl t108 rfl rfl rfl <| K.mv rfl rfl <| K.fieldAddr Y g0 rfl t127 rfl rfl <| K.loadS Y _ g0 rfl rfl t108 rfl rfl rfl <| K.cA (cf 156 rfl) [0] (fun β w S2 h => SCon.rdBlk (VTree_turnRightS_con hx7 0 1) rfl h) g0 rfl rfl rfl <| K.cA (cf 123 rfl) [0] (fun β w S2 h => SCon.rdBlk (VTree_layS_con hx8 0 1) rfl h) g0 rfl rfl rfl <| K.nil <| And.intro (by kernel_rfl) <| At.ns ?_
   obtain ⟨x9, hx9, H0⟩ := bnd H0
   refine G.rg <| K.mv rfl rfl <| K.loadS Y _ g0 rfl rfl t108 rfl rfl rfl <| K.cA (cf 157 rfl) [0] (fun β w S2 h => SCon.rdBlk (VTree_turnLeftS_con hx9 0 1) rfl h) g0 rfl rfl rfl <| K.store Y _ g0 rfl rfl rfl t108 rfl rfl rfl rfl rfl <| K.nil <| At.next <| G.ret <| At.block_ret <| At.over_ret <| At.done Y [(.cell 4 108, .agg [_, _])] rfl ⟨.st rfl rfl t108 rfl rfl, trivial⟩ (to' := [(0, _), (1, _)]) ⟨rfl, rfl, trivial⟩ ?_ ?_ rfl rfl rfl (.inl rfl)
   · cases H0; rfl
   · cases H0; rfl
  ·
   replace H0 := bif_f H0 h2
   refine G.skip <| At.ns ?_
   obtain ⟨x10, hx10, H0⟩ := bnd H0
   refine G.rg <| K.mv rfl rfl <| K.loadS Y _ g0 rfl rfl t108 rfl rfl rfl <| K.cA (cf 157 rfl) [0] (fun β w S2 h => SCon.rdBlk (VTree_turnLeftS_con hx10 0 1) rfl h) g0 rfl rfl rfl <| K.store Y _ g0 rfl rfl rfl t108 rfl rfl rfl rfl rfl <| K.nil <| At.next <| G.ret <| At.block_ret <| At.over_ret <| At.done Y [(.cell 4 108, .agg [_, _])] rfl ⟨.st rfl rfl t108 rfl rfl, trivial⟩ (to' := [(0, _), (1, _)]) ⟨rfl, rfl, trivial⟩ ?_ ?_ rfl rfl rfl (.inl rfl)
   · cases H0; rfl
   · cases H0; rfl
 ·
  replace H0 := bif_f H0 h1
  refine G.seq <| G.rg <| K.mv rfl rfl <| K.mv rfl rfl <| K.bin (V := .int .i64 (w64 (3 * x3.1))) g0 rfl rfl (fun _ => rfl) rfl <| K.bin (V := .bool (decide (x2.1 > (w64 (3 * x3.1))))) g0 rfl rfl (fun _ => rfl) rfl <| K.as rfl rfl <| K.nil <| At.next <| G.cond rfl (fun h3 => ?_) (fun h3 => ?_)
  ·
   replace H0 := bif_t H0 h3
   refine G.seq ?_
   obtain ⟨x11, hx11, H0⟩ := bnd H0
   refine G.rg <| K.mv rfl rfl <| K.fieldAddr Y g0 rfl t127 rfl rfl <| K.loadS Y _ g0 rfl rfl t108 rfl rfl rfl <| K.cA (cf 79 rfl) [0] (fun β w S2 h => SCon.rdBlk (VTree_getS_con hx11 0 1) rfl h) g0 rfl rfl rfl <| K.alloc Y 104 _ g0 t127 rfl rfl rfl rfl rfl <| K.store Y _ g0 rfl rfl rfl t127 rfl rfl rfl rfl rfl <| K.nil <| At.ns <| G.seq ?_
   obtain ⟨x12, hx12, H0⟩ := bnd H0
   obtain ⟨x13, hx13, H0⟩ := bnd H0
   refine G.rd mixed <| K.mv rfl rfl <| K.fieldAddr Y g0 rfl t127 rfl rfl <| K.loadS Y _ g0 rfl rfl t108 rfl rfl rfl <| K.cA (cf 144 rfl) [0] (fun β w S2 h => SCon.rdBlk (VTree_weightS_con hx12 0 1) rfl h) g0 rfl rfl rfl <| K.mv rfl rfl <| K.fieldAddr Y g0 rfl t127 rfl rfl <| K.loadS Y _ g0 rfl rfl t108 rfl rfl rfl <| K.cA (cf 144 rfl) [0] (fun β w S2 h => SCon.rdBlk (VTree_weightS_con hx13 0 1) rfl h) g0 rfl rfl rfl <| K.bin (V := .int .i64 (w64 (2 * x13.1))) g0 rfl rfl (fun _ => rfl) rfl <| K.bin (V := .bool (decide (x12.1 ≥ (w64 (2 * x13.1))))) g0 rfl rfl (fun _ => rfl) rfl <| K.nil <| And.intro (by kernel_rfl) <| At.next <| G.cond rfl (fun h4 => ?_) (fun h4 => ?_)
   ·
    replace H0 := bif_t H0 h4
    obtain ⟨x14, hx14, H0⟩ := bnd H0
    obtain ⟨x15, hx15, H0⟩ := bnd H0
    refine G.rd mixed <| K.mv rfl rfl <| K.loadS Y _ g0 rfl rfl t108 rfl rfl rfl <| K.mv rfl rfl <| K.fieldAddr Y g0 rfl t127 rfl rfl <| K.loadS Y _ g0 rfl rfl t108 rfl rfl rfl <| K.cA (cf 157 rfl) [0] (fun β w S2 h => SCon.rdBlk (VTree_turnLeftS_con hx14 0 1) rfl h) g0 rfl rfl rfl <| K.fieldAddr Y g0 rfl t127 rfl rfl <| K.loadS Y _ g0 rfl rfl t108 rfl rfl rfl <| K.cA (cf 123 rfl) [0] (fun β w S2 h => SCon.rdBlk (VTree_layS_con hx15 0 1) rfl h) g0 rfl rfl rfl <| K.nil <| And.intro (by kernel_rfl) <| At.ns ?_
    obtain ⟨x16, hx16, H0⟩ := bnd H0
    refine G.rg <| K.mv rfl rfl <| K.loadS Y _ g0 rfl rfl t108 rfl rfl rfl <| K.cA (cf 156 rfl) [0] (fun β w S2 h => SCon.rdBlk (VTree_turnRightS_con hx16 0 1) rfl h) g0 rfl rfl rfl <| K.store Y _ g0 rfl rfl rfl t108 rfl rfl rfl rfl rfl <| K.nil <| At.next <| G.ret <| At.block_ret <| At.over_ret <| At.done Y [(.cell 4 108, .agg [_, _])] rfl ⟨.st rfl rfl t108 rfl rfl, trivial⟩ (to' := [(0, _), (1, _)]) ⟨rfl, rfl, trivial⟩ ?_ ?_ rfl rfl rfl (.inl rfl)
    · cases H0; rfl
    · cases H0; rfl
   ·
    replace H0 := bif_f H0 h4
    refine G.skip <| At.ns ?_
    obtain ⟨x17, hx17, H0⟩ := bnd H0
    refine G.rg <| K.mv rfl rfl <| K.loadS Y _ g0 rfl rfl t108 rfl rfl rfl <| K.cA (cf 156 rfl) [0] (fun β w S2 h => SCon.rdBlk (VTree_turnRightS_con hx17 0 1) rfl h) g0 rfl rfl rfl <| K.store Y _ g0 rfl rfl rfl t108 rfl rfl rfl rfl rfl <| K.nil <| At.next <| G.ret <| At.block_ret <| At.over_ret <| At.done Y [(.cell 4 108, .agg [_, _])] rfl ⟨.st rfl rfl t108 rfl rfl, trivial⟩ (to' := [(0, _), (1, _)]) ⟨rfl, rfl, trivial⟩ ?_ ?_ rfl rfl rfl (.inl rfl)
    · cases H0; rfl
    · cases H0; rfl
  ·
   replace H0 := bif_f H0 h3
   refine G.skip <| At.block_normal <| At.nr <| K.loadS Y _ g0 rfl rfl t108 rfl rfl rfl <| K.store Y _ g0 rfl rfl rfl t108 rfl rfl rfl rfl rfl <| K.nil <| At.next <| G.ret <| At.done Y [(.cell 4 108, .agg [_, _])] rfl ⟨.st rfl rfl t108 rfl rfl, trivial⟩ (to' := [(0, _), (1, _)]) ⟨rfl, rfl, trivial⟩ ?_ ?_ rfl rfl rfl (.inl rfl)
   · cases H0; rfl
   · cases H0; rfl
theorem VTree_balanceS_con {k : Nat}  {p1 : Pool (TNode TSlot TSize)} {a1 : TRef} {ri0 rg0 : Int} {r : TRef × Pool (TNode TSlot TSize)}  (H0 : VTree_balance.f opsS k p1 a1 = some r) (m0 m1 : Nat) : VTree_balanceS_st p1 a1 ri0 rg0 r m0 m1 :=
 SCon.ren (rn [(0, m0), (1, m1)]) (VTree_balanceS_con0 (k := k)   H0) ⟨(blk_ren rfl rfl), (pool_ren rfl), trivial⟩ ⟨(blk_ren rfl rfl), (pool_ren rfl), trivial⟩ (by simp) (by simp)
abbrev VTree_linkS_st (p1 : Pool (TNode TSlot TSize)) (a1 : TRef) (a2 : TRef) (a3 : TRef) (ri0 : Int) (rg0 : Int) (r : TRef × Pool (TNode TSlot TSize)) (m0 : Nat) (m1 : Nat) : Prop := SCon Tryz.prog 121 [SV.p m0 0, .a (.agg ((eTRef a1).map .v)), .a (.agg ((eTRef a2).map .v)), .a (.agg ((eTRef a3).map .v))] [(m0, blk m0 [.p m1 0, .i ri0, .i rg0] 131), (m1, pvS m1 p1)] (.a (.agg ((eTRef r.1).map .v))) [(m0, blk m0 [.p m1 0, .i ri0, .i rg0] 131), (m1, pvS m1 r.2)] []
theorem VTree_linkS_con0 {k : Nat}  : ∀ {n : Nat} {p1 : Pool (TNode TSlot TSize)} {a1 : TRef} {a2 : TRef} {a3 : TRef} {ri0 rg0 : Int} {r : TRef × Pool (TNode TSlot TSize)}  (H0 : VTree_link.r opsS k n p1 a1 a2 a3 = some r), VTree_linkS_st p1 a1 a2 a3 ri0 rg0 r 0 1 := by
 intro n
 induction n with
 | zero => intro p1 a1 a2 a3 ri0 rg0 r H0; exact absurd H0 (by simp [VTree_link.r])
 | succ n ih =>
  intro p1 a1 a2 a3 ri0 rg0 r H0
  rw [VTree_link.r] at H0
  refine spec_of [(0, _), (1, _), (2, _), (3, _)] [(0, _), (1, _)] 66 Tryz.func121 rfl Tryz.ntmps121 rfl rfl rfl rfl (fun β W F => ?_)
  refine G.seq <| G.rg <| K.box Y 100 _ g0 rfl rfl rfl rfl rfl rfl <| K.box Y 101 _ g0 rfl rfl rfl rfl rfl rfl <| K.box Y 102 _ g0 rfl rfl rfl rfl rfl rfl <| K.alloc Y 103 _ g0 t108 rfl rfl rfl rfl rfl <| K.nil <| At.ns ?_
  obtain ⟨x1, hx1, H0⟩ := bnd H0
  obtain ⟨x2, hx2, H0⟩ := bnd H0
  refine G.rd mixed <| K.mv rfl rfl <| K.loadS Y _ g0 rfl rfl t108 rfl rfl rfl <| K.cA (cf 144 rfl) [0] (fun β w S2 h => SCon.rdBlk (VTree_weightS_con hx1 0 1) rfl h) g0 rfl rfl rfl <| K.mv rfl rfl <| K.loadS Y _ g0 rfl rfl t108 rfl rfl rfl <| K.cA (cf 144 rfl) [0] (fun β w S2 h => SCon.rdBlk (VTree_weightS_con hx2 0 1) rfl h) g0 rfl rfl rfl <| K.as rfl rfl <| K.as rfl rfl <| K.nil <| And.intro (by kernel_rfl) <| At.ns <| G.block <| G.seq <| G.rg <| K.mv rfl rfl <| K.mv rfl rfl <| K.bin (V := .int .i64 (w64 (3 * x1.1))) g0 rfl rfl (fun _ => rfl) rfl <| K.bin (V := .bool (decide (x2.1 > (w64 (3 * x1.1))))) g0 rfl rfl (fun _ => rfl) rfl <| K.as rfl rfl <| K.nil <| At.next <| G.cond rfl (fun h1 => ?_) (fun h1 => ?_)
  ·
   replace H0 := bif_t H0 h1
   refine G.seq ?_
   obtain ⟨x3, hx3, H0⟩ := bnd H0
   refine G.rg <| K.mv rfl rfl <| K.loadS Y _ g0 rfl rfl t108 rfl rfl rfl <| K.cA (cf 79 rfl) [0] (fun β w S2 h => SCon.rdBlk (VTree_getS_con hx3 0 1) rfl h) g0 rfl rfl rfl <| K.alloc Y 104 _ g0 t127 rfl rfl rfl rfl rfl <| K.store Y _ g0 rfl rfl rfl t127 rfl rfl rfl rfl rfl <| K.nil <| At.ns ?_
   obtain ⟨x4, hx4, H0⟩ := bnd H0
   obtain ⟨x5, hx5, H0⟩ := bnd H0
   obtain ⟨x6, hx6, H0⟩ := bnd H0
   refine G.rd mixed <| K.mv rfl rfl <| K.mv rfl rfl <| K.loadS Y _ g0 rfl rfl t108 rfl rfl rfl <| K.mv rfl rfl <| K.loadS Y _ g0 rfl rfl t108 rfl rfl rfl <| K.loadS Y _ g0 rfl rfl t108 rfl rfl rfl <| K.fieldAddr Y g0 rfl t127 rfl rfl <| K.loadS Y _ g0 rfl rfl t108 rfl rfl rfl <| K.cA (cf 121 rfl) [0] (fun β w S2 h => SCon.rdBlk (ih hx4) rfl h) g0 rfl rfl rfl <| K.fieldAddr Y g0 rfl t127 rfl rfl <| K.loadS Y _ g0 rfl rfl t108 rfl rfl rfl <| K.cA (cf 123 rfl) [0] (fun β w S2 h => SCon.rdBlk (VTree_layS_con hx5 0 1) rfl h) g0 rfl rfl rfl <| K.cA (cf 145 rfl) [0] (fun β w S2 h => SCon.rdBlk (VTree_balanceS_con hx6 0 1) rfl h) g0 rfl rfl rfl <| K.store Y _ g0 rfl rfl rfl t108 rfl rfl rfl rfl rfl <| K.nil <| And.intro (by kernel_rfl) <| At.next <| G.ret <| At.block_ret <| At.over_ret <| At.done Y [(.cell 8 108, .agg [_, _])] rfl ⟨.st rfl rfl t108 rfl rfl, trivial⟩ (to' := [(0, _), (1, _)]) ⟨rfl, rfl, trivial⟩ ?_ ?_ rfl rfl rfl (.inl rfl)
   · cases H0; rfl
   · cases H0; rfl
  ·
   replace H0 := bif_f H0 h1
   refine G.seq <| G.rg <| K.mv rfl rfl <| K.mv rfl rfl <| K.bin (V := .int .i64 (w64 (3 * x2.1))) g0 rfl rfl (fun _ => rfl) rfl <| K.bin (V := .bool (decide (x1.1 > (w64 (3 * x2.1))))) g0 rfl rfl (fun _ => rfl) rfl <| K.as rfl rfl <| K.nil <| At.next <| G.cond rfl (fun h2 => ?_) (fun h2 => ?_)
   ·
    replace H0 := bif_t H0 h2
    refine G.seq ?_
    obtain ⟨x7, hx7, H0⟩ := bnd H0
    refine G.rg <| K.mv rfl rfl <| K.loadS Y _ g0 rfl rfl t108 rfl rfl rfl <| K.cA (cf 79 rfl) [0] (fun β w S2 h => SCon.rdBlk (VTree_getS_con hx7 0 1) rfl h) g0 rfl rfl rfl <| K.alloc Y 105 _ g0 t127 rfl rfl rfl rfl rfl <| K.store Y _ g0 rfl rfl rfl t127 rfl rfl rfl rfl rfl <| K.nil <| At.ns ?_
    obtain ⟨x8, hx8, H0⟩ := bnd H0
    obtain ⟨x9, hx9, H0⟩ := bnd H0
    obtain ⟨x10, hx10, H0⟩ := bnd H0
    refine G.rd mixed <| K.mv rfl rfl <| K.mv rfl rfl <| K.loadS Y _ g0 rfl rfl t108 rfl rfl rfl <| K.fieldAddr Y g0 rfl t127 rfl rfl <| K.loadS Y _ g0 rfl rfl t108 rfl rfl rfl <| K.mv rfl rfl <| K.fieldAddr Y g0 rfl t127 rfl rfl <| K.loadS Y _ g0 rfl rfl t108 rfl rfl rfl <| K.loadS Y _ g0 rfl rfl t108 rfl rfl rfl <| K.loadS Y _ g0 rfl rfl t108 rfl rfl rfl <| K.cA (cf 121 rfl) [0] (fun β w S2 h => SCon.rdBlk (ih hx8) rfl h) g0 rfl rfl rfl <| K.cA (cf 123 rfl) [0] (fun β w S2 h => SCon.rdBlk (VTree_layS_con hx9 0 1) rfl h) g0 rfl rfl rfl <| K.cA (cf 145 rfl) [0] (fun β w S2 h => SCon.rdBlk (VTree_balanceS_con hx10 0 1) rfl h) g0 rfl rfl rfl <| K.store Y _ g0 rfl rfl rfl t108 rfl rfl rfl rfl rfl <| K.nil <| And.intro (by kernel_rfl) <| At.next <| G.ret <| At.block_ret <| At.over_ret <| At.done Y [(.cell 8 108, .agg [_, _])] rfl ⟨.st rfl rfl t108 rfl rfl, trivial⟩ (to' := [(0, _), (1, _)]) ⟨rfl, rfl, trivial⟩ ?_ ?_ rfl rfl rfl (.inl rfl)
    · cases H0; rfl
    · cases H0; rfl
   ·
    replace H0 := bif_f H0 h2
    refine G.skip <| At.block_normal <| At.ns ?_
    obtain ⟨x11, hx11, H0⟩ := bnd H0
    refine G.rg <| K.mv rfl rfl <| K.loadS Y _ g0 rfl rfl t108 rfl rfl rfl <| K.loadS Y _ g0 rfl rfl t108 rfl rfl rfl <| K.loadS Y _ g0 rfl rfl t108 rfl rfl rfl <| K.cA (cf 123 rfl) [0] (fun β w S2 h => SCon.rdBlk (VTree_layS_con hx11 0 1) rfl h) g0 rfl rfl rfl <| K.store Y _ g0 rfl rfl rfl t108 rfl rfl rfl rfl rfl <| K.nil <| At.next <| G.ret <| At.done Y [(.cell 8 108, .agg [_, _])] rfl ⟨.st rfl rfl t108 rfl rfl, trivial⟩ (to' := [(0, _), (1, _)]) ⟨rfl, rfl, trivial⟩ ?_ ?_ rfl rfl rfl (.inl rfl)
    · cases H0; rfl
    · cases H0; rfl
theorem VTree_linkS_con {k n : Nat}  {p1 : Pool (TNode TSlot TSize)} {a1 : TRef} {a2 : TRef} {a3 : TRef} {ri0 rg0 : Int} {r : TRef × Pool (TNode TSlot TSize)}  (H0 : VTree_link.r opsS k n p1 a1 a2 a3 = some r) (m0 m1 : Nat) : VTree_linkS_st p1 a1 a2 a3 ri0 rg0 r m0 m1 :=
 SCon.ren (rn [(0, m0), (1, m1)]) (VTree_linkS_con0 (k := k)   H0) ⟨(blk_ren rfl rfl), (pool_ren rfl), trivial⟩ ⟨(blk_ren rfl rfl), (pool_ren rfl), trivial⟩ (by simp) (by simp)
abbrev VTree_putS_st (p1 : Pool (TNode TSlot TSize)) (a1 : TRef) (a2 : TSlot) (ri0 : Int) (rg0 : Int) (r : TRef × Bool × Pool (TNode TSlot TSize)) (m0 : Nat) (m1 : Nat) : Prop := SCon Tryz.prog 100 [SV.p m0 0, .a (.agg ((eTRef a1).map .v)), .a (.agg ((eTSlot a2).map .v))] [(m0, blk m0 [.p m1 0, .i ri0, .i rg0] 131), (m1, pvS m1 p1)] (.tup [.agg ((eTRef r.1).map .v), .c (.v (.bool r.2.1))]) [(m0, blk m0 [.p m1 0, .i ri0, .i rg0] 131), (m1, pvS m1 r.2.2)] []
set_option maxHeartbeats 4000000 in
theorem VTree_putS_con0 {k : Nat}  : ∀ {n : Nat} {p1 : Pool (TNode TSlot TSize)} {a1 : TRef} {a2 : TSlot} {ri0 rg0 : Int} {r : TRef × Bool × Pool (TNode TSlot TSize)}  (H0 : VTree_put.r opsS k n p1 a1 a2 = some r), VTree_putS_st p1 a1 a2 ri0 rg0 r 0 1 := by
 intro n
 induction n with
 | zero => intro p1 a1 a2 ri0 rg0 r H0; exact absurd H0 (by simp [VTree_put.r])
 | succ n ih =>
  intro p1 a1 a2 ri0 rg0 r H0
  rw [VTree_put.r] at H0
  refine spec_of [(0, _), (1, _), (2, _)] [(0, _), (1, _)] 98 Tryz.func100 rfl Tryz.ntmps100 rfl rfl rfl rfl (fun β W F => ?_)
  refine G.seq <| G.rg <| K.box Y 100 _ g0 rfl rfl rfl rfl rfl rfl <| K.box Y 101 _ g0 rfl rfl rfl rfl rfl rfl <| K.alloc Y 102 _ g0 t108 rfl rfl rfl rfl rfl <| K.as rfl rfl <| K.nil <| At.ns <| G.seq <| G.rg <| K.fieldAddr Y g0 rfl t108 rfl rfl <| K.load1 Y g0 rfl rfl t3 rfl rfl <| K.bin (V := .bool (a1.gen == 0)) g0 rfl rfl (fun _ => rfl) rfl <| K.nil <| At.next <| G.cond rfl (fun h1 => ?_) (fun h1 => ?_)
  ·
   replace H0 := bif_t H0 h1
   refine G.seq ?_
   obtain ⟨x1, hx1, H0⟩ := bnd H0
   obtain ⟨x2, hx2, H0⟩ := bnd H0
   refine G.rd mixed <| K.mv rfl rfl <| K.nilCheck g0 rfl rfl <| K.fieldAddr Y g0 rfl t131 rfl rfl <| K.load1 Y g0 rfl rfl t129 rfl rfl <| K.loadS Y _ g0 rfl rfl t66 rfl rfl rfl <| K.loadS Y _ g0 rfl rfl t66 rfl rfl rfl <| K.mkIface Y g0 rfl (mkI Tryz.underlying66 rfl) rfl <| K.callR [((.tmp 26), _)] (shelf_Slot_Sum_con (k := k) hx1) (toFn_invoke (cf 213 rfl) (me66_213) rfl) g0 ⟨rfl, trivial⟩ trivial rfl rfl rfl <| K.build Y [(0, _), (3, _), (4, _)] [_, _, _, _, _, _, _, _, _, _] [((.tmp 24), _), (_, _), ((.tmp 27), _)] g0 (AllE.spec ⟨rfl, rfl, rfl, trivial⟩) rfl rfl t127 rfl rfl <| K.call0 [(.func 120, _), ((.tmp 23), _), ((.tmp 28), _)] (pvputS hx2 1) (toFn_func (cf 120 rfl) rfl) g0 ⟨rfl, rfl, rfl, trivial⟩ ⟨rfl, trivial⟩ rfl rfl rfl rfl rfl rfl <| K.mv rfl rfl <| K.extract g0 rfl rfl rfl <| K.extract g0 rfl rfl rfl <| K.alloc Y 103 _ g0 t108 rfl rfl rfl rfl rfl <| K.store Y _ g0 rfl rfl rfl t108 rfl rfl rfl rfl rfl <| K.as rfl rfl <| K.nil <| And.intro (by kernel_rfl) <| At.nr <| K.loadS Y _ g0 rfl rfl t108 rfl rfl rfl <| K.mv rfl rfl <| K.store Y _ g0 rfl rfl rfl t108 rfl rfl rfl rfl rfl <| K.as rfl rfl <| K.nil <| At.next <| G.ret <| At.over_ret <| At.done Y [(.cell 6 108, .agg [_, _]), (.tmp 7, .c _)] rfl ⟨.st rfl rfl t108 rfl rfl, .tmp rfl, trivial⟩ (to' := [(0, _), (1, _)]) ⟨rfl, rfl, trivial⟩ ?_ ?_ rfl rfl rfl (.inl rfl)
   · cases H0; rfl
   · cases H0; rfl
  ·
   replace H0 := bif_f H0 h1
   refine G.skip <| At.ns ?_
   obtain ⟨x3, hx3, H0⟩ := bnd H0
   refine G.rg <| K.mv rfl rfl <| K.loadS Y _ g0 rfl rfl t108 rfl rfl rfl <| K.cA (cf 79 rfl) [0] (fun β w S2 h => SCon.rdBlk (VTree_getS_con hx3 0 1) rfl h) g0 rfl rfl rfl <| K.alloc Y 104 _ g0 t127 rfl rfl rfl rfl rfl <| K.store Y _ g0 rfl rfl rfl t127 rfl rfl rfl rfl rfl <| K.nil <| At.ns ?_
   obtain ⟨x4, hx4, H0⟩ := bnd H0
   refine G.rg <| K.loadS Y _ g0 rfl rfl t66 rfl rfl rfl <| K.mkIface Y g0 rfl (mkI Tryz.underlying66 rfl) rfl <| K.fieldAddr Y g0 rfl t127 rfl rfl <| K.loadS Y _ g0 rfl rfl t66 rfl rfl rfl <| K.callR [((.tmp 38), _), ((.tmp 40), _)] (shelf_Slot_Compare_con (k := k) hx4) (toFn_invoke (cf 212 rfl) (me66_212) rfl) g0 ⟨rfl, rfl, trivial⟩ trivial rfl rfl rfl <| K.as rfl rfl <| K.nil <| At.ns <| G.block <| G.seq <| G.rg <| K.mv rfl rfl <| K.bin (V := .bool (decide (x4 < 0))) g0 rfl rfl (fun _ => rfl) rfl <| K.as rfl rfl <| K.nil <| At.next <| G.cond rfl (fun h2 => ?_) (fun h2 => ?_)
   ·
    replace H0 := bif_t H0 h2
    refine G.seq ?_
    obtain ⟨x5, hx5, H0⟩ := bnd H0
    refine G.rg <| K.mv rfl rfl <| K.fieldAddr Y g0 rfl t127 rfl rfl <| K.loadS Y _ g0 rfl rfl t108 rfl rfl rfl <| K.loadS Y _ g0 rfl rfl t66 rfl rfl rfl <| K.cA (cf 100 rfl) [0] (fun β w S2 h => SCon.rdBlk (ih hx5) rfl h) g0 rfl rfl rfl <| K.mv rfl rfl <| K.extract g0 rfl rfl rfl <| K.extract g0 rfl rfl rfl <| K.alloc Y 105 _ g0 t108 rfl rfl rfl rfl rfl <| K.store Y _ g0 rfl rfl rfl t108 rfl rfl rfl rfl rfl <| K.as rfl rfl <| K.nil <| At.ns <| G.seq <| G.rg <| K.mv rfl rfl <| K.un (V := .bool (!x5.2.1)) g0 rfl (fun _ => rfl) rfl <| K.nil <| At.next <| G.cond rfl (fun h3 => ?_) (fun h3 => ?_)
    ·
     replace H0 := bif_t H0 h3
     refine G.seq <| G.rg <| K.loadS Y _ g0 rfl rfl t108 rfl rfl rfl <| K.store Y _ g0 rfl rfl rfl t108 rfl rfl rfl rfl rfl <| K.as rfl rfl <| K.nil <| At.next <| G.ret <| At.over_ret <| At.block_ret <| At.over_ret <| At.done Y [(.cell 6 108, .agg [_, _]), (.tmp 7, .c _)] rfl ⟨.st rfl rfl t108 rfl rfl, .tmp rfl, trivial⟩ (to' := [(0, _), (1, _)]) ⟨rfl, rfl, trivial⟩ ?_ ?_ rfl rfl rfl (.inl rfl)
     · cases H0; rfl
     · cases H0; rfl
    ·
     replace H0 := bif_f H0 h3
     refine G.skip <| At.ns ?_
     obtain ⟨x6, hx6, H0⟩ := bnd H0
     refine G.rg <| K.mv rfl rfl <| K.loadS Y _ g0 rfl rfl t108 rfl rfl rfl <| K.loadS Y _ g0 rfl rfl t108 rfl rfl rfl <| K.fieldAddr Y g0 rfl t127 rfl rfl <| K.loadS Y _ g0 rfl rfl t108 rfl rfl rfl <| K.cA (cf 121 rfl) [0] (fun β w S2 h => SCon.rdBlk (VTree_linkS_con hx6 0 1) rfl h) g0 rfl rfl rfl <| K.store Y _ g0 rfl rfl rfl t108 rfl rfl rfl rfl rfl <| K.as rfl rfl <| K.nil <| At.next <| G.ret <| At.block_ret <| At.over_ret <| At.done Y [(.cell 6 108, .agg [_, _]), (.tmp 7, .c _)] rfl ⟨.st rfl rfl t108 rfl rfl, .tmp rfl, trivial⟩ (to' := [(0, _), (1, _)]) ⟨rfl, rfl, trivial⟩ ?_ ?_ rfl rfl rfl (.inl rfl)
     · cases H0; rfl
     · cases H0; rfl
   ·
    replace H0 := bif_f H0 h2
    refine G.seq <| G.rg <| K.mv rfl rfl <| K.bin (V := .bool (decide (x4 > 0))) g0 rfl rfl (fun _ => rfl) rfl <| K.as rfl rfl <| K.nil <| At.next <| G.cond rfl (fun h4 => ?_) (fun h4 => ?_)
    ·
     replace H0 := bif_t H0 h4
     refine G.seq ?_
     obtain ⟨x7, hx7, H0⟩ := bnd H0
     refine G.rg <| K.mv rfl rfl <| K.fieldAddr Y g0 rfl t127 rfl rfl <| K.loadS Y _ g0 rfl rfl t108 rfl rfl rfl <| K.loadS Y _ g0 rfl rfl t66 rfl rfl rfl <| K.cA (cf 100 rfl) [0] (fun β w S2 h => SCon.rdBlk (ih hx7) rfl h) g0 rfl rfl rfl <| K.mv rfl rfl <| K.extract g0 rfl rfl rfl <| K.extract g0 rfl rfl rfl <| K.alloc Y 106 _ g0 t108 rfl rfl rfl rfl rfl <| K.store Y _ g0 rfl rfl rfl t108 rfl rfl rfl rfl rfl <| K.as rfl rfl <| K.nil <| At.ns <| G.seq <| G.rg <| K.mv rfl rfl <| K.un (V := .bool (!x7.2.1)) g0 rfl (fun _ => rfl) rfl <| K.nil <| At.next <| G.cond rfl (fun h5 => ?_) (fun h5 => ?_)
     ·
      replace H0 := bif_t H0 h5
      refine G.seq <| G.rg <| K.loadS Y _ g0 rfl rfl t108 rfl rfl rfl <| K.store Y _ g0 rfl rfl rfl t108 rfl rfl rfl rfl rfl <| K.as rfl rfl <| K.nil <| At.next <| G.ret <| At.over_ret <| At.block_ret <| At.over_ret <| At.done Y [(.cell 6 108, .agg [_, _]), (.tmp 7, .c _)] rfl ⟨.st rfl rfl t108 rfl rfl, .tmp rfl, trivial⟩ (to' := [(0, _), (1, _)]) ⟨rfl, rfl, trivial⟩ ?_ ?_ rfl rfl rfl (.inl rfl)
      · cases H0; rfl
      · cases H0; rfl
     ·
      replace H0 := bif_f H0 h5
      refine G.skip <| At.ns ?_
      obtain ⟨x8, hx8, H0⟩ := bnd H0
      refine G.rg <| K.mv rfl rfl <| K.fieldAddr Y g0 rfl t127 rfl rfl <| K.loadS Y _ g0 rfl rfl t108 rfl rfl rfl <| K.loadS Y _ g0 rfl rfl t108 rfl rfl rfl <| K.loadS Y _ g0 rfl rfl t108 rfl rfl rfl <| K.cA (cf 121 rfl) [0] (fun β w S2 h => SCon.rdBlk (VTree_linkS_con hx8 0 1) rfl h) g0 rfl rfl rfl <| K.store Y _ g0 rfl rfl rfl t108 rfl rfl rfl rfl rfl <| K.as rfl rfl <| K.nil <| At.next <| G.ret <| At.block_ret <| At.over_ret <| At.done Y [(.cell 6 108, .agg [_, _]), (.tmp 7, .c _)] rfl ⟨.st rfl rfl t108 rfl rfl, .tmp rfl, trivial⟩ (to' := [(0, _), (1, _)]) ⟨rfl, rfl, trivial⟩ ?_ ?_ rfl rfl rfl (.inl rfl)
      · cases H0; rfl
      · cases H0; rfl
    ·
     replace H0 := bif_f H0 h4
     refine G.skip <| At.block_normal <| At.nr <| K.loadS Y _ g0 rfl rfl t66 rfl rfl rfl <| K.fieldAddr Y g0 rfl t127 rfl rfl <| K.store Y _ g0 rfl rfl rfl t66 rfl rfl rfl rfl rfl <| K.nil <| At.ns ?_
     obtain ⟨x9, hx9, H0⟩ := bnd H0
     refine G.rd mixed <| K.mv rfl rfl <| K.nilCheck g0 rfl rfl <| K.fieldAddr Y g0 rfl t131 rfl rfl <| K.load1 Y g0 rfl rfl t129 rfl rfl <| K.loadS Y _ g0 rfl rfl t108 rfl rfl rfl <| K.loadS Y _ g0 rfl rfl t127 rfl rfl rfl <| K.call0 [(.func 122, _), ((.tmp 87), _), ((.tmp 88), _), ((.tmp 89), _)] (pvsetS hx9 1) (toFn_func (cf 122 rfl) rfl) g0 ⟨rfl, rfl, rfl, rfl, trivial⟩ ⟨rfl, trivial⟩ rfl rfl rfl rfl rfl rfl <| K.nil <| And.intro (by kernel_rfl) <| At.ns ?_
     obtain ⟨x10, hx10, H0⟩ := bnd H0
     refine G.rg <| K.mv rfl rfl <| K.loadS Y _ g0 rfl rfl t108 rfl rfl rfl <| K.fieldAddr Y g0 rfl t127 rfl rfl <| K.loadS Y _ g0 rfl rfl t108 rfl rfl rfl <| K.fieldAddr Y g0 rfl t127 rfl rfl <| K.loadS Y _ g0 rfl rfl t108 rfl rfl rfl <| K.cA (cf 123 rfl) [0] (fun β w S2 h => SCon.rdBlk (VTree_layS_con hx10 0 1) rfl h) g0 rfl rfl rfl <| K.store Y _ g0 rfl rfl rfl t108 rfl rfl rfl rfl rfl <| K.as rfl rfl <| K.nil <| At.next <| G.ret <| At.done Y [(.cell 6 108, .agg [_, _]), (.tmp 7, .c _)] rfl ⟨.st rfl rfl t108 rfl rfl, .tmp rfl, trivial⟩ (to' := [(0, _), (1, _)]) ⟨rfl, rfl, trivial⟩ ?_ ?_ rfl rfl rfl (.inl rfl)
     · cases H0; rfl
     · cases H0; rfl
theorem VTree_putS_con {k n : Nat}  {p1 : Pool (TNode TSlot TSize)} {a1 : TRef} {a2 : TSlot} {ri0 rg0 : Int} {r : TRef × Bool × Pool (TNode TSlot TSize)}  (H0 : VTree_put.r opsS k n p1 a1 a2 = some r) (m0 m1 : Nat) : VTree_putS_st p1 a1 a2 ri0 rg0 r m0 m1 :=
 SCon.ren (rn [(0, m0), (1, m1)]) (VTree_putS_con0 (k := k)   H0) ⟨(blk_ren rfl rfl), (pool_ren rfl), trivial⟩ ⟨(blk_ren rfl rfl), (pool_ren rfl), trivial⟩ (by simp) (by simp)
abbrev VTree_PutS_st (p1 : Pool (TNode TSlot TSize)) (rt0 : TRef) (a1 : TSlot) (r : Bool × TRef × Pool (TNode TSlot TSize)) (m0 : Nat) (m1 : Nat) : Prop := SCon Tryz.prog 69 [SV.p m0 0, .a (.agg ((eTSlot a1).map .v))] [(m0, blk m0 [.p m1 0, .i rt0.index, .i rt0.gen] 131), (m1, pvS m1 p1)] (.a (.c (.v (.bool r.1)))) [(m0, blk m0 [.p m1 0, .i r.2.1.index, .i r.2.1.gen] 131), (m1, pvS m1 r.2.2)] []
theorem VTree_PutS_con0 {k : Nat}  {p1 : Pool (TNode TSlot TSize)} {rt0 : TRef} {a1 : TSlot} {r : Bool × TRef × Pool (TNode TSlot TSize)}  (H0 : VTree_Put.f opsS k p1 rt0 a1 = some r) : VTree_PutS_st p1 rt0 a1 r 0 1 := by
 rw [VTree_Put.f] at H0
 refine spec_of [(0, _), (1, _)] [(0, _), (1, _)] 23 Tryz.func69 rfl Tryz.ntmps69 rfl rfl rfl rfl (fun β W F => ?_)
 refine G.seq <| G.rg <| K.box Y 100 _ g0 rfl rfl rfl rfl rfl rfl <| K.as rfl rfl <| K.nil <| At.ns ?_
 obtain ⟨x1, hx1, H0⟩ := bnd H0
 refine G.rd mixed <| K.mv rfl rfl <| K.mv rfl rfl <| K.nilCheck g0 rfl rfl <| K.fieldAddr Y g0 rfl t131 rfl rfl <| K.loadS Y _ g0 rfl rfl t108 rfl rfl rfl <| K.loadS Y _ g0 rfl rfl t66 rfl rfl rfl <| K.cA (cf 100 rfl) [0] (fun β w S2 h => SCon.rdBlk (VTree_putS_con hx1 0 1) rfl h) g0 rfl rfl rfl <| K.mv rfl rfl <| K.extract g0 rfl rfl rfl <| K.extract g0 rfl rfl rfl <| K.alloc Y 101 _ g0 t108 rfl rfl rfl rfl rfl <| K.store Y _ g0 rfl rfl rfl t108 rfl rfl rfl rfl rfl <| K.as rfl rfl <| K.nil <| And.intro (by kernel_rfl) <| At.ns <| G.seq <| G.rg <| K.mv rfl rfl <| K.nil <| At.next <| G.cond rfl (fun h1 => ?_) (fun h1 => ?_)
 ·
  replace H0 := bif_t H0 h1
  exact G.rg <| K.mv rfl rfl <| K.loadS Y _ g0 rfl rfl t108 rfl rfl rfl <| K.nilCheck g0 rfl rfl <| K.fieldAddr Y g0 rfl t131 rfl rfl <| K.store Y _ g0 rfl rfl rfl t108 rfl rfl rfl rfl rfl <| K.nil <| At.nr <| K.mv rfl rfl <| K.as rfl rfl <| K.nil <| At.next <| G.ret <| At.dr Y [4] rfl rfl (by cases H0; rfl) (by cases H0; rfl) rfl rfl rfl
 ·
  replace H0 := bif_f H0 h1
  exact G.skip <| At.nr <| K.mv rfl rfl <| K.as rfl rfl <| K.nil <| At.next <| G.ret <| At.dr Y [4] rfl rfl (by cases H0; rfl) (by cases H0; rfl) rfl rfl rfl
theorem VTree_PutS_con {k : Nat}  {p1 : Pool (TNode TSlot TSize)} {rt0 : TRef} {a1 : TSlot} {r : Bool × TRef × Pool (TNode TSlot TSize)}  (H0 : VTree_Put.f opsS k p1 rt0 a1 = some r) (m0 m1 : Nat) : VTree_PutS_st p1 rt0 a1 r m0 m1 :=
 SCon.ren (rn [(0, m0), (1, m1)]) (VTree_PutS_con0 (k := k)   H0) ⟨(blk_ren rfl rfl), (pool_ren rfl), trivial⟩ ⟨(blk_ren rfl rfl), (pool_ren rfl), trivial⟩ (by simp) (by simp)
abbrev VTree_layM_st (p1 : Pool (TNode TMark TSwell)) (a1 : TRef) (a2 : TRef) (a3 : TRef) (ri0 : Int) (rg0 : Int) (r : TRef × Pool (TNode TMark TSwell)) (m0 : Nat) (m1 : Nat) : Prop := SCon Tryz.prog 127 [SV.p m0 0, .a (.agg ((eTRef a1).map .v)), .a (.agg ((eTRef a2).map .v)), .a (.agg ((eTRef a3).map .v))] [(m0, blk m0 [.p m1 0, .i ri0, .i rg0] 110), (m1, pvM m1 p1)] (.a (.agg ((eTRef r.1).map .v))) [(m0, blk m0 [.p m1 0, .i ri0, .i rg0] 110), (m1, pvM m1 r.2)] []
theorem VTree_layM_con0 {k : Nat}  {p1 : Pool (TNode TMark TSwell)} {a1 : TRef} {a2 : TRef} {a3 : TRef} {ri0 rg0 : Int} {r : TRef × Pool (TNode TMark TSwell)}  (H0 : VTree_lay.f opsM k p1 a1 a2 a3 = some r) : VTree_layM_st p1 a1 a2 a3 ri0 rg0 r 0 1 := by
 rw [VTree_lay.f] at H0
 refine spec_of [(0, _), (1, _), (2, _), (3, _)] [(0, _), (1, _)] 53 Tryz.func127 rfl Tryz.ntmps127 rfl rfl rfl rfl (fun β W F => ?_)
 refine G.seq <| G.rg <| K.box Y 100 _ g0 rfl rfl rfl rfl rfl rfl <| K.box Y 101 _ g0 rfl rfl rfl rfl rfl rfl <| K.box Y 102 _ g0 rfl rfl rfl rfl rfl rfl <| K.alloc Y 103 _ g0 t108 rfl rfl rfl rfl rfl <| K.nil <| At.ns ?_
 obtain ⟨x1, hx1, H0⟩ := bnd H0
 refine G.rg <| K.mv rfl rfl <| K.loadS Y _ g0 rfl rfl t108 rfl rfl rfl <| K.cA (cf 80 rfl) [0] (fun β w S2 h => SCon.rdBlk (VTree_getM_con hx1 0 1) rfl h) g0 rfl rfl rfl <| K.alloc Y 104 _ g0 t133 rfl rfl rfl rfl rfl <| K.store Y _ g0 rfl rfl rfl t133 rfl rfl rfl rfl rfl <| K.nil <| At.ns ?_
 obtain ⟨x2, hx2, H0⟩ := bnd H0
 obtain ⟨x3, hx3, H0⟩ := bnd H0
 refine G.rd mixed <| K.mv rfl rfl <| K.loadS Y _ g0 rfl rfl t108 rfl rfl rfl <| K.cA (cf 80 rfl) [0] (fun β w S2 h => SCon.rdBlk (VTree_getM_con hx2 0 1) rfl h) g0 rfl rfl rfl <| K.mv rfl rfl <| K.loadS Y _ g0 rfl rfl t108 rfl rfl rfl <| K.cA (cf 80 rfl) [0] (fun β w S2 h => SCon.rdBlk (VTree_getM_con hx3 0 1) rfl h) g0 rfl rfl rfl <| K.alloc Y 105 _ g0 t133 rfl rfl rfl rfl rfl <| K.alloc Y 106 _ g0 t133 rfl rfl rfl rfl rfl <| K.store Y _ g0 rfl rfl rfl t133 rfl rfl rfl rfl rfl <| K.store Y _ g0 rfl rfl rfl t133 rfl rfl rfl rfl rfl <| K.nil <| And.intro (by kernel_rfl) <| At.ns <| G.rd mixed <| K.loadS Y _ g0 rfl rfl t108 rfl rfl rfl <| K.loadS Y _ g0 rfl rfl t108 rfl rfl rfl <| K.fieldAddr Y g0 rfl t133 rfl rfl <| K.store Y _ g0 rfl rfl rfl t108 rfl rfl rfl rfl rfl <| K.fieldAddr Y g0 rfl t133 rfl rfl <| K.store Y _ g0 rfl rfl rfl t108 rfl rfl rfl rfl rfl <| K.nil <| And.intro (by kernel_rfl) <| At.nr <| K.fieldAddr Y g0 rfl t133 rfl rfl <| K.load1 Y g0 rfl rfl t3 rfl rfl <| K.bin (V := .int .i64 (w64 (x2.1.size + 1))) g0 rfl rfl (fun _ => rfl) rfl <| K.fieldAddr Y g0 rfl t133 rfl rfl <| K.load1 Y g0 rfl rfl t3 rfl rfl <| K.bin (V := .int .i64 (w64 ((w64 (x2.1.size + 1)) + x3.1.size))) g0 rfl rfl (fun _ => rfl) rfl <| K.fieldAddr Y g0 rfl t133 rfl rfl <| K.store Y _ g0 rfl rfl rfl t3 rfl rfl rfl rfl rfl <| K.nil <| At.ns ?_
 obtain ⟨x4, hx4, H0⟩ := bnd H0
 obtain ⟨x5, hx5, H0⟩ := bnd H0
 obtain ⟨x6, hx6, H0⟩ := bnd H0
 refine G.rd mixed <| K.fieldAddr Y g0 rfl t133 rfl rfl <| K.loadS Y _ g0 rfl rfl t50 rfl rfl rfl <| K.mkIface Y g0 rfl (mkI Tryz.underlying50 rfl) rfl <| K.fieldAddr Y g0 rfl t133 rfl rfl <| K.loadS Y _ g0 rfl rfl t46 rfl rfl rfl <| K.mkIface Y g0 rfl (mkI Tryz.underlying46 rfl) rfl <| K.callR [((.tmp 37), _)] (wave_Mark_Sum_con (k := k) hx4) (toFn_invoke (cf 197 rfl) (me46_197) rfl) g0 ⟨rfl, trivial⟩ trivial rfl rfl rfl <| K.callR [((.tmp 34), _), ((.tmp 38), _)] (wave_Swell_Plus_con (k := k) hx5) (toFn_invoke (cf 201 rfl) (me50_201) rfl) g0 ⟨rfl, rfl, trivial⟩ trivial rfl rfl rfl <| K.mkIface Y g0 rfl (mkI Tryz.underlying50 rfl) rfl <| K.fieldAddr Y g0 rfl t133 rfl rfl <| K.loadS Y _ g0 rfl rfl t50 rfl rfl rfl <| K.callR [((.tmp 40), _), ((.tmp 42), _)] (wave_Swell_Plus_con (k := k) hx6) (toFn_invoke (cf 201 rfl) (me50_201) rfl) g0 ⟨rfl, rfl, trivial⟩ trivial rfl rfl rfl <| K.fieldAddr Y g0 rfl t133 rfl rfl <| K.store Y _ g0 rfl rfl rfl t50 rfl rfl rfl rfl rfl <| K.nil <| And.intro (by kernel_rfl) <| At.ns ?_
 obtain ⟨x7, hx7, H0⟩ := bnd H0
 refine G.rd mixed <| K.mv rfl rfl <| K.nilCheck g0 rfl rfl <| K.fieldAddr Y g0 rfl t110 rfl rfl <| K.load1 Y g0 rfl rfl t106 rfl rfl <| K.loadS Y _ g0 rfl rfl t108 rfl rfl rfl <| K.loadS Y _ g0 rfl rfl t133 rfl rfl rfl <| K.call0 [(.func 126, _), ((.tmp 48), _), ((.tmp 49), _), ((.tmp 50), _)] (pvsetM hx7 1) (toFn_func (cf 126 rfl) rfl) g0 ⟨rfl, rfl, rfl, rfl, trivial⟩ ⟨rfl, trivial⟩ rfl rfl rfl rfl rfl rfl <| K.nil <| And.intro (by kernel_rfl) <| At.nr <| K.loadS Y _ g0 rfl rfl t108 rfl rfl rfl <| K.store Y _ g0 rfl rfl rfl t108 rfl rfl rfl rfl rfl <| K.nil <| At.next <| G.ret <| At.done Y [(.cell 8 108, .agg [_, _])] rfl ⟨.st rfl rfl t108 rfl rfl, trivial⟩ (to' := [(0, _), (1, _)]) ⟨rfl, rfl, trivial⟩ ?_ ?_ rfl rfl rfl (.inl rfl)
 · cases H0; rfl
 · cases H0; rfl
theorem VTree_layM_con {k : Nat}  {p1 : Pool (TNode TMark TSwell)} {a1 : TRef} {a2 : TRef} {a3 : TRef} {ri0 rg0 : Int} {r : TRef × Pool (TNode TMark TSwell)}  (H0 : VTree_lay.f opsM k p1 a1 a2 a3 = some r) (m0 m1 : Nat) : VTree_layM_st p1 a1 a2 a3 ri0 rg0 r m0 m1 :=
 SCon.ren (rn [(0, m0), (1, m1)]) (VTree_layM_con0 (k := k)   H0) ⟨(blk_ren rfl rfl), (pool_ren rfl), trivial⟩ ⟨(blk_ren rfl rfl), (pool_ren rfl), trivial⟩ (by simp) (by simp)
abbrev VTree_turnRightM_st (p1 : Pool (TNode TMark TSwell)) (a1 : TRef) (ri0 : Int) (rg0 : Int) (r : TRef × Pool (TNode TMark TSwell)) (m0 : Nat) (m1 : Nat) : Prop := SCon Tryz.prog 158 [SV.p m0 0, .a (.agg ((eTRef a1).map .v))] [(m0, blk m0 [.p m1 0, .i ri0, .i rg0] 110), (m1, pvM m1 p1)] (.a (.agg ((eTRef r.1).map .v))) [(m0, blk m0 [.p m1 0, .i ri0, .i rg0] 110), (m1, pvM m1 r.2)] []
theorem VTree_turnRightM_con0 {k : Nat}  {p1 : Pool (TNode TMark TSwell)} {a1 : TRef} {ri0 rg0 : Int} {r : TRef × Pool (TNode TMark TSwell)}  (H0 : VTree_turnRight.f opsM k p1 a1 = some r) : VTree_turnRightM_st p1 a1 ri0 rg0 r 0 1 := by
 rw [VTree_turnRight.f] at H0
 refine spec_of [(0, _), (1, _)] [(0, _), (1, _)] 28 Tryz.func158 rfl Tryz.ntmps158 rfl rfl rfl rfl (fun β W F => ?_)
 refine G.seq <| G.rg <| K.box Y 100 _ g0 rfl rfl rfl rfl rfl rfl <| K.alloc Y 101 _ g0 t108 rfl rfl rfl rfl rfl <| K.nil <| At.ns ?_
 obtain ⟨x1, hx1, H0⟩ := bnd H0
 refine G.rg <| K.mv rfl rfl <| K.loadS Y _ g0 rfl rfl t108 rfl rfl rfl <| K.cA (cf 80 rfl) [0] (fun β w S2 h => SCon.rdBlk (VTree_getM_con hx1 0 1) rfl h) g0 rfl rfl rfl <| K.alloc Y 102 _ g0 t133 rfl rfl rfl rfl rfl <| K.store Y _ g0 rfl rfl rfl t133 rfl rfl rfl rfl rfl <| K.nil <| At.ns ?_
 obtain ⟨x2, hx2, H0⟩ := bnd H0
 refine G.rg <| K.mv rfl rfl <| K.fieldAddr Y g0 rfl t133 rfl rfl <| K.loadS Y _ g0 rfl rfl t108 rfl rfl rfl <| K.cA (cf 80 rfl) [0] (fun β w S2 h => SCon.rdBlk (VTree_getM_con hx2 0 1) rfl h) g0 rfl rfl rfl <| K.alloc Y 103 _ g0 t133 rfl rfl rfl rfl rfl <| K.store Y _ g0 rfl rfl rfl t133 rfl rfl rfl rfl rfl <| K.nil <| At.ns ?_
 obtain ⟨x3, hx3, H0⟩ := bnd H0
 refine G.rg <| K.mv rfl rfl <| K.loadS Y _ g0 rfl rfl t108 rfl rfl rfl <| K.fieldAddr Y g0 rfl t133 rfl rfl <| K.loadS Y _ g0 rfl rfl t108 rfl rfl rfl <| K.fieldAddr Y g0 rfl t133 rfl rfl <| K.loadS Y _ g0 rfl rfl t108 rfl rfl rfl <| K.cA (cf 127 rfl) [0] (fun β w S2 h => SCon.rdBlk (VTree_layM_con hx3 0 1) rfl h) g0 rfl rfl rfl <| K.nil <| At.ns ?_
 obtain ⟨x4, hx4, H0⟩ := bnd H0
 refine G.rg <| K.mv rfl rfl <| K.fieldAddr Y g0 rfl t133 rfl rfl <| K.loadS Y _ g0 rfl rfl t108 rfl rfl rfl <| K.fieldAddr Y g0 rfl t133 rfl rfl <| K.loadS Y _ g0 rfl rfl t108 rfl rfl rfl <| K.loadS Y _ g0 rfl rfl t108 rfl rfl rfl <| K.cA (cf 127 rfl) [0] (fun β w S2 h => SCon.rdBlk (VTree_layM_con hx4 0 1) rfl h) g0 rfl rfl rfl <| K.store Y _ g0 rfl rfl rfl t108 rfl rfl rfl rfl rfl <| K.nil <| At.next <| G.ret <| At.done Y [(.cell 4 108, .agg [_, _])] rfl ⟨.st rfl rfl t108 rfl rfl, trivial⟩ (to' := [(0, _), (1, _)]) ⟨rfl, rfl, trivial⟩ ?_ ?_ rfl rfl rfl (.inl rfl)
 · cases H0; rfl
 · cases H0; rfl
theorem VTree_turnRightM_con {k : Nat}  {p1 : Pool (TNode TMark TSwell)} {a1 : TRef} {ri0 rg0 : Int} {r : TRef × Pool (TNode TMark TSwell)}  (H0 : VTree_turnRight.f opsM k p1 a1 = some r) (m0 m1 : Nat) : VTree_turnRightM_st p1 a1 ri0 rg0 r m0 m1 :=
 SCon.ren (rn [(0, m0), (1, m1)]) (VTree_turnRightM_con0 (k := k)   H0) ⟨(blk_ren rfl rfl), (pool_ren rfl), trivial⟩ ⟨(blk_ren rfl rfl), (pool_ren rfl), trivial⟩ (by simp) (by simp)
abbrev VTree_turnLeftM_st (p1 : Pool (TNode TMark TSwell)) (a1 : TRef) (ri0 : Int) (rg0 : Int) (r : TRef × Pool (TNode TMark TSwell)) (m0 : Nat) (m1 : Nat) : Prop := SCon Tryz.prog 159 [SV.p m0 0, .a (.agg ((eTRef a1).map .v))] [(m0, blk m0 [.p m1 0, .i ri0, .i rg0] 110), (m1, pvM m1 p1)] (.a (.agg ((eTRef r.1).map .v))) [(m0, blk m0 [.p m1 0, .i ri0, .i rg0] 110), (m1, pvM m1 r.2)] []
theorem VTree_turnLeftM_con0 {k : Nat}  {p1 : Pool (TNode TMark TSwell)} {a1 : TRef} {ri0 rg0 : Int} {r : TRef × Pool (TNode TMark TSwell)}  (H0 : VTree_turnLeft.f opsM k p1 a1 = some r) : VTree_turnLeftM_st p1 a1 ri0 rg0 r 0 1 := by
 rw [VTree_turnLeft.f] at H0
 refine spec_of [(0, _), (1, _)] [(0, _), (1, _)] 28 Tryz.func159 rfl Tryz.ntmps159 rfl rfl rfl rfl (fun β W F => ?_)
 refine G.seq <| G.rg <| K.box Y 100 _ g0 rfl rfl rfl rfl rfl rfl <| K.alloc Y 101 _ g0 t108 rfl rfl rfl rfl rfl <| K.nil <| At.ns ?_
 obtain ⟨x1, hx1, H0⟩ := bnd H0
 refine G.rg <| K.mv rfl rfl <| K.loadS Y _ g0 rfl rfl t108 rfl rfl rfl <| K.cA (cf 80 rfl) [0] (fun β w S2 h => SCon.rdBlk (VTree_getM_con hx1 0 1) rfl h) g0 rfl rfl rfl <| K.alloc Y 102 _ g0 t133 rfl rfl rfl rfl rfl <| K.store Y _ g0 rfl rfl rfl t133 rfl rfl rfl rfl rfl <| K.nil <| At.ns ?_
 obtain ⟨x2, hx2, H0⟩ := bnd H0
 refine G.rg <| K.mv rfl rfl <| K.fieldAddr Y g0 rfl t133 rfl rfl <| K.loadS Y _ g0 rfl rfl t108 rfl rfl rfl <| K.cA (cf 80 rfl) [0] (fun β w S2 h => SCon.rdBlk (VTree_getM_con hx2 0 1) rfl h) g0 rfl rfl rfl <| K.alloc Y 103 _ g0 t133 rfl rfl rfl rfl rfl <| K.store Y _ g0 rfl rfl rfl t133 rfl rfl rfl rfl rfl <| K.nil <| At.ns ?_
 obtain ⟨x3, hx3, H0⟩ := bnd H0
 refine G.rg <| K.mv rfl rfl <| K.loadS Y _ g0 rfl rfl t108 rfl rfl rfl <| K.fieldAddr Y g0 rfl t133 rfl rfl <| K.loadS Y _ g0 rfl rfl t108 rfl rfl rfl <| K.fieldAddr Y g0 rfl t133 rfl rfl <| K.loadS Y _ g0 rfl rfl t108 rfl rfl rfl <| K.cA (cf 127 rfl) [0] (fun β w S2 h => SCon.rdBlk (VTree_layM_con hx3 0 1) rfl h) g0 rfl rfl rfl <| K.nil <| At.ns ?_
 obtain ⟨x4, hx4, H0⟩ := bnd H0
 refine G.rg <| K.mv rfl rfl <| K.fieldAddr Y g0 rfl t133 rfl rfl <| K.loadS Y _ g0 rfl rfl t108 rfl rfl rfl <| K.loadS Y _ g0 rfl rfl t108 rfl rfl rfl <| K.fieldAddr Y g0 rfl t133 rfl rfl <| K.loadS Y _ g0 rfl rfl t108 rfl rfl rfl <| K.cA (cf 127 rfl) [0] (fun β w S2 h => SCon.rdBlk (VTree_layM_con hx4 0 1) rfl h) g0 rfl rfl rfl <| K.store Y _ g0 rfl rfl rfl t108 rfl rfl rfl rfl rfl <| K.nil <| At.next <| G.ret <| At.done Y [(.cell 4 108, .agg [_, _])] rfl ⟨.st rfl rfl t108 rfl rfl, trivial⟩ (to' := [(0, _), (1, _)]) ⟨rfl, rfl, trivial⟩ ?_ ?_ rfl rfl rfl (.inl rfl)
 · cases H0; rfl
 · cases H0; rfl
theorem VTree_turnLeftM_con {k : Nat}  {p1 : Pool (TNode TMark TSwell)} {a1 : TRef} {ri0 rg0 : Int} {r : TRef × Pool (TNode TMark TSwell)}  (H0 : VTree_turnLeft.f opsM k p1 a1 = some r) (m0 m1 : Nat) : VTree_turnLeftM_st p1 a1 ri0 rg0 r m0 m1 :=
 SCon.ren (rn [(0, m0), (1, m1)]) (VTree_turnLeftM_con0 (k := k)   H0) ⟨(blk_ren rfl rfl), (pool_ren rfl), trivial⟩ ⟨(blk_ren rfl rfl), (pool_ren rfl), trivial⟩ (by simp) (by simp)
abbrev VTree_balanceM_st (p1 : Pool (TNode TMark TSwell)) (a1 : TRef) (ri0 : Int) (rg0 : Int) (r : TRef × Pool (TNode TMark TSwell)) (m0 : Nat) (m1 : Nat) : Prop := SCon Tryz.prog 147 [SV.p m0 0, .a (.agg ((eTRef a1).map .v))] [(m0, blk m0 [.p m1 0, .i ri0, .i rg0] 110), (m1, pvM m1 p1)] (.a (.agg ((eTRef r.1).map .v))) [(m0, blk m0 [.p m1 0, .i ri0, .i rg0] 110), (m1, pvM m1 r.2)] []
theorem VTree_balanceM_con0 {k : Nat}  {p1 : Pool (TNode TMark TSwell)} {a1 : TRef} {ri0 rg0 : Int} {r : TRef × Pool (TNode TMark TSwell)}  (H0 : VTree_balance.f opsM k p1 a1 = some r) : VTree_balanceM_st p1 a1 ri0 rg0 r 0 1 := by
 rw [VTree_balance.f] at H0
 refine spec_of [(0, _), (1, _)] [(0, _), (1, _)] 84 Tryz.func147 rfl Tryz.ntmps147 rfl rfl rfl rfl (fun β W F => ?_)
 refine G.seq <| G.rg <| K.box Y 100 _ g0 rfl rfl rfl rfl rfl rfl <| K.alloc Y 101 _ g0 t108 rfl rfl rfl rfl rfl <| K.nil <| At.ns ?_
 obtain ⟨x1, hx1, H0⟩ := bnd H0
 refine G.rg <| K.mv rfl rfl <| K.loadS Y _ g0 rfl rfl t108 rfl rfl rfl <| K.cA (cf 80 rfl) [0] (fun β w S2 h => SCon.rdBlk (VTree_getM_con hx1 0 1) rfl h) g0 rfl rfl rfl <| K.alloc Y 102 _ g0 t133 rfl rfl rfl rfl rfl <| K.store Y _ g0 rfl rfl rfl t133 rfl rfl rfl rfl rfl <| K.nil <| At.ns ?_
 obtain ⟨x2, hx2, H0⟩ := bnd H0
 obtain ⟨x3, hx3, H0⟩ := bnd H0
 refine G.rd mixed <| K.mv rfl rfl <| K.fieldAddr Y g0 rfl t133 rfl rfl <| K.loadS Y _ g0 rfl rfl t108 rfl rfl rfl <| K.cA (cf 96 rfl) [0] (fun β w S2 h => SCon.rdBlk (VTree_weightM_con hx2 0 1) rfl h) g0 rfl rfl rfl <| K.mv rfl rfl <| K.fieldAddr Y g0 rfl t133 rfl rfl <| K.loadS Y _ g0 rfl rfl t108 rfl rfl rfl <| K.cA (cf 96 rfl) [0] (fun β w S2 h => SCon.rdBlk (VTree_weightM_con hx3 0 1) rfl h) g0 rfl rfl rfl <| K.as rfl rfl <| K.as rfl rfl <| K.nil <| And.intro (by kernel_rfl) <| At.ns <| G.block <| G.seq <| G.rg <| K.mv rfl rfl <| K.mv rfl rfl <| K.bin (V := .int .i64 (w64 (3 * x2.1))) g0 rfl rfl (fun _ => rfl) rfl <| K.bin (V := .bool (decide (x3.1 > (w64 (3 * x2.1))))) g0 rfl rfl (fun _ => rfl) rfl <| K.as rfl rfl <| K.nil <| At.next <| G.cond rfl (fun h1 => ?_) (fun h1 => ?_)
 ·
  replace H0 := bif_t H0 h1
  refine G.seq ?_
  obtain ⟨x4, hx4, H0⟩ := bnd H0
  refine G.rg <| K.mv rfl rfl <| K.fieldAddr Y g0 rfl t133 rfl rfl <| K.loadS Y _ g0 rfl rfl t108 rfl rfl rfl <| K.cA (cf 80 rfl) [0] (fun β w S2 h => SCon.rdBlk (VTree_getM_con hx4 0 1) rfl h) g0 rfl rfl rfl <| K.alloc Y 103 _ g0 t133 rfl rfl rfl rfl rfl <| K.store Y _ g0 rfl rfl rfl t133 rfl rfl rfl rfl rfl <| K.nil <| At.ns <| G.seq ?_
  obtain ⟨x5, hx5, H0⟩ := bnd H0
  obtain ⟨x6, hx6, H0⟩ := bnd H0
  refine G.rd mixed <| K.mv rfl rfl <| K.fieldAddr Y g0 rfl t133 rfl rfl <| K.loadS Y _ g0 rfl rfl t108 rfl rfl rfl <| K.cA (cf 96 rfl) [0] (fun β w S2 h => SCon.rdBlk (VTree_weightM_con hx5 0 1) rfl h) g0 rfl rfl rfl <| K.mv rfl rfl <| K.fieldAddr Y g0 rfl t133 rfl rfl <| K.loadS Y _ g0 rfl rfl t108 rfl rfl rfl <| K.cA (cf 96 rfl) [0] (fun β w S2 h => SCon.rdBlk (VTree_weightM_con hx6 0 1) rfl h) g0 rfl rfl rfl <| K.bin (V := .int .i64 (w64 (2 * x6.1))) g0 rfl rfl (fun _ => rfl) rfl <| K.bin (V := .bool (decide (x5.1 ≥ (w64 (2 * x6.1))))) g0 rfl rfl (fun _ => rfl) rfl <| K.nil <| And.intro (by kernel_rfl) <| At.next <| G.cond rfl (fun h2 => ?_) (fun h2 => ?_)
  ·
   replace H0 := bif_t H0 h2
   obtain ⟨x7, hx7, H0⟩ := bnd H0
   obtain ⟨x8, hx8, H0⟩ := bnd H0
   refine G.rd mixed <| K.mv rfl rfl <| K.loadS Y _ g0 rfl rfl t108 rfl rfl rfl <| K.fieldAddr Y g0 rfl t133 rfl rfl <| K.loadS Y _ g0 rfl rfl t108 rfl rfl rfl <| K.mv rfl rfl <| K.fieldAddr Y g0 rfl t133 rfl rfl <| K.loadS Y _ g0 rfl rfl t108 rfl rfl rfl <| K.cA (cf 158 rfl) [0] (fun β w S2 h => SCon.rdBlk (VTree_turnRightM_con hx7 0 1) rfl h) g0 rfl rfl rfl <| K.cA (cf 127 rfl) [0] (fun β w S2 h => SCon.rdBlk (VTree_layM_con hx8 0 1) rfl h) g0 rfl rfl rfl <| K.nil <| And.intro (by kernel_rfl) <| At.ns ?_
   obtain ⟨x9, hx9, H0⟩ := bnd H0
   refine G.rg <| K.mv rfl rfl <| K.loadS Y _ g0 rfl rfl t108 rfl rfl rfl <| K.cA (cf 159 rfl) [0] (fun β w S2 h => SCon.rdBlk (VTree_turnLeftM_con hx9 0 1) rfl h) g0 rfl rfl rfl <| K.store Y _ g0 rfl rfl rfl t108 rfl rfl rfl rfl rfl <| K.nil <| At.next <| G.ret <| At.block_ret <| At.over_ret <| At.done Y [(.cell 4 108, .agg [_, _])] rfl ⟨.st rfl rfl t108 rfl rfl, trivial⟩ (to' := [(0, _), (1, _)]) ⟨rfl, rfl, trivial⟩ ?_ ?_ rfl rfl rfl (.inl rfl)
   · cases H0; rfl
   · cases H0; rfl
  ·
   replace H0 := bif_f H0 h2
   refine G.skip <| At.ns ?_
   obtain ⟨x10, hx10, H0⟩ := bnd H0
   refine G.rg <| K.mv rfl rfl <| K.loadS Y _ g0 rfl rfl t108 rfl rfl rfl <| K.cA (cf 159 rfl) [0] (fun β w S2 h => SCon.rdBlk (VTree_turnLeftM_con hx10 0 1) rfl h) g0 rfl rfl rfl <| K.store Y _ g0 rfl rfl rfl t108 rfl rfl rfl rfl rfl <| K.nil <| At.next <| G.ret <| At.block_ret <| At.over_ret <| At.done Y [(.cell 4 108, .agg [_, _])] rfl ⟨.st rfl rfl t108 rfl rfl, trivial⟩ (to' := [(0, _), (1, _)]) ⟨rfl, rfl, trivial⟩ ?_ ?_ rfl rfl rfl (.inl rfl)
   · cases H0; rfl
   · cases H0; rfl
 ·
  replace H0 := bif_f H0 h1
  refine G.seq <| G.rg <| K.mv rfl rfl <| K.mv rfl rfl <| K.bin (V := .int .i64 (w64 (3 * x3.1))) g0 rfl rfl (fun _ => rfl) rfl <| K.bin (V := .bool (decide (x2.1 > (w64 (3 * x3.1))))) g0 rfl rfl (fun _ => rfl) rfl <| K.as rfl rfl <| K.nil <| At.next <| G.cond rfl (fun h3 => ?_) (fun h3 => ?_)
  ·
   replace H0 := bif_t H0 h3
   refine G.seq ?_
   obtain ⟨x11, hx11, H0⟩ := bnd H0
   refine G.rg <| K.mv rfl rfl <| K.fieldAddr Y g0 rfl t133 rfl rfl <| K.loadS Y _ g0 rfl rfl t108 rfl rfl rfl <| K.cA (cf 80 rfl) [0] (fun β w S2 h => SCon.rdBlk (VTree_getM_con hx11 0 1) rfl h) g0 rfl rfl rfl <| K.alloc Y 104 _ g0 t133 rfl rfl rfl rfl rfl <| K.store Y _ g0 rfl rfl rfl t133 rfl rfl rfl rfl rfl <| K.nil <| At.ns <| G.seq ?_
   obtain ⟨x12, hx12, H0⟩ := bnd H0
   obtain ⟨x13, hx13, H0⟩ := bnd H0
   refine G.rd mixed <| K.mv rfl rfl <| K.fieldAddr Y g0 rfl t133 rfl rfl <| K.loadS Y _ g0 rfl rfl t108 rfl rfl rfl <| K.cA (cf 96 rfl) [0] (fun β w S2 h => SCon.rdBlk (VTree_weightM_con hx12 0 1) rfl h) g0 rfl rfl rfl <| K.mv rfl rfl <| K.fieldAddr Y g0 rfl t133 rfl rfl <| K.loadS Y _ g0 rfl rfl t108 rfl rfl rfl <| K.cA (cf 96 rfl) [0] (fun β w S2 h => SCon.rdBlk (VTree_weightM_con hx13 0 1) rfl h) g0 rfl rfl rfl <| K.bin (V := .int .i64 (w64 (2 * x13.1))) g0 rfl rfl (fun _ => rfl) rfl <| K.bin (V := .bool (decide (x12.1 ≥ (w64 (2 * x13.1))))) g0 rfl rfl (fun _ => rfl) rfl <| K.nil <| And.intro (by kernel_rfl) <| At.next <| G.cond rfl (fun h4 => ?_) (fun h4 => ?_)
   ·
    replace H0 := bif_t H0 h4
    obtain ⟨x14, hx14, H0⟩ := bnd H0
    obtain ⟨x15, hx15, H0⟩ := bnd H0
    refine G.rd mixed <| K.mv rfl rfl <| K.loadS Y _ g0 rfl rfl t108 rfl rfl rfl <| K.mv rfl rfl <| K.fieldAddr Y g0 rfl t133 rfl rfl <| K.loadS Y _ g0 rfl rfl t108 rfl rfl rfl <| K.cA (cf 159 rfl) [0] (fun β w S2 h => SCon.rdBlk (VTree_turnLeftM_con hx14 0 1) rfl h) g0 rfl rfl rfl <| K.fieldAddr Y g0 rfl t133 rfl rfl <| K.loadS Y _ g0 rfl rfl t108 rfl rfl rfl <| K.cA (cf 127 rfl) [0] (fun β w S2 h => SCon.rdBlk (VTree_layM_con hx15 0 1) rfl h) g0 rfl rfl rfl <| K.nil <| And.intro (by kernel_rfl) <| At.ns ?_
    obtain ⟨x16, hx16, H0⟩ := bnd H0
    refine G.rg <| K.mv rfl rfl <| K.loadS Y _ g0 rfl rfl t108 rfl rfl rfl <| K.cA (cf 158 rfl) [0] (fun β w S2 h => SCon.rdBlk (VTree_turnRightM_con hx16 0 1) rfl h) g0 rfl rfl rfl <| K.store Y _ g0 rfl rfl rfl t108 rfl rfl rfl rfl rfl <| K.nil <| At.next <| G.ret <| At.block_ret <| At.over_ret <| At.done Y [(.cell 4 108, .agg [_, _])] rfl ⟨.st rfl rfl t108 rfl rfl, trivial⟩ (to' := [(0, _), (1, _)]) ⟨rfl, rfl, trivial⟩ ?_ ?_ rfl rfl rfl (.inl rfl)
    · cases H0; rfl
    · cases H0; rfl
   ·
    replace H0 := bif_f H0 h4
    refine G.skip <| At.ns ?_
    obtain ⟨x17, hx17, H0⟩ := bnd H0
    refine G.rg <| K.mv rfl rfl <| K.loadS Y _ g0 rfl rfl t108 rfl rfl rfl <| K.cA (cf 158 rfl) [0] (fun β w S2 h => SCon.rdBlk (VTree_turnRightM_con hx17 0 1) rfl h) g0 rfl rfl rfl <| K.store Y _ g0 rfl rfl rfl t108 rfl rfl rfl rfl rfl <| K.nil <| At.next <| G.ret <| At.block_ret <| At.over_ret <| At.done Y [(.cell 4 108, .agg [_, _])] rfl ⟨.st rfl rfl t108 rfl rfl, trivial⟩ (to' := [(0, _), (1, _)]) ⟨rfl, rfl, trivial⟩ ?_ ?_ rfl rfl rfl (.inl rfl)
    · cases H0; rfl
    · cases H0; rfl
  ·
   replace H0 := bif_f H0 h3
   refine G.skip <| At.block_normal <| At.nr <| K.loadS Y _ g0 rfl rfl t108 rfl rfl rfl <| K.store Y _ g0 rfl rfl rfl t108 rfl rfl rfl rfl rfl <| K.nil <| At.next <| G.ret <| At.done Y [(.cell 4 108, .agg [_, _])] rfl ⟨.st rfl rfl t108 rfl rfl, trivial⟩ (to' := [(0, _), (1, _)]) ⟨rfl, rfl, trivial⟩ ?_ ?_ rfl rfl rfl (.inl rfl)
   · cases H0; rfl
   · cases H0; rfl
theorem VTree_balanceM_con {k : Nat}  {p1 : Pool (TNode TMark TSwell)} {a1 : TRef} {ri0 rg0 : Int} {r : TRef × Pool (TNode TMark TSwell)}  (H0 : VTree_balance.f opsM k p1 a1 = some r) (m0 m1 : Nat) : VTree_balanceM_st p1 a1 ri0 rg0 r m0 m1 :=
 SCon.ren (rn [(0, m0), (1, m1)]) (VTree_balanceM_con0 (k := k)   H0) ⟨(blk_ren rfl rfl), (pool_ren rfl), trivial⟩ ⟨(blk_ren rfl rfl), (pool_ren rfl), trivial⟩ (by simp) (by simp)
abbrev VTree_linkM_st (p1 : Pool (TNode TMark TSwell)) (a1 : TRef) (a2 : TRef) (a3 : TRef) (ri0 : Int) (rg0 : Int) (r : TRef × Pool (TNode TMark TSwell)) (m0 : Nat) (m1 : Nat) : Prop := SCon Tryz.prog 125 [SV.p m0 0, .a (.agg ((eTRef a1).map .v)), .a (.agg ((eTRef a2).map .v)), .a (.agg ((eTRef a3).map .v))] [(m0, blk m0 [.p m1 0, .i ri0, .i rg0] 110), (m1, pvM m1 p1)] (.a (.agg ((eTRef r.1).map .v))) [(m0, blk m0 [.p m1 0, .i ri0, .i rg0] 110), (m1, pvM m1 r.2)] []
theorem VTree_linkM_con0 {k : Nat}  : ∀ {n : Nat} {p1 : Pool (TNode TMark TSwell)} {a1 : TRef} {a2 : TRef} {a3 : TRef} {ri0 rg0 : Int} {r : TRef × Pool (TNode TMark TSwell)}  (H0 : VTree_link.r opsM k n p1 a1 a2 a3 = some r), VTree_linkM_st p1 a1 a2 a3 ri0 rg0 r 0 1 := by
 intro n
 induction n with
 | zero => intro p1 a1 a2 a3 ri0 rg0 r H0; exact absurd H0 (by simp [VTree_link.r])
 | succ n ih =>
  intro p1 a1 a2 a3 ri0 rg0 r H0
  rw [VTree_link.r] at H0
  refine spec_of [(0, _), (1, _), (2, _), (3, _)] [(0, _), (1, _)] 66 Tryz.func125 rfl Tryz.ntmps125 rfl rfl rfl rfl (fun β W F => ?_)
  refine G.seq <| G.rg <| K.box Y 100 _ g0 rfl rfl rfl rfl rfl rfl <| K.box Y 101 _ g0 rfl rfl rfl rfl rfl rfl <| K.box Y 102 _ g0 rfl rfl rfl rfl rfl rfl <| K.alloc Y 103 _ g0 t108 rfl rfl rfl rfl rfl <| K.nil <| At.ns ?_
  obtain ⟨x1, hx1, H0⟩ := bnd H0
  obtain ⟨x2, hx2, H0⟩ := bnd H0
  refine G.rd mixed <| K.mv rfl rfl <| K.loadS Y _ g0 rfl rfl t108 rfl rfl rfl <| K.cA (cf 96 rfl) [0] (fun β w S2 h => SCon.rdBlk (VTree_weightM_con hx1 0 1) rfl h) g0 rfl rfl rfl <| K.mv rfl rfl <| K.loadS Y _ g0 rfl rfl t108 rfl rfl rfl <| K.cA (cf 96 rfl) [0] (fun β w S2 h => SCon.rdBlk (VTree_weightM_con hx2 0 1) rfl h) g0 rfl rfl rfl <| K.as rfl rfl <| K.as rfl rfl <| K.nil <| And.intro (by kernel_rfl) <| At.ns <| G.block <| G.seq <| G.rg <| K.mv rfl rfl <| K.mv rfl rfl <| K.bin (V := .int .i64 (w64 (3 * x1.1))) g0 rfl rfl (fun _ => rfl) rfl <| K.bin (V := .bool (decide (x2.1 > (w64 (3 * x1.1))))) g0 rfl rfl (fun _ => rfl) rfl <| K.as rfl rfl <| K.nil <| At.next <| G.cond rfl (fun h1 => ?_) (fun h1 => ?_)
  ·
   replace H0 := bif_t H0 h1
   refine G.seq ?_
   obtain ⟨x3, hx3, H0⟩ := bnd H0
   refine G.rg <| K.mv rfl rfl <| K.loadS Y _ g0 rfl rfl t108 rfl rfl rfl <| K.cA (cf 80 rfl) [0] (fun β w S2 h => SCon.rdBlk (VTree_getM_con hx3 0 1) rfl h) g0 rfl rfl rfl <| K.alloc Y 104 _ g0 t133 rfl rfl rfl rfl rfl <| K.store Y _ g0 rfl rfl rfl t133 rfl rfl rfl rfl rfl <| K.nil <| At.ns ?_
   obtain ⟨x4, hx4, H0⟩ := bnd H0
   obtain ⟨x5, hx5, H0⟩ := bnd H0
   obtain ⟨x6, hx6, H0⟩ := bnd H0
   refine G.rd mixed <| K.mv rfl rfl <| K.mv rfl rfl <| K.loadS Y _ g0 rfl rfl t108 rfl rfl rfl <| K.mv rfl rfl <| K.loadS Y _ g0 rfl rfl t108 rfl rfl rfl <| K.loadS Y _ g0 rfl rfl t108 rfl rfl rfl <| K.fieldAddr Y g0 rfl t133 rfl rfl <| K.loadS Y _ g0 rfl rfl t108 rfl rfl rfl <| K.cA (cf 125 rfl) [0] (fun β w S2 h => SCon.rdBlk (ih hx4) rfl h) g0 rfl rfl rfl <| K.fieldAddr Y g0 rfl t133 rfl rfl <| K.loadS Y _ g0 rfl rfl t108 rfl rfl rfl <| K.cA (cf 127 rfl) [0] (fun β w S2 h => SCon.rdBlk (VTree_layM_con hx5 0 1) rfl h) g0 rfl rfl rfl <| K.cA (cf 147 rfl) [0] (fun β w S2 h => SCon.rdBlk (VTree_balanceM_con hx6 0 1) rfl h) g0 rfl rfl rfl <| K.store Y _ g0 rfl rfl rfl t108 rfl rfl rfl rfl rfl <| K.nil <| And.intro (by kernel_rfl) <| At.next <| G.ret <| At.block_ret <| At.over_ret <| At.done Y [(.cell 8 108, .agg [_, _])] rfl ⟨.st rfl rfl t108 rfl rfl, trivial⟩ (to' := [(0, _), (1, _)]) ⟨rfl, rfl, trivial⟩ ?_ ?_ rfl rfl rfl (.inl rfl)
   · cases H0; rfl
   · cases H0; rfl
  ·
   replace H0 := bif_f H0 h1
   refine G.seq <| G.rg <| K.mv rfl rfl <| K.mv rfl rfl <| K.bin (V := .int .i64 (w64 (3 * x2.1))) g0 rfl rfl (fun _ => rfl) rfl <| K.bin (V := .bool (decide (x1.1 > (w64 (3 * x2.1))))) g0 rfl rfl (fun _ => rfl) rfl <| K.as rfl rfl <| K.nil <| At.next <| G.cond rfl (fun h2 => ?_) (fun h2 => ?_)
   ·
    replace H0 := bif_t H0 h2
    refine G.seq ?_
    obtain ⟨x7, hx7, H0⟩ := bnd H0
    refine G.rg <| K.mv rfl rfl <| K.loadS Y _ g0 rfl rfl t108 rfl rfl rfl <| K.cA (cf 80 rfl) [0] (fun β w S2 h => SCon.rdBlk (VTree_getM_con hx7 0 1) rfl h) g0 rfl rfl rfl <| K.alloc Y 105 _ g0 t133 rfl rfl rfl rfl rfl <| K.store Y _ g0 rfl rfl rfl t133 rfl rfl rfl rfl rfl <| K.nil <| At.ns ?_
    obtain ⟨x8, hx8, H0⟩ := bnd H0
    obtain ⟨x9, hx9, H0⟩ := bnd H0
    obtain ⟨x10, hx10, H0⟩ := bnd H0
    refine G.rd mixed <| K.mv rfl rfl <| K.mv rfl rfl <| K.loadS Y _ g0 rfl rfl t108 rfl rfl rfl <| K.fieldAddr Y g0 rfl t133 rfl rfl <| K.loadS Y _ g0 rfl rfl t108 rfl rfl rfl <| K.mv rfl rfl <| K.fieldAddr Y g0 rfl t133 rfl rfl <| K.loadS Y _ g0 rfl rfl t108 rfl rfl rfl <| K.loadS Y _ g0 rfl rfl t108 rfl rfl rfl <| K.loadS Y _ g0 rfl rfl t108 rfl rfl rfl <| K.cA (cf 125 rfl) [0] (fun β w S2 h => SCon.rdBlk (ih hx8) rfl h) g0 rfl rfl rfl <| K.cA (cf 127 rfl) [0] (fun β w S2 h => SCon.rdBlk (VTree_layM_con hx9 0 1) rfl h) g0 rfl rfl rfl <| K.cA (cf 147 rfl) [0] (fun β w S2 h => SCon.rdBlk (VTree_balanceM_con hx10 0 1) rfl h) g0 rfl rfl rfl <| K.store Y _ g0 rfl rfl rfl t108 rfl rfl rfl rfl rfl <| K.nil <| And.intro (by kernel_rfl) <| At.next <| G.ret <| At.block_ret <| At.over_ret <| At.done Y [(.cell 8 108, .agg [_, _])] rfl ⟨.st rfl rfl t108 rfl rfl, trivial⟩ (to' := [(0, _), (1, _)]) ⟨rfl, rfl, trivial⟩ ?_ ?_ rfl rfl rfl (.inl rfl)
    · cases H0; rfl
    · cases H0; rfl
   ·
    replace H0 := bif_f H0 h2
    refine G.skip <| At.block_normal <| At.ns ?_
    obtain ⟨x11, hx11, H0⟩ := bnd H0
    refine G.rg <| K.mv rfl rfl <| K.loadS Y _ g0 rfl rfl t108 rfl rfl rfl <| K.loadS Y _ g0 rfl rfl t108 rfl rfl rfl <| K.loadS Y _ g0 rfl rfl t108 rfl rfl rfl <| K.cA (cf 127 rfl) [0] (fun β w S2 h => SCon.rdBlk (VTree_layM_con hx11 0 1) rfl h) g0 rfl rfl rfl <| K.store Y _ g0 rfl rfl rfl t108 rfl rfl rfl rfl rfl <| K.nil <| At.next <| G.ret <| At.done Y [(.cell 8 108, .agg [_, _])] rfl ⟨.st rfl rfl t108 rfl rfl, trivial⟩ (to' := [(0, _), (1, _)]) ⟨rfl, rfl, trivial⟩ ?_ ?_ rfl rfl rfl (.inl rfl)
    · cases H0; rfl
    · cases H0; rfl
theorem VTree_linkM_con {k n : Nat}  {p1 : Pool (TNode TMark TSwell)} {a1 : TRef} {a2 : TRef} {a3 : TRef} {ri0 rg0 : Int} {r : TRef × Pool (TNode TMark TSwell)}  (H0 : VTree_link.r opsM k n p1 a1 a2 a3 = some r) (m0 m1 : Nat) : VTree_linkM_st p1 a1 a2 a3 ri0 rg0 r m0 m1 :=
 SCon.ren (rn [(0, m0), (1, m1)]) (VTree_linkM_con0 (k := k)   H0) ⟨(blk_ren rfl rfl), (pool_ren rfl), trivial⟩ ⟨(blk_ren rfl rfl), (pool_ren rfl), trivial⟩ (by simp) (by simp)
abbrev VTree_putM_st (p1 : Pool (TNode TMark TSwell)) (a1 : TRef) (a2 : TMark) (ri0 : Int) (rg0 : Int) (r : TRef × Bool × Pool (TNode TMark TSwell)) (m0 : Nat) (m1 : Nat) : Prop := SCon Tryz.prog 101 [SV.p m0 0, .a (.agg ((eTRef a1).map .v)), .a (.agg ((eTMark a2).map .v))] [(m0, blk m0 [.p m1 0, .i ri0, .i rg0] 110), (m1, pvM m1 p1)] (.tup [.agg ((eTRef r.1).map .v), .c (.v (.bool r.2.1))]) [(m0, blk m0 [.p m1 0, .i ri0, .i rg0] 110), (m1, pvM m1 r.2.2)] []
set_option maxHeartbeats 4000000 in
theorem VTree_putM_con0 {k : Nat}  : ∀ {n : Nat} {p1 : Pool (TNode TMark TSwell)} {a1 : TRef} {a2 : TMark} {ri0 rg0 : Int} {r : TRef × Bool × Pool (TNode TMark TSwell)}  (H0 : VTree_put.r opsM k n p1 a1 a2 = some r), VTree_putM_st p1 a1 a2 ri0 rg0 r 0 1 := by
 intro n
 induction n with
 | zero => intro p1 a1 a2 ri0 rg0 r H0; exact absurd H0 (by simp [VTree_put.r])
 | succ n ih =>
  intro p1 a1 a2 ri0 rg0 r H0
  rw [VTree_put.r] at H0
  refine spec_of [(0, _), (1, _), (2, _)] [(0, _), (1, _)] 98 Tryz.func101 rfl Tryz.ntmps101 rfl rfl rfl rfl (fun β W F => ?_)
  refine G.seq <| G.rg <| K.box Y 100 _ g0 rfl rfl rfl rfl rfl rfl <| K.box Y 101 _ g0 rfl rfl rfl rfl rfl rfl <| K.alloc Y 102 _ g0 t108 rfl rfl rfl rfl rfl <| K.as rfl rfl <| K.nil <| At.ns <| G.seq <| G.rg <| K.fieldAddr Y g0 rfl t108 rfl rfl <| K.load1 Y g0 rfl rfl t3 rfl rfl <| K.bin (V := .bool (a1.gen == 0)) g0 rfl rfl (fun _ => rfl) rfl <| K.nil <| At.next <| G.cond rfl (fun h1 => ?_) (fun h1 => ?_)
  ·
   replace H0 := bif_t H0 h1
   refine G.seq ?_
   obtain ⟨x1, hx1, H0⟩ := bnd H0
   obtain ⟨x2, hx2, H0⟩ := bnd H0
   refine G.rd mixed <| K.mv rfl rfl <| K.nilCheck g0 rfl rfl <| K.fieldAddr Y g0 rfl t110 rfl rfl <| K.load1 Y g0 rfl rfl t106 rfl rfl <| K.loadS Y _ g0 rfl rfl t46 rfl rfl rfl <| K.loadS Y _ g0 rfl rfl t46 rfl rfl rfl <| K.mkIface Y g0 rfl (mkI Tryz.underlying46 rfl) rfl <| K.callR [((.tmp 26), _)] (wave_Mark_Sum_con (k := k) hx1) (toFn_invoke (cf 197 rfl) (me46_197) rfl) g0 ⟨rfl, trivial⟩ trivial rfl rfl rfl <| K.build Y [(0, _), (3, _), (4, _)] [_, _, _, _, _, _, _, _, _, _, _, _, _, _, _, _, _, _, _, _, _, _, _, _, _, _, _, _, _] [((.tmp 24), _), (_, _), ((.tmp 27), _)] g0 (AllE.spec ⟨rfl, rfl, rfl, trivial⟩) rfl rfl t133 rfl rfl <| K.call0 [(.func 124, _), ((.tmp 23), _), ((.tmp 28), _)] (pvputM hx2 1) (toFn_func (cf 124 rfl) rfl) g0 ⟨rfl, rfl, rfl, trivial⟩ ⟨rfl, trivial⟩ rfl rfl rfl rfl rfl rfl <| K.mv rfl rfl <| K.extract g0 rfl rfl rfl <| K.extract g0 rfl rfl rfl <| K.alloc Y 103 _ g0 t108 rfl rfl rfl rfl rfl <| K.store Y _ g0 rfl rfl rfl t108 rfl rfl rfl rfl rfl <| K.as rfl rfl <| K.nil <| And.intro (by kernel_rfl) <| At.nr <| K.loadS Y _ g0 rfl rfl t108 rfl rfl rfl <| K.mv rfl rfl <| K.store Y _ g0 rfl rfl rfl t108 rfl rfl rfl rfl rfl <| K.as rfl rfl <| K.nil <| At.next <| G.ret <| At.over_ret <| At.done Y [(.cell 6 108, .agg [_, _]), (.tmp 7, .c _)] rfl ⟨.st rfl rfl t108 rfl rfl, .tmp rfl, trivial⟩ (to' := [(0, _), (1, _)]) ⟨rfl, rfl, trivial⟩ ?_ ?_ rfl rfl rfl (.inl rfl)
   · cases H0; rfl
   · cases H0; rfl
  ·
   replace H0 := bif_f H0 h1
   refine G.skip <| At.ns ?_
   obtain ⟨x3, hx3, H0⟩ := bnd H0
   refine G.rg <| K.mv rfl rfl <| K.loadS Y _ g0 rfl rfl t108 rfl rfl rfl <| K.cA (cf 80 rfl) [0] (fun β w S2 h => SCon.rdBlk (VTree_getM_con hx3 0 1) rfl h) g0 rfl rfl rfl <| K.alloc Y 104 _ g0 t133 rfl rfl rfl rfl rfl <| K.store Y _ g0 rfl rfl rfl t133 rfl rfl rfl rfl rfl <| K.nil <| At.ns ?_
   obtain ⟨x4, hx4, H0⟩ := bnd H0
   refine G.rg <| K.loadS Y _ g0 rfl rfl t46 rfl rfl rfl <| K.mkIface Y g0 rfl (mkI Tryz.underlying46 rfl) rfl <| K.fieldAddr Y g0 rfl t133 rfl rfl <| K.loadS Y _ g0 rfl rfl t46 rfl rfl rfl <| K.callR [((.tmp 38), _), ((.tmp 40), _)] (wave_Mark_Compare_con (k := k) hx4) (toFn_invoke (cf 196 rfl) (me46_196) rfl) g0 ⟨rfl, rfl, trivial⟩ trivial rfl rfl rfl <| K.as rfl rfl <| K.nil <| At.ns <| G.block <| G.seq <| G.rg <| K.mv rfl rfl <| K.bin (V := .bool (decide (x4 < 0))) g0 rfl rfl (fun _ => rfl) rfl <| K.as rfl rfl <| K.nil <| At.next <| G.cond rfl (fun h2 => ?_) (fun h2 => ?_)
   ·
    replace H0 := bif_t H0 h2
    refine G.seq ?_
    obtain ⟨x5, hx5, H0⟩ := bnd H0
    refine G.rg <| K.mv rfl rfl <| K.fieldAddr Y g0 rfl t133 rfl rfl <| K.loadS Y _ g0 rfl rfl t108 rfl rfl rfl <| K.loadS Y _ g0 rfl rfl t46 rfl rfl rfl <| K.cA (cf 101 rfl) [0] (fun β w S2 h => SCon.rdBlk (ih hx5) rfl h) g0 rfl rfl rfl <| K.mv rfl rfl <| K.extract g0 rfl rfl rfl <| K.extract g0 rfl rfl rfl <| K.alloc Y 105 _ g0 t108 rfl rfl rfl rfl rfl <| K.store Y _ g0 rfl rfl rfl t108 rfl rfl rfl rfl rfl <| K.as rfl rfl <| K.nil <| At.ns <| G.seq <| G.rg <| K.mv rfl rfl <| K.un (V := .bool (!x5.2.1)) g0 rfl (fun _ => rfl) rfl <| K.nil <| At.next <| G.cond rfl (fun h3 => ?_) (fun h3 => ?_)
    ·
     replace H0 := bif_t H0 h3
     refine G.seq <| G.rg <| K.loadS Y _ g0 rfl rfl t108 rfl rfl rfl <| K.store Y _ g0 rfl rfl rfl t108 rfl rfl rfl rfl rfl <| K.as rfl rfl <| K.nil <| At.next <| G.ret <| At.over_ret <| At.block_ret <| At.over_ret <| At.done Y [(.cell 6 108, .agg [_, _]), (.tmp 7, .c _)] rfl ⟨.st rfl rfl t108 rfl rfl, .tmp rfl, trivial⟩ (to' := [(0, _), (1, _)]) ⟨rfl, rfl, trivial⟩ ?_ ?_ rfl rfl rfl (.inl rfl)
     · cases H0; rfl
     · cases H0; rfl
    ·
     replace H0 := bif_f H0 h3
     refine G.skip <| At.ns ?_
     obtain ⟨x6, hx6, H0⟩ := bnd H0
     refine G.rg <| K.mv rfl rfl <| K.loadS Y _ g0 rfl rfl t108 rfl rfl rfl <| K.loadS Y _ g0 rfl rfl t108 rfl rfl rfl <| K.fieldAddr Y g0 rfl t133 rfl rfl <| K.loadS Y _ g0 rfl rfl t108 rfl rfl rfl <| K.cA (cf 125 rfl) [0] (fun β w S2 h => SCon.rdBlk (VTree_linkM_con hx6 0 1) rfl h) g0 rfl rfl rfl <| K.store Y _ g0 rfl rfl rfl t108 rfl rfl rfl rfl rfl <| K.as rfl rfl <| K.nil <| At.next <| G.ret <| At.block_ret <| At.over_ret <| At.done Y [(.cell 6 108, .agg [_, _]), (.tmp 7, .c _)] rfl ⟨.st rfl rfl t108 rfl rfl, .tmp rfl, trivial⟩ (to' := [(0, _), (1, _)]) ⟨rfl, rfl, trivial⟩ ?_ ?_ rfl rfl rfl (.inl rfl)
     · cases H0; rfl
     · cases H0; rfl
   ·
    replace H0 := bif_f H0 h2
    refine G.seq <| G.rg <| K.mv rfl rfl <| K.bin (V := .bool (decide (x4 > 0))) g0 rfl rfl (fun _ => rfl) rfl <| K.as rfl rfl <| K.nil <| At.next <| G.cond rfl (fun h4 => ?_) (fun h4 => ?_)
    ·
     replace H0 := bif_t H0 h4
     refine G.seq ?_
     obtain ⟨x7, hx7, H0⟩ := bnd H0
     refine G.rg <| K.mv rfl rfl <| K.fieldAddr Y g0 rfl t133 rfl rfl <| K.loadS Y _ g0 rfl rfl t108 rfl rfl rfl <| K.loadS Y _ g0 rfl rfl t46 rfl rfl rfl <| K.cA (cf 101 rfl) [0] (fun β w S2 h => SCon.rdBlk (ih hx7) rfl h) g0 rfl rfl rfl <| K.mv rfl rfl <| K.extract g0 rfl rfl rfl <| K.extract g0 rfl rfl rfl <| K.alloc Y 106 _ g0 t108 rfl rfl rfl rfl rfl <| K.store Y _ g0 rfl rfl rfl t108 rfl rfl rfl rfl rfl <| K.as rfl rfl <| K.nil <| At.ns <| G.seq <| G.rg <| K.mv rfl rfl <| K.un (V := .bool (!x7.2.1)) g0 rfl (fun _ => rfl) rfl <| K.nil <| At.next <| G.cond rfl (fun h5 => ?_) (fun h5 => ?_)
     ·
      replace H0 := bif_t H0 h5
      refine G.seq <| G.rg <| K.loadS Y _ g0 rfl rfl t108 rfl rfl rfl <| K.store Y _ g0 rfl rfl rfl t108 rfl rfl rfl rfl rfl <| K.as rfl rfl <| K.nil <| At.next <| G.ret <| At.over_ret <| At.block_ret <| At.over_ret <| At.done Y [(.cell 6 108, .agg [_, _]), (.tmp 7, .c _)] rfl ⟨.st rfl rfl t108 rfl rfl, .tmp rfl, trivial⟩ (to' := [(0, _), (1, _)]) ⟨rfl, rfl, trivial⟩ ?_ ?_ rfl rfl rfl (.inl rfl)
      · cases H0; rfl
      · cases H0; rfl
     ·
      replace H0 := bif_f H0 h5
      refine G.skip <| At.ns ?_
      obtain ⟨x8, hx8, H0⟩ := bnd H0
      refine G.rg <| K.mv rfl rfl <| K.fieldAddr Y g0 rfl t133 rfl rfl <| K.loadS Y _ g0 rfl rfl t108 rfl rfl rfl <| K.loadS Y _ g0 rfl rfl t108 rfl rfl rfl <| K.loadS Y _ g0 rfl rfl t108 rfl rfl rfl <| K.cA (cf 125 rfl) [0] (fun β w S2 h => SCon.rdBlk (VTree_linkM_con hx8 0 1) rfl h) g0 rfl rfl rfl <| K.store Y _ g0 rfl rfl rfl t108 rfl rfl rfl rfl rfl <| K.as rfl rfl <| K.nil <| At.next <| G.ret <| At.block_ret <| At.over_ret <| At.done Y [(.cell 6 108, .agg [_, _]), (.tmp 7, .c _)] rfl ⟨.st rfl rfl t108 rfl rfl, .tmp rfl, trivial⟩ (to' := [(0, _), (1, _)]) ⟨rfl, rfl, trivial⟩ ?_ ?_ rfl rfl rfl (.inl rfl)
      · cases H0; rfl
      · cases H0; rfl
    ·
     replace H0 := bif_f H0 h4
     refine G.skip <| At.block_normal <| At.nr <| K.loadS Y _ g0 rfl rfl t46 rfl rfl rfl <| K.fieldAddr Y g0 rfl t133 rfl rfl <| K.store Y _ g0 rfl rfl rfl t46 rfl rfl rfl rfl rfl <| K.nil <| At.ns ?_
     obtain ⟨x9, hx9, H0⟩ := bnd H0
     refine G.rd mixed <| K.mv rfl rfl <| K.nilCheck g0 rfl rfl <| K.fieldAddr Y g0 rfl t110 rfl rfl <| K.load1 Y g0 rfl rfl t106 rfl rfl <| K.loadS Y _ g0 rfl rfl t108 rfl rfl rfl <| K.loadS Y _ g0 rfl rfl t133 rfl rfl rfl <| K.call0 [(.func 126, _), ((.tmp 87), _), ((.tmp 88), _), ((.tmp 89), _)] (pvsetM hx9 1) (toFn_func (cf 126 rfl) rfl) g0 ⟨rfl, rfl, rfl, rfl, trivial⟩ ⟨rfl, trivial⟩ rfl rfl rfl rfl rfl rfl <| K.nil <| And.intro (by kernel_rfl) <| At.ns ?_
     obtain ⟨x10, hx10, H0⟩ := bnd H0
     refine G.rg <| K.mv rfl rfl <| K.loadS Y _ g0 rfl rfl t108 rfl rfl rfl <| K.fieldAddr Y g0 rfl t133 rfl rfl <| K.loadS Y _ g0 rfl rfl t108 rfl rfl rfl <| K.fieldAddr Y g0 rfl t133 rfl rfl <| K.loadS Y _ g0 rfl rfl t108 rfl rfl rfl <| K.cA (cf 127 rfl) [0] (fun β w S2 h => SCon.rdBlk (VTree_layM_con hx10 0 1) rfl h) g0 rfl rfl rfl <| K.store Y _ g0 rfl rfl rfl t108 rfl rfl rfl rfl rfl <| K.as rfl rfl <| K.nil <| At.next <| G.ret <| At.done Y [(.cell 6 108, .agg [_, _]), (.tmp 7, .c _)] rfl ⟨.st rfl rfl t108 rfl rfl, .tmp rfl, trivial⟩ (to' := [(0, _), (1, _)]) ⟨rfl, rfl, trivial⟩ ?_ ?_ rfl rfl rfl (.inl rfl)
     · cases H0; rfl
     · cases H0; rfl
theorem VTree_putM_con {k n : Nat}  {p1 : Pool (TNode TMark TSwell)} {a1 : TRef} {a2 : TMark} {ri0 rg0 : Int} {r : TRef × Bool × Pool (TNode TMark TSwell)}  (H0 : VTree_put.r opsM k n p1 a1 a2 = some r) (m0 m1 : Nat) : VTree_putM_st p1 a1 a2 ri0 rg0 r m0 m1 :=
 SCon.ren (rn [(0, m0), (1, m1)]) (VTree_putM_con0 (k := k)   H0) ⟨(blk_ren rfl rfl), (pool_ren rfl), trivial⟩ ⟨(blk_ren rfl rfl), (pool_ren rfl), trivial⟩ (by simp) (by simp)
abbrev VTree_PutM_st (p1 : Pool (TNode TMark TSwell)) (rt0 : TRef) (a1 : TMark) (r : Bool × TRef × Pool (TNode TMark TSwell)) (m0 : Nat) (m1 : Nat) : Prop := SCon Tryz.prog 70 [SV.p m0 0, .a (.agg ((eTMark a1).map .v))] [(m0, blk m0 [.p m1 0, .i rt0.index, .i rt0.gen] 110), (m1, pvM m1 p1)] (.a (.c (.v (.bool r.1)))) [(m0, blk m0 [.p m1 0, .i r.2.1.index, .i r.2.1.gen] 110), (m1, pvM m1 r.2.2)] []
theorem VTree_PutM_con0 {k : Nat}  {p1 : Pool (TNode TMark TSwell)} {rt0 : TRef} {a1 : TMark} {r : Bool × TRef × Pool (TNode TMark TSwell)}  (H0 : VTree_Put.f opsM k p1 rt0 a1 = some r) : VTree_PutM_st p1 rt0 a1 r 0 1 := by
 rw [VTree_Put.f] at H0
 refine spec_of [(0, _), (1, _)] [(0, _), (1, _)] 23 Tryz.func70 rfl Tryz.ntmps70 rfl rfl rfl rfl (fun β W F => ?_)
 refine G.seq <| G.rg <| K.box Y 100 _ g0 rfl rfl rfl rfl rfl rfl <| K.as rfl rfl <| K.nil <| At.ns ?_
 obtain ⟨x1, hx1, H0⟩ := bnd H0
 refine G.rd mixed <| K.mv rfl rfl <| K.mv rfl rfl <| K.nilCheck g0 rfl rfl <| K.fieldAddr Y g0 rfl t110 rfl rfl <| K.loadS Y _ g0 rfl rfl t108 rfl rfl rfl <| K.loadS Y _ g0 rfl rfl t46 rfl rfl rfl <| K.cA (cf 101 rfl) [0] (fun β w S2 h => SCon.rdBlk (VTree_putM_con hx1 0 1) rfl h) g0 rfl rfl rfl <| K.mv rfl rfl <| K.extract g0 rfl rfl rfl <| K.extract g0 rfl rfl rfl <| K.alloc Y 101 _ g0 t108 rfl rfl rfl rfl rfl <| K.store Y _ g0 rfl rfl rfl t108 rfl rfl rfl rfl rfl <| K.as rfl rfl <| K.nil <| And.intro (by kernel_rfl) <| At.ns <| G.seq <| G.rg <| K.mv rfl rfl <| K.nil <| At.next <| G.cond rfl (fun h1 => ?_) (fun h1 => ?_)
 ·
  replace H0 := bif_t H0 h1
  exact G.rg <| K.mv rfl rfl <| K.loadS Y _ g0 rfl rfl t108 rfl rfl rfl <| K.nilCheck g0 rfl rfl <| K.fieldAddr Y g0 rfl t110 rfl rfl <| K.store Y _ g0 rfl rfl rfl t108 rfl rfl rfl rfl rfl <| K.nil <| At.nr <| K.mv rfl rfl <| K.as rfl rfl <| K.nil <| At.next <| G.ret <| At.dr Y [4] rfl rfl (by cases H0; rfl) (by cases H0; rfl) rfl rfl rfl
 ·
  replace H0 := bif_f H0 h1
  exact G.skip <| At.nr <| K.mv rfl rfl <| K.as rfl rfl <| K.nil <| At.next <| G.ret <| At.dr Y [4] rfl rfl (by cases H0; rfl) (by cases H0; rfl) rfl rfl rfl
theorem VTree_PutM_con {k : Nat}  {p1 : Pool (TNode TMark TSwell)} {rt0 : TRef} {a1 : TMark} {r : Bool × TRef × Pool (TNode TMark TSwell)}  (H0 : VTree_Put.f opsM k p1 rt0 a1 = some r) (m0 m1 : Nat) : VTree_PutM_st p1 rt0 a1 r m0 m1 :=
 SCon.ren (rn [(0, m0), (1, m1)]) (VTree_PutM_con0 (k := k)   H0) ⟨(blk_ren rfl rfl), (pool_ren rfl), trivial⟩ ⟨(blk_ren rfl rfl), (pool_ren rfl), trivial⟩ (by simp) (by simp)
abbrev VTree_betweenM_st (p1 : Pool (TNode TMark TSwell)) (a1 : TRef) (a2 : Int) (a3 : Int) (ri0 : Int) (rg0 : Int) (r : TSwell × Pool (TNode TMark TSwell)) (m0 : Nat) (m1 : Nat) : Prop := SCon Tryz.prog 128 [SV.p m0 0, .a (.agg ((eTRef a1).map .v)), .a (.c (.v (.int .i64 a2))), .a (.c (.v (.int .i64 a3)))] [(m0, blk m0 [.p m1 0, .i ri0, .i rg0] 110), (m1, pvM m1 p1)] (.a (.agg ((eTSwell r.1).map .v))) [(m0, blk m0 [.p m1 0, .i ri0, .i rg0] 110), (m1, pvM m1 r.2)] []
set_option maxHeartbeats 4000000 in
theorem VTree_betweenM_con0 {k : Nat}  : ∀ {n : Nat} {p1 : Pool (TNode TMark TSwell)} {a1 : TRef} {a2 : Int} {a3 : Int} {ri0 rg0 : Int} {r : TSwell × Pool (TNode TMark TSwell)}  (H0 : VTree_between.r opsM k n p1 a1 a2 a3 = some r), VTree_betweenM_st p1 a1 a2 a3 ri0 rg0 r 0 1 := by
 intro n
 induction n with
 | zero => intro p1 a1 a2 a3 ri0 rg0 r H0; exact absurd H0 (by simp [VTree_between.r])
 | succ n ih =>
  intro p1 a1 a2 a3 ri0 rg0 r H0
  rw [VTree_between.r] at H0
  refine spec_of [(0, _), (1, _), (2, _), (3, _)] [(0, _), (1, _)] 85 Tryz.func128 rfl Tryz.ntmps128 rfl rfl rfl rfl (fun β W F => ?_)
  refine G.seq <| G.rg <| K.box Y 100 _ g0 rfl rfl rfl rfl rfl rfl <| K.alloc Y 101 _ g0 t50 rfl rfl rfl rfl rfl <| K.nil <| At.ns ?_
  obtain ⟨x1, hx1, H0⟩ := bnd H0
  refine G.rg <| K.mv rfl rfl <| K.loadS Y _ g0 rfl rfl t108 rfl rfl rfl <| K.cA (cf 80 rfl) [0] (fun β w S2 h => SCon.rdBlk (VTree_getM_con hx1 0 1) rfl h) g0 rfl rfl rfl <| K.alloc Y 102 _ g0 t133 rfl rfl rfl rfl rfl <| K.store Y _ g0 rfl rfl rfl t133 rfl rfl rfl rfl rfl <| K.nil <| At.nr <| K.alloc Y 103 _ g0 t50 rfl rfl rfl rfl rfl <| K.nil <| At.next ?_
  obtain ⟨x2, H1, H0⟩ := bnd H0
  refine G.sJ (σ := { v : Unit // x2 = Sum.inr v }) (fun q => [(0, .a (.c (.p 0 0))), (2, .a (.c (.v (.int .i64 a2)))), (3, .a (.c (.v (.int .i64 a3)))), (8, .a (.c (.p 104 0))), (9, .a (.c (.p 105 0))), (10, .a (.c (.p 106 0)))]) (fun q => [(1, pvM 1 x1.2), (0, blk 0 [.p 1 0, .v (.int .i64 ri0), .v (.int .i64 rg0)] 110), (104, blk 104 [.v (.int .i64 0), .v (.int .i64 0), .v (.int .i64 0), .v (.int .i64 0), .v (.int .i64 0), .v (.int .i64 0), .v (.int .i64 0), .v (.int .i64 0), .v (.int .i64 0), .v (.int .i64 0), .v (.bool false), .v (.int .i64 0), .v (.int .i64 0), .v (.bool false), .v (.int .i64 0), .v (.int .i64 0)] 50), (105, blk 105 [.v (.int .i64 x1.1.e.op.time), .v (.bool x1.1.e.op.insert), .v (.int .i64 x1.1.e.op.item.key), .v (.int .i64 x1.1.e.op.item.id), .v (.bool x1.1.e.here), .v (.bool x1.1.e.took.found), .v (.int .i64 x1.1.e.took.item.key), .v (.int .i64 x1.1.e.took.item.id), .v (.int .i64 x1.1.left.index), .v (.int .i64 x1.1.left.gen), .v (.int .i64 x1.1.right.index), .v (.int .i64 x1.1.right.gen), .v (.int .i64 x1.1.size), .v (.int .i64 x1.1.sum.count.n), .v (.int .i64 x1.1.sum.count.sum), .v (.int .i64 x1.1.sum.count.low), .v (.int .i64 x1.1.sum.weight.n), .v (.int .i64 x1.1.sum.weight.sum), .v (.int .i64 x1.1.sum.weight.low), .v (.int .i64 x1.1.sum.deletes), .v (.int .i64 x1.1.sum.free), .v (.int .i64 x1.1.sum.most.key), .v (.int .i64 x1.1.sum.most.id), .v (.bool x1.1.sum.gone.found), .v (.int .i64 x1.1.sum.gone.item.key), .v (.int .i64 x1.1.sum.gone.item.id), .v (.bool x1.1.sum.least.found), .v (.int .i64 x1.1.sum.least.item.key), .v (.int .i64 x1.1.sum.least.item.id)] 133), (106, blk 106 [.v (.int .i64 0), .v (.int .i64 0), .v (.int .i64 0), .v (.int .i64 0), .v (.int .i64 0), .v (.int .i64 0), .v (.int .i64 0), .v (.int .i64 0), .v (.int .i64 0), .v (.int .i64 0), .v (.bool false), .v (.int .i64 0), .v (.int .i64 0), .v (.bool false), .v (.int .i64 0), .v (.int .i64 0)] 50)]) ?_ ?_
  ·
   refine G.seq ?_
   rcases Bool.eq_false_or_eq_true (decide (a2 ≥ a3)) with h1 | h1
   ·
    replace H1 := bif_t H1 h1
    refine G.rg <| K.mv rfl rfl <| K.mv rfl rfl <| K.bin (V := .bool (decide (a2 ≥ a3))) g0 rfl rfl (fun _ => rfl) rfl <| K.mv rfl rfl <| K.sk rfl rfl h1 rfl <| K.sk rfl rfl h1 rfl <| K.sk rfl rfl h1 rfl <| K.sk rfl rfl h1 rfl <| K.pickT g0 rfl (h1) rfl rfl <| K.mv rfl rfl <| K.sk rfl rfl rfl rfl <| K.sk rfl rfl rfl rfl <| K.pickT g0 rfl (rfl) rfl rfl <| K.mv rfl rfl <| K.sk rfl rfl rfl rfl <| K.sk rfl rfl rfl rfl <| K.sk rfl rfl rfl rfl <| K.pickT g0 rfl (rfl) rfl rfl <| K.nil <| At.next <| G.cond rfl (fun h2 => ?_) (fun h2 => ?_)
    ·
     refine G.seq <| G.rg <| K.loadS Y _ g0 rfl rfl t50 rfl rfl rfl <| K.store Y _ g0 rfl rfl rfl t50 rfl rfl rfl rfl rfl <| K.nil <| At.next <| G.ret <| At.over_ret ?_
     cases H1
     replace H0 := sum_l H0
     refine At.done Y [(.cell 8 50, .agg [_, _, _, _, _, _, _, _, _, _, _, _, _, _, _, _])] rfl ⟨.st rfl rfl t50 rfl rfl, trivial⟩ (to' := [(0, _), (1, _)]) ⟨rfl, rfl, trivial⟩ ?_ ?_ rfl rfl rfl (.inl rfl)
     · cases H0; rfl
     · cases H0; rfl
    · cases h2
   ·
    replace H1 := bif_f H1 h1
    rcases Bool.eq_false_or_eq_true (decide (a2 ≥ x1.1.size)) with h3 | h3
    ·
     replace H1 := bif_t H1 h3
     refine G.rg <| K.mv rfl rfl <| K.mv rfl rfl <| K.bin (V := .bool (decide (a2 ≥ a3))) g0 rfl rfl (fun _ => rfl) rfl <| K.mv rfl rfl <| K.move (.inl rfl) (g1 rfl rfl h1) rfl rfl <| K.fieldAddr Y (g1 rfl rfl h1) rfl t133 rfl rfl <| K.load1 Y (g1 rfl rfl h1) rfl rfl t3 rfl rfl <| K.bin (V := .bool (decide (a2 ≥ x1.1.size))) (g1 rfl rfl h1) rfl rfl (fun _ => rfl) rfl <| K.pickF g0 rfl (h1) rfl rfl <| K.mv rfl rfl <| K.sk rfl rfl h3 rfl <| K.sk rfl rfl h3 rfl <| K.pickT g0 rfl (h3) rfl rfl <| K.mv rfl rfl <| K.sk rfl rfl rfl rfl <| K.sk rfl rfl rfl rfl <| K.sk rfl rfl rfl rfl <| K.pickT g0 rfl (rfl) rfl rfl <| K.nil <| At.next <| G.cond rfl (fun h4 => ?_) (fun h4 => ?_)
     ·
      refine G.seq <| G.rg <| K.loadS Y _ g0 rfl rfl t50 rfl rfl rfl <| K.store Y _ g0 rfl rfl rfl t50 rfl rfl rfl rfl rfl <| K.nil <| At.next <| G.ret <| At.over_ret ?_
      cases H1
      replace H0 := sum_l H0
      refine At.done Y [(.cell 8 50, .agg [_, _, _, _, _, _, _, _, _, _, _, _, _, _, _, _])] rfl ⟨.st rfl rfl t50 rfl rfl, trivial⟩ (to' := [(0, _), (1, _)]) ⟨rfl, rfl, trivial⟩ ?_ ?_ rfl rfl rfl (.inl rfl)
      · cases H0; rfl
      · cases H0; rfl
     · cases h4
    ·
     replace H1 := bif_f H1 h3
     rcases Bool.eq_false_or_eq_true (decide (a3 ≤ 0)) with h5 | h5
     ·
      replace H1 := bif_t H1 h5
      refine G.rg <| K.mv rfl rfl <| K.mv rfl rfl <| K.bin (V := .bool (decide (a2 ≥ a3))) g0 rfl rfl (fun _ => rfl) rfl <| K.mv rfl rfl <| K.move (.inl rfl) (g1 rfl rfl h1) rfl rfl <| K.fieldAddr Y (g1 rfl rfl h1) rfl t133 rfl rfl <| K.load1 Y (g1 rfl rfl h1) rfl rfl t3 rfl rfl <| K.bin (V := .bool (decide (a2 ≥ x1.1.size))) (g1 rfl rfl h1) rfl rfl (fun _ => rfl) rfl <| K.pickF g0 rfl (h1) rfl rfl <| K.mv rfl rfl <| K.move (.inl rfl) (g1 rfl rfl h3) rfl rfl <| K.bin (V := .bool (decide (a3 ≤ 0))) (g1 rfl rfl h3) rfl rfl (fun _ => rfl) rfl <| K.pickF g0 rfl (h3) rfl rfl <| K.mv rfl rfl <| K.sk rfl rfl h5 rfl <| K.sk rfl rfl h5 rfl <| K.sk rfl rfl h5 rfl <| K.pickT g0 rfl (h5) rfl rfl <| K.nil <| At.next <| G.cond rfl (fun h6 => ?_) (fun h6 => ?_)
      ·
       refine G.seq <| G.rg <| K.loadS Y _ g0 rfl rfl t50 rfl rfl rfl <| K.store Y _ g0 rfl rfl rfl t50 rfl rfl rfl rfl rfl <| K.nil <| At.next <| G.ret <| At.over_ret ?_
       cases H1
       replace H0 := sum_l H0
       refine At.done Y [(.cell 8 50, .agg [_, _, _, _, _, _, _, _, _, _, _, _, _, _, _, _])] rfl ⟨.st rfl rfl t50 rfl rfl, trivial⟩ (to' := [(0, _), (1, _)]) ⟨rfl, rfl, trivial⟩ ?_ ?_ rfl rfl rfl (.inl rfl)
       · cases H0; rfl
       · cases H0; rfl
      · cases h6
     ·
      replace H1 := bif_f H1 h5
      refine G.rg <| K.mv rfl rfl <| K.mv rfl rfl <| K.bin (V := .bool (decide (a2 ≥ a3))) g0 rfl rfl (fun _ => rfl) rfl <| K.mv rfl rfl <| K.move (.inl rfl) (g1 rfl rfl h1) rfl rfl <| K.fieldAddr Y (g1 rfl rfl h1) rfl t133 rfl rfl <| K.load1 Y (g1 rfl rfl h1) rfl rfl t3 rfl rfl <| K.bin (V := .bool (decide (a2 ≥ x1.1.size))) (g1 rfl rfl h1) rfl rfl (fun _ => rfl) rfl <| K.pickF g0 rfl (h1) rfl rfl <| K.mv rfl rfl <| K.move (.inl rfl) (g1 rfl rfl h3) rfl rfl <| K.bin (V := .bool (decide (a3 ≤ 0))) (g1 rfl rfl h3) rfl rfl (fun _ => rfl) rfl <| K.pickF g0 rfl (h3) rfl rfl <| K.mv rfl rfl <| K.fieldAddr Y (g1 rfl rfl h5) rfl t133 rfl rfl <| K.load1 Y (g1 rfl rfl h5) rfl rfl t3 rfl rfl <| K.bin (V := .bool (x1.1.size == 0)) (g1 rfl rfl h5) rfl rfl (fun _ => rfl) rfl <| K.pickF g0 rfl (h5) rfl rfl <| K.nil <| At.next <| G.cond rfl (fun h7 => ?_) (fun h7 => ?_)
      ·
       replace H1 := bif_t H1 h7
       refine G.seq <| G.rg <| K.loadS Y _ g0 rfl rfl t50 rfl rfl rfl <| K.store Y _ g0 rfl rfl rfl t50 rfl rfl rfl rfl rfl <| K.nil <| At.next <| G.ret <| At.over_ret ?_
       cases H1
       replace H0 := sum_l H0
       refine At.done Y [(.cell 8 50, .agg [_, _, _, _, _, _, _, _, _, _, _, _, _, _, _, _])] rfl ⟨.st rfl rfl t50 rfl rfl, trivial⟩ (to' := [(0, _), (1, _)]) ⟨rfl, rfl, trivial⟩ ?_ ?_ rfl rfl rfl (.inl rfl)
       · cases H0; rfl
       · cases H0; rfl
      ·
       replace H1 := bif_f H1 h7
       exact G.skip <| At.jd ⟨(), oi H1⟩ [(104, 101), (105, 102), (106, 103)] [_, _, _, _, _] rfl ⟨rfl, rfl, rfl, rfl, rfl, rfl, trivial⟩ ⟨rfl, (pool_ren rfl), rfl, (blk_ren rfl rfl), rfl, (blk_ren rfl rfl), rfl, (blk_ren rfl rfl), rfl, (blk_ren rfl rfl), trivial⟩ rfl
  ·
   rintro ⟨w2, rfl⟩
   replace H0 := sum_r H0
   show G _ _ [(0, .a (.c (.p 0 0))), (2, .a (.c (.v (.int .i64 a2)))), (3, .a (.c (.v (.int .i64 a3)))), (8, .a (.c (.p 104 0))), (9, .a (.c (.p 105 0))), (10, .a (.c (.p 106 0)))] [(1, some (pvM 1 x1.2)), (0, some (blk 0 [.p 1 0, .v (.int .i64 ri0), .v (.int .i64 rg0)] 110)), (104, some (blk 104 [.v (.int .i64 0), .v (.int .i64 0), .v (.int .i64 0), .v (.int .i64 0), .v (.int .i64 0), .v (.int .i64 0), .v (.int .i64 0), .v (.int .i64 0), .v (.int .i64 0), .v (.int .i64 0), .v (.bool false), .v (.int .i64 0), .v (.int .i64 0), .v (.bool false), .v (.int .i64 0), .v (.int .i64 0)] 50)), (105, some (blk 105 [.v (.int .i64 x1.1.e.op.time), .v (.bool x1.1.e.op.insert), .v (.int .i64 x1.1.e.op.item.key), .v (.int .i64 x1.1.e.op.item.id), .v (.bool x1.1.e.here), .v (.bool x1.1.e.took.found), .v (.int .i64 x1.1.e.took.item.key), .v (.int .i64 x1.1.e.took.item.id), .v (.int .i64 x1.1.left.index), .v (.int .i64 x1.1.left.gen), .v (.int .i64 x1.1.right.index), .v (.int .i64 x1.1.right.gen), .v (.int .i64 x1.1.size), .v (.int .i64 x1.1.sum.count.n), .v (.int .i64 x1.1.sum.count.sum), .v (.int .i64 x1.1.sum.count.low), .v (.int .i64 x1.1.sum.weight.n), .v (.int .i64 x1.1.sum.weight.sum), .v (.int .i64 x1.1.sum.weight.low), .v (.int .i64 x1.1.sum.deletes), .v (.int .i64 x1.1.sum.free), .v (.int .i64 x1.1.sum.most.key), .v (.int .i64 x1.1.sum.most.id), .v (.bool x1.1.sum.gone.found), .v (.int .i64 x1.1.sum.gone.item.key), .v (.int .i64 x1.1.sum.gone.item.id), .v (.bool x1.1.sum.least.found), .v (.int .i64 x1.1.sum.least.item.key), .v (.int .i64 x1.1.sum.least.item.id)] 133)), (106, some (blk 106 [.v (.int .i64 0), .v (.int .i64 0), .v (.int .i64 0), .v (.int .i64 0), .v (.int .i64 0), .v (.int .i64 0), .v (.int .i64 0), .v (.int .i64 0), .v (.int .i64 0), .v (.int .i64 0), .v (.bool false), .v (.int .i64 0), .v (.int .i64 0), .v (.bool false), .v (.int .i64 0), .v (.int .i64 0)] 50))] _ _
   obtain ⟨x3, H1, H0⟩ := bnd H0
   refine G.sJ (σ := { v : Unit // x3 = Sum.inr v }) (fun q => [(0, .a (.c (.p 0 0))), (2, .a (.c (.v (.int .i64 a2)))), (3, .a (.c (.v (.int .i64 a3)))), (8, .a (.c (.p 107 0))), (9, .a (.c (.p 108 0))), (10, .a (.c (.p 109 0)))]) (fun q => [(1, pvM 1 x1.2), (0, blk 0 [.p 1 0, .v (.int .i64 ri0), .v (.int .i64 rg0)] 110), (107, blk 107 [.v (.int .i64 0), .v (.int .i64 0), .v (.int .i64 0), .v (.int .i64 0), .v (.int .i64 0), .v (.int .i64 0), .v (.int .i64 0), .v (.int .i64 0), .v (.int .i64 0), .v (.int .i64 0), .v (.bool false), .v (.int .i64 0), .v (.int .i64 0), .v (.bool false), .v (.int .i64 0), .v (.int .i64 0)] 50), (108, blk 108 [.v (.int .i64 x1.1.e.op.time), .v (.bool x1.1.e.op.insert), .v (.int .i64 x1.1.e.op.item.key), .v (.int .i64 x1.1.e.op.item.id), .v (.bool x1.1.e.here), .v (.bool x1.1.e.took.found), .v (.int .i64 x1.1.e.took.item.key), .v (.int .i64 x1.1.e.took.item.id), .v (.int .i64 x1.1.left.index), .v (.int .i64 x1.1.left.gen), .v (.int .i64 x1.1.right.index), .v (.int .i64 x1.1.right.gen), .v (.int .i64 x1.1.size), .v (.int .i64 x1.1.sum.count.n), .v (.int .i64 x1.1.sum.count.sum), .v (.int .i64 x1.1.sum.count.low), .v (.int .i64 x1.1.sum.weight.n), .v (.int .i64 x1.1.sum.weight.sum), .v (.int .i64 x1.1.sum.weight.low), .v (.int .i64 x1.1.sum.deletes), .v (.int .i64 x1.1.sum.free), .v (.int .i64 x1.1.sum.most.key), .v (.int .i64 x1.1.sum.most.id), .v (.bool x1.1.sum.gone.found), .v (.int .i64 x1.1.sum.gone.item.key), .v (.int .i64 x1.1.sum.gone.item.id), .v (.bool x1.1.sum.least.found), .v (.int .i64 x1.1.sum.least.item.key), .v (.int .i64 x1.1.sum.least.item.id)] 133), (109, blk 109 [.v (.int .i64 0), .v (.int .i64 0), .v (.int .i64 0), .v (.int .i64 0), .v (.int .i64 0), .v (.int .i64 0), .v (.int .i64 0), .v (.int .i64 0), .v (.int .i64 0), .v (.int .i64 0), .v (.bool false), .v (.int .i64 0), .v (.int .i64 0), .v (.bool false), .v (.int .i64 0), .v (.int .i64 0)] 50)]) ?_ ?_
   ·
    refine G.seq ?_
    rcases Bool.eq_false_or_eq_true (decide (a2 ≤ 0)) with h8 | h8
    ·
     replace H1 := bif_t H1 h8
     refine G.rg <| K.mv rfl rfl <| K.bin (V := .bool (decide (a2 ≤ 0))) g0 rfl rfl (fun _ => rfl) rfl <| K.mv rfl rfl <| K.move (.inl rfl) (g1 rfl rfl h8) rfl rfl <| K.fieldAddr Y (g1 rfl rfl h8) rfl t133 rfl rfl <| K.load1 Y (g1 rfl rfl h8) rfl rfl t3 rfl rfl <| K.bin (V := .bool (decide (a3 ≥ x1.1.size))) (g1 rfl rfl h8) rfl rfl (fun _ => rfl) rfl <| K.pickT g0 rfl (h8) rfl rfl <| K.nil <| At.next <| G.cond rfl (fun h9 => ?_) (fun h9 => ?_)
     ·
      replace H1 := bif_t H1 h9
      refine G.seq <| G.rg <| K.fieldAddr Y g0 rfl t133 rfl rfl <| K.loadS Y _ g0 rfl rfl t50 rfl rfl rfl <| K.store Y _ g0 rfl rfl rfl t50 rfl rfl rfl rfl rfl <| K.nil <| At.next <| G.ret <| At.over_ret ?_
      cases H1
      replace H0 := sum_l H0
      refine At.done Y [(.cell 8 50, .agg [_, _, _, _, _, _, _, _, _, _, _, _, _, _, _, _])] rfl ⟨.st rfl rfl t50 rfl rfl, trivial⟩ (to' := [(0, _), (1, _)]) ⟨rfl, rfl, trivial⟩ ?_ ?_ rfl rfl rfl (.inl rfl)
      · cases H0; rfl
      · cases H0; rfl
     ·
      replace H1 := bif_f H1 h9
      exact G.skip <| At.jd ⟨(), oi H1⟩ [(107, 104), (108, 105), (109, 106)] [_, _, _, _, _] rfl ⟨rfl, rfl, rfl, rfl, rfl, rfl, trivial⟩ ⟨rfl, (pool_ren rfl), rfl, (blk_ren rfl rfl), rfl, (blk_ren rfl rfl), rfl, (blk_ren rfl rfl), rfl, (blk_ren rfl rfl), trivial⟩ rfl
    ·
     replace H1 := bif_f H1 h8
     refine G.rg <| K.mv rfl rfl <| K.bin (V := .bool (decide (a2 ≤ 0))) g0 rfl rfl (fun _ => rfl) rfl <| K.mv rfl rfl <| K.sk rfl rfl h8 rfl <| K.sk rfl rfl h8 rfl <| K.sk rfl rfl h8 rfl <| K.sk rfl rfl h8 rfl <| K.pickF g0 rfl (h8) rfl rfl <| K.nil <| At.next <| G.cond rfl (fun h10 => ?_) (fun h10 => ?_)
     · cases h10
     ·
      exact G.skip <| At.jd ⟨(), oi H1⟩ [(107, 104), (108, 105), (109, 106)] [_, _, _, _, _] rfl ⟨rfl, rfl, rfl, rfl, rfl, rfl, trivial⟩ ⟨rfl, (pool_ren rfl), rfl, (blk_ren rfl rfl), rfl, (blk_ren rfl rfl), rfl, (blk_ren rfl rfl), rfl, (blk_ren rfl rfl), trivial⟩ rfl
   ·
    rintro ⟨w3, rfl⟩
    replace H0 := sum_r H0
    show G _ _ [(0, .a (.c (.p 0 0))), (2, .a (.c (.v (.int .i64 a2)))), (3, .a (.c (.v (.int .i64 a3)))), (8, .a (.c (.p 107 0))), (9, .a (.c (.p 108 0))), (10, .a (.c (.p 109 0)))] [(1, some (pvM 1 x1.2)), (0, some (blk 0 [.p 1 0, .v (.int .i64 ri0), .v (.int .i64 rg0)] 110)), (107, some (blk 107 [.v (.int .i64 0), .v (.int .i64 0), .v (.int .i64 0), .v (.int .i64 0), .v (.int .i64 0), .v (.int .i64 0), .v (.int .i64 0), .v (.int .i64 0), .v (.int .i64 0), .v (.int .i64 0), .v (.bool false), .v (.int .i64 0), .v (.int .i64 0), .v (.bool false), .v (.int .i64 0), .v (.int .i64 0)] 50)), (108, some (blk 108 [.v (.int .i64 x1.1.e.op.time), .v (.bool x1.1.e.op.insert), .v (.int .i64 x1.1.e.op.item.key), .v (.int .i64 x1.1.e.op.item.id), .v (.bool x1.1.e.here), .v (.bool x1.1.e.took.found), .v (.int .i64 x1.1.e.took.item.key), .v (.int .i64 x1.1.e.took.item.id), .v (.int .i64 x1.1.left.index), .v (.int .i64 x1.1.left.gen), .v (.int .i64 x1.1.right.index), .v (.int .i64 x1.1.right.gen), .v (.int .i64 x1.1.size), .v (.int .i64 x1.1.sum.count.n), .v (.int .i64 x1.1.sum.count.sum), .v (.int .i64 x1.1.sum.count.low), .v (.int .i64 x1.1.sum.weight.n), .v (.int .i64 x1.1.sum.weight.sum), .v (.int .i64 x1.1.sum.weight.low), .v (.int .i64 x1.1.sum.deletes), .v (.int .i64 x1.1.sum.free), .v (.int .i64 x1.1.sum.most.key), .v (.int .i64 x1.1.sum.most.id), .v (.bool x1.1.sum.gone.found), .v (.int .i64 x1.1.sum.gone.item.key), .v (.int .i64 x1.1.sum.gone.item.id), .v (.bool x1.1.sum.least.found), .v (.int .i64 x1.1.sum.least.item.key), .v (.int .i64 x1.1.sum.least.item.id)] 133)), (109, some (blk 109 [.v (.int .i64 0), .v (.int .i64 0), .v (.int .i64 0), .v (.int .i64 0), .v (.int .i64 0), .v (.int .i64 0), .v (.int .i64 0), .v (.int .i64 0), .v (.int .i64 0), .v (.int .i64 0), .v (.bool false), .v (.int .i64 0), .v (.int .i64 0), .v (.bool false), .v (.int .i64 0), .v (.int .i64 0)] 50))] _ _
    refine G.seq ?_
    obtain ⟨x4, hx4, H0⟩ := bnd H0
    refine G.rg <| K.mv rfl rfl <| K.fieldAddr Y g0 rfl t133 rfl rfl <| K.loadS Y _ g0 rfl rfl t108 rfl rfl rfl <| K.cA (cf 80 rfl) [0] (fun β w S2 h => SCon.rdBlk (VTree_getM_con hx4 0 1) rfl h) g0 rfl rfl rfl <| K.field1 Y g0 rfl t133 rfl t3 rfl rfl <| K.as rfl rfl <| K.nil <| At.ns ?_
    obtain ⟨x5, hx5, H0⟩ := bnd H0
    refine G.rg <| K.mv rfl rfl <| K.fieldAddr Y g0 rfl t133 rfl rfl <| K.loadS Y _ g0 rfl rfl t108 rfl rfl rfl <| K.mv rfl rfl <| K.mv rfl rfl <| K.cA (cf 128 rfl) [0] (fun β w S2 h => SCon.rdBlk (ih hx5) rfl h) g0 rfl rfl rfl <| K.store Y _ g0 rfl rfl rfl t50 rfl rfl rfl rfl rfl <| K.nil <| At.next ?_
    obtain ⟨x6, H1, H0⟩ := bnd H0
    refine G.sJ (σ := { v : TSwell // x6 = v }) (fun q => [(0, .a (.c (.p 0 0))), (2, .a (.c (.v (.int .i64 a2)))), (3, .a (.c (.v (.int .i64 a3)))), (8, .a (.c (.p 110 0))), (9, .a (.c (.p 111 0))), (10, .a (.c (.p 112 0))), (11, .a (.c (.v (.int .i64 x4.1.size))))]) (fun q => [(1, pvM 1 x5.2), (0, blk 0 [.p 1 0, .v (.int .i64 ri0), .v (.int .i64 rg0)] 110), (110, blk 110 [.v (.int .i64 0), .v (.int .i64 0), .v (.int .i64 0), .v (.int .i64 0), .v (.int .i64 0), .v (.int .i64 0), .v (.int .i64 0), .v (.int .i64 0), .v (.int .i64 0), .v (.int .i64 0), .v (.bool false), .v (.int .i64 0), .v (.int .i64 0), .v (.bool false), .v (.int .i64 0), .v (.int .i64 0)] 50), (111, blk 111 [.v (.int .i64 x1.1.e.op.time), .v (.bool x1.1.e.op.insert), .v (.int .i64 x1.1.e.op.item.key), .v (.int .i64 x1.1.e.op.item.id), .v (.bool x1.1.e.here), .v (.bool x1.1.e.took.found), .v (.int .i64 x1.1.e.took.item.key), .v (.int .i64 x1.1.e.took.item.id), .v (.int .i64 x1.1.left.index), .v (.int .i64 x1.1.left.gen), .v (.int .i64 x1.1.right.index), .v (.int .i64 x1.1.right.gen), .v (.int .i64 x1.1.size), .v (.int .i64 x1.1.sum.count.n), .v (.int .i64 x1.1.sum.count.sum), .v (.int .i64 x1.1.sum.count.low), .v (.int .i64 x1.1.sum.weight.n), .v (.int .i64 x1.1.sum.weight.sum), .v (.int .i64 x1.1.sum.weight.low), .v (.int .i64 x1.1.sum.deletes), .v (.int .i64 x1.1.sum.free), .v (.int .i64 x1.1.sum.most.key), .v (.int .i64 x1.1.sum.most.id), .v (.bool x1.1.sum.gone.found), .v (.int .i64 x1.1.sum.gone.item.key), .v (.int .i64 x1.1.sum.gone.item.id), .v (.bool x1.1.sum.least.found), .v (.int .i64 x1.1.sum.least.item.key), .v (.int .i64 x1.1.sum.least.item.id)] 133), (112, blk 112 [.v (.int .i64 q.1.count.n), .v (.int .i64 q.1.count.sum), .v (.int .i64 q.1.count.low), .v (.int .i64 q.1.weight.n), .v (.int .i64 q.1.weight.sum), .v (.int .i64 q.1.weight.low), .v (.int .i64 q.1.deletes), .v (.int .i64 q.1.free), .v (.int .i64 q.1.most.key), .v (.int .i64 q.1.most.id), .v (.bool q.1.gone.found), .v (.int .i64 q.1.gone.item.key), .v (.int .i64 q.1.gone.item.id), .v (.bool q.1.least.found), .v (.int .i64 q.1.least.item.key), .v (.int .i64 q.1.least.item.id)] 50)]) ?_ ?_
    ·
     refine G.seq ?_
     rcases Bool.eq_false_or_eq_true (decide (a2 ≤ x4.1.size)) with h11 | h11
     ·
      replace H1 := bif_t H1 h11
      refine G.rg <| K.mv rfl rfl <| K.mv rfl rfl <| K.bin (V := .bool (decide (a2 ≤ x4.1.size))) g0 rfl rfl (fun _ => rfl) rfl <| K.mv rfl rfl <| K.move (.inl rfl) (g1 rfl rfl h11) rfl rfl <| K.move (.inl rfl) (g1 rfl rfl h11) rfl rfl <| K.bin (V := .bool (decide (a3 > x4.1.size))) (g1 rfl rfl h11) rfl rfl (fun _ => rfl) rfl <| K.pickT g0 rfl (h11) rfl rfl <| K.nil <| At.next <| G.cond rfl (fun h12 => ?_) (fun h12 => ?_)
      ·
       replace H1 := bif_t H1 h12
       obtain ⟨x7, hx7, H1⟩ := bnd H1
       obtain ⟨x8, hx8, H1⟩ := bnd H1
       exact G.rd mixed <| K.loadS Y _ g0 rfl rfl t50 rfl rfl rfl <| K.mkIface Y g0 rfl (mkI Tryz.underlying50 rfl) rfl <| K.fieldAddr Y g0 rfl t133 rfl rfl <| K.loadS Y _ g0 rfl rfl t46 rfl rfl rfl <| K.mkIface Y g0 rfl (mkI Tryz.underlying46 rfl) rfl <| K.callR [((.tmp 67), _)] (wave_Mark_Sum_con (k := k) hx7) (toFn_invoke (cf 197 rfl) (me46_197) rfl) g0 ⟨rfl, trivial⟩ trivial rfl rfl rfl <| K.callR [((.tmp 64), _), ((.tmp 68), _)] (wave_Swell_Plus_con (k := k) hx8) (toFn_invoke (cf 201 rfl) (me50_201) rfl) g0 ⟨rfl, rfl, trivial⟩ trivial rfl rfl rfl <| K.store Y _ g0 rfl rfl rfl t50 rfl rfl rfl rfl rfl <| K.nil <| And.intro (by kernel_rfl) <| At.jd ⟨x8, oi H1⟩ [(110, 107), (111, 108), (112, 109)] [_, _, _, _, _] rfl ⟨rfl, rfl, rfl, rfl, rfl, rfl, rfl, trivial⟩ ⟨rfl, (pool_ren rfl), rfl, (blk_ren rfl rfl), rfl, (blk_ren rfl rfl), rfl, (blk_ren rfl rfl), rfl, (blk_ren rfl rfl), trivial⟩ rfl
      ·
       replace H1 := bif_f H1 h12
       exact G.skip <| At.jd ⟨x5.1, oi H1⟩ [(110, 107), (111, 108), (112, 109)] [_, _, _, _, _] rfl ⟨rfl, rfl, rfl, rfl, rfl, rfl, rfl, trivial⟩ ⟨rfl, (pool_ren rfl), rfl, (blk_ren rfl rfl), rfl, (blk_ren rfl rfl), rfl, (blk_ren rfl rfl), rfl, (blk_ren rfl rfl), trivial⟩ rfl
     ·
      replace H1 := bif_f H1 h11
      refine G.rg <| K.mv rfl rfl <| K.mv rfl rfl <| K.bin (V := .bool (decide (a2 ≤ x4.1.size))) g0 rfl rfl (fun _ => rfl) rfl <| K.mv rfl rfl <| K.sk rfl rfl h11 rfl <| K.sk rfl rfl h11 rfl <| K.sk rfl rfl h11 rfl <| K.pickF g0 rfl (h11) rfl rfl <| K.nil <| At.next <| G.cond rfl (fun h13 => ?_) (fun h13 => ?_)
      · cases h13
      ·
       exact G.skip <| At.jd ⟨x5.1, oi H1⟩ [(110, 107), (111, 108), (112, 109)] [_, _, _, _, _] rfl ⟨rfl, rfl, rfl, rfl, rfl, rfl, rfl, trivial⟩ ⟨rfl, (pool_ren rfl), rfl, (blk_ren rfl rfl), rfl, (blk_ren rfl rfl), rfl, (blk_ren rfl rfl), rfl, (blk_ren rfl rfl), trivial⟩ rfl
    ·
     rintro ⟨_, rfl⟩
     show G _ _ [(0, .a (.c (.p 0 0))), (2, .a (.c (.v (.int .i64 a2)))), (3, .a (.c (.v (.int .i64 a3)))), (8, .a (.c (.p 110 0))), (9, .a (.c (.p 111 0))), (10, .a (.c (.p 112 0))), (11, .a (.c (.v (.int .i64 x4.1.size))))] [(1, some (pvM 1 x5.2)), (0, some (blk 0 [.p 1 0, .v (.int .i64 ri0), .v (.int .i64 rg0)] 110)), (110, some (blk 110 [.v (.int .i64 0), .v (.int .i64 0), .v (.int .i64 0), .v (.int .i64 0), .v (.int .i64 0), .v (.int .i64 0), .v (.int .i64 0), .v (.int .i64 0), .v (.int .i64 0), .v (.int .i64 0), .v (.bool false), .v (.int .i64 0), .v (.int .i64 0), .v (.bool false), .v (.int .i64 0), .v (.int .i64 0)] 50)), (111, some (blk 111 [.v (.int .i64 x1.1.e.op.time), .v (.bool x1.1.e.op.insert), .v (.int .i64 x1.1.e.op.item.key), .v (.int .i64 x1.1.e.op.item.id), .v (.bool x1.1.e.here), .v (.bool x1.1.e.took.found), .v (.int .i64 x1.1.e.took.item.key), .v (.int .i64 x1.1.e.took.item.id), .v (.int .i64 x1.1.left.index), .v (.int .i64 x1.1.left.gen), .v (.int .i64 x1.1.right.index), .v (.int .i64 x1.1.right.gen), .v (.int .i64 x1.1.size), .v (.int .i64 x1.1.sum.count.n), .v (.int .i64 x1.1.sum.count.sum), .v (.int .i64 x1.1.sum.count.low), .v (.int .i64 x1.1.sum.weight.n), .v (.int .i64 x1.1.sum.weight.sum), .v (.int .i64 x1.1.sum.weight.low), .v (.int .i64 x1.1.sum.deletes), .v (.int .i64 x1.1.sum.free), .v (.int .i64 x1.1.sum.most.key), .v (.int .i64 x1.1.sum.most.id), .v (.bool x1.1.sum.gone.found), .v (.int .i64 x1.1.sum.gone.item.key), .v (.int .i64 x1.1.sum.gone.item.id), .v (.bool x1.1.sum.least.found), .v (.int .i64 x1.1.sum.least.item.key), .v (.int .i64 x1.1.sum.least.item.id)] 133)), (112, some (blk 112 [.v (.int .i64 x6.count.n), .v (.int .i64 x6.count.sum), .v (.int .i64 x6.count.low), .v (.int .i64 x6.weight.n), .v (.int .i64 x6.weight.sum), .v (.int .i64 x6.weight.low), .v (.int .i64 x6.deletes), .v (.int .i64 x6.free), .v (.int .i64 x6.most.key), .v (.int .i64 x6.most.id), .v (.bool x6.gone.found), .v (.int .i64 x6.gone.item.key), .v (.int .i64 x6.gone.item.id), .v (.bool x6.least.found), .v (.int .i64 x6.least.item.key), .v (.int .i64 x6.least.item.id)] 50))] _ _
     refine G.seq ?_
     obtain ⟨x9, hx9, H0⟩ := bnd H0
     obtain ⟨x10, hx10, H0⟩ := bnd H0
     refine G.rd mixed <| K.loadS Y _ g0 rfl rfl t50 rfl rfl rfl <| K.mkIface Y g0 rfl (mkI Tryz.underlying50 rfl) rfl <| K.mv rfl rfl <| K.fieldAddr Y g0 rfl t133 rfl rfl <| K.loadS Y _ g0 rfl rfl t108 rfl rfl rfl <| K.mv rfl rfl <| K.mv rfl rfl <| K.bin (V := .int .i64 (w64 (a2 - x4.1.size))) g0 rfl rfl (fun _ => rfl) rfl <| K.bin (V := .int .i64 (w64 ((w64 (a2 - x4.1.size)) - 1))) g0 rfl rfl (fun _ => rfl) rfl <| K.mv rfl rfl <| K.mv rfl rfl <| K.bin (V := .int .i64 (w64 (a3 - x4.1.size))) g0 rfl rfl (fun _ => rfl) rfl <| K.bin (V := .int .i64 (w64 ((w64 (a3 - x4.1.size)) - 1))) g0 rfl rfl (fun _ => rfl) rfl <| K.cA (cf 128 rfl) [0] (fun β w S2 h => SCon.rdBlk (ih hx9) rfl h) g0 rfl rfl rfl <| K.callR [((.tmp 71), _), ((.tmp 83), _)] (wave_Swell_Plus_con (k := k) hx10) (toFn_invoke (cf 201 rfl) (me50_201) rfl) g0 ⟨rfl, rfl, trivial⟩ trivial rfl rfl rfl <| K.store Y _ g0 rfl rfl rfl t50 rfl rfl rfl rfl rfl <| K.nil <| And.intro (by kernel_rfl) <| At.next <| G.ret <| At.done Y [(.cell 8 50, .agg [_, _, _, _, _, _, _, _, _, _, _, _, _, _, _, _])] rfl ⟨.st rfl rfl t50 rfl rfl, trivial⟩ (to' := [(0, _), (1, _)]) ⟨rfl, rfl, trivial⟩ ?_ ?_ rfl rfl rfl (.inl rfl)
     · cases H0; rfl
     · cases H0; rfl
theorem VTree_betweenM_con {k n : Nat}  {p1 : Pool (TNode TMark TSwell)} {a1 : TRef} {a2 : Int} {a3 : Int} {ri0 rg0 : Int} {r : TSwell × Pool (TNode TMark TSwell)}  (H0 : VTree_between.r opsM k n p1 a1 a2 a3 = some r) (m0 m1 : Nat) : VTree_betweenM_st p1 a1 a2 a3 ri0 rg0 r m0 m1 :=
 SCon.ren (rn [(0, m0), (1, m1)]) (VTree_betweenM_con0 (k := k)   H0) ⟨(blk_ren rfl rfl), (pool_ren rfl), trivial⟩ ⟨(blk_ren rfl rfl), (pool_ren rfl), trivial⟩ (by simp) (by simp)
abbrev VTree_BetweenM_st (p1 : Pool (TNode TMark TSwell)) (rt0 : TRef) (a1 : Int) (a2 : Int) (r : TSwell × Pool (TNode TMark TSwell)) (m0 : Nat) (m1 : Nat) : Prop := SCon Tryz.prog 102 [SV.p m0 0, .a (.c (.v (.int .i64 a1))), .a (.c (.v (.int .i64 a2)))] [(m0, blk m0 [.p m1 0, .i rt0.index, .i rt0.gen] 110), (m1, pvM m1 p1)] (.a (.agg ((eTSwell r.1).map .v))) [(m0, blk m0 [.p m1 0, .i rt0.index, .i rt0.gen] 110), (m1, pvM m1 r.2)] []
theorem VTree_BetweenM_con0 {k : Nat}  {p1 : Pool (TNode TMark TSwell)} {rt0 : TRef} {a1 : Int} {a2 : Int} {r : TSwell × Pool (TNode TMark TSwell)}  (H0 : VTree_Between.f opsM k p1 rt0 a1 a2 = some r) : VTree_BetweenM_st p1 rt0 a1 a2 r 0 1 := by
 rw [VTree_Between.f] at H0
 refine spec_of [(0, _), (1, _), (2, _)] [(0, _), (1, _)] 24 Tryz.func102 rfl Tryz.ntmps102 rfl rfl rfl rfl (fun β W F => ?_)
 refine G.seq <| G.rg <| K.alloc Y 100 _ g0 t50 rfl rfl rfl rfl rfl <| K.nil <| At.ns ?_
 obtain ⟨x1, hx1, H0⟩ := bnd H0
 refine G.rg <| K.mv rfl rfl <| K.cA (cf 34 rfl) [0] (fun β w S2 h => SCon.rdBlk (VTree_LenM_con hx1 0 1) rfl h) g0 rfl rfl rfl <| K.as rfl rfl <| K.nil <| At.ns ?_
 obtain ⟨x2, hx2, H0⟩ := bnd H0
 refine G.rg <| K.mv rfl rfl <| K.mv rfl rfl <| K.nilCheck g0 rfl rfl <| K.fieldAddr Y g0 rfl t110 rfl rfl <| K.loadS Y _ g0 rfl rfl t108 rfl rfl rfl <| K.mv rfl rfl <| K.bi2 (V := .int .i64 (gmax a1 0)) g0 rfl rfl (fun _ _ => rfl) rfl <| K.mv rfl rfl <| K.bi2 (V := .int .i64 (gmin (gmax a1 0) x1.1)) g0 rfl rfl (fun _ _ => rfl) rfl <| K.mv rfl rfl <| K.bi2 (V := .int .i64 (gmax a2 0)) g0 rfl rfl (fun _ _ => rfl) rfl <| K.mv rfl rfl <| K.bi2 (V := .int .i64 (gmin (gmax a2 0) x1.1)) g0 rfl rfl (fun _ _ => rfl) rfl <| K.cA (cf 128 rfl) [0] (fun β w S2 h => SCon.rdBlk (VTree_betweenM_con hx2 0 1) rfl h) g0 rfl rfl rfl <| K.store Y _ g0 rfl rfl rfl t50 rfl rfl rfl rfl rfl <| K.nil <| At.next <| G.ret <| At.done Y [(.cell 6 50, .agg [_, _, _, _, _, _, _, _, _, _, _, _, _, _, _, _])] rfl ⟨.st rfl rfl t50 rfl rfl, trivial⟩ (to' := [(0, _), (1, _)]) ⟨rfl, rfl, trivial⟩ ?_ ?_ rfl rfl rfl (.inl rfl)
 · cases H0; rfl
 · cases H0; rfl
theorem VTree_BetweenM_con {k : Nat}  {p1 : Pool (TNode TMark TSwell)} {rt0 : TRef} {a1 : Int} {a2 : Int} {r : TSwell × Pool (TNode TMark TSwell)}  (H0 : VTree_Between.f opsM k p1 rt0 a1 a2 = some r) (m0 m1 : Nat) : VTree_BetweenM_st p1 rt0 a1 a2 r m0 m1 :=
 SCon.ren (rn [(0, m0), (1, m1)]) (VTree_BetweenM_con0 (k := k)   H0) ⟨(blk_ren rfl rfl), (pool_ren rfl), trivial⟩ ⟨(blk_ren rfl rfl), (pool_ren rfl), trivial⟩ (by simp) (by simp)
abbrev Vbridge_Best_st (p1 : Pool (TNode TMark TSwell)) (rt0 : TRef) (a1 : Int) (r : TTook × Pool (TNode TMark TSwell)) (m0 : Nat) (m1 : Nat) : Prop := SCon Tryz.prog 71 [SV.p m0 0, .a (.c (.v (.int .i64 a1)))] [(m0, blk m0 [.p m1 0, .i rt0.index, .i rt0.gen] 110), (m1, pvM m1 p1)] (.a (.agg ((eTTook r.1).map .v))) [(m0, blk m0 [.p m1 0, .i rt0.index, .i rt0.gen] 110), (m1, pvM m1 r.2)] []
theorem Vbridge_Best_con0 {k : Nat}  {p1 : Pool (TNode TMark TSwell)} {rt0 : TRef} {a1 : Int} {r : TTook × Pool (TNode TMark TSwell)}  (H0 : Vbridge_Best.f k p1 rt0 a1 = some r) : Vbridge_Best_st p1 rt0 a1 r 0 1 := by
 rw [Vbridge_Best.f] at H0
 refine spec_of [(0, _), (1, _)] [(0, _), (1, _)] 13 Tryz.func71 rfl Tryz.ntmps71 rfl rfl rfl rfl (fun β W F => ?_)
 refine G.seq <| G.rg <| K.alloc Y 100 _ g0 t44 rfl rfl rfl rfl rfl <| K.nil <| At.ns ?_
 obtain ⟨x1, hx1, H0⟩ := bnd H0
 obtain ⟨x2, hx2, H0⟩ := bnd H0
 obtain ⟨x3, hx3, H0⟩ := bnd H0
 refine G.rg <| K.mv rfl rfl <| K.mv rfl rfl <| K.mv rfl rfl <| K.cA (cf 98 rfl) [0] (fun β w S2 h => SCon.rdBlk (Vbridge_clamp_con hx1 0 1) rfl h) g0 rfl rfl rfl <| K.mv rfl rfl <| K.cA (cf 34 rfl) [0] (fun β w S2 h => SCon.rdBlk (VTree_LenM_con hx2 0 1) rfl h) g0 rfl rfl rfl <| K.cA (cf 102 rfl) [0] (fun β w S2 h => SCon.rdBlk (VTree_BetweenM_con hx3 0 1) rfl h) g0 rfl rfl rfl <| K.fieldS Y _ g0 rfl t50 rfl t44 rfl rfl <| K.store Y _ g0 rfl rfl rfl t44 rfl rfl rfl rfl rfl <| K.nil <| At.next <| G.ret <| At.done Y [(.cell 4 44, .agg [_, _, _])] rfl ⟨.st rfl rfl t44 rfl rfl, trivial⟩ (to' := [(0, _), (1, _)]) ⟨rfl, rfl, trivial⟩ ?_ ?_ rfl rfl rfl (.inl rfl)
 · cases H0; rfl
 · cases H0; rfl
theorem Vbridge_Best_con {k : Nat}  {p1 : Pool (TNode TMark TSwell)} {rt0 : TRef} {a1 : Int} {r : TTook × Pool (TNode TMark TSwell)}  (H0 : Vbridge_Best.f k p1 rt0 a1 = some r) (m0 m1 : Nat) : Vbridge_Best_st p1 rt0 a1 r m0 m1 :=
 SCon.ren (rn [(0, m0), (1, m1)]) (Vbridge_Best_con0 (k := k)   H0) ⟨(blk_ren rfl rfl), (pool_ren rfl), trivial⟩ ⟨(blk_ren rfl rfl), (pool_ren rfl), trivial⟩ (by simp) (by simp)
abbrev VTree_lastS_st (p1 : Pool (TNode TSlot TSize)) (a1 : TRef) (ri0 : Int) (rg0 : Int) (r : TRef × TRef × Pool (TNode TSlot TSize)) (m0 : Nat) (m1 : Nat) : Prop := SCon Tryz.prog 150 [SV.p m0 0, .a (.agg ((eTRef a1).map .v))] [(m0, blk m0 [.p m1 0, .i ri0, .i rg0] 131), (m1, pvS m1 p1)] (.tup [.agg ((eTRef r.1).map .v), .agg ((eTRef r.2.1).map .v)]) [(m0, blk m0 [.p m1 0, .i ri0, .i rg0] 131), (m1, pvS m1 r.2.2)] []
theorem VTree_lastS_con0 {k : Nat}  : ∀ {n : Nat} {p1 : Pool (TNode TSlot TSize)} {a1 : TRef} {ri0 rg0 : Int} {r : TRef × TRef × Pool (TNode TSlot TSize)}  (H0 : VTree_last.r opsS k n p1 a1 = some r), VTree_lastS_st p1 a1 ri0 rg0 r 0 1 := by
 intro n
 induction n with
 | zero => intro p1 a1 ri0 rg0 r H0; exact absurd H0 (by simp [VTree_last.r])
 | succ n ih =>
  intro p1 a1 ri0 rg0 r H0
  rw [VTree_last.r] at H0
  refine spec_of [(0, _), (1, _)] [(0, _), (1, _)] 33 Tryz.func150 rfl Tryz.ntmps150 rfl rfl rfl rfl (fun β W F => ?_)
  refine G.seq <| G.rg <| K.box Y 100 _ g0 rfl rfl rfl rfl rfl rfl <| K.alloc Y 101 _ g0 t108 rfl rfl rfl rfl rfl <| K.alloc Y 102 _ g0 t108 rfl rfl rfl rfl rfl <| K.nil <| At.ns ?_
  obtain ⟨x1, hx1, H0⟩ := bnd H0
  refine G.rg <| K.mv rfl rfl <| K.loadS Y _ g0 rfl rfl t108 rfl rfl rfl <| K.cA (cf 79 rfl) [0] (fun β w S2 h => SCon.rdBlk (VTree_getS_con hx1 0 1) rfl h) g0 rfl rfl rfl <| K.alloc Y 103 _ g0 t127 rfl rfl rfl rfl rfl <| K.store Y _ g0 rfl rfl rfl t127 rfl rfl rfl rfl rfl <| K.nil <| At.ns <| G.seq <| G.rg <| K.fieldAddr Y g0 rfl t127 rfl rfl <| K.fieldAddr Y g0 rfl t108 rfl rfl <| K.load1 Y g0 rfl rfl t3 rfl rfl <| K.bin (V := .bool (x1.1.right.gen == 0)) g0 rfl rfl (fun _ => rfl) rfl <| K.nil <| At.next <| G.cond rfl (fun h1 => ?_) (fun h1 => ?_)
  ·
   replace H0 := bif_t H0 h1
   refine G.seq <| G.rd mixed <| K.fieldAddr Y g0 rfl t127 rfl rfl <| K.loadS Y _ g0 rfl rfl t108 rfl rfl rfl <| K.loadS Y _ g0 rfl rfl t108 rfl rfl rfl <| K.store Y _ g0 rfl rfl rfl t108 rfl rfl rfl rfl rfl <| K.store Y _ g0 rfl rfl rfl t108 rfl rfl rfl rfl rfl <| K.nil <| And.intro (by kernel_rfl) <| At.next <| G.ret <| At.over_ret <| At.done Y [(.cell 4 108, .agg [_, _]), (.cell 5 108, .agg [_, _])] rfl ⟨.st rfl rfl t108 rfl rfl, .st rfl rfl t108 rfl rfl, trivial⟩ (to' := [(0, _), (1, _)]) ⟨rfl, rfl, trivial⟩ ?_ ?_ rfl rfl rfl (.inl rfl)
   · cases H0; rfl
   · cases H0; rfl
  ·
   replace H0 := bif_f H0 h1
   refine G.skip <| At.ns ?_
   obtain ⟨x2, hx2, H0⟩ := bnd H0
   refine G.rg <| K.mv rfl rfl <| K.fieldAddr Y g0 rfl t127 rfl rfl <| K.loadS Y _ g0 rfl rfl t108 rfl rfl rfl <| K.cA (cf 150 rfl) [0] (fun β w S2 h => SCon.rdBlk (ih hx2) rfl h) g0 rfl rfl rfl <| K.mv rfl rfl <| K.extract g0 rfl rfl rfl <| K.extract g0 rfl rfl rfl <| K.alloc Y 104 _ g0 t108 rfl rfl rfl rfl rfl <| K.alloc Y 105 _ g0 t108 rfl rfl rfl rfl rfl <| K.store Y _ g0 rfl rfl rfl t108 rfl rfl rfl rfl rfl <| K.store Y _ g0 rfl rfl rfl t108 rfl rfl rfl rfl rfl <| K.nil <| At.ns ?_
   obtain ⟨x3, hx3, H0⟩ := bnd H0
   refine G.rd mixed <| K.mv rfl rfl <| K.fieldAddr Y g0 rfl t127 rfl rfl <| K.loadS Y _ g0 rfl rfl t108 rfl rfl rfl <| K.loadS Y _ g0 rfl rfl t108 rfl rfl rfl <| K.loadS Y _ g0 rfl rfl t108 rfl rfl rfl <| K.cA (cf 121 rfl) [0] (fun β w S2 h => SCon.rdBlk (VTree_linkS_con hx3 0 1) rfl h) g0 rfl rfl rfl <| K.loadS Y _ g0 rfl rfl t108 rfl rfl rfl <| K.store Y _ g0 rfl rfl rfl t108 rfl rfl rfl rfl rfl <| K.store Y _ g0 rfl rfl rfl t108 rfl rfl rfl rfl rfl <| K.nil <| And.intro (by kernel_rfl) <| At.next <| G.ret <| At.done Y [(.cell 4 108, .agg [_, _]), (.cell 5 108, .agg [_, _])] rfl ⟨.st rfl rfl t108 rfl rfl, .st rfl rfl t108 rfl rfl, trivial⟩ (to' := [(0, _), (1, _)]) ⟨rfl, rfl, trivial⟩ ?_ ?_ rfl rfl rfl (.inl rfl)
   · cases H0; rfl
   · cases H0; rfl
theorem VTree_lastS_con {k n : Nat}  {p1 : Pool (TNode TSlot TSize)} {a1 : TRef} {ri0 rg0 : Int} {r : TRef × TRef × Pool (TNode TSlot TSize)}  (H0 : VTree_last.r opsS k n p1 a1 = some r) (m0 m1 : Nat) : VTree_lastS_st p1 a1 ri0 rg0 r m0 m1 :=
 SCon.ren (rn [(0, m0), (1, m1)]) (VTree_lastS_con0 (k := k)   H0) ⟨(blk_ren rfl rfl), (pool_ren rfl), trivial⟩ ⟨(blk_ren rfl rfl), (pool_ren rfl), trivial⟩ (by simp) (by simp)
abbrev VTree_mergeS_st (p1 : Pool (TNode TSlot TSize)) (a1 : TRef) (a2 : TRef) (ri0 : Int) (rg0 : Int) (r : TRef × Pool (TNode TSlot TSize)) (m0 : Nat) (m1 : Nat) : Prop := SCon Tryz.prog 134 [SV.p m0 0, .a (.agg ((eTRef a1).map .v)), .a (.agg ((eTRef a2).map .v))] [(m0, blk m0 [.p m1 0, .i ri0, .i rg0] 131), (m1, pvS m1 p1)] (.a (.agg ((eTRef r.1).map .v))) [(m0, blk m0 [.p m1 0, .i ri0, .i rg0] 131), (m1, pvS m1 r.2)] []
theorem VTree_mergeS_con0 {k : Nat}  {p1 : Pool (TNode TSlot TSize)} {a1 : TRef} {a2 : TRef} {ri0 rg0 : Int} {r : TRef × Pool (TNode TSlot TSize)}  (H0 : VTree_merge.f opsS k p1 a1 a2 = some r) : VTree_mergeS_st p1 a1 a2 ri0 rg0 r 0 1 := by
 rw [VTree_merge.f] at H0
 refine spec_of [(0, _), (1, _), (2, _)] [(0, _), (1, _)] 30 Tryz.func134 rfl Tryz.ntmps134 rfl rfl rfl rfl (fun β W F => ?_)
 refine G.seq <| G.rg <| K.box Y 100 _ g0 rfl rfl rfl rfl rfl rfl <| K.box Y 101 _ g0 rfl rfl rfl rfl rfl rfl <| K.alloc Y 102 _ g0 t108 rfl rfl rfl rfl rfl <| K.nil <| At.ns <| G.block <| G.seq <| G.rg <| K.fieldAddr Y g0 rfl t108 rfl rfl <| K.load1 Y g0 rfl rfl t3 rfl rfl <| K.bin (V := .bool (a1.gen == 0)) g0 rfl rfl (fun _ => rfl) rfl <| K.as rfl rfl <| K.nil <| At.next <| G.cond rfl (fun h1 => ?_) (fun h1 => ?_)
 ·
  replace H0 := bif_t H0 h1
  refine G.seq <| G.rg <| K.loadS Y _ g0 rfl rfl t108 rfl rfl rfl <| K.store Y _ g0 rfl rfl rfl t108 rfl rfl rfl rfl rfl <| K.nil <| At.next <| G.ret <| At.block_ret <| At.over_ret <| At.done Y [(.cell 6 108, .agg [_, _])] rfl ⟨.st rfl rfl t108 rfl rfl, trivial⟩ (to' := [(0, _), (1, _)]) ⟨rfl, rfl, trivial⟩ ?_ ?_ rfl rfl rfl (.inl rfl)
  · cases H0; rfl
  · cases H0; rfl
 ·
  replace H0 := bif_f H0 h1
  refine G.seq <| G.rg <| K.fieldAddr Y g0 rfl t108 rfl rfl <| K.load1 Y g0 rfl rfl t3 rfl rfl <| K.bin (V := .bool (a2.gen == 0)) g0 rfl rfl (fun _ => rfl) rfl <| K.as rfl rfl <| K.nil <| At.next <| G.cond rfl (fun h2 => ?_) (fun h2 => ?_)
  ·
   replace H0 := bif_t H0 h2
   refine G.seq <| G.rg <| K.loadS Y _ g0 rfl rfl t108 rfl rfl rfl <| K.store Y _ g0 rfl rfl rfl t108 rfl rfl rfl rfl rfl <| K.nil <| At.next <| G.ret <| At.block_ret <| At.over_ret <| At.done Y [(.cell 6 108, .agg [_, _])] rfl ⟨.st rfl rfl t108 rfl rfl, trivial⟩ (to' := [(0, _), (1, _)]) ⟨rfl, rfl, trivial⟩ ?_ ?_ rfl rfl rfl (.inl rfl)
   · cases H0; rfl
   · cases H0; rfl
  ·
   replace H0 := bif_f H0 h2
   refine G.skip <| At.block_normal <| At.ns ?_
   obtain ⟨x1, hx1, H0⟩ := bnd H0
   refine G.rg <| K.mv rfl rfl <| K.loadS Y _ g0 rfl rfl t108 rfl rfl rfl <| K.cA (cf 150 rfl) [0] (fun β w S2 h => SCon.rdBlk (VTree_lastS_con hx1 0 1) rfl h) g0 rfl rfl rfl <| K.mv rfl rfl <| K.extract g0 rfl rfl rfl <| K.extract g0 rfl rfl rfl <| K.alloc Y 103 _ g0 t108 rfl rfl rfl rfl rfl <| K.alloc Y 104 _ g0 t108 rfl rfl rfl rfl rfl <| K.store Y _ g0 rfl rfl rfl t108 rfl rfl rfl rfl rfl <| K.store Y _ g0 rfl rfl rfl t108 rfl rfl rfl rfl rfl <| K.nil <| At.ns ?_
   obtain ⟨x2, hx2, H0⟩ := bnd H0
   refine G.rg <| K.mv rfl rfl <| K.loadS Y _ g0 rfl rfl t108 rfl rfl rfl <| K.loadS Y _ g0 rfl rfl t108 rfl rfl rfl <| K.loadS Y _ g0 rfl rfl t108 rfl rfl rfl <| K.cA (cf 121 rfl) [0] (fun β w S2 h => SCon.rdBlk (VTree_linkS_con hx2 0 1) rfl h) g0 rfl rfl rfl <| K.store Y _ g0 rfl rfl rfl t108 rfl rfl rfl rfl rfl <| K.nil <| At.next <| G.ret <| At.done Y [(.cell 6 108, .agg [_, _])] rfl ⟨.st rfl rfl t108 rfl rfl, trivial⟩ (to' := [(0, _), (1, _)]) ⟨rfl, rfl, trivial⟩ ?_ ?_ rfl rfl rfl (.inl rfl)
   · cases H0; rfl
   · cases H0; rfl
theorem VTree_mergeS_con {k : Nat}  {p1 : Pool (TNode TSlot TSize)} {a1 : TRef} {a2 : TRef} {ri0 rg0 : Int} {r : TRef × Pool (TNode TSlot TSize)}  (H0 : VTree_merge.f opsS k p1 a1 a2 = some r) (m0 m1 : Nat) : VTree_mergeS_st p1 a1 a2 ri0 rg0 r m0 m1 :=
 SCon.ren (rn [(0, m0), (1, m1)]) (VTree_mergeS_con0 (k := k)   H0) ⟨(blk_ren rfl rfl), (pool_ren rfl), trivial⟩ ⟨(blk_ren rfl rfl), (pool_ren rfl), trivial⟩ (by simp) (by simp)
abbrev VTree_dropS_st (p1 : Pool (TNode TSlot TSize)) (a1 : TRef) (a2 : TSlot) (ri0 : Int) (rg0 : Int) (r : TRef × TSlot × Bool × Pool (TNode TSlot TSize)) (m0 : Nat) (m1 : Nat) : Prop := SCon Tryz.prog 106 [SV.p m0 0, .a (.agg ((eTRef a1).map .v)), .a (.agg ((eTSlot a2).map .v))] [(m0, blk m0 [.p m1 0, .i ri0, .i rg0] 131), (m1, pvS m1 p1)] (.tup [.agg ((eTRef r.1).map .v), .agg ((eTSlot r.2.1).map .v), .c (.v (.bool r.2.2.1))]) [(m0, blk m0 [.p m1 0, .i ri0, .i rg0] 131), (m1, pvS m1 r.2.2.2)] []
set_option maxHeartbeats 4000000 in
theorem VTree_dropS_con0 {k : Nat}  : ∀ {n : Nat} {p1 : Pool (TNode TSlot TSize)} {a1 : TRef} {a2 : TSlot} {ri0 rg0 : Int} {r : TRef × TSlot × Bool × Pool (TNode TSlot TSize)}  (H0 : VTree_drop.r opsS k n p1 a1 a2 = some r), VTree_dropS_st p1 a1 a2 ri0 rg0 r 0 1 := by
 intro n
 induction n with
 | zero => intro p1 a1 a2 ri0 rg0 r H0; exact absurd H0 (by simp [VTree_drop.r])
 | succ n ih =>
  intro p1 a1 a2 ri0 rg0 r H0
  rw [VTree_drop.r] at H0
  refine spec_of [(0, _), (1, _), (2, _)] [(0, _), (1, _)] 91 Tryz.func106 rfl Tryz.ntmps106 rfl rfl rfl rfl (fun β W F => ?_)
  refine G.seq <| G.rg <| K.box Y 100 _ g0 rfl rfl rfl rfl rfl rfl <| K.box Y 101 _ g0 rfl rfl rfl rfl rfl rfl <| K.alloc Y 102 _ g0 t108 rfl rfl rfl rfl rfl <| K.alloc Y 103 _ g0 t66 rfl rfl rfl rfl rfl <| K.as rfl rfl <| K.nil <| At.ns <| G.seq <| G.rg <| K.fieldAddr Y g0 rfl t108 rfl rfl <| K.load1 Y g0 rfl rfl t3 rfl rfl <| K.bin (V := .bool (a1.gen == 0)) g0 rfl rfl (fun _ => rfl) rfl <| K.nil <| At.next <| G.cond rfl (fun h1 => ?_) (fun h1 => ?_)
  ·
   replace H0 := bif_t H0 h1
   refine G.seq <| G.rg <| K.alloc Y 104 _ g0 t66 rfl rfl rfl rfl rfl <| K.nil <| At.ns <| G.rd mixed <| K.loadS Y _ g0 rfl rfl t108 rfl rfl rfl <| K.loadS Y _ g0 rfl rfl t66 rfl rfl rfl <| K.store Y _ g0 rfl rfl rfl t108 rfl rfl rfl rfl rfl <| K.store Y _ g0 rfl rfl rfl t66 rfl rfl rfl rfl rfl <| K.as rfl rfl <| K.nil <| And.intro (by kernel_rfl) <| At.next <| G.ret <| At.over_ret <| At.done Y [(.cell 6 108, .agg [_, _]), (.cell 7 66, .agg [_, _, _, _]), (.tmp 8, .c _)] rfl ⟨.st rfl rfl t108 rfl rfl, .st rfl rfl t66 rfl rfl, .tmp rfl, trivial⟩ (to' := [(0, _), (1, _)]) ⟨rfl, rfl, trivial⟩ ?_ ?_ rfl rfl rfl (.inl rfl)
   · cases H0; rfl
   · cases H0; rfl
  ·
   replace H0 := bif_f H0 h1
   refine G.skip <| At.ns ?_
   obtain ⟨x1, hx1, H0⟩ := bnd H0
   refine G.rg <| K.mv rfl rfl <| K.loadS Y _ g0 rfl rfl t108 rfl rfl rfl <| K.cA (cf 79 rfl) [0] (fun β w S2 h => SCon.rdBlk (VTree_getS_con hx1 0 1) rfl h) g0 rfl rfl rfl <| K.alloc Y 105 _ g0 t127 rfl rfl rfl rfl rfl <| K.store Y _ g0 rfl rfl rfl t127 rfl rfl rfl rfl rfl <| K.nil <| At.ns ?_
   obtain ⟨x2, hx2, H0⟩ := bnd H0
   refine G.rg <| K.loadS Y _ g0 rfl rfl t66 rfl rfl rfl <| K.mkIface Y g0 rfl (mkI Tryz.underlying66 rfl) rfl <| K.fieldAddr Y g0 rfl t127 rfl rfl <| K.loadS Y _ g0 rfl rfl t66 rfl rfl rfl <| K.callR [((.tmp 27), _), ((.tmp 29), _)] (shelf_Slot_Compare_con (k := k) hx2) (toFn_invoke (cf 212 rfl) (me66_212) rfl) g0 ⟨rfl, rfl, trivial⟩ trivial rfl rfl rfl <| K.as rfl rfl <| K.nil <| At.ns <| G.block <| G.seq <| G.rg <| K.mv rfl rfl <| K.bin (V := .bool (decide (x2 < 0))) g0 rfl rfl (fun _ => rfl) rfl <| K.as rfl rfl <| K.nil <| At.next <| G.cond rfl (fun h2 => ?_) (fun h2 => ?_)
   ·
    replace H0 := bif_t H0 h2
    refine G.seq ?_
    obtain ⟨x3, hx3, H0⟩ := bnd H0
    refine G.rg <| K.mv rfl rfl <| K.fieldAddr Y g0 rfl t127 rfl rfl <| K.loadS Y _ g0 rfl rfl t108 rfl rfl rfl <| K.loadS Y _ g0 rfl rfl t66 rfl rfl rfl <| K.cA (cf 106 rfl) [0] (fun β w S2 h => SCon.rdBlk (ih hx3) rfl h) g0 rfl rfl rfl <| K.mv rfl rfl <| K.extract g0 rfl rfl rfl <| K.extract g0 rfl rfl rfl <| K.extract g0 rfl rfl rfl <| K.alloc Y 106 _ g0 t108 rfl rfl rfl rfl rfl <| K.alloc Y 107 _ g0 t66 rfl rfl rfl rfl rfl <| K.store Y _ g0 rfl rfl rfl t108 rfl rfl rfl rfl rfl <| K.store Y _ g0 rfl rfl rfl t66 rfl rfl rfl rfl rfl <| K.as rfl rfl <| K.nil <| At.ns <| G.seq <| G.rg <| K.mv rfl rfl <| K.un (V := .bool (!x3.2.2.1)) g0 rfl (fun _ => rfl) rfl <| K.nil <| At.next <| G.cond rfl (fun h3 => ?_) (fun h3 => ?_)
    ·
     replace H0 := bif_t H0 h3
     refine G.seq <| G.rd mixed <| K.loadS Y _ g0 rfl rfl t108 rfl rfl rfl <| K.loadS Y _ g0 rfl rfl t66 rfl rfl rfl <| K.store Y _ g0 rfl rfl rfl t108 rfl rfl rfl rfl rfl <| K.store Y _ g0 rfl rfl rfl t66 rfl rfl rfl rfl rfl <| K.as rfl rfl <| K.nil <| And.intro (by kernel_rfl) <| At.next <| G.ret <| At.over_ret <| At.block_ret <| At.over_ret <| At.done Y [(.cell 6 108, .agg [_, _]), (.cell 7 66, .agg [_, _, _, _]), (.tmp 8, .c _)] rfl ⟨.st rfl rfl t108 rfl rfl, .st rfl rfl t66 rfl rfl, .tmp rfl, trivial⟩ (to' := [(0, _), (1, _)]) ⟨rfl, rfl, trivial⟩ ?_ ?_ rfl rfl rfl (.inl rfl)
     · cases H0; rfl
     · cases H0; rfl
    ·
     replace H0 := bif_f H0 h3
     refine G.skip <| At.ns ?_
     obtain ⟨x4, hx4, H0⟩ := bnd H0
     refine G.rd mixed <| K.mv rfl rfl <| K.loadS Y _ g0 rfl rfl t108 rfl rfl rfl <| K.loadS Y _ g0 rfl rfl t108 rfl rfl rfl <| K.fieldAddr Y g0 rfl t127 rfl rfl <| K.loadS Y _ g0 rfl rfl t108 rfl rfl rfl <| K.cA (cf 121 rfl) [0] (fun β w S2 h => SCon.rdBlk (VTree_linkS_con hx4 0 1) rfl h) g0 rfl rfl rfl <| K.loadS Y _ g0 rfl rfl t66 rfl rfl rfl <| K.store Y _ g0 rfl rfl rfl t108 rfl rfl rfl rfl rfl <| K.store Y _ g0 rfl rfl rfl t66 rfl rfl rfl rfl rfl <| K.as rfl rfl <| K.nil <| And.intro (by kernel_rfl) <| At.next <| G.ret <| At.block_ret <| At.over_ret <| At.done Y [(.cell 6 108, .agg [_, _]), (.cell 7 66, .agg [_, _, _, _]), (.tmp 8, .c _)] rfl ⟨.st rfl rfl t108 rfl rfl, .st rfl rfl t66 rfl rfl, .tmp rfl, trivial⟩ (to' := [(0, _), (1, _)]) ⟨rfl, rfl, trivial⟩ ?_ ?_ rfl rfl rfl (.inl rfl)
     · cases H0; rfl
     · cases H0; rfl
   ·
    replace H0 := bif_f H0 h2
    refine G.seq <| G.rg <| K.mv rfl rfl <| K.bin (V := .bool (decide (x2 > 0))) g0 rfl rfl (fun _ => rfl) rfl <| K.as rfl rfl <| K.nil <| At.next <| G.cond rfl (fun h4 => ?_) (fun h4 => ?_)
    ·
     replace H0 := bif_t H0 h4
     refine G.seq ?_
     obtain ⟨x5, hx5, H0⟩ := bnd H0
     refine G.rg <| K.mv rfl rfl <| K.fieldAddr Y g0 rfl t127 rfl rfl <| K.loadS Y _ g0 rfl rfl t108 rfl rfl rfl <| K.loadS Y _ g0 rfl rfl t66 rfl rfl rfl <| K.cA (cf 106 rfl) [0] (fun β w S2 h => SCon.rdBlk (ih hx5) rfl h) g0 rfl rfl rfl <| K.mv rfl rfl <| K.extract g0 rfl rfl rfl <| K.extract g0 rfl rfl rfl <| K.extract g0 rfl rfl rfl <| K.alloc Y 108 _ g0 t108 rfl rfl rfl rfl rfl <| K.alloc Y 109 _ g0 t66 rfl rfl rfl rfl rfl <| K.store Y _ g0 rfl rfl rfl t108 rfl rfl rfl rfl rfl <| K.store Y _ g0 rfl rfl rfl t66 rfl rfl rfl rfl rfl <| K.as rfl rfl <| K.nil <| At.ns <| G.seq <| G.rg <| K.mv rfl rfl <| K.un (V := .bool (!x5.2.2.1)) g0 rfl (fun _ => rfl) rfl <| K.nil <| At.next <| G.cond rfl (fun h5 => ?_) (fun h5 => ?_)
     ·
      replace H0 := bif_t H0 h5
      refine G.seq <| G.rd mixed <| K.loadS Y _ g0 rfl rfl t108 rfl rfl rfl <| K.loadS Y _ g0 rfl rfl t66 rfl rfl rfl <| K.store Y _ g0 rfl rfl rfl t108 rfl rfl rfl rfl rfl <| K.store Y _ g0 rfl rfl rfl t66 rfl rfl rfl rfl rfl <| K.as rfl rfl <| K.nil <| And.intro (by kernel_rfl) <| At.next <| G.ret <| At.over_ret <| At.block_ret <| At.over_ret <| At.done Y [(.cell 6 108, .agg [_, _]), (.cell 7 66, .agg [_, _, _, _]), (.tmp 8, .c _)] rfl ⟨.st rfl rfl t108 rfl rfl, .st rfl rfl t66 rfl rfl, .tmp rfl, trivial⟩ (to' := [(0, _), (1, _)]) ⟨rfl, rfl, trivial⟩ ?_ ?_ rfl rfl rfl (.inl rfl)
      · cases H0; rfl
      · cases H0; rfl
     ·
      replace H0 := bif_f H0 h5
      refine G.skip <| At.ns ?_
      obtain ⟨x6, hx6, H0⟩ := bnd H0
      refine G.rd mixed <| K.mv rfl rfl <| K.fieldAddr Y g0 rfl t127 rfl rfl <| K.loadS Y _ g0 rfl rfl t108 rfl rfl rfl <| K.loadS Y _ g0 rfl rfl t108 rfl rfl rfl <| K.loadS Y _ g0 rfl rfl t108 rfl rfl rfl <| K.cA (cf 121 rfl) [0] (fun β w S2 h => SCon.rdBlk (VTree_linkS_con hx6 0 1) rfl h) g0 rfl rfl rfl <| K.loadS Y _ g0 rfl rfl t66 rfl rfl rfl <| K.store Y _ g0 rfl rfl rfl t108 rfl rfl rfl rfl rfl <| K.store Y _ g0 rfl rfl rfl t66 rfl rfl rfl rfl rfl <| K.as rfl rfl <| K.nil <| And.intro (by kernel_rfl) <| At.next <| G.ret <| At.block_ret <| At.over_ret <| At.done Y [(.cell 6 108, .agg [_, _]), (.cell 7 66, .agg [_, _, _, _]), (.tmp 8, .c _)] rfl ⟨.st rfl rfl t108 rfl rfl, .st rfl rfl t66 rfl rfl, .tmp rfl, trivial⟩ (to' := [(0, _), (1, _)]) ⟨rfl, rfl, trivial⟩ ?_ ?_ rfl rfl rfl (.inl rfl)
      · cases H0; rfl
      · cases H0; rfl
    ·
     replace H0 := bif_f H0 h4
     refine G.skip <| At.block_normal <| At.ns ?_
     obtain ⟨x7, hx7, H0⟩ := bnd H0
     refine G.rd mixed <| K.mv rfl rfl <| K.nilCheck g0 rfl rfl <| K.fieldAddr Y g0 rfl t131 rfl rfl <| K.load1 Y g0 rfl rfl t129 rfl rfl <| K.loadS Y _ g0 rfl rfl t108 rfl rfl rfl <| K.call0 [(.func 133, _), ((.tmp 80), _), ((.tmp 81), _)] (pvdropS hx7 1) (toFn_func (cf 133 rfl) rfl) g0 ⟨rfl, rfl, rfl, trivial⟩ ⟨rfl, trivial⟩ rfl rfl rfl rfl rfl rfl <| K.nil <| And.intro (by kernel_rfl) <| At.ns ?_
     obtain ⟨x8, hx8, H0⟩ := bnd H0
     refine G.rd mixed <| K.mv rfl rfl <| K.fieldAddr Y g0 rfl t127 rfl rfl <| K.loadS Y _ g0 rfl rfl t108 rfl rfl rfl <| K.fieldAddr Y g0 rfl t127 rfl rfl <| K.loadS Y _ g0 rfl rfl t108 rfl rfl rfl <| K.cA (cf 134 rfl) [0] (fun β w S2 h => SCon.rdBlk (VTree_mergeS_con hx8 0 1) rfl h) g0 rfl rfl rfl <| K.fieldAddr Y g0 rfl t127 rfl rfl <| K.loadS Y _ g0 rfl rfl t66 rfl rfl rfl <| K.store Y _ g0 rfl rfl rfl t108 rfl rfl rfl rfl rfl <| K.store Y _ g0 rfl rfl rfl t66 rfl rfl rfl rfl rfl <| K.as rfl rfl <| K.nil <| And.intro (by kernel_rfl) <| At.next <| G.ret <| At.done Y [(.cell 6 108, .agg [_, _]), (.cell 7 66, .agg [_, _, _, _]), (.tmp 8, .c _)] rfl ⟨.st rfl rfl t108 rfl rfl, .st rfl rfl t66 rfl rfl, .tmp rfl, trivial⟩ (to' := [(0, _), (1, _)]) ⟨rfl, rfl, trivial⟩ ?_ ?_ rfl rfl rfl (.inl rfl)
     · cases H0; rfl
     · cases H0; rfl
theorem VTree_dropS_con {k n : Nat}  {p1 : Pool (TNode TSlot TSize)} {a1 : TRef} {a2 : TSlot} {ri0 rg0 : Int} {r : TRef × TSlot × Bool × Pool (TNode TSlot TSize)}  (H0 : VTree_drop.r opsS k n p1 a1 a2 = some r) (m0 m1 : Nat) : VTree_dropS_st p1 a1 a2 ri0 rg0 r m0 m1 :=
 SCon.ren (rn [(0, m0), (1, m1)]) (VTree_dropS_con0 (k := k)   H0) ⟨(blk_ren rfl rfl), (pool_ren rfl), trivial⟩ ⟨(blk_ren rfl rfl), (pool_ren rfl), trivial⟩ (by simp) (by simp)
abbrev VTree_DropS_st (p1 : Pool (TNode TSlot TSize)) (rt0 : TRef) (a1 : TSlot) (r : TSlot × Bool × TRef × Pool (TNode TSlot TSize)) (m0 : Nat) (m1 : Nat) : Prop := SCon Tryz.prog 77 [SV.p m0 0, .a (.agg ((eTSlot a1).map .v))] [(m0, blk m0 [.p m1 0, .i rt0.index, .i rt0.gen] 131), (m1, pvS m1 p1)] (.tup [.agg ((eTSlot r.1).map .v), .c (.v (.bool r.2.1))]) [(m0, blk m0 [.p m1 0, .i r.2.2.1.index, .i r.2.2.1.gen] 131), (m1, pvS m1 r.2.2.2)] []
theorem VTree_DropS_con0 {k : Nat}  {p1 : Pool (TNode TSlot TSize)} {rt0 : TRef} {a1 : TSlot} {r : TSlot × Bool × TRef × Pool (TNode TSlot TSize)}  (H0 : VTree_Drop.f opsS k p1 rt0 a1 = some r) : VTree_DropS_st p1 rt0 a1 r 0 1 := by
 rw [VTree_Drop.f] at H0
 refine spec_of [(0, _), (1, _)] [(0, _), (1, _)] 26 Tryz.func77 rfl Tryz.ntmps77 rfl rfl rfl rfl (fun β W F => ?_)
 refine G.seq <| G.rg <| K.box Y 100 _ g0 rfl rfl rfl rfl rfl rfl <| K.alloc Y 101 _ g0 t66 rfl rfl rfl rfl rfl <| K.as rfl rfl <| K.nil <| At.ns ?_
 obtain ⟨x1, hx1, H0⟩ := bnd H0
 refine G.rd mixed <| K.mv rfl rfl <| K.mv rfl rfl <| K.nilCheck g0 rfl rfl <| K.fieldAddr Y g0 rfl t131 rfl rfl <| K.loadS Y _ g0 rfl rfl t108 rfl rfl rfl <| K.loadS Y _ g0 rfl rfl t66 rfl rfl rfl <| K.cA (cf 106 rfl) [0] (fun β w S2 h => SCon.rdBlk (VTree_dropS_con hx1 0 1) rfl h) g0 rfl rfl rfl <| K.mv rfl rfl <| K.extract g0 rfl rfl rfl <| K.extract g0 rfl rfl rfl <| K.extract g0 rfl rfl rfl <| K.alloc Y 102 _ g0 t108 rfl rfl rfl rfl rfl <| K.alloc Y 103 _ g0 t66 rfl rfl rfl rfl rfl <| K.store Y _ g0 rfl rfl rfl t108 rfl rfl rfl rfl rfl <| K.store Y _ g0 rfl rfl rfl t66 rfl rfl rfl rfl rfl <| K.as rfl rfl <| K.nil <| And.intro (by kernel_rfl) <| At.nr <| K.mv rfl rfl <| K.loadS Y _ g0 rfl rfl t108 rfl rfl rfl <| K.nilCheck g0 rfl rfl <| K.fieldAddr Y g0 rfl t131 rfl rfl <| K.store Y _ g0 rfl rfl rfl t108 rfl rfl rfl rfl rfl <| K.nil <| At.nr <| K.loadS Y _ g0 rfl rfl t66 rfl rfl rfl <| K.mv rfl rfl <| K.store Y _ g0 rfl rfl rfl t66 rfl rfl rfl rfl rfl <| K.as rfl rfl <| K.nil <| At.next <| G.ret <| At.done Y [(.cell 4 66, .agg [_, _, _, _]), (.tmp 5, .c _)] rfl ⟨.st rfl rfl t66 rfl rfl, .tmp rfl, trivial⟩ (to' := [(0, _), (1, _)]) ⟨rfl, rfl, trivial⟩ ?_ ?_ rfl rfl rfl (.inl rfl)
 · cases H0; rfl
 · cases H0; rfl
theorem VTree_DropS_con {k : Nat}  {p1 : Pool (TNode TSlot TSize)} {rt0 : TRef} {a1 : TSlot} {r : TSlot × Bool × TRef × Pool (TNode TSlot TSize)}  (H0 : VTree_Drop.f opsS k p1 rt0 a1 = some r) (m0 m1 : Nat) : VTree_DropS_st p1 rt0 a1 r m0 m1 :=
 SCon.ren (rn [(0, m0), (1, m1)]) (VTree_DropS_con0 (k := k)   H0) ⟨(blk_ren rfl rfl), (pool_ren rfl), trivial⟩ ⟨(blk_ren rfl rfl), (pool_ren rfl), trivial⟩ (by simp) (by simp)
abbrev Vpartial_Queue_turn_st (q0 : TQueue) (a1 : TItem) (a2 : Bool) (r : TQueue) (m0 : Nat) (m1 : Nat) (m2 : Nat) (m3 : Nat) (m4 : Nat) (m5 : Nat) (m6 : Nat) (m7 : Nat) (m8 : Nat) : Prop := SCon Tryz.prog 72 [SV.p m0 0, .a (.agg ((eTItem a1).map .v)), .a (.c (.v (.bool a2)))] (tkQueueV m0 m1 m2 m3 m4 m5 m6 m7 m8 q0 []) (.tup []) (tkQueueV m0 m1 m2 m3 m4 m5 m6 m7 m8 r []) []
theorem Vpartial_Queue_turn_con0 {k : Nat}  {q0 : TQueue} {a1 : TItem} {a2 : Bool} {r : TQueue}  (H0 : Vpartial_Queue_turn.f k q0 a1 a2 = some r) : Vpartial_Queue_turn_st q0 a1 a2 r 0 1 2 3 4 5 6 7 8 := by
 rw [Vpartial_Queue_turn.f] at H0
 refine spec_of [(0, _), (1, _), (2, _)] [(0, _), (1, _), (2, _), (3, _), (4, _), (5, _), (6, _), (7, _), (8, _)] 60 Tryz.func72 rfl Tryz.ntmps72 rfl rfl rfl rfl (fun β W F => ?_)
 refine G.seq <| G.rg <| K.box Y 100 _ g0 rfl rfl rfl rfl rfl rfl <| K.nil <| At.ns ?_
 obtain ⟨x1, hx1, H0⟩ := bnd H0
 obtain ⟨x2, hx2, H0⟩ := bnd H0
 refine G.rd mixed <| K.mv rfl rfl <| K.nilCheck g0 rfl rfl <| K.fieldAddr Y g0 rfl t98 rfl rfl <| K.load1 Y g0 rfl rfl t63 rfl rfl <| K.loadS Y _ g0 rfl rfl t30 rfl rfl rfl <| K.cR (cf 65 rfl) (shelf_Of_con hx1) g0 rfl rfl rfl rfl <| K.c0 (cf 64 rfl) (VTree_FindS_con hx2 7 8) g0 rfl rfl rfl rfl <| K.mv rfl rfl <| K.extract g0 rfl rfl rfl <| K.extract g0 rfl rfl rfl <| K.alloc Y 101 _ g0 t66 rfl rfl rfl rfl rfl <| K.store Y _ g0 rfl rfl rfl t66 rfl rfl rfl rfl rfl <| K.as rfl rfl <| K.nil <| And.intro (by kernel_rfl) <| At.ns ?_
 obtain ⟨x3, hx3, H0⟩ := bnd H0
 obtain ⟨x4, hx4, H0⟩ := bnd H0
 refine G.rd mixed <| K.mv rfl rfl <| K.nilCheck g0 rfl rfl <| K.fieldAddr Y g0 rfl t98 rfl rfl <| K.load1 Y g0 rfl rfl t38 rfl rfl <| K.fieldAddr Y g0 rfl t66 rfl rfl <| K.load1 Y g0 rfl rfl t3 rfl rfl <| K.cR (cf 67 rfl) (wave_Key_con hx3) g0 rfl rfl rfl rfl <| K.c0 (cf 74 rfl) (VTree_FindM_con hx4 1 2) g0 rfl rfl rfl rfl <| K.mv rfl rfl <| K.extract g0 rfl rfl rfl <| K.extract g0 rfl rfl rfl <| K.alloc Y 102 _ g0 t46 rfl rfl rfl rfl rfl <| K.store Y _ g0 rfl rfl rfl t46 rfl rfl rfl rfl rfl <| K.as rfl rfl <| K.nil <| And.intro (by kernel_rfl) <| At.nr <| K.mv rfl rfl <| K.fieldAddr Y g0 rfl t46 rfl rfl <| K.store Y _ g0 rfl rfl rfl t4 rfl rfl rfl rfl rfl <| K.nil <| At.ns ?_
 obtain ⟨x5, hx5, H0⟩ := bnd H0
 refine G.rd mixed <| K.mv rfl rfl <| K.nilCheck g0 rfl rfl <| K.fieldAddr Y g0 rfl t98 rfl rfl <| K.load1 Y g0 rfl rfl t38 rfl rfl <| K.loadS Y _ g0 rfl rfl t46 rfl rfl rfl <| K.c0 (cf 70 rfl) (VTree_PutM_con hx5 1 2) g0 rfl rfl rfl rfl <| K.nil <| And.intro (by kernel_rfl) <| At.ns <| G.rd mixed <| K.mv rfl rfl <| K.nilCheck g0 rfl rfl <| K.fieldAddr Y g0 rfl t98 rfl rfl <| K.load1 Y g0 rfl rfl t63 rfl rfl <| K.mv rfl rfl <| K.nilCheck g0 rfl rfl <| K.fieldAddr Y g0 rfl t98 rfl rfl <| K.load1 Y g0 rfl rfl t63 rfl rfl <| K.as rfl rfl <| K.as rfl rfl <| K.nil <| And.intro (by kernel_rfl) <| At.ns <| G.seq <| G.rg <| K.mv rfl rfl <| K.nil <| At.next <| G.cond rfl (fun h1 => ?_) (fun h1 => ?_)
 ·
  replace H0 := bif_t H0 h1
  refine G.rg <| K.mv rfl rfl <| K.mv rfl rfl <| K.as rfl rfl <| K.as rfl rfl <| K.nil <| At.ns ?_
  obtain ⟨x6, hx6, H0⟩ := bnd H0
  obtain ⟨x7, hx7, H0⟩ := bnd H0
  refine G.rg <| K.mv rfl rfl <| K.loadS Y _ g0 rfl rfl t30 rfl rfl rfl <| K.cR (cf 65 rfl) (shelf_Of_con hx6) g0 rfl rfl rfl rfl <| K.c0 (cf 77 rfl) (VTree_DropS_con hx7 5 6) g0 rfl rfl rfl rfl <| K.nil <| At.next ?_
  obtain ⟨x8, hx8, H0⟩ := bnd H0
  obtain ⟨x9, hx9, H0⟩ := bnd H0
  exact G.rg <| K.mv rfl rfl <| K.loadS Y _ g0 rfl rfl t30 rfl rfl rfl <| K.cR (cf 65 rfl) (shelf_Of_con hx8) g0 rfl rfl rfl rfl <| K.c0 (cf 69 rfl) (VTree_PutS_con hx9 3 4) g0 rfl rfl rfl rfl <| K.nil <| At.dn Y [] rfl rfl (by cases H0; rfl) (by cases H0; rfl) rfl rfl rfl
 ·
  replace H0 := bif_f H0 h1
  refine G.skip <| At.ns ?_
  obtain ⟨x10, hx10, H0⟩ := bnd H0
  obtain ⟨x11, hx11, H0⟩ := bnd H0
  refine G.rg <| K.mv rfl rfl <| K.loadS Y _ g0 rfl rfl t30 rfl rfl rfl <| K.cR (cf 65 rfl) (shelf_Of_con hx10) g0 rfl rfl rfl rfl <| K.c0 (cf 77 rfl) (VTree_DropS_con hx11 3 4) g0 rfl rfl rfl rfl <| K.nil <| At.next ?_
  obtain ⟨x12, hx12, H0⟩ := bnd H0
  obtain ⟨x13, hx13, H0⟩ := bnd H0
  exact G.rg <| K.mv rfl rfl <| K.loadS Y _ g0 rfl rfl t30 rfl rfl rfl <| K.cR (cf 65 rfl) (shelf_Of_con hx12) g0 rfl rfl rfl rfl <| K.c0 (cf 69 rfl) (VTree_PutS_con hx13 5 6) g0 rfl rfl rfl rfl <| K.nil <| At.dn Y [] rfl rfl (by cases H0; rfl) (by cases H0; rfl) rfl rfl rfl
theorem Vpartial_Queue_turn_con {k : Nat}  {q0 : TQueue} {a1 : TItem} {a2 : Bool} {r : TQueue}  (H0 : Vpartial_Queue_turn.f k q0 a1 a2 = some r) (m0 m1 m2 m3 m4 m5 m6 m7 m8 : Nat) : Vpartial_Queue_turn_st q0 a1 a2 r m0 m1 m2 m3 m4 m5 m6 m7 m8 :=
 SCon.ren (rn [(0, m0), (1, m1), (2, m2), (3, m3), (4, m4), (5, m5), (6, m6), (7, m7), (8, m8)]) (Vpartial_Queue_turn_con0 (k := k)   H0) ⟨(blk_ren rfl rfl), (blk_ren rfl rfl), (pool_ren rfl), (blk_ren rfl rfl), (pool_ren rfl), (blk_ren rfl rfl), (pool_ren rfl), (blk_ren rfl rfl), (pool_ren rfl), trivial⟩ ⟨(blk_ren rfl rfl), (blk_ren rfl rfl), (pool_ren rfl), (blk_ren rfl rfl), (pool_ren rfl), (blk_ren rfl rfl), (pool_ren rfl), (blk_ren rfl rfl), (pool_ren rfl), trivial⟩ (by simp) (by simp)
abbrev Vpartial_Queue_Insert_st (q0 : TQueue) (a1 : Int) (a2 : TItem) (r : TChange × Int × TQueue) (m0 : Nat) (m1 : Nat) (m2 : Nat) (m3 : Nat) (m4 : Nat) (m5 : Nat) (m6 : Nat) (m7 : Nat) (m8 : Nat) (m60 : Nat) (m61 : Nat) : Prop := SCon Tryz.prog 23 [SV.p m0 0, .a (.c (.v (.int .i64 a1))), .a (.agg ((eTItem a2).map .v))] (tkQueueV m0 m1 m2 m3 m4 m5 m6 m7 m8 q0 []) (.tup [.agg [.nv m60, .nv m61], .c (.v (.int .i64 r.2.1))]) (tkQueueV m0 m1 m2 m3 m4 m5 m6 m7 m8 r.2.2 [(m60, lrow m60 30 eTItem 2 (r.1.in_)), (m61, lrow m61 30 eTItem 2 (r.1.out))]) [m60, m61]
set_option maxHeartbeats 4000000 in
theorem Vpartial_Queue_Insert_con0 {k : Nat}  {q0 : TQueue} {a1 : Int} {a2 : TItem} {r : TChange × Int × TQueue}  (H0 : Vpartial_Queue_Insert.f k q0 a1 a2 = some r) : Vpartial_Queue_Insert_st q0 a1 a2 r 0 1 2 3 4 5 6 7 8 60 61 := by
 rw [Vpartial_Queue_Insert.f] at H0
 refine spec_of [(0, _), (1, _), (2, _)] [(0, _), (1, _), (2, _), (3, _), (4, _), (5, _), (6, _), (7, _), (8, _)] 98 Tryz.func23 rfl Tryz.ntmps23 rfl rfl rfl rfl (fun β W F => ?_)
 refine G.seq <| G.rg <| K.box Y 100 _ g0 rfl rfl rfl rfl rfl rfl <| K.alloc Y 101 _ g0 t56 rfl rfl rfl rfl rfl <| K.as rfl rfl <| K.nil <| At.nilBlk (n := 101) (l' := [_, _]) 0 102 30 eTItem 2 rfl rfl rfl rfl rfl <| At.nilBlk (n := 101) (l' := [_, _]) 1 103 30 eTItem 2 rfl rfl rfl rfl rfl <| At.ns <| G.seq ?_
 obtain ⟨x1, hx1, H0⟩ := bnd H0
 refine G.rg <| K.mv rfl rfl <| K.mv rfl rfl <| K.c0 (cf 63 rfl) (Vpartial_Queue_may_con hx1 0 1 2 3 4 5 6 7 8) g0 rfl rfl rfl rfl <| K.as rfl rfl <| K.nil <| At.nr <| K.mv rfl rfl <| K.bin (V := .bool (x1.1 != 0)) g0 rfl rfl (fun _ => rfl) rfl <| K.nil <| At.next <| G.cond rfl (fun h1 => ?_) (fun h1 => ?_)
 ·
  replace H0 := bif_t H0 h1
  refine G.seq <| G.rg <| K.build Y [] [_, _] [] g0 (AllE.spec trivial) rfl rfl t56 rfl rfl <| K.mv rfl rfl <| K.store Y _ g0 rfl rfl rfl t56 rfl rfl rfl rfl rfl <| K.as rfl rfl <| K.nil <| At.nilAgg (t := 19) (l' := [_, _]) 0 104 30 eTItem 2 rfl rfl rfl rfl rfl <| At.nilAgg (t := 19) (l' := [_, _]) 1 105 30 eTItem 2 rfl rfl rfl rfl rfl <| At.nilBlk (n := 101) (l' := [_, _]) 0 106 30 eTItem 2 rfl rfl rfl rfl rfl <| At.nilBlk (n := 101) (l' := [_, _]) 1 107 30 eTItem 2 rfl rfl rfl rfl rfl <| At.next <| G.ret <| At.over_ret <| At.ren (fs' := [(6, .a (.c (.p 101 0))), (7, .a (.c (.v (.int .i64 x1.1))))]) (tl := (tkQueueV 0 1 2 3 4 5 6 7 8 x1.2 [(60, lrow 60 30 eTItem 2 ([] : List TItem)), (61, lrow 61 30 eTItem 2 ([] : List TItem)), (101, blk 101 [.nv 60, .nv 61] 56)])) [(60, 106), (61, 107)] [_, _, _, _, _, _, _, _, _, _, _, _] rfl ⟨rfl, rfl, trivial⟩ ⟨rfl, (blk_ren rfl rfl), rfl, (blk_ren rfl rfl), rfl, (pool_ren rfl), rfl, (blk_ren rfl rfl), rfl, (pool_ren rfl), rfl, (blk_ren rfl rfl), rfl, (pool_ren rfl), rfl, (blk_ren rfl rfl), rfl, (pool_ren rfl), rfl, (lrow_ren rfl), rfl, (lrow_ren rfl), rfl, (blk_ren rfl rfl), trivial⟩ rfl <| At.done Y [(.cell 6 56, .agg [_, _]), (.tmp 7, .c _)] rfl ⟨.st rfl rfl t56 rfl rfl, .tmp rfl, trivial⟩ (to' := [(0, _), (1, _), (2, _), (3, _), (4, _), (5, _), (6, _), (7, _), (8, _), (60, _), (61, _)]) ⟨rfl, rfl, rfl, rfl, rfl, rfl, rfl, rfl, rfl, rfl, rfl, trivial⟩ ?_ ?_ rfl rfl rfl (.inl rfl)
  · cases H0; rfl
  · cases H0; rfl
 ·
  replace H0 := bif_f H0 h1
  refine G.skip <| At.ns <| G.seq ?_
  obtain ⟨x2, hx2, H0⟩ := bnd H0
  obtain ⟨x3, hx3, H0⟩ := bnd H0
  refine G.rd mixed <| K.mv rfl rfl <| K.nilCheck g0 rfl rfl <| K.fieldAddr Y g0 rfl t98 rfl rfl <| K.load1 Y g0 rfl rfl t63 rfl rfl <| K.loadS Y _ g0 rfl rfl t30 rfl rfl rfl <| K.cR (cf 65 rfl) (shelf_Of_con hx2) g0 rfl rfl rfl rfl <| K.c0 (cf 64 rfl) (VTree_FindS_con hx3 7 8) g0 rfl rfl rfl rfl <| K.mv rfl rfl <| K.extract g0 rfl rfl rfl <| K.extract g0 rfl rfl rfl <| K.alloc Y 108 _ g0 t66 rfl rfl rfl rfl rfl <| K.store Y _ g0 rfl rfl rfl t66 rfl rfl rfl rfl rfl <| K.as rfl rfl <| K.nil <| And.intro (by kernel_rfl) <| At.nr <| K.mv rfl rfl <| K.nil <| At.next <| G.cond rfl (fun h2 => ?_) (fun h2 => ?_)
  ·
   replace H0 := bif_t H0 h2
   refine G.seq <| G.rg <| K.build Y [] [_, _] [] g0 (AllE.spec trivial) rfl rfl t56 rfl rfl <| K.store Y _ g0 rfl rfl rfl t56 rfl rfl rfl rfl rfl <| K.as rfl rfl <| K.nil <| At.nilAgg (t := 32) (l' := [_, _]) 0 109 30 eTItem 2 rfl rfl rfl rfl rfl <| At.nilAgg (t := 32) (l' := [_, _]) 1 110 30 eTItem 2 rfl rfl rfl rfl rfl <| At.nilBlk (n := 101) (l' := [_, _]) 0 111 30 eTItem 2 rfl rfl rfl rfl rfl <| At.nilBlk (n := 101) (l' := [_, _]) 1 112 30 eTItem 2 rfl rfl rfl rfl rfl <| At.next <| G.ret <| At.over_ret <| At.ren (fs' := [(6, .a (.c (.p 101 0))), (7, .a (.c (.v (.int .i64 2))))]) (tl := (tkQueueV 0 1 2 3 4 5 6 7 8 (TQueue.mk x1.2.capacity x1.2.marks x1.2.present x1.2.gone (TS.mk x3.2.2 x1.2.times.r) x1.2.excess) [(60, lrow 60 30 eTItem 2 ([] : List TItem)), (61, lrow 61 30 eTItem 2 ([] : List TItem)), (101, blk 101 [.nv 60, .nv 61] 56)])) [(60, 111), (61, 112)] [_, _, _, _, _, _, _, _, _, _, _, _] rfl ⟨rfl, rfl, trivial⟩ ⟨rfl, (blk_ren rfl rfl), rfl, (blk_ren rfl rfl), rfl, (pool_ren rfl), rfl, (blk_ren rfl rfl), rfl, (pool_ren rfl), rfl, (blk_ren rfl rfl), rfl, (pool_ren rfl), rfl, (blk_ren rfl rfl), rfl, (pool_ren rfl), rfl, (lrow_ren rfl), rfl, (lrow_ren rfl), rfl, (blk_ren rfl rfl), trivial⟩ rfl <| At.done Y [(.cell 6 56, .agg [_, _]), (.tmp 7, .c _)] rfl ⟨.st rfl rfl t56 rfl rfl, .tmp rfl, trivial⟩ (to' := [(0, _), (1, _), (2, _), (3, _), (4, _), (5, _), (6, _), (7, _), (8, _), (60, _), (61, _)]) ⟨rfl, rfl, rfl, rfl, rfl, rfl, rfl, rfl, rfl, rfl, rfl, trivial⟩ ?_ ?_ rfl rfl rfl (.inl rfl)
   · cases H0; rfl
   · cases H0; rfl
  ·
   replace H0 := bif_f H0 h2
   refine G.skip <| At.ns ?_
   obtain ⟨x4, hx4, H0⟩ := bnd H0
   obtain ⟨x5, hx5, H0⟩ := bnd H0
   refine G.rd mixed <| K.mv rfl rfl <| K.nilCheck g0 rfl rfl <| K.fieldAddr Y g0 rfl t98 rfl rfl <| K.load1 Y g0 rfl rfl t38 rfl rfl <| K.mv rfl rfl <| K.cR (cf 67 rfl) (wave_Key_con hx4) g0 rfl rfl rfl rfl <| K.c0 (cf 66 rfl) (VTree_RankM_con hx5 1 2) g0 rfl rfl rfl rfl <| K.as rfl rfl <| K.nil <| And.intro (by kernel_rfl) <| At.ns ?_
   obtain ⟨x6, hx6, H0⟩ := bnd H0
   refine G.rd mixed <| K.mv rfl rfl <| K.nilCheck g0 rfl rfl <| K.fieldAddr Y g0 rfl t98 rfl rfl <| K.load1 Y g0 rfl rfl t38 rfl rfl <| K.mv rfl rfl <| K.mv rfl rfl <| K.nilCheck g0 rfl rfl <| K.fieldAddr Y g0 rfl t98 rfl rfl <| K.load1 Y g0 rfl rfl t3 rfl rfl <| K.c0 (cf 68 rfl) (Vbridge_Prior_con hx6 1 2) g0 rfl rfl rfl rfl <| K.as rfl rfl <| K.nil <| And.intro (by kernel_rfl) <| At.ns ?_
   obtain ⟨x7, hx7, H0⟩ := bnd H0
   refine G.rd mixed <| K.mv rfl rfl <| K.nilCheck g0 rfl rfl <| K.fieldAddr Y g0 rfl t98 rfl rfl <| K.load1 Y g0 rfl rfl t63 rfl rfl <| K.loadS Y _ g0 rfl rfl t30 rfl rfl rfl <| K.mv rfl rfl <| K.build Y [(0, _), (1, _), (2, _)] [_, _, _, _] [((.tmp 54), _), (_, _), ((.tmp 55), _)] g0 (AllE.spec ⟨rfl, rfl, rfl, trivial⟩) rfl rfl t66 rfl rfl <| K.c0 (cf 69 rfl) (VTree_PutS_con hx7 7 8) g0 rfl rfl rfl rfl <| K.nil <| And.intro (by kernel_rfl) <| At.ns ?_
   obtain ⟨x8, hx8, H0⟩ := bnd H0
   refine G.rd mixed <| K.mv rfl rfl <| K.nilCheck g0 rfl rfl <| K.fieldAddr Y g0 rfl t98 rfl rfl <| K.load1 Y g0 rfl rfl t38 rfl rfl <| K.mv rfl rfl <| K.loadS Y _ g0 rfl rfl t30 rfl rfl rfl <| K.build Y [(0, _), (1, _), (2, _)] [_, _, _, _] [((.tmp 62), _), (_, _), ((.tmp 63), _)] g0 (AllE.spec ⟨rfl, rfl, rfl, trivial⟩) rfl rfl t42 rfl rfl <| K.build Y [(0, _)] [_, _, _, _, _, _, _, _] [((.tmp 64), _)] g0 (AllE.spec ⟨rfl, trivial⟩) rfl rfl t46 rfl rfl <| K.c0 (cf 70 rfl) (VTree_PutM_con hx8 1 2) g0 rfl rfl rfl rfl <| K.nil <| And.intro (by kernel_rfl) <| At.ns ?_
   obtain ⟨x9, hx9, H0⟩ := bnd H0
   obtain ⟨x10, hx10, H0⟩ := bnd H0
   refine G.rd mixed <| K.mv rfl rfl <| K.nilCheck g0 rfl rfl <| K.fieldAddr Y g0 rfl t98 rfl rfl <| K.load1 Y g0 rfl rfl t63 rfl rfl <| K.loadS Y _ g0 rfl rfl t30 rfl rfl rfl <| K.cR (cf 65 rfl) (shelf_Of_con hx9) g0 rfl rfl rfl rfl <| K.c0 (cf 69 rfl) (VTree_PutS_con hx10 5 6) g0 rfl rfl rfl rfl <| K.nil <| And.intro (by kernel_rfl) <| At.ns <| G.seq <| G.rg <| K.mv rfl rfl <| K.bin (V := .bool (decide (x6.1 < 0))) g0 rfl rfl (fun _ => rfl) rfl <| K.nil <| At.next <| G.cond rfl (fun h3 => ?_) (fun h3 => ?_)
   ·
    replace H0 := bif_t H0 h3
    refine G.seq <| G.rg <| K.mv rfl rfl <| K.nilCheck g0 rfl rfl <| K.fieldAddr Y g0 rfl t98 rfl rfl <| K.load1 Y g0 rfl rfl t3 rfl rfl <| K.bin (V := .int .i64 (w64 (x1.2.excess - 1))) g0 rfl rfl (fun _ => rfl) rfl <| K.nilCheck g0 rfl rfl <| K.fieldAddr Y g0 rfl t98 rfl rfl <| K.store Y _ g0 rfl rfl rfl t3 rfl rfl rfl rfl rfl <| K.nil <| At.nr <| K.build Y [] [_, _] [] g0 (AllE.spec trivial) rfl rfl t56 rfl rfl <| K.store Y _ g0 rfl rfl rfl t56 rfl rfl rfl rfl rfl <| K.as rfl rfl <| K.nil <| At.nilAgg (t := 83) (l' := [_, _]) 0 113 30 eTItem 2 rfl rfl rfl rfl rfl <| At.nilAgg (t := 83) (l' := [_, _]) 1 114 30 eTItem 2 rfl rfl rfl rfl rfl <| At.nilBlk (n := 101) (l' := [_, _]) 0 115 30 eTItem 2 rfl rfl rfl rfl rfl <| At.nilBlk (n := 101) (l' := [_, _]) 1 116 30 eTItem 2 rfl rfl rfl rfl rfl <| At.next <| G.ret <| At.over_ret <| At.ren (fs' := [(6, .a (.c (.p 101 0))), (7, .a (.c (.v (.int .i64 0))))]) (tl := (tkQueueV 0 1 2 3 4 5 6 7 8 (TQueue.mk x1.2.capacity (TS.mk x8.2.2 x8.2.1) x1.2.present (TS.mk x10.2.2 x10.2.1) (TS.mk x7.2.2 x7.2.1) (w64 (x1.2.excess - 1))) [(60, lrow 60 30 eTItem 2 ([] : List TItem)), (61, lrow 61 30 eTItem 2 ([] : List TItem)), (101, blk 101 [.nv 60, .nv 61] 56)])) [(60, 115), (61, 116)] [_, _, _, _, _, _, _, _, _, _, _, _] rfl ⟨rfl, rfl, trivial⟩ ⟨rfl, (blk_ren rfl rfl), rfl, (blk_ren rfl rfl), rfl, (pool_ren rfl), rfl, (blk_ren rfl rfl), rfl, (pool_ren rfl), rfl, (blk_ren rfl rfl), rfl, (pool_ren rfl), rfl, (blk_ren rfl rfl), rfl, (pool_ren rfl), rfl, (lrow_ren rfl), rfl, (lrow_ren rfl), rfl, (blk_ren rfl rfl), trivial⟩ rfl <| At.done Y [(.cell 6 56, .agg [_, _]), (.tmp 7, .c _)] rfl ⟨.st rfl rfl t56 rfl rfl, .tmp rfl, trivial⟩ (to' := [(0, _), (1, _), (2, _), (3, _), (4, _), (5, _), (6, _), (7, _), (8, _), (60, _), (61, _)]) ⟨rfl, rfl, rfl, rfl, rfl, rfl, rfl, rfl, rfl, rfl, rfl, trivial⟩ ?_ ?_ rfl rfl rfl (.inl rfl)
    · cases H0; rfl
    · cases H0; rfl
   ·
    replace H0 := bif_f H0 h3
    refine G.skip <| At.ns ?_
    obtain ⟨x11, hx11, H0⟩ := bnd H0
    refine G.rg <| K.mv rfl rfl <| K.nilCheck g0 rfl rfl <| K.fieldAddr Y g0 rfl t98 rfl rfl <| K.load1 Y g0 rfl rfl t38 rfl rfl <| K.mv rfl rfl <| K.c0 (cf 71 rfl) (Vbridge_Best_con hx11 1 2) g0 rfl rfl rfl rfl <| K.alloc Y 117 _ g0 t44 rfl rfl rfl rfl rfl <| K.store Y _ g0 rfl rfl rfl t44 rfl rfl rfl rfl rfl <| K.nil <| At.ns ?_
    obtain ⟨x12, hx12, H0⟩ := bnd H0
    refine G.rg <| K.mv rfl rfl <| K.fieldAddr Y g0 rfl t44 rfl rfl <| K.loadS Y _ g0 rfl rfl t30 rfl rfl rfl <| K.c0 (cf 72 rfl) (Vpartial_Queue_turn_con hx12 0 1 2 3 4 5 6 7 8) g0 rfl rfl rfl rfl <| K.nil <| At.nr <| K.fieldAddr Y g0 rfl t44 rfl rfl <| K.loadS Y _ g0 rfl rfl t30 rfl rfl rfl <| K.buildL Y 118 ([x11.1.item] : List TItem) [(0, _)] [((.tmp 95), _)] eTItem_len g0 (AllE.spec ⟨rfl, trivial⟩) rfl rfl Tryz.underlying33 t30 rfl rfl rfl rfl rfl rfl rfl rfl <| K.build Y [(0, _)] [_, _] [((.tmp 96), _)] g0 (AllE.spec ⟨rfl, trivial⟩) rfl rfl t56 rfl rfl <| K.store Y _ g0 rfl rfl rfl t56 rfl rfl rfl rfl rfl <| K.as rfl rfl <| K.nil <| At.nilAgg (t := 97) (l' := [_, _]) 1 119 30 eTItem 2 rfl rfl rfl rfl rfl <| At.nilBlk (n := 101) (l' := [_, _]) 1 120 30 eTItem 2 rfl rfl rfl rfl rfl <| At.next <| G.ret <| At.ren (fs' := [(6, .a (.c (.p 101 0))), (7, .a (.c (.v (.int .i64 0))))]) (tl := (tkQueueV 0 1 2 3 4 5 6 7 8 x12 [(60, lrow 60 30 eTItem 2 ([x11.1.item] : List TItem)), (61, lrow 61 30 eTItem 2 ([] : List TItem)), (101, blk 101 [.nv 60, .nv 61] 56)])) [(60, 118), (61, 120)] [_, _, _, _, _, _, _, _, _, _, _, _] rfl ⟨rfl, rfl, trivial⟩ ⟨rfl, (blk_ren rfl rfl), rfl, (blk_ren rfl rfl), rfl, (pool_ren rfl), rfl, (blk_ren rfl rfl), rfl, (pool_ren rfl), rfl, (blk_ren rfl rfl), rfl, (pool_ren rfl), rfl, (blk_ren rfl rfl), rfl, (pool_ren rfl), rfl, (lrow_ren rfl), rfl, (lrow_ren rfl), rfl, (blk_ren rfl rfl), trivial⟩ rfl <| At.done Y [(.cell 6 56, .agg [_, _]), (.tmp 7, .c _)] rfl ⟨.st rfl rfl t56 rfl rfl, .tmp rfl, trivial⟩ (to' := [(0, _), (1, _), (2, _), (3, _), (4, _), (5, _), (6, _), (7, _), (8, _), (60, _), (61, _)]) ⟨rfl, rfl, rfl, rfl, rfl, rfl, rfl, rfl, rfl, rfl, rfl, trivial⟩ ?_ ?_ rfl rfl rfl (.inl rfl)
    · cases H0; rfl
    · cases H0; rfl
theorem Vpartial_Queue_Insert_con {k : Nat}  {q0 : TQueue} {a1 : Int} {a2 : TItem} {r : TChange × Int × TQueue}  (H0 : Vpartial_Queue_Insert.f k q0 a1 a2 = some r) (m0 m1 m2 m3 m4 m5 m6 m7 m8 m60 m61 : Nat) (hd : ndB [m0, m1, m2, m3, m4, m5, m6, m7, m8, m60, m61] = true) : Vpartial_Queue_Insert_st q0 a1 a2 r m0 m1 m2 m3 m4 m5 m6 m7 m8 m60 m61 :=
 SCon.ren (rn [(0, m0), (1, m1), (2, m2), (3, m3), (4, m4), (5, m5), (6, m6), (7, m7), (8, m8), (60, m60), (61, m61)]) (Vpartial_Queue_Insert_con0 (k := k)   H0) ⟨(blk_ren rfl rfl), (blk_ren rfl rfl), (pool_ren rfl), (blk_ren rfl rfl), (pool_ren rfl), (blk_ren rfl rfl), (pool_ren rfl), (blk_ren rfl rfl), (pool_ren rfl), trivial⟩ ⟨(blk_ren rfl rfl), (blk_ren rfl rfl), (pool_ren rfl), (blk_ren rfl rfl), (pool_ren rfl), (blk_ren rfl rfl), (pool_ren rfl), (blk_ren rfl rfl), (pool_ren rfl), (lrow_ren rfl), (lrow_ren rfl), trivial⟩ (rn_nd hd rfl rfl) (rn_ks hd rfl rfl rfl)
abbrev Vbridge_Height_st (p1 : Pool (TNode TMark TSwell)) (rt0 : TRef) (a1 : Int) (a2 : Int) (r : Int × Pool (TNode TMark TSwell)) (m0 : Nat) (m1 : Nat) : Prop := SCon Tryz.prog 129 [SV.p m0 0, .a (.c (.v (.int .i64 a1))), .a (.c (.v (.int .i64 a2)))] [(m0, blk m0 [.p m1 0, .i rt0.index, .i rt0.gen] 110), (m1, pvM m1 p1)] (.a (.c (.v (.int .i64 r.1)))) [(m0, blk m0 [.p m1 0, .i rt0.index, .i rt0.gen] 110), (m1, pvM m1 r.2)] []
theorem Vbridge_Height_con0 {k : Nat}  {p1 : Pool (TNode TMark TSwell)} {rt0 : TRef} {a1 : Int} {a2 : Int} {r : Int × Pool (TNode TMark TSwell)}  (H0 : Vbridge_Height.f k p1 rt0 a1 a2 = some r) : Vbridge_Height_st p1 rt0 a1 a2 r 0 1 := by
 rw [Vbridge_Height.f] at H0
 refine spec_of [(0, _), (1, _), (2, _)] [(0, _), (1, _)] 14 Tryz.func129 rfl Tryz.ntmps129 rfl rfl rfl rfl (fun β W F => ?_)
 refine G.seq <| G.rg <| K.as rfl rfl <| K.nil <| At.ns ?_
 obtain ⟨x1, hx1, H0⟩ := bnd H0
 exact G.rg <| K.mv rfl rfl <| K.mv rfl rfl <| K.mv rfl rfl <| K.cA (cf 102 rfl) [0] (fun β w S2 h => SCon.rdBlk (VTree_BetweenM_con hx1 0 1) rfl h) g0 rfl rfl rfl <| K.fieldS Y _ g0 rfl t50 rfl t48 rfl rfl <| K.field1 Y g0 rfl t48 rfl t3 rfl rfl <| K.bin (V := .int .i64 (w64 (a2 + x1.1.weight.sum))) g0 rfl rfl (fun _ => rfl) rfl <| K.as rfl rfl <| K.nil <| At.next <| G.ret <| At.dr Y [6] rfl rfl (by cases H0; rfl) (by cases H0; rfl) rfl rfl rfl
theorem Vbridge_Height_con {k : Nat}  {p1 : Pool (TNode TMark TSwell)} {rt0 : TRef} {a1 : Int} {a2 : Int} {r : Int × Pool (TNode TMark TSwell)}  (H0 : Vbridge_Height.f k p1 rt0 a1 a2 = some r) (m0 m1 : Nat) : Vbridge_Height_st p1 rt0 a1 a2 r m0 m1 :=
 SCon.ren (rn [(0, m0), (1, m1)]) (Vbridge_Height_con0 (k := k)   H0) ⟨(blk_ren rfl rfl), (pool_ren rfl), trivial⟩ ⟨(blk_ren rfl rfl), (pool_ren rfl), trivial⟩ (by simp) (by simp)
abbrev VTree_firstM_f14_st (g4 : FuncId) (cv4 : List Value) (Tc4 : TypeId) (p1 : Pool (TNode TMark TSwell)) (a1 : TRef) (a2 : Int) (a3 : TSwell) (ri0 : Int) (rg0 : Int) (r : Int × TSwell × Pool (TNode TMark TSwell)) (m0 : Nat) (m1 : Nat) (m2 : Nat) : Prop := SCon Tryz.prog 148 [SV.p m0 0, .a (.agg ((eTRef a1).map .v)), .a (.c (.v (.int .i64 a2))), .a (.agg ((eTSwell a3).map .v)), .a (.c (.fn (.func g4) [m2]))] [(m0, blk m0 [.p m1 0, .i ri0, .i rg0] 110), (m1, pvM m1 p1), (m2, vblk m2 cv4 Tc4)] (.tup [.c (.v (.int .i64 r.1)), .agg ((eTSwell r.2.1).map .v)]) [(m0, blk m0 [.p m1 0, .i ri0, .i rg0] 110), (m1, pvM m1 r.2.2), (m2, vblk m2 cv4 Tc4)] []
set_option maxHeartbeats 4000000 in
theorem VTree_firstM_f14_con0 {k : Nat} {g4 : FuncId} {fn4 : TSwell → TSwell → Option Bool} {cv4 : List Value} {Tc4 : TypeId} (cg4 : fnB Tryz.prog g4 = true) (hm4 : ∀ (c : Nat) {z0 : TSwell} {z1 : TSwell} {y : Bool}, fn4 z0 z1 = some y → SCon Tryz.prog g4 [.a (.agg ((eTSwell z0).map .v)), .a (.agg ((eTSwell z1).map .v)), SV.p c 0] [(c, vblk c cv4 Tc4)] (SV.b y) [(c, vblk c cv4 Tc4)] []) : ∀ {n : Nat} {p1 : Pool (TNode TMark TSwell)} {a1 : TRef} {a2 : Int} {a3 : TSwell} {ri0 rg0 : Int} {r : Int × TSwell × Pool (TNode TMark TSwell)}  (H0 : VTree_first.r opsM k n p1 a1 a2 a3 fn4 = some r), VTree_firstM_f14_st g4 cv4 Tc4 p1 a1 a2 a3 ri0 rg0 r 0 1 2 := by
 intro n
 induction n with
 | zero => intro p1 a1 a2 a3 ri0 rg0 r H0; exact absurd H0 (by simp [VTree_first.r])
 | succ n ih =>
  intro p1 a1 a2 a3 ri0 rg0 r H0
  rw [VTree_first.r] at H0
  refine spec_of [(0, _), (1, _), (2, _), (3, _), (4, _)] [(0, _), (1, _), (2, _)] 103 Tryz.func148 rfl Tryz.ntmps148 rfl rfl rfl rfl (fun β W F => ?_)
  refine G.seq <| G.rg <| K.box Y 100 _ g0 rfl rfl rfl rfl rfl rfl <| K.box Y 101 _ g0 rfl rfl rfl rfl rfl rfl <| K.as rfl rfl <| K.alloc Y 102 _ g0 t50 rfl rfl rfl rfl rfl <| K.nil <| At.ns ?_
  obtain ⟨x1, hx1, H0⟩ := bnd H0
  refine G.rg <| K.mv rfl rfl <| K.loadS Y _ g0 rfl rfl t108 rfl rfl rfl <| K.cA (cf 80 rfl) [0] (fun β w S2 h => SCon.rdBlk (VTree_getM_con hx1 0 1) rfl h) g0 rfl rfl rfl <| K.alloc Y 103 _ g0 t133 rfl rfl rfl rfl rfl <| K.store Y _ g0 rfl rfl rfl t133 rfl rfl rfl rfl rfl <| K.nil <| At.next ?_
  obtain ⟨x2, H1, H0⟩ := bnd H0
  refine G.sJ (σ := { v : Unit // x2 = Sum.inr v }) (fun q => [(0, .a (.c (.p 0 0))), (2, .a (.c (.v (.int .i64 a2)))), (4, .a (.c (.fn (.func g4) [2]))), (8, .a (.c (.p 104 0))), (11, .a (.c (.p 105 0))), (12, .a (.c (.p 106 0)))]) (fun q => [(1, pvM 1 x1.2), (0, blk 0 [.p 1 0, .v (.int .i64 ri0), .v (.int .i64 rg0)] 110), (2, vblk 2 cv4 Tc4), (104, blk 104 [.v (.int .i64 a3.count.n), .v (.int .i64 a3.count.sum), .v (.int .i64 a3.count.low), .v (.int .i64 a3.weight.n), .v (.int .i64 a3.weight.sum), .v (.int .i64 a3.weight.low), .v (.int .i64 a3.deletes), .v (.int .i64 a3.free), .v (.int .i64 a3.most.key), .v (.int .i64 a3.most.id), .v (.bool a3.gone.found), .v (.int .i64 a3.gone.item.key), .v (.int .i64 a3.gone.item.id), .v (.bool a3.least.found), .v (.int .i64 a3.least.item.key), .v (.int .i64 a3.least.item.id)] 50), (105, blk 105 [.v (.int .i64 0), .v (.int .i64 0), .v (.int .i64 0), .v (.int .i64 0), .v (.int .i64 0), .v (.int .i64 0), .v (.int .i64 0), .v (.int .i64 0), .v (.int .i64 0), .v (.int .i64 0), .v (.bool false), .v (.int .i64 0), .v (.int .i64 0), .v (.bool false), .v (.int .i64 0), .v (.int .i64 0)] 50), (106, blk 106 [.v (.int .i64 x1.1.e.op.time), .v (.bool x1.1.e.op.insert), .v (.int .i64 x1.1.e.op.item.key), .v (.int .i64 x1.1.e.op.item.id), .v (.bool x1.1.e.here), .v (.bool x1.1.e.took.found), .v (.int .i64 x1.1.e.took.item.key), .v (.int .i64 x1.1.e.took.item.id), .v (.int .i64 x1.1.left.index), .v (.int .i64 x1.1.left.gen), .v (.int .i64 x1.1.right.index), .v (.int .i64 x1.1.right.gen), .v (.int .i64 x1.1.size), .v (.int .i64 x1.1.sum.count.n), .v (.int .i64 x1.1.sum.count.sum), .v (.int .i64 x1.1.sum.count.low), .v (.int .i64 x1.1.sum.weight.n), .v (.int .i64 x1.1.sum.weight.sum), .v (.int .i64 x1.1.sum.weight.low), .v (.int .i64 x1.1.sum.deletes), .v (.int .i64 x1.1.sum.free), .v (.int .i64 x1.1.sum.most.key), .v (.int .i64 x1.1.sum.most.id), .v (.bool x1.1.sum.gone.found), .v (.int .i64 x1.1.sum.gone.item.key), .v (.int .i64 x1.1.sum.gone.item.id), .v (.bool x1.1.sum.least.found), .v (.int .i64 x1.1.sum.least.item.key), .v (.int .i64 x1.1.sum.least.item.id)] 133)]) ?_ ?_
  ·
   refine G.seq ?_
   rcases Bool.eq_false_or_eq_true (x1.1.size == 0) with h1 | h1
   ·
    replace H1 := bif_t H1 h1
    refine G.rg <| K.fieldAddr Y g0 rfl t133 rfl rfl <| K.load1 Y g0 rfl rfl t3 rfl rfl <| K.bin (V := .bool (x1.1.size == 0)) g0 rfl rfl (fun _ => rfl) rfl <| K.mv rfl rfl <| K.sk rfl rfl h1 rfl <| K.sk rfl rfl h1 rfl <| K.sk rfl rfl h1 rfl <| K.sk rfl rfl h1 rfl <| K.pickT g0 rfl (h1) rfl rfl <| K.mv rfl rfl <| K.sk rfl rfl rfl rfl <| K.sk rfl rfl rfl rfl <| K.sk rfl rfl rfl rfl <| K.skipU rfl rfl rfl rfl rfl <| K.skipU rfl rfl rfl rfl rfl <| K.skipU rfl rfl rfl rfl rfl <| K.skipU rfl rfl rfl rfl rfl <| K.skipU rfl rfl rfl rfl rfl <| K.skipU rfl rfl rfl rfl rfl <| K.sk rfl rfl rfl rfl <| K.pickT g0 rfl (rfl) rfl rfl <| K.nil <| At.next <| G.cond rfl (fun h2 => ?_) (fun h2 => ?_)
    ·
     refine G.seq ?_
     obtain ⟨x3, hx3, H1⟩ := bnd H1
     refine G.rg <| K.loadS Y _ g0 rfl rfl t50 rfl rfl rfl <| K.mkIface Y g0 rfl (mkI Tryz.underlying50 rfl) rfl <| K.fieldAddr Y g0 rfl t133 rfl rfl <| K.loadS Y _ g0 rfl rfl t50 rfl rfl rfl <| K.callR [((.tmp 41), _), ((.tmp 43), _)] (wave_Swell_Plus_con (k := k) hx3) (toFn_invoke (cf 201 rfl) (me50_201) rfl) g0 ⟨rfl, rfl, trivial⟩ trivial rfl rfl rfl <| K.as rfl rfl <| K.store Y _ g0 rfl rfl rfl t50 rfl rfl rfl rfl rfl <| K.nil <| At.next <| G.ret <| At.over_ret ?_
     cases H1
     replace H0 := sum_l H0
     refine At.done Y [(.tmp 10, .c _), (.cell 11 50, .agg [_, _, _, _, _, _, _, _, _, _, _, _, _, _, _, _])] rfl ⟨.tmp rfl, .st rfl rfl t50 rfl rfl, trivial⟩ (to' := [(0, _), (1, _), (2, _)]) ⟨rfl, rfl, rfl, trivial⟩ ?_ ?_ rfl rfl rfl (.inl rfl)
     · cases H0; rfl
     · cases H0; rfl
    · cases h2
   ·
    replace H1 := bif_f H1 h1
    rcases Bool.eq_false_or_eq_true (decide (a2 ≥ x1.1.size)) with h3 | h3
    ·
     replace H1 := bif_t H1 h3
     refine G.rg <| K.fieldAddr Y g0 rfl t133 rfl rfl <| K.load1 Y g0 rfl rfl t3 rfl rfl <| K.bin (V := .bool (x1.1.size == 0)) g0 rfl rfl (fun _ => rfl) rfl <| K.mv rfl rfl <| K.move (.inl rfl) (g1 rfl rfl h1) rfl rfl <| K.fieldAddr Y (g1 rfl rfl h1) rfl t133 rfl rfl <| K.load1 Y (g1 rfl rfl h1) rfl rfl t3 rfl rfl <| K.bin (V := .bool (decide (a2 ≥ x1.1.size))) (g1 rfl rfl h1) rfl rfl (fun _ => rfl) rfl <| K.pickF g0 rfl (h1) rfl rfl <| K.mv rfl rfl <| K.sk rfl rfl h3 rfl <| K.sk rfl rfl h3 rfl <| K.sk rfl rfl h3 rfl <| K.skipU rfl rfl rfl rfl rfl <| K.skipU rfl rfl rfl rfl rfl <| K.skipU rfl rfl rfl rfl rfl <| K.skipU rfl rfl rfl rfl rfl <| K.skipU rfl rfl rfl rfl rfl <| K.skipU rfl rfl rfl rfl rfl <| K.sk rfl rfl h3 rfl <| K.pickT g0 rfl (h3) rfl rfl <| K.nil <| At.next <| G.cond rfl (fun h4 => ?_) (fun h4 => ?_)
     ·
      refine G.seq ?_
      obtain ⟨x4, hx4, H1⟩ := bnd H1
      refine G.rg <| K.loadS Y _ g0 rfl rfl t50 rfl rfl rfl <| K.mkIface Y g0 rfl (mkI Tryz.underlying50 rfl) rfl <| K.fieldAddr Y g0 rfl t133 rfl rfl <| K.loadS Y _ g0 rfl rfl t50 rfl rfl rfl <| K.callR [((.tmp 41), _), ((.tmp 43), _)] (wave_Swell_Plus_con (k := k) hx4) (toFn_invoke (cf 201 rfl) (me50_201) rfl) g0 ⟨rfl, rfl, trivial⟩ trivial rfl rfl rfl <| K.as rfl rfl <| K.store Y _ g0 rfl rfl rfl t50 rfl rfl rfl rfl rfl <| K.nil <| At.next <| G.ret <| At.over_ret ?_
      cases H1
      replace H0 := sum_l H0
      refine At.done Y [(.tmp 10, .c _), (.cell 11 50, .agg [_, _, _, _, _, _, _, _, _, _, _, _, _, _, _, _])] rfl ⟨.tmp rfl, .st rfl rfl t50 rfl rfl, trivial⟩ (to' := [(0, _), (1, _), (2, _)]) ⟨rfl, rfl, rfl, trivial⟩ ?_ ?_ rfl rfl rfl (.inl rfl)
      · cases H0; rfl
      · cases H0; rfl
     · cases h4
    ·
     replace H1 := bif_f H1 h3
     rcases Bool.eq_false_or_eq_true (decide (a2 ≤ 0)) with h5 | h5
     ·
      replace H1 := bif_t H1 h5
      obtain ⟨x5, hx5, H1⟩ := bnd H1
      refine G.rg <| K.fieldAddr Y g0 rfl t133 rfl rfl <| K.load1 Y g0 rfl rfl t3 rfl rfl <| K.bin (V := .bool (x1.1.size == 0)) g0 rfl rfl (fun _ => rfl) rfl <| K.mv rfl rfl <| K.move (.inl rfl) (g1 rfl rfl h1) rfl rfl <| K.fieldAddr Y (g1 rfl rfl h1) rfl t133 rfl rfl <| K.load1 Y (g1 rfl rfl h1) rfl rfl t3 rfl rfl <| K.bin (V := .bool (decide (a2 ≥ x1.1.size))) (g1 rfl rfl h1) rfl rfl (fun _ => rfl) rfl <| K.pickF g0 rfl (h1) rfl rfl <| K.mv rfl rfl <| K.move (.inl rfl) (g1 rfl rfl h3) rfl rfl <| K.bin (V := .bool (decide (a2 ≤ 0))) (g1 rfl rfl h3) rfl rfl (fun _ => rfl) rfl <| K.move (.inl rfl) (g1 rfl rfl h3) rfl rfl <| K.move (.inl rfl) (g1 rfl rfl h5) rfl rfl <| K.loadS Y _ (g1 rfl rfl h5) rfl rfl t50 rfl rfl rfl <| K.fieldAddr Y (g1 rfl rfl h5) rfl t133 rfl rfl <| K.loadS Y _ (g1 rfl rfl h5) rfl rfl t50 rfl rfl rfl <| K.callR [((.tmp 32), _), ((.tmp 33), _), ((.tmp 35), _)] (hm4 2 hx5) (toFn_val cg4 rfl) (g1 rfl rfl h5) ⟨rfl, rfl, rfl, trivial⟩ ⟨rfl, trivial⟩ rfl rfl rfl <| K.un (V := .bool (!x5)) (g1 rfl rfl h5) rfl (fun _ => rfl) rfl <| K.pickT (g1 rfl rfl h3) rfl (h5) rfl rfl <| K.pickF g0 rfl (h3) rfl rfl <| K.nil <| At.next <| G.cond rfl (fun h6 => ?_) (fun h6 => ?_)
      ·
       replace H1 := bif_t H1 h6
       refine G.seq ?_
       obtain ⟨x6, hx6, H1⟩ := bnd H1
       refine G.rg <| K.loadS Y _ g0 rfl rfl t50 rfl rfl rfl <| K.mkIface Y g0 rfl (mkI Tryz.underlying50 rfl) rfl <| K.fieldAddr Y g0 rfl t133 rfl rfl <| K.loadS Y _ g0 rfl rfl t50 rfl rfl rfl <| K.callR [((.tmp 41), _), ((.tmp 43), _)] (wave_Swell_Plus_con (k := k) hx6) (toFn_invoke (cf 201 rfl) (me50_201) rfl) g0 ⟨rfl, rfl, trivial⟩ trivial rfl rfl rfl <| K.as rfl rfl <| K.store Y _ g0 rfl rfl rfl t50 rfl rfl rfl rfl rfl <| K.nil <| At.next <| G.ret <| At.over_ret ?_
       cases H1
       replace H0 := sum_l H0
       refine At.done Y [(.tmp 10, .c _), (.cell 11 50, .agg [_, _, _, _, _, _, _, _, _, _, _, _, _, _, _, _])] rfl ⟨.tmp rfl, .st rfl rfl t50 rfl rfl, trivial⟩ (to' := [(0, _), (1, _), (2, _)]) ⟨rfl, rfl, rfl, trivial⟩ ?_ ?_ rfl rfl rfl (.inl rfl)
       · cases H0; rfl
       · cases H0; rfl
      ·
       replace H1 := bif_f H1 h6
       exact G.skip <| At.jd ⟨(), oi H1⟩ [(104, 101), (105, 102), (106, 103)] [_, _, _, _, _, _] rfl ⟨rfl, rfl, rfl, rfl, rfl, rfl, trivial⟩ ⟨rfl, (pool_ren rfl), rfl, (blk_ren rfl rfl), rfl, (vblk_ren rfl), rfl, (blk_ren rfl rfl), rfl, (blk_ren rfl rfl), rfl, (blk_ren rfl rfl), trivial⟩ rfl
     ·
      replace H1 := bif_f H1 h5
      refine G.rg <| K.fieldAddr Y g0 rfl t133 rfl rfl <| K.load1 Y g0 rfl rfl t3 rfl rfl <| K.bin (V := .bool (x1.1.size == 0)) g0 rfl rfl (fun _ => rfl) rfl <| K.mv rfl rfl <| K.move (.inl rfl) (g1 rfl rfl h1) rfl rfl <| K.fieldAddr Y (g1 rfl rfl h1) rfl t133 rfl rfl <| K.load1 Y (g1 rfl rfl h1) rfl rfl t3 rfl rfl <| K.bin (V := .bool (decide (a2 ≥ x1.1.size))) (g1 rfl rfl h1) rfl rfl (fun _ => rfl) rfl <| K.pickF g0 rfl (h1) rfl rfl <| K.mv rfl rfl <| K.move (.inl rfl) (g1 rfl rfl h3) rfl rfl <| K.bin (V := .bool (decide (a2 ≤ 0))) (g1 rfl rfl h3) rfl rfl (fun _ => rfl) rfl <| K.move (.inl rfl) (g1 rfl rfl h3) rfl rfl <| K.sk rfl rfl h5 rfl <| K.sk rfl rfl h5 rfl <| K.sk rfl rfl h5 rfl <| K.sk rfl rfl h5 rfl <| K.sk rfl rfl h5 rfl <| K.sk rfl rfl h5 rfl <| K.pickF (g1 rfl rfl h3) rfl (h5) rfl rfl <| K.pickF g0 rfl (h3) rfl rfl <| K.nil <| At.next <| G.cond rfl (fun h7 => ?_) (fun h7 => ?_)
      · cases h7
      ·
       exact G.skip <| At.jd ⟨(), oi H1⟩ [(104, 101), (105, 102), (106, 103)] [_, _, _, _, _, _] rfl ⟨rfl, rfl, rfl, rfl, rfl, rfl, trivial⟩ ⟨rfl, (pool_ren rfl), rfl, (blk_ren rfl rfl), rfl, (vblk_ren rfl), rfl, (blk_ren rfl rfl), rfl, (blk_ren rfl rfl), rfl, (blk_ren rfl rfl), trivial⟩ rfl
  ·
   rintro ⟨w2, rfl⟩
   replace H0 := sum_r H0
   show G _ _ [(0, .a (.c (.p 0 0))), (2, .a (.c (.v (.int .i64 a2)))), (4, .a (.c (.fn (.func g4) [2]))), (8, .a (.c (.p 104 0))), (11, .a (.c (.p 105 0))), (12, .a (.c (.p 106 0)))] [(1, some (pvM 1 x1.2)), (0, some (blk 0 [.p 1 0, .v (.int .i64 ri0), .v (.int .i64 rg0)] 110)), (2, some (vblk 2 cv4 Tc4)), (104, some (blk 104 [.v (.int .i64 a3.count.n), .v (.int .i64 a3.count.sum), .v (.int .i64 a3.count.low), .v (.int .i64 a3.weight.n), .v (.int .i64 a3.weight.sum), .v (.int .i64 a3.weight.low), .v (.int .i64 a3.deletes), .v (.int .i64 a3.free), .v (.int .i64 a3.most.key), .v (.int .i64 a3.most.id), .v (.bool a3.gone.found), .v (.int .i64 a3.gone.item.key), .v (.int .i64 a3.gone.item.id), .v (.bool a3.least.found), .v (.int .i64 a3.least.item.key), .v (.int .i64 a3.least.item.id)] 50)), (105, some (blk 105 [.v (.int .i64 0), .v (.int .i64 0), .v (.int .i64 0), .v (.int .i64 0), .v (.int .i64 0), .v (.int .i64 0), .v (.int .i64 0), .v (.int .i64 0), .v (.int .i64 0), .v (.int .i64 0), .v (.bool false), .v (.int .i64 0), .v (.int .i64 0), .v (.bool false), .v (.int .i64 0), .v (.int .i64 0)] 50)), (106, some (blk 106 [.v (.int .i64 x1.1.e.op.time), .v (.bool x1.1.e.op.insert), .v (.int .i64 x1.1.e.op.item.key), .v (.int .i64 x1.1.e.op.item.id), .v (.bool x1.1.e.here), .v (.bool x1.1.e.took.found), .v (.int .i64 x1.1.e.took.item.key), .v (.int .i64 x1.1.e.took.item.id), .v (.int .i64 x1.1.left.index), .v (.int .i64 x1.1.left.gen), .v (.int .i64 x1.1.right.index), .v (.int .i64 x1.1.right.gen), .v (.int .i64 x1.1.size), .v (.int .i64 x1.1.sum.count.n), .v (.int .i64 x1.1.sum.count.sum), .v (.int .i64 x1.1.sum.count.low), .v (.int .i64 x1.1.sum.weight.n), .v (.int .i64 x1.1.sum.weight.sum), .v (.int .i64 x1.1.sum.weight.low), .v (.int .i64 x1.1.sum.deletes), .v (.int .i64 x1.1.sum.free), .v (.int .i64 x1.1.sum.most.key), .v (.int .i64 x1.1.sum.most.id), .v (.bool x1.1.sum.gone.found), .v (.int .i64 x1.1.sum.gone.item.key), .v (.int .i64 x1.1.sum.gone.item.id), .v (.bool x1.1.sum.least.found), .v (.int .i64 x1.1.sum.least.item.key), .v (.int .i64 x1.1.sum.least.item.id)] 133))] _ _
   refine G.seq ?_
   obtain ⟨x7, hx7, H0⟩ := bnd H0
   refine G.rg <| K.mv rfl rfl <| K.fieldAddr Y g0 rfl t133 rfl rfl <| K.loadS Y _ g0 rfl rfl t108 rfl rfl rfl <| K.cA (cf 80 rfl) [0] (fun β w S2 h => SCon.rdBlk (VTree_getM_con hx7 0 1) rfl h) g0 rfl rfl rfl <| K.field1 Y g0 rfl t133 rfl t3 rfl rfl <| K.as rfl rfl <| K.nil <| At.ns ?_
   obtain ⟨x8, hx8, H0⟩ := bnd H0
   refine G.rg <| K.mv rfl rfl <| K.fieldAddr Y g0 rfl t133 rfl rfl <| K.loadS Y _ g0 rfl rfl t108 rfl rfl rfl <| K.mv rfl rfl <| K.loadS Y _ g0 rfl rfl t50 rfl rfl rfl <| K.mv rfl rfl <| K.cA (cf 148 rfl) [0] (fun β w S2 h => SCon.rdBlk (ih hx8) rfl h) g0 rfl rfl rfl <| K.mv rfl rfl <| K.extract g0 rfl rfl rfl <| K.extract g0 rfl rfl rfl <| K.as rfl rfl <| K.store Y _ g0 rfl rfl rfl t50 rfl rfl rfl rfl rfl <| K.nil <| At.ns <| G.seq <| G.rg <| K.mv rfl rfl <| K.bin (V := .bool (decide (x8.1 ≥ 0))) g0 rfl rfl (fun _ => rfl) rfl <| K.nil <| At.next <| G.cond rfl (fun h8 => ?_) (fun h8 => ?_)
   ·
    replace H0 := bif_t H0 h8
    refine G.seq <| G.rd mixed <| K.mv rfl rfl <| K.loadS Y _ g0 rfl rfl t50 rfl rfl rfl <| K.as rfl rfl <| K.store Y _ g0 rfl rfl rfl t50 rfl rfl rfl rfl rfl <| K.nil <| And.intro (by kernel_rfl) <| At.next <| G.ret <| At.over_ret <| At.done Y [(.tmp 10, .c _), (.cell 11 50, .agg [_, _, _, _, _, _, _, _, _, _, _, _, _, _, _, _])] rfl ⟨.tmp rfl, .st rfl rfl t50 rfl rfl, trivial⟩ (to' := [(0, _), (1, _), (2, _)]) ⟨rfl, rfl, rfl, trivial⟩ ?_ ?_ rfl rfl rfl (.inl rfl)
    · cases H0; rfl
    · cases H0; rfl
   ·
    replace H0 := bif_f H0 h8
    refine G.skip <| At.ns ?_
    obtain ⟨x9, hx9, H0⟩ := bnd H0
    refine G.rg <| K.fieldAddr Y g0 rfl t133 rfl rfl <| K.loadS Y _ g0 rfl rfl t46 rfl rfl rfl <| K.mkIface Y g0 rfl (mkI Tryz.underlying46 rfl) rfl <| K.callR [((.tmp 66), _)] (wave_Mark_Sum_con (k := k) hx9) (toFn_invoke (cf 197 rfl) (me46_197) rfl) g0 ⟨rfl, trivial⟩ trivial rfl rfl rfl <| K.alloc Y 107 _ g0 t50 rfl rfl rfl rfl rfl <| K.store Y _ g0 rfl rfl rfl t50 rfl rfl rfl rfl rfl <| K.nil <| At.next ?_
    obtain ⟨x10, H1, H0⟩ := bnd H0
    refine G.sJ (σ := { v : Unit // x10 = Sum.inr v }) (fun q => [(0, .a (.c (.p 0 0))), (2, .a (.c (.v (.int .i64 a2)))), (4, .a (.c (.fn (.func g4) [2]))), (8, .a (.c (.p 108 0))), (11, .a (.c (.p 109 0))), (12, .a (.c (.p 110 0))), (13, .a (.c (.v (.int .i64 x7.1.size)))), (15, .a (.c (.p 111 0)))]) (fun q => [(1, pvM 1 x8.2.2), (0, blk 0 [.p 1 0, .v (.int .i64 ri0), .v (.int .i64 rg0)] 110), (2, vblk 2 cv4 Tc4), (108, blk 108 [.v (.int .i64 x8.2.1.count.n), .v (.int .i64 x8.2.1.count.sum), .v (.int .i64 x8.2.1.count.low), .v (.int .i64 x8.2.1.weight.n), .v (.int .i64 x8.2.1.weight.sum), .v (.int .i64 x8.2.1.weight.low), .v (.int .i64 x8.2.1.deletes), .v (.int .i64 x8.2.1.free), .v (.int .i64 x8.2.1.most.key), .v (.int .i64 x8.2.1.most.id), .v (.bool x8.2.1.gone.found), .v (.int .i64 x8.2.1.gone.item.key), .v (.int .i64 x8.2.1.gone.item.id), .v (.bool x8.2.1.least.found), .v (.int .i64 x8.2.1.least.item.key), .v (.int .i64 x8.2.1.least.item.id)] 50), (109, blk 109 [.v (.int .i64 0), .v (.int .i64 0), .v (.int .i64 0), .v (.int .i64 0), .v (.int .i64 0), .v (.int .i64 0), .v (.int .i64 0), .v (.int .i64 0), .v (.int .i64 0), .v (.int .i64 0), .v (.bool false), .v (.int .i64 0), .v (.int .i64 0), .v (.bool false), .v (.int .i64 0), .v (.int .i64 0)] 50), (110, blk 110 [.v (.int .i64 x1.1.e.op.time), .v (.bool x1.1.e.op.insert), .v (.int .i64 x1.1.e.op.item.key), .v (.int .i64 x1.1.e.op.item.id), .v (.bool x1.1.e.here), .v (.bool x1.1.e.took.found), .v (.int .i64 x1.1.e.took.item.key), .v (.int .i64 x1.1.e.took.item.id), .v (.int .i64 x1.1.left.index), .v (.int .i64 x1.1.left.gen), .v (.int .i64 x1.1.right.index), .v (.int .i64 x1.1.right.gen), .v (.int .i64 x1.1.size), .v (.int .i64 x1.1.sum.count.n), .v (.int .i64 x1.1.sum.count.sum), .v (.int .i64 x1.1.sum.count.low), .v (.int .i64 x1.1.sum.weight.n), .v (.int .i64 x1.1.sum.weight.sum), .v (.int .i64 x1.1.sum.weight.low), .v (.int .i64 x1.1.sum.deletes), .v (.int .i64 x1.1.sum.free), .v (.int .i64 x1.1.sum.most.key), .v (.int .i64 x1.1.sum.most.id), .v (.bool x1.1.sum.gone.found), .v (.int .i64 x1.1.sum.gone.item.key), .v (.int .i64 x1.1.sum.gone.item.id), .v (.bool x1.1.sum.least.found), .v (.int .i64 x1.1.sum.least.item.key), .v (.int .i64 x1.1.sum.least.item.id)] 133), (111, blk 111 [.v (.int .i64 x9.count.n), .v (.int .i64 x9.count.sum), .v (.int .i64 x9.count.low), .v (.int .i64 x9.weight.n), .v (.int .i64 x9.weight.sum), .v (.int .i64 x9.weight.low), .v (.int .i64 x9.deletes), .v (.int .i64 x9.free), .v (.int .i64 x9.most.key), .v (.int .i64 x9.most.id), .v (.bool x9.gone.found), .v (.int .i64 x9.gone.item.key), .v (.int .i64 x9.gone.item.id), .v (.bool x9.least.found), .v (.int .i64 x9.least.item.key), .v (.int .i64 x9.least.item.id)] 50)]) ?_ ?_
    ·
     refine G.seq ?_
     rcases Bool.eq_false_or_eq_true (decide (a2 ≤ x7.1.size)) with h9 | h9
     ·
      replace H1 := bif_t H1 h9
      obtain ⟨x11, hx11, H1⟩ := bnd H1
      refine G.rg <| K.mv rfl rfl <| K.mv rfl rfl <| K.bin (V := .bool (decide (a2 ≤ x7.1.size))) g0 rfl rfl (fun _ => rfl) rfl <| K.mv rfl rfl <| K.move (.inl rfl) (g1 rfl rfl h9) rfl rfl <| K.loadS Y _ (g1 rfl rfl h9) rfl rfl t50 rfl rfl rfl <| K.loadS Y _ (g1 rfl rfl h9) rfl rfl t50 rfl rfl rfl <| K.callR [((.tmp 72), _), ((.tmp 73), _), ((.tmp 74), _)] (hm4 2 hx11) (toFn_val cg4 rfl) (g1 rfl rfl h9) ⟨rfl, rfl, rfl, trivial⟩ ⟨rfl, trivial⟩ rfl rfl rfl <| K.pickT g0 rfl (h9) rfl rfl <| K.nil <| At.next <| G.cond rfl (fun h10 => ?_) (fun h10 => ?_)
      ·
       replace H1 := bif_t H1 h10
       refine G.seq <| G.rd mixed <| K.mv rfl rfl <| K.loadS Y _ g0 rfl rfl t50 rfl rfl rfl <| K.as rfl rfl <| K.store Y _ g0 rfl rfl rfl t50 rfl rfl rfl rfl rfl <| K.nil <| And.intro (by kernel_rfl) <| At.next <| G.ret <| At.over_ret ?_
       cases H1
       replace H0 := sum_l H0
       refine At.done Y [(.tmp 10, .c _), (.cell 11 50, .agg [_, _, _, _, _, _, _, _, _, _, _, _, _, _, _, _])] rfl ⟨.tmp rfl, .st rfl rfl t50 rfl rfl, trivial⟩ (to' := [(0, _), (1, _), (2, _)]) ⟨rfl, rfl, rfl, trivial⟩ ?_ ?_ rfl rfl rfl (.inl rfl)
       · cases H0; rfl
       · cases H0; rfl
      ·
       replace H1 := bif_f H1 h10
       exact G.skip <| At.jd ⟨(), oi H1⟩ [(108, 104), (109, 105), (110, 106), (111, 107)] [_, _, _, _, _, _, _] rfl ⟨rfl, rfl, rfl, rfl, rfl, rfl, rfl, rfl, trivial⟩ ⟨rfl, (pool_ren rfl), rfl, (blk_ren rfl rfl), rfl, (vblk_ren rfl), rfl, (blk_ren rfl rfl), rfl, (blk_ren rfl rfl), rfl, (blk_ren rfl rfl), rfl, (blk_ren rfl rfl), trivial⟩ rfl
     ·
      replace H1 := bif_f H1 h9
      refine G.rg <| K.mv rfl rfl <| K.mv rfl rfl <| K.bin (V := .bool (decide (a2 ≤ x7.1.size))) g0 rfl rfl (fun _ => rfl) rfl <| K.mv rfl rfl <| K.sk rfl rfl h9 rfl <| K.sk rfl rfl h9 rfl <| K.sk rfl rfl h9 rfl <| K.sk rfl rfl h9 rfl <| K.pickF g0 rfl (h9) rfl rfl <| K.nil <| At.next <| G.cond rfl (fun h11 => ?_) (fun h11 => ?_)
      · cases h11
      ·
       exact G.skip <| At.jd ⟨(), oi H1⟩ [(108, 104), (109, 105), (110, 106), (111, 107)] [_, _, _, _, _, _, _] rfl ⟨rfl, rfl, rfl, rfl, rfl, rfl, rfl, rfl, trivial⟩ ⟨rfl, (pool_ren rfl), rfl, (blk_ren rfl rfl), rfl, (vblk_ren rfl), rfl, (blk_ren rfl rfl), rfl, (blk_ren rfl rfl), rfl, (blk_ren rfl rfl), rfl, (blk_ren rfl rfl), trivial⟩ rfl
    ·
     rintro ⟨w10, rfl⟩
     replace H0 := sum_r H0
     show G _ _ [(0, .a (.c (.p 0 0))), (2, .a (.c (.v (.int .i64 a2)))), (4, .a (.c (.fn (.func g4) [2]))), (8, .a (.c (.p 108 0))), (11, .a (.c (.p 109 0))), (12, .a (.c (.p 110 0))), (13, .a (.c (.v (.int .i64 x7.1.size)))), (15, .a (.c (.p 111 0)))] [(1, some (pvM 1 x8.2.2)), (0, some (blk 0 [.p 1 0, .v (.int .i64 ri0), .v (.int .i64 rg0)] 110)), (2, some (vblk 2 cv4 Tc4)), (108, some (blk 108 [.v (.int .i64 x8.2.1.count.n), .v (.int .i64 x8.2.1.count.sum), .v (.int .i64 x8.2.1.count.low), .v (.int .i64 x8.2.1.weight.n), .v (.int .i64 x8.2.1.weight.sum), .v (.int .i64 x8.2.1.weight.low), .v (.int .i64 x8.2.1.deletes), .v (.int .i64 x8.2.1.free), .v (.int .i64 x8.2.1.most.key), .v (.int .i64 x8.2.1.most.id), .v (.bool x8.2.1.gone.found), .v (.int .i64 x8.2.1.gone.item.key), .v (.int .i64 x8.2.1.gone.item.id), .v (.bool x8.2.1.least.found), .v (.int .i64 x8.2.1.least.item.key), .v (.int .i64 x8.2.1.least.item.id)] 50)), (109, some (blk 109 [.v (.int .i64 0), .v (.int .i64 0), .v (.int .i64 0), .v (.int .i64 0), .v (.int .i64 0), .v (.int .i64 0), .v (.int .i64 0), .v (.int .i64 0), .v (.int .i64 0), .v (.int .i64 0), .v (.bool false), .v (.int .i64 0), .v (.int .i64 0), .v (.bool false), .v (.int .i64 0), .v (.int .i64 0)] 50)), (110, some (blk 110 [.v (.int .i64 x1.1.e.op.time), .v (.bool x1.1.e.op.insert), .v (.int .i64 x1.1.e.op.item.key), .v (.int .i64 x1.1.e.op.item.id), .v (.bool x1.1.e.here), .v (.bool x1.1.e.took.found), .v (.int .i64 x1.1.e.took.item.key), .v (.int .i64 x1.1.e.took.item.id), .v (.int .i64 x1.1.left.index), .v (.int .i64 x1.1.left.gen), .v (.int .i64 x1.1.right.index), .v (.int .i64 x1.1.right.gen), .v (.int .i64 x1.1.size), .v (.int .i64 x1.1.sum.count.n), .v (.int .i64 x1.1.sum.count.sum), .v (.int .i64 x1.1.sum.count.low), .v (.int .i64 x1.1.sum.weight.n), .v (.int .i64 x1.1.sum.weight.sum), .v (.int .i64 x1.1.sum.weight.low), .v (.int .i64 x1.1.sum.deletes), .v (.int .i64 x1.1.sum.free), .v (.int .i64 x1.1.sum.most.key), .v (.int .i64 x1.1.sum.most.id), .v (.bool x1.1.sum.gone.found), .v (.int .i64 x1.1.sum.gone.item.key), .v (.int .i64 x1.1.sum.gone.item.id), .v (.bool x1.1.sum.least.found), .v (.int .i64 x1.1.sum.least.item.key), .v (.int .i64 x1.1.sum.least.item.id)] 133)), (111, some (blk 111 [.v (.int .i64 x9.count.n), .v (.int .i64 x9.count.sum), .v (.int .i64 x9.count.low), .v (.int .i64 x9.weight.n), .v (.int .i64 x9.weight.sum), .v (.int .i64 x9.weight.low), .v (.int .i64 x9.deletes), .v (.int .i64 x9.free), .v (.int .i64 x9.most.key), .v (.int .i64 x9.most.id), .v (.bool x9.gone.found), .v (.int .i64 x9.gone.item.key), .v (.int .i64 x9.gone.item.id), .v (.bool x9.least.found), .v (.int .i64 x9.least.item.key), .v (.int .i64 x9.least.item.id)] 50))] _ _
     refine G.seq ?_
     obtain ⟨x12, hx12, H0⟩ := bnd H0
     obtain ⟨x13, hx13, H0⟩ := bnd H0
     refine G.rd mixed <| K.mv rfl rfl <| K.fieldAddr Y g0 rfl t133 rfl rfl <| K.loadS Y _ g0 rfl rfl t108 rfl rfl rfl <| K.mv rfl rfl <| K.mv rfl rfl <| K.bin (V := .int .i64 (w64 (a2 - x7.1.size))) g0 rfl rfl (fun _ => rfl) rfl <| K.bin (V := .int .i64 (w64 ((w64 (a2 - x7.1.size)) - 1))) g0 rfl rfl (fun _ => rfl) rfl <| K.loadS Y _ g0 rfl rfl t50 rfl rfl rfl <| K.mkIface Y g0 rfl (mkI Tryz.underlying50 rfl) rfl <| K.loadS Y _ g0 rfl rfl t50 rfl rfl rfl <| K.callR [((.tmp 88), _), ((.tmp 89), _)] (wave_Swell_Plus_con (k := k) hx12) (toFn_invoke (cf 201 rfl) (me50_201) rfl) g0 ⟨rfl, rfl, trivial⟩ trivial rfl rfl rfl <| K.mv rfl rfl <| K.cA (cf 148 rfl) [0] (fun β w S2 h => SCon.rdBlk (ih hx13) rfl h) g0 rfl rfl rfl <| K.mv rfl rfl <| K.extract g0 rfl rfl rfl <| K.extract g0 rfl rfl rfl <| K.as rfl rfl <| K.store Y _ g0 rfl rfl rfl t50 rfl rfl rfl rfl rfl <| K.nil <| And.intro (by kernel_rfl) <| At.ns <| G.seq <| G.rg <| K.mv rfl rfl <| K.bin (V := .bool (decide (x13.1 ≥ 0))) g0 rfl rfl (fun _ => rfl) rfl <| K.nil <| At.next <| G.cond rfl (fun h12 => ?_) (fun h12 => ?_)
     ·
      replace H0 := bif_t H0 h12
      refine G.rg <| K.mv rfl rfl <| K.mv rfl rfl <| K.bin (V := .int .i64 (w64 (x7.1.size + 1))) g0 rfl rfl (fun _ => rfl) rfl <| K.bin (V := .int .i64 (w64 (x13.1 + (w64 (x7.1.size + 1))))) g0 rfl rfl (fun _ => rfl) rfl <| K.as rfl rfl <| K.nil <| At.ns <| G.rd mixed <| K.mv rfl rfl <| K.loadS Y _ g0 rfl rfl t50 rfl rfl rfl <| K.as rfl rfl <| K.store Y _ g0 rfl rfl rfl t50 rfl rfl rfl rfl rfl <| K.nil <| And.intro (by kernel_rfl) <| At.next <| G.ret <| At.done Y [(.tmp 10, .c _), (.cell 11 50, .agg [_, _, _, _, _, _, _, _, _, _, _, _, _, _, _, _])] rfl ⟨.tmp rfl, .st rfl rfl t50 rfl rfl, trivial⟩ (to' := [(0, _), (1, _), (2, _)]) ⟨rfl, rfl, rfl, trivial⟩ ?_ ?_ rfl rfl rfl (.inl rfl)
      · cases H0; rfl
      · cases H0; rfl
     ·
      replace H0 := bif_f H0 h12
      refine G.skip <| At.ns <| G.rd mixed <| K.mv rfl rfl <| K.loadS Y _ g0 rfl rfl t50 rfl rfl rfl <| K.as rfl rfl <| K.store Y _ g0 rfl rfl rfl t50 rfl rfl rfl rfl rfl <| K.nil <| And.intro (by kernel_rfl) <| At.next <| G.ret <| At.done Y [(.tmp 10, .c _), (.cell 11 50, .agg [_, _, _, _, _, _, _, _, _, _, _, _, _, _, _, _])] rfl ⟨.tmp rfl, .st rfl rfl t50 rfl rfl, trivial⟩ (to' := [(0, _), (1, _), (2, _)]) ⟨rfl, rfl, rfl, trivial⟩ ?_ ?_ rfl rfl rfl (.inl rfl)
      · cases H0; rfl
      · cases H0; rfl
theorem VTree_firstM_f14_con {k n : Nat} {g4 : FuncId} {fn4 : TSwell → TSwell → Option Bool} {cv4 : List Value} {Tc4 : TypeId} (cg4 : fnB Tryz.prog g4 = true) (hm4 : ∀ (c : Nat) {z0 : TSwell} {z1 : TSwell} {y : Bool}, fn4 z0 z1 = some y → SCon Tryz.prog g4 [.a (.agg ((eTSwell z0).map .v)), .a (.agg ((eTSwell z1).map .v)), SV.p c 0] [(c, vblk c cv4 Tc4)] (SV.b y) [(c, vblk c cv4 Tc4)] []) {p1 : Pool (TNode TMark TSwell)} {a1 : TRef} {a2 : Int} {a3 : TSwell} {ri0 rg0 : Int} {r : Int × TSwell × Pool (TNode TMark TSwell)}  (H0 : VTree_first.r opsM k n p1 a1 a2 a3 fn4 = some r) (m0 m1 m2 : Nat) : VTree_firstM_f14_st g4 cv4 Tc4 p1 a1 a2 a3 ri0 rg0 r m0 m1 m2 :=
 SCon.ren (rn [(0, m0), (1, m1), (2, m2)]) (VTree_firstM_f14_con0 (k := k) cg4 hm4  H0) ⟨(blk_ren rfl rfl), (pool_ren rfl), (vblk_ren rfl), trivial⟩ ⟨(blk_ren rfl rfl), (pool_ren rfl), (vblk_ren rfl), trivial⟩ (by simp) (by simp)
abbrev VTree_FirstM_f12_st (g2 : FuncId) (cv2 : List Value) (Tc2 : TypeId) (p1 : Pool (TNode TMark TSwell)) (rt0 : TRef) (a1 : Int) (r : Int × Pool (TNode TMark TSwell)) (m0 : Nat) (m1 : Nat) (m2 : Nat) : Prop := SCon Tryz.prog 130 [SV.p m0 0, .a (.c (.v (.int .i64 a1))), .a (.c (.fn (.func g2) [m2]))] [(m0, blk m0 [.p m1 0, .i rt0.index, .i rt0.gen] 110), (m1, pvM m1 p1), (m2, vblk m2 cv2 Tc2)] (.a (.c (.v (.int .i64 r.1)))) [(m0, blk m0 [.p m1 0, .i rt0.index, .i rt0.gen] 110), (m1, pvM m1 r.2), (m2, vblk m2 cv2 Tc2)] []
theorem VTree_FirstM_f12_con0 {k : Nat} {g2 : FuncId} {fn2 : TSwell → TSwell → Option Bool} {cv2 : List Value} {Tc2 : TypeId} (cg2 : fnB Tryz.prog g2 = true) (hm2 : ∀ (c : Nat) {z0 : TSwell} {z1 : TSwell} {y : Bool}, fn2 z0 z1 = some y → SCon Tryz.prog g2 [.a (.agg ((eTSwell z0).map .v)), .a (.agg ((eTSwell z1).map .v)), SV.p c 0] [(c, vblk c cv2 Tc2)] (SV.b y) [(c, vblk c cv2 Tc2)] []) {p1 : Pool (TNode TMark TSwell)} {rt0 : TRef} {a1 : Int} {r : Int × Pool (TNode TMark TSwell)}  (H0 : VTree_First.f opsM k p1 rt0 a1 fn2 = some r) : VTree_FirstM_f12_st g2 cv2 Tc2 p1 rt0 a1 r 0 1 2 := by
 rw [VTree_First.f] at H0
 refine spec_of [(0, _), (1, _), (2, _)] [(0, _), (1, _), (2, _)] 27 Tryz.func130 rfl Tryz.ntmps130 rfl rfl rfl rfl (fun β W F => ?_)
 refine G.seq <| G.rg <| K.as rfl rfl <| K.nil <| At.nr <| K.alloc Y 100 _ g0 t50 rfl rfl rfl rfl rfl <| K.nil <| At.ns ?_
 obtain ⟨x1, hx1, H0⟩ := bnd H0
 obtain ⟨x2, hx2, H0⟩ := bnd H0
 exact G.rd mixed <| K.mv rfl rfl <| K.mv rfl rfl <| K.nilCheck g0 rfl rfl <| K.fieldAddr Y g0 rfl t110 rfl rfl <| K.loadS Y _ g0 rfl rfl t108 rfl rfl rfl <| K.mv rfl rfl <| K.bi2 (V := .int .i64 (gmax a1 0)) g0 rfl rfl (fun _ _ => rfl) rfl <| K.mv rfl rfl <| K.cA (cf 34 rfl) [0] (fun β w S2 h => SCon.rdBlk (VTree_LenM_con hx1 0 1) rfl h) g0 rfl rfl rfl <| K.bi2 (V := .int .i64 (gmin (gmax a1 0) x1.1)) g0 rfl rfl (fun _ _ => rfl) rfl <| K.loadS Y _ g0 rfl rfl t50 rfl rfl rfl <| K.mv rfl rfl <| K.cA (cf 148 rfl) [0] (fun β w S2 h => SCon.rdBlk (VTree_firstM_f14_con cg2 hm2 hx2 0 1 2) rfl h) g0 rfl rfl rfl <| K.mv rfl rfl <| K.extract g0 rfl rfl rfl <| K.extract g0 rfl rfl rfl <| K.alloc Y 101 _ g0 t50 rfl rfl rfl rfl rfl <| K.as rfl rfl <| K.store Y _ g0 rfl rfl rfl t50 rfl rfl rfl rfl rfl <| K.nil <| And.intro (by kernel_rfl) <| At.nr <| K.mv rfl rfl <| K.as rfl rfl <| K.nil <| At.next <| G.ret <| At.dr Y [6] rfl rfl (by cases H0; rfl) (by cases H0; rfl) rfl rfl rfl
theorem VTree_FirstM_f12_con {k : Nat} {g2 : FuncId} {fn2 : TSwell → TSwell → Option Bool} {cv2 : List Value} {Tc2 : TypeId} (cg2 : fnB Tryz.prog g2 = true) (hm2 : ∀ (c : Nat) {z0 : TSwell} {z1 : TSwell} {y : Bool}, fn2 z0 z1 = some y → SCon Tryz.prog g2 [.a (.agg ((eTSwell z0).map .v)), .a (.agg ((eTSwell z1).map .v)), SV.p c 0] [(c, vblk c cv2 Tc2)] (SV.b y) [(c, vblk c cv2 Tc2)] []) {p1 : Pool (TNode TMark TSwell)} {rt0 : TRef} {a1 : Int} {r : Int × Pool (TNode TMark TSwell)}  (H0 : VTree_First.f opsM k p1 rt0 a1 fn2 = some r) (m0 m1 m2 : Nat) : VTree_FirstM_f12_st g2 cv2 Tc2 p1 rt0 a1 r m0 m1 m2 :=
 SCon.ren (rn [(0, m0), (1, m1), (2, m2)]) (VTree_FirstM_f12_con0 (k := k) cg2 hm2  H0) ⟨(blk_ren rfl rfl), (pool_ren rfl), (vblk_ren rfl), trivial⟩ ⟨(blk_ren rfl rfl), (pool_ren rfl), (vblk_ren rfl), trivial⟩ (by simp) (by simp)
abbrev Vbridge_Next_st (p1 : Pool (TNode TMark TSwell)) (rt0 : TRef) (a1 : Int) (a2 : Int) (r : Int × Pool (TNode TMark TSwell)) (m0 : Nat) (m1 : Nat) : Prop := SCon Tryz.prog 104 [SV.p m0 0, .a (.c (.v (.int .i64 a1))), .a (.c (.v (.int .i64 a2)))] [(m0, blk m0 [.p m1 0, .i rt0.index, .i rt0.gen] 110), (m1, pvM m1 p1)] (.a (.c (.v (.int .i64 r.1)))) [(m0, blk m0 [.p m1 0, .i rt0.index, .i rt0.gen] 110), (m1, pvM m1 r.2)] []
theorem Vbridge_Next_con0 {k : Nat}  {p1 : Pool (TNode TMark TSwell)} {rt0 : TRef} {a1 : Int} {a2 : Int} {r : Int × Pool (TNode TMark TSwell)}  (H0 : Vbridge_Next.f k p1 rt0 a1 a2 = some r) : Vbridge_Next_st p1 rt0 a1 a2 r 0 1 := by
 rw [Vbridge_Next.f] at H0
 refine spec_of [(0, _), (1, _), (2, _)] [(0, _), (1, _)] 26 Tryz.func104 rfl Tryz.ntmps104 rfl rfl rfl rfl (fun β W F => ?_)
 refine G.seq <| G.rg <| K.as rfl rfl <| K.nil <| At.ns ?_
 obtain ⟨x1, hx1, H0⟩ := bnd H0
 refine G.rg <| K.mv rfl rfl <| K.mv rfl rfl <| K.cA (cf 98 rfl) [0] (fun β w S2 h => SCon.rdBlk (Vbridge_clamp_con hx1 0 1) rfl h) g0 rfl rfl rfl <| K.as rfl rfl <| K.nil <| At.ns <| G.seq ?_
 obtain ⟨x2, hx2, H0⟩ := bnd H0
 refine G.rg <| K.mv rfl rfl <| K.mv rfl rfl <| K.mv rfl rfl <| K.cA (cf 129 rfl) [0] (fun β w S2 h => SCon.rdBlk (Vbridge_Height_con hx2 0 1) rfl h) g0 rfl rfl rfl <| K.bin (V := .bool (decide (x2.1 ≤ 0))) g0 rfl rfl (fun _ => rfl) rfl <| K.nil <| At.next <| G.cond rfl (fun h1 => ?_) (fun h1 => ?_)
 ·
  replace H0 := bif_t H0 h1
  exact G.seq <| G.rg <| K.mv rfl rfl <| K.as rfl rfl <| K.nil <| At.next <| G.ret <| At.over_ret <| At.dr Y [6] rfl rfl (by cases H0; rfl) (by cases H0; rfl) rfl rfl rfl
 ·
  replace H0 := bif_f H0 h1
  refine G.skip <| At.ns <| G.seq ?_
  obtain ⟨x3, hx3, H0⟩ := bnd H0
  obtain ⟨x4, hx4, H0⟩ := bnd H0
  refine G.rg <| K.mv rfl rfl <| K.mv rfl rfl <| K.mv rfl rfl <| K.c0 (cf 99 rfl) (bridge_low_con hx3 100 rfl) g0 rfl rfl rfl rfl <| K.cA (cf 130 rfl) [0] (fun β w S2 h => SCon.rdBlk (VTree_FirstM_f12_con (cv2 := [(.int .i64 x3)]) (Tc2 := 3) (cf 119 rfl) (fun c _ _ _ h => bridge_low_1_con h c) hx4 0 1 100) rfl h) g0 rfl rfl rfl <| K.as rfl rfl <| K.nil <| At.nr <| K.mv rfl rfl <| K.bin (V := .bool (decide (x4.1 ≥ 0))) g0 rfl rfl (fun _ => rfl) rfl <| K.nil <| At.next <| G.cond rfl (fun h2 => ?_) (fun h2 => ?_)
  ·
   replace H0 := bif_t H0 h2
   exact G.seq <| G.rg <| K.mv rfl rfl <| K.bin (V := .int .i64 (w64 (x4.1 + 1))) g0 rfl rfl (fun _ => rfl) rfl <| K.as rfl rfl <| K.nil <| At.next <| G.ret <| At.over_ret <| At.dr Y [6] rfl rfl (by cases H0; rfl) (by cases H0; rfl) rfl rfl rfl
  ·
   replace H0 := bif_f H0 h2
   exact G.skip <| At.nr <| K.as rfl rfl <| K.nil <| At.next <| G.ret <| At.dr Y [6] rfl rfl (by cases H0; rfl) (by cases H0; rfl) rfl rfl rfl
theorem Vbridge_Next_con {k : Nat}  {p1 : Pool (TNode TMark TSwell)} {rt0 : TRef} {a1 : Int} {a2 : Int} {r : Int × Pool (TNode TMark TSwell)}  (H0 : Vbridge_Next.f k p1 rt0 a1 a2 = some r) (m0 m1 : Nat) : Vbridge_Next_st p1 rt0 a1 a2 r m0 m1 :=
 SCon.ren (rn [(0, m0), (1, m1)]) (Vbridge_Next_con0 (k := k)   H0) ⟨(blk_ren rfl rfl), (pool_ren rfl), trivial⟩ ⟨(blk_ren rfl rfl), (pool_ren rfl), trivial⟩ (by simp) (by simp)
abbrev Vbridge_Least_st (p1 : Pool (TNode TMark TSwell)) (rt0 : TRef) (a1 : Int) (r : TTook × Pool (TNode TMark TSwell)) (m0 : Nat) (m1 : Nat) : Prop := SCon Tryz.prog 103 [SV.p m0 0, .a (.c (.v (.int .i64 a1)))] [(m0, blk m0 [.p m1 0, .i rt0.index, .i rt0.gen] 110), (m1, pvM m1 p1)] (.a (.agg ((eTTook r.1).map .v))) [(m0, blk m0 [.p m1 0, .i rt0.index, .i rt0.gen] 110), (m1, pvM m1 r.2)] []
theorem Vbridge_Least_con0 {k : Nat}  {p1 : Pool (TNode TMark TSwell)} {rt0 : TRef} {a1 : Int} {r : TTook × Pool (TNode TMark TSwell)}  (H0 : Vbridge_Least.f k p1 rt0 a1 = some r) : Vbridge_Least_st p1 rt0 a1 r 0 1 := by
 rw [Vbridge_Least.f] at H0
 refine spec_of [(0, _), (1, _)] [(0, _), (1, _)] 11 Tryz.func103 rfl Tryz.ntmps103 rfl rfl rfl rfl (fun β W F => ?_)
 refine G.seq <| G.rg <| K.alloc Y 100 _ g0 t44 rfl rfl rfl rfl rfl <| K.nil <| At.ns ?_
 obtain ⟨x1, hx1, H0⟩ := bnd H0
 obtain ⟨x2, hx2, H0⟩ := bnd H0
 refine G.rg <| K.mv rfl rfl <| K.mv rfl rfl <| K.mv rfl rfl <| K.cA (cf 98 rfl) [0] (fun β w S2 h => SCon.rdBlk (Vbridge_clamp_con hx1 0 1) rfl h) g0 rfl rfl rfl <| K.cA (cf 102 rfl) [0] (fun β w S2 h => SCon.rdBlk (VTree_BetweenM_con hx2 0 1) rfl h) g0 rfl rfl rfl <| K.fieldS Y _ g0 rfl t50 rfl t44 rfl rfl <| K.store Y _ g0 rfl rfl rfl t44 rfl rfl rfl rfl rfl <| K.nil <| At.next <| G.ret <| At.done Y [(.cell 4 44, .agg [_, _, _])] rfl ⟨.st rfl rfl t44 rfl rfl, trivial⟩ (to' := [(0, _), (1, _)]) ⟨rfl, rfl, trivial⟩ ?_ ?_ rfl rfl rfl (.inl rfl)
 · cases H0; rfl
 · cases H0; rfl
theorem Vbridge_Least_con {k : Nat}  {p1 : Pool (TNode TMark TSwell)} {rt0 : TRef} {a1 : Int} {r : TTook × Pool (TNode TMark TSwell)}  (H0 : Vbridge_Least.f k p1 rt0 a1 = some r) (m0 m1 : Nat) : Vbridge_Least_st p1 rt0 a1 r m0 m1 :=
 SCon.ren (rn [(0, m0), (1, m1)]) (Vbridge_Least_con0 (k := k)   H0) ⟨(blk_ren rfl rfl), (pool_ren rfl), trivial⟩ ⟨(blk_ren rfl rfl), (pool_ren rfl), trivial⟩ (by simp) (by simp)
abbrev Vpartial_Queue_leave_st (q0 : TQueue) (a1 : Int) (r : TChange × TQueue) (m0 : Nat) (m1 : Nat) (m2 : Nat) (m3 : Nat) (m4 : Nat) (m5 : Nat) (m6 : Nat) (m7 : Nat) (m8 : Nat) (m60 : Nat) (m61 : Nat) : Prop := SCon Tryz.prog 73 [SV.p m0 0, .a (.c (.v (.int .i64 a1)))] (tkQueueV m0 m1 m2 m3 m4 m5 m6 m7 m8 q0 []) (.a (.agg [.nv m60, .nv m61])) (tkQueueV m0 m1 m2 m3 m4 m5 m6 m7 m8 r.2 [(m60, lrow m60 30 eTItem 2 (r.1.in_)), (m61, lrow m61 30 eTItem 2 (r.1.out))]) [m60, m61]
theorem Vpartial_Queue_leave_con0 {k : Nat}  {q0 : TQueue} {a1 : Int} {r : TChange × TQueue}  (H0 : Vpartial_Queue_leave.f k q0 a1 = some r) : Vpartial_Queue_leave_st q0 a1 r 0 1 2 3 4 5 6 7 8 60 61 := by
 rw [Vpartial_Queue_leave.f] at H0
 refine spec_of [(0, _), (1, _)] [(0, _), (1, _), (2, _), (3, _), (4, _), (5, _), (6, _), (7, _), (8, _)] 40 Tryz.func73 rfl Tryz.ntmps73 rfl rfl rfl rfl (fun β W F => ?_)
 refine G.seq <| G.rg <| K.alloc Y 100 _ g0 t56 rfl rfl rfl rfl rfl <| K.nil <| At.nilBlk (n := 100) (l' := [_, _]) 0 101 30 eTItem 2 rfl rfl rfl rfl rfl <| At.nilBlk (n := 100) (l' := [_, _]) 1 102 30 eTItem 2 rfl rfl rfl rfl rfl <| At.ns ?_
 obtain ⟨x1, hx1, H0⟩ := bnd H0
 obtain ⟨x2, hx2, H0⟩ := bnd H0
 refine G.rd mixed <| K.mv rfl rfl <| K.nilCheck g0 rfl rfl <| K.fieldAddr Y g0 rfl t98 rfl rfl <| K.load1 Y g0 rfl rfl t38 rfl rfl <| K.mv rfl rfl <| K.nilCheck g0 rfl rfl <| K.fieldAddr Y g0 rfl t98 rfl rfl <| K.load1 Y g0 rfl rfl t38 rfl rfl <| K.mv rfl rfl <| K.mv rfl rfl <| K.nilCheck g0 rfl rfl <| K.fieldAddr Y g0 rfl t98 rfl rfl <| K.load1 Y g0 rfl rfl t3 rfl rfl <| K.c0 (cf 104 rfl) (Vbridge_Next_con hx1 1 2) g0 rfl rfl rfl rfl <| K.c0 (cf 103 rfl) (Vbridge_Least_con hx2 1 2) g0 rfl rfl rfl rfl <| K.alloc Y 103 _ g0 t44 rfl rfl rfl rfl rfl <| K.store Y _ g0 rfl rfl rfl t44 rfl rfl rfl rfl rfl <| K.nil <| And.intro (by kernel_rfl) <| At.ns <| G.seq <| G.rg <| K.fieldAddr Y g0 rfl t44 rfl rfl <| K.load1 Y g0 rfl rfl t4 rfl rfl <| K.un (V := .bool (!x2.1.found)) g0 rfl (fun _ => rfl) rfl <| K.nil <| At.next <| G.cond rfl (fun h1 => ?_) (fun h1 => ?_)
 ·
  replace H0 := bif_t H0 h1
  refine G.seq <| G.rg <| K.mv rfl rfl <| K.nilCheck g0 rfl rfl <| K.fieldAddr Y g0 rfl t98 rfl rfl <| K.load1 Y g0 rfl rfl t3 rfl rfl <| K.bin (V := .int .i64 (w64 (q0.excess + 1))) g0 rfl rfl (fun _ => rfl) rfl <| K.nilCheck g0 rfl rfl <| K.fieldAddr Y g0 rfl t98 rfl rfl <| K.store Y _ g0 rfl rfl rfl t3 rfl rfl rfl rfl rfl <| K.nil <| At.nr <| K.build Y [] [_, _] [] g0 (AllE.spec trivial) rfl rfl t56 rfl rfl <| K.store Y _ g0 rfl rfl rfl t56 rfl rfl rfl rfl rfl <| K.nil <| At.nilAgg (t := 31) (l' := [_, _]) 0 104 30 eTItem 2 rfl rfl rfl rfl rfl <| At.nilAgg (t := 31) (l' := [_, _]) 1 105 30 eTItem 2 rfl rfl rfl rfl rfl <| At.nilBlk (n := 100) (l' := [_, _]) 0 106 30 eTItem 2 rfl rfl rfl rfl rfl <| At.nilBlk (n := 100) (l' := [_, _]) 1 107 30 eTItem 2 rfl rfl rfl rfl rfl <| At.next <| G.ret <| At.over_ret <| At.ren (fs' := [(4, .a (.c (.p 100 0)))]) (tl := (tkQueueV 0 1 2 3 4 5 6 7 8 (TQueue.mk q0.capacity (TS.mk x2.2 q0.marks.r) q0.present q0.gone q0.times (w64 (q0.excess + 1))) [(60, lrow 60 30 eTItem 2 ([] : List TItem)), (61, lrow 61 30 eTItem 2 ([] : List TItem)), (100, blk 100 [.nv 60, .nv 61] 56)])) [(60, 106), (61, 107)] [_, _, _, _, _, _, _, _, _, _, _, _] rfl ⟨rfl, trivial⟩ ⟨rfl, (blk_ren rfl rfl), rfl, (blk_ren rfl rfl), rfl, (pool_ren rfl), rfl, (blk_ren rfl rfl), rfl, (pool_ren rfl), rfl, (blk_ren rfl rfl), rfl, (pool_ren rfl), rfl, (blk_ren rfl rfl), rfl, (pool_ren rfl), rfl, (lrow_ren rfl), rfl, (lrow_ren rfl), rfl, (blk_ren rfl rfl), trivial⟩ rfl <| At.done Y [(.cell 4 56, .agg [_, _])] rfl ⟨.st rfl rfl t56 rfl rfl, trivial⟩ (to' := [(0, _), (1, _), (2, _), (3, _), (4, _), (5, _), (6, _), (7, _), (8, _), (60, _), (61, _)]) ⟨rfl, rfl, rfl, rfl, rfl, rfl, rfl, rfl, rfl, rfl, rfl, trivial⟩ ?_ ?_ rfl rfl rfl (.inl rfl)
  · cases H0; rfl
  · cases H0; rfl
 ·
  replace H0 := bif_f H0 h1
  refine G.skip <| At.ns ?_
  obtain ⟨x3, hx3, H0⟩ := bnd H0
  refine G.rg <| K.mv rfl rfl <| K.fieldAddr Y g0 rfl t44 rfl rfl <| K.loadS Y _ g0 rfl rfl t30 rfl rfl rfl <| K.c0 (cf 72 rfl) (Vpartial_Queue_turn_con hx3 0 1 2 3 4 5 6 7 8) g0 rfl rfl rfl rfl <| K.nil <| At.nr <| K.fieldAddr Y g0 rfl t44 rfl rfl <| K.loadS Y _ g0 rfl rfl t30 rfl rfl rfl <| K.buildL Y 108 ([x2.1.item] : List TItem) [(0, _)] [((.tmp 37), _)] eTItem_len g0 (AllE.spec ⟨rfl, trivial⟩) rfl rfl Tryz.underlying33 t30 rfl rfl rfl rfl rfl rfl rfl rfl <| K.build Y [(1, _)] [_, _] [((.tmp 38), _)] g0 (AllE.spec ⟨rfl, trivial⟩) rfl rfl t56 rfl rfl <| K.store Y _ g0 rfl rfl rfl t56 rfl rfl rfl rfl rfl <| K.nil <| At.nilAgg (t := 39) (l' := [_, _]) 0 109 30 eTItem 2 rfl rfl rfl rfl rfl <| At.nilBlk (n := 100) (l' := [_, _]) 0 110 30 eTItem 2 rfl rfl rfl rfl rfl <| At.next <| G.ret <| At.ren (fs' := [(4, .a (.c (.p 100 0)))]) (tl := (tkQueueV 0 1 2 3 4 5 6 7 8 x3 [(60, lrow 60 30 eTItem 2 ([] : List TItem)), (61, lrow 61 30 eTItem 2 ([x2.1.item] : List TItem)), (100, blk 100 [.nv 60, .nv 61] 56)])) [(60, 110), (61, 108)] [_, _, _, _, _, _, _, _, _, _, _, _] rfl ⟨rfl, trivial⟩ ⟨rfl, (blk_ren rfl rfl), rfl, (blk_ren rfl rfl), rfl, (pool_ren rfl), rfl, (blk_ren rfl rfl), rfl, (pool_ren rfl), rfl, (blk_ren rfl rfl), rfl, (pool_ren rfl), rfl, (blk_ren rfl rfl), rfl, (pool_ren rfl), rfl, (lrow_ren rfl), rfl, (lrow_ren rfl), rfl, (blk_ren rfl rfl), trivial⟩ rfl <| At.done Y [(.cell 4 56, .agg [_, _])] rfl ⟨.st rfl rfl t56 rfl rfl, trivial⟩ (to' := [(0, _), (1, _), (2, _), (3, _), (4, _), (5, _), (6, _), (7, _), (8, _), (60, _), (61, _)]) ⟨rfl, rfl, rfl, rfl, rfl, rfl, rfl, rfl, rfl, rfl, rfl, trivial⟩ ?_ ?_ rfl rfl rfl (.inl rfl)
  · cases H0; rfl
  · cases H0; rfl
theorem Vpartial_Queue_leave_con {k : Nat}  {q0 : TQueue} {a1 : Int} {r : TChange × TQueue}  (H0 : Vpartial_Queue_leave.f k q0 a1 = some r) (m0 m1 m2 m3 m4 m5 m6 m7 m8 m60 m61 : Nat) (hd : ndB [m0, m1, m2, m3, m4, m5, m6, m7, m8, m60, m61] = true) : Vpartial_Queue_leave_st q0 a1 r m0 m1 m2 m3 m4 m5 m6 m7 m8 m60 m61 :=
 SCon.ren (rn [(0, m0), (1, m1), (2, m2), (3, m3), (4, m4), (5, m5), (6, m6), (7, m7), (8, m8), (60, m60), (61, m61)]) (Vpartial_Queue_leave_con0 (k := k)   H0) ⟨(blk_ren rfl rfl), (blk_ren rfl rfl), (pool_ren rfl), (blk_ren rfl rfl), (pool_ren rfl), (blk_ren rfl rfl), (pool_ren rfl), (blk_ren rfl rfl), (pool_ren rfl), trivial⟩ ⟨(blk_ren rfl rfl), (blk_ren rfl rfl), (pool_ren rfl), (blk_ren rfl rfl), (pool_ren rfl), (blk_ren rfl rfl), (pool_ren rfl), (blk_ren rfl rfl), (pool_ren rfl), (lrow_ren rfl), (lrow_ren rfl), trivial⟩ (rn_nd hd rfl rfl) (rn_ks hd rfl rfl rfl)
abbrev Vpartial_Queue_Delete_st (q0 : TQueue) (a1 : Int) (r : TChange × Int × TQueue) (m0 : Nat) (m1 : Nat) (m2 : Nat) (m3 : Nat) (m4 : Nat) (m5 : Nat) (m6 : Nat) (m7 : Nat) (m8 : Nat) (m60 : Nat) (m61 : Nat) : Prop := SCon Tryz.prog 24 [SV.p m0 0, .a (.c (.v (.int .i64 a1)))] (tkQueueV m0 m1 m2 m3 m4 m5 m6 m7 m8 q0 []) (.tup [.agg [.nv m60, .nv m61], .c (.v (.int .i64 r.2.1))]) (tkQueueV m0 m1 m2 m3 m4 m5 m6 m7 m8 r.2.2 [(m60, lrow m60 30 eTItem 2 (r.1.in_)), (m61, lrow m61 30 eTItem 2 (r.1.out))]) [m60, m61]
theorem Vpartial_Queue_Delete_con0 {k : Nat}  {q0 : TQueue} {a1 : Int} {r : TChange × Int × TQueue}  (H0 : Vpartial_Queue_Delete.f k q0 a1 = some r) : Vpartial_Queue_Delete_st q0 a1 r 0 1 2 3 4 5 6 7 8 60 61 := by
 rw [Vpartial_Queue_Delete.f] at H0
 refine spec_of [(0, _), (1, _)] [(0, _), (1, _), (2, _), (3, _), (4, _), (5, _), (6, _), (7, _), (8, _)] 32 Tryz.func24 rfl Tryz.ntmps24 rfl rfl rfl rfl (fun β W F => ?_)
 refine G.seq <| G.rg <| K.alloc Y 100 _ g0 t56 rfl rfl rfl rfl rfl <| K.as rfl rfl <| K.nil <| At.nilBlk (n := 100) (l' := [_, _]) 0 101 30 eTItem 2 rfl rfl rfl rfl rfl <| At.nilBlk (n := 100) (l' := [_, _]) 1 102 30 eTItem 2 rfl rfl rfl rfl rfl <| At.ns <| G.seq ?_
 obtain ⟨x1, hx1, H0⟩ := bnd H0
 refine G.rg <| K.mv rfl rfl <| K.mv rfl rfl <| K.c0 (cf 63 rfl) (Vpartial_Queue_may_con hx1 0 1 2 3 4 5 6 7 8) g0 rfl rfl rfl rfl <| K.as rfl rfl <| K.nil <| At.nr <| K.mv rfl rfl <| K.bin (V := .bool (x1.1 != 0)) g0 rfl rfl (fun _ => rfl) rfl <| K.nil <| At.next <| G.cond rfl (fun h1 => ?_) (fun h1 => ?_)
 ·
  replace H0 := bif_t H0 h1
  refine G.seq <| G.rg <| K.build Y [] [_, _] [] g0 (AllE.spec trivial) rfl rfl t56 rfl rfl <| K.mv rfl rfl <| K.store Y _ g0 rfl rfl rfl t56 rfl rfl rfl rfl rfl <| K.as rfl rfl <| K.nil <| At.nilAgg (t := 13) (l' := [_, _]) 0 103 30 eTItem 2 rfl rfl rfl rfl rfl <| At.nilAgg (t := 13) (l' := [_, _]) 1 104 30 eTItem 2 rfl rfl rfl rfl rfl <| At.nilBlk (n := 100) (l' := [_, _]) 0 105 30 eTItem 2 rfl rfl rfl rfl rfl <| At.nilBlk (n := 100) (l' := [_, _]) 1 106 30 eTItem 2 rfl rfl rfl rfl rfl <| At.next <| G.ret <| At.over_ret <| At.ren (fs' := [(4, .a (.c (.p 100 0))), (5, .a (.c (.v (.int .i64 x1.1))))]) (tl := (tkQueueV 0 1 2 3 4 5 6 7 8 x1.2 [(60, lrow 60 30 eTItem 2 ([] : List TItem)), (61, lrow 61 30 eTItem 2 ([] : List TItem)), (100, blk 100 [.nv 60, .nv 61] 56)])) [(60, 105), (61, 106)] [_, _, _, _, _, _, _, _, _, _, _, _] rfl ⟨rfl, rfl, trivial⟩ ⟨rfl, (blk_ren rfl rfl), rfl, (blk_ren rfl rfl), rfl, (pool_ren rfl), rfl, (blk_ren rfl rfl), rfl, (pool_ren rfl), rfl, (blk_ren rfl rfl), rfl, (pool_ren rfl), rfl, (blk_ren rfl rfl), rfl, (pool_ren rfl), rfl, (lrow_ren rfl), rfl, (lrow_ren rfl), rfl, (blk_ren rfl rfl), trivial⟩ rfl <| At.done Y [(.cell 4 56, .agg [_, _]), (.tmp 5, .c _)] rfl ⟨.st rfl rfl t56 rfl rfl, .tmp rfl, trivial⟩ (to' := [(0, _), (1, _), (2, _), (3, _), (4, _), (5, _), (6, _), (7, _), (8, _), (60, _), (61, _)]) ⟨rfl, rfl, rfl, rfl, rfl, rfl, rfl, rfl, rfl, rfl, rfl, trivial⟩ ?_ ?_ rfl rfl rfl (.inl rfl)
  · cases H0; rfl
  · cases H0; rfl
 ·
  replace H0 := bif_f H0 h1
  refine G.skip <| At.ns ?_
  obtain ⟨x2, hx2, H0⟩ := bnd H0
  obtain ⟨x3, hx3, H0⟩ := bnd H0
  obtain ⟨x4, hx4, H0⟩ := bnd H0
  refine G.rd mixed <| K.mv rfl rfl <| K.mv rfl rfl <| K.nilCheck g0 rfl rfl <| K.fieldAddr Y g0 rfl t98 rfl rfl <| K.load1 Y g0 rfl rfl t38 rfl rfl <| K.mv rfl rfl <| K.cR (cf 67 rfl) (wave_Key_con hx2) g0 rfl rfl rfl rfl <| K.c0 (cf 66 rfl) (VTree_RankM_con hx3 1 2) g0 rfl rfl rfl rfl <| K.c0 (cf 73 rfl) (Vpartial_Queue_leave_con hx4 0 1 2 3 4 5 6 7 8 107 108 rfl) g0 rfl rfl rfl rfl <| K.alloc Y 109 _ g0 t56 rfl rfl rfl rfl rfl <| K.store Y _ g0 rfl rfl rfl t56 rfl rfl rfl rfl rfl <| K.nil <| And.intro (by kernel_rfl) <| At.ns ?_
  obtain ⟨x5, hx5, H0⟩ := bnd H0
  obtain ⟨x6, hx6, H0⟩ := bnd H0
  refine G.rd mixed <| K.mv rfl rfl <| K.nilCheck g0 rfl rfl <| K.fieldAddr Y g0 rfl t98 rfl rfl <| K.load1 Y g0 rfl rfl t38 rfl rfl <| K.mv rfl rfl <| K.cR (cf 67 rfl) (wave_Key_con hx5) g0 rfl rfl rfl rfl <| K.c0 (cf 70 rfl) (VTree_PutM_con hx6 1 2) g0 rfl rfl rfl rfl <| K.nil <| And.intro (by kernel_rfl) <| At.nr <| K.loadS Y _ g0 rfl rfl t56 rfl rfl rfl <| K.store Y _ g0 rfl rfl rfl t56 rfl rfl rfl rfl rfl <| K.as rfl rfl <| K.nil <| At.next <| G.ret <| At.ren (fs' := [(4, .a (.c (.p 100 0))), (5, .a (.c (.v (.int .i64 0))))]) (tl := (tkQueueV 0 1 2 3 4 5 6 7 8 (TQueue.mk x4.2.capacity (TS.mk x6.2.2 x6.2.1) x4.2.present x4.2.gone x4.2.times x4.2.excess) [(60, lrow 60 30 eTItem 2 x4.1.in_), (61, lrow 61 30 eTItem 2 x4.1.out), (100, blk 100 [.nv 60, .nv 61] 56)])) [(60, 107), (61, 108)] [_, _, _, _, _, _, _, _, _, _, _, _] rfl ⟨rfl, rfl, trivial⟩ ⟨rfl, (blk_ren rfl rfl), rfl, (blk_ren rfl rfl), rfl, (pool_ren rfl), rfl, (blk_ren rfl rfl), rfl, (pool_ren rfl), rfl, (blk_ren rfl rfl), rfl, (pool_ren rfl), rfl, (blk_ren rfl rfl), rfl, (pool_ren rfl), rfl, (lrow_ren rfl), rfl, (lrow_ren rfl), rfl, (blk_ren rfl rfl), trivial⟩ rfl <| At.done Y [(.cell 4 56, .agg [_, _]), (.tmp 5, .c _)] rfl ⟨.st rfl rfl t56 rfl rfl, .tmp rfl, trivial⟩ (to' := [(0, _), (1, _), (2, _), (3, _), (4, _), (5, _), (6, _), (7, _), (8, _), (60, _), (61, _)]) ⟨rfl, rfl, rfl, rfl, rfl, rfl, rfl, rfl, rfl, rfl, rfl, trivial⟩ ?_ ?_ rfl rfl rfl (.inl rfl)
  · cases H0; rfl
  · cases H0; rfl
end Go.Proofs.YtpeoalmhccmdiaaGreat

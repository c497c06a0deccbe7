/- My texts that the proof of BridgeVisits rests on, part 3: a calculus of walks, the walks, and the plain law. -/
import Derived.KernelRfl
import Derived.Test.YthcehagablploaaBvb
set_option linter.unusedVariables false
set_option linter.unusedSimpArgs false
namespace Go.Proofs.Ythcehagablploaa
open Go Go.Proofs.Ythcehagablploaa.Sx
abbrev pvM (k : Nat) (p : Pool (TNode TMark TSwell)) : Tok := pool k 93 104 3 31 fCM p
theorem pvgetM {p : Pool (TNode TMark TSwell)} {i g : Int} {x : ((TNode TMark TSwell) × Bool) × Pool (TNode TMark TSwell)} (h : vGet zNodeM p i g = some x) (k : Nat) : SCon Try.prog 65 [SV.p k 0, SV.agg [.i i, .i g]] [(k, pvM k p)] (.tup [avM x.1.1, .c (.b x.1.2)]) [(k, pvM k x.2)] [] := by
 obtain ⟨hp, hx⟩ := grd h
 cases hx
 exact getM' p i g ((hp.ok p.vis : PoolOk 4294967294 p)) (by decide) k
theorem pvsetM {p : Pool (TNode TMark TSwell)} {i g : Int} {y : (TNode TMark TSwell)} {x : Bool × Pool (TNode TMark TSwell)} (h : pSet p i g y = some x) (k : Nat) : SCon Try.prog 71 [SV.p k 0, SV.agg [.i i, .i g], .a (avM y)] [(k, pvM k p)] (SV.b x.1) [(k, pvM k x.2)] [] := by
 obtain ⟨hp, hx⟩ := grd h
 cases hx
 exact setM' p i g y ((hp.ok p.vis : PoolOk 4294967294 p)) (by decide) k
theorem pvputM {p : Pool (TNode TMark TSwell)} {y : (TNode TMark TSwell)} {x : ((Int × Int) × Bool) × Pool (TNode TMark TSwell)} (h : pPut zNodeM p y = some x) (k : Nat) : SCon Try.prog 69 [SV.p k 0, .a (avM y)] [(k, pvM k p)] (.tup [.agg [.i x.1.1.1, .i x.1.1.2], .c (.b x.1.2)]) [(k, pvM k x.2)] [] := by
 obtain ⟨hp, hx⟩ := grd h
 cases hx
 exact putM p y ((hp.ok p.vis : PoolOk 4294967294 p)) (by decide) k
theorem pvvisitsM (p : Pool (TNode TMark TSwell)) (k : Nat) : SCon Try.prog 52 [SV.p k 0] [(k, pvM k p)] (SV.i p.vis) [(k, pvM k p)] [] := visitsM' p k
theorem pvnewM (c : Int) (k : Nat) : SCon Try.prog 68 [SV.i c] [] (SV.p k 0) [(k, pvM k ⟨[], [], capOf c, 0, 0⟩)] [k] := newM c k
abbrev VTree_NewM_st (a0 : Int) (r : TRef × Pool (TNode TMark TSwell)) (m40 : Nat) (m41 : Nat) : Prop := SCon Try.prog 60 [.a (.c (.v (.int .i64 a0)))] [] (.a (.c (.p m40 0))) [(m40, blk m40 [.p m41 0, .i r.1.index, .i r.1.gen] 74), (m41, pvM m41 r.2)] [m40, m41]
theorem VTree_NewM_con0 {k : Nat}  {a0 : Int} {r : TRef × Pool (TNode TMark TSwell)}  (H0 : VTree_New.f opsM k a0 = some r) : VTree_NewM_st a0 r 40 41 := by
 rw [VTree_New.f] at H0
 refine spec_of [(0, _)] [] 7 Try.func60 rfl Try.ntmps60 rfl rfl rfl rfl (fun β W F => ?_)
 exact G.seq <| G.rg <| K.as rfl rfl <| K.nil <| At.nr <| K.mv rfl rfl <| K.call0 [(.func 68, _), ((.tmp 3), _)] (pvnewM a0 100) (toFn_func (cf 68 rfl) rfl) g0 ⟨rfl, rfl, trivial⟩ trivial rfl rfl rfl rfl rfl rfl <| K.build Y [(0, _)] [_, _, _] [((.tmp 4), _)] g0 (AllE.spec ⟨rfl, trivial⟩) rfl rfl t74 rfl rfl <| K.box Y 101 _ g0 rfl rfl rfl rfl rfl rfl <| K.as rfl rfl <| K.nil <| At.next <| G.ret <| At.ren (fs' := [(2, .a (.c (.p 40 0)))]) (tl := [(40, blk 40 [.p 41 0, .v (.int .i64 0), .v (.int .i64 0)] 74), (41, pvM 41 (⟨[], [], capOf a0, 0, 0⟩ : Pool (TNode TMark TSwell)))]) [(40, 101), (41, 100)] [_, _] rfl ⟨rfl, trivial⟩ ⟨rfl, (blk_ren rfl rfl), rfl, (pool_ren rfl), trivial⟩ rfl <| At.dr Y [2] rfl rfl (by cases H0; rfl) (by cases H0; rfl) rfl rfl rfl
theorem VTree_NewM_con {k : Nat}  {a0 : Int} {r : TRef × Pool (TNode TMark TSwell)}  (H0 : VTree_New.f opsM k a0 = some r) (m40 m41 : Nat) (hd : ndB [m40, m41] = true) : VTree_NewM_st a0 r m40 m41 :=
 SCon.ren (rn [(40, m40), (41, m41)]) (VTree_NewM_con0 (k := k)   H0) trivial ⟨(blk_ren rfl rfl), (pool_ren rfl), trivial⟩ (rn_nd hd rfl rfl) (rn_ks hd rfl rfl rfl)
abbrev Vwave_New_st (a0 : Int) (r : TRef × Pool (TNode TMark TSwell)) (m40 : Nat) (m41 : Nat) : Prop := SCon Try.prog 42 [.a (.c (.v (.int .i64 a0)))] [] (.a (.c (.p m40 0))) [(m40, blk m40 [.p m41 0, .i r.1.index, .i r.1.gen] 74), (m41, pvM m41 r.2)] [m40, m41]
theorem Vwave_New_con0 {k : Nat}  {a0 : Int} {r : TRef × Pool (TNode TMark TSwell)}  (H0 : Vwave_New.f k a0 = some r) : Vwave_New_st a0 r 40 41 := by
 rw [Vwave_New.f] at H0
 refine spec_of [(0, _)] [] 5 Try.func42 rfl Try.ntmps42 rfl rfl rfl rfl (fun β W F => ?_)
 refine G.seq <| G.rg <| K.as rfl rfl <| K.nil <| At.ns ?_
 obtain ⟨x1, hx1, H0⟩ := bnd H0
 exact G.rg <| K.mv rfl rfl <| K.c0 (cf 60 rfl) (VTree_NewM_con hx1 100 101 rfl) g0 rfl rfl rfl rfl <| K.as rfl rfl <| K.nil <| At.next <| G.ret <| At.ren (fs' := [(2, .a (.c (.p 40 0)))]) (tl := [(40, blk 40 [.p 41 0, .v (.int .i64 x1.1.index), .v (.int .i64 x1.1.gen)] 74), (41, pvM 41 x1.2)]) [(40, 100), (41, 101)] [_, _] rfl ⟨rfl, trivial⟩ ⟨rfl, (blk_ren rfl rfl), rfl, (pool_ren rfl), trivial⟩ rfl <| At.dr Y [2] rfl rfl (by cases H0; rfl) (by cases H0; rfl) rfl rfl rfl
theorem Vwave_New_con {k : Nat}  {a0 : Int} {r : TRef × Pool (TNode TMark TSwell)}  (H0 : Vwave_New.f k a0 = some r) (m40 m41 : Nat) (hd : ndB [m40, m41] = true) : Vwave_New_st a0 r m40 m41 :=
 SCon.ren (rn [(40, m40), (41, m41)]) (Vwave_New_con0 (k := k)   H0) trivial ⟨(blk_ren rfl rfl), (pool_ren rfl), trivial⟩ (rn_nd hd rfl rfl) (rn_ks hd rfl rfl rfl)
abbrev VTree_getM_st (p1 : Pool (TNode TMark TSwell)) (a1 : TRef) (ri0 : Int) (rg0 : Int) (r : TNode TMark TSwell × Pool (TNode TMark TSwell)) (m0 : Nat) (m1 : Nat) : Prop := SCon Try.prog 50 [SV.p m0 0, .a (.agg ((eTRef a1).map .v))] [(m0, blk m0 [.p m1 0, .i ri0, .i rg0] 74), (m1, pvM m1 p1)] (.a (.agg ((eTNode_TMark_TSwell r.1).map .v))) [(m0, blk m0 [.p m1 0, .i ri0, .i rg0] 74), (m1, pvM m1 r.2)] []
theorem VTree_getM_con0 {k : Nat}  {p1 : Pool (TNode TMark TSwell)} {a1 : TRef} {ri0 rg0 : Int} {r : TNode TMark TSwell × Pool (TNode TMark TSwell)}  (H0 : VTree_get.f opsM k p1 a1 = some r) : VTree_getM_st p1 a1 ri0 rg0 r 0 1 := by
 rw [VTree_get.f] at H0
 refine spec_of [(0, _), (1, _)] [(0, _), (1, _)] 21 Try.func50 rfl Try.ntmps50 rfl rfl rfl rfl (fun β W F => ?_)
 refine G.seq <| G.rg <| K.box Y 100 _ g0 rfl rfl rfl rfl rfl rfl <| K.alloc Y 101 _ g0 t70 rfl rfl rfl rfl rfl <| K.nil <| At.ns <| G.seq <| G.rg <| K.fieldAddr Y g0 rfl t68 rfl rfl <| K.load1 Y g0 rfl rfl t3 rfl rfl <| K.bin (V := .bool (a1.gen == 0)) g0 rfl rfl (fun _ => rfl) rfl <| K.nil <| At.next <| G.cond rfl (fun h1 => ?_) (fun h1 => ?_)
 ·
  replace H0 := bif_t H0 h1
  refine G.seq <| G.rg <| K.build Y [] [_, _, _, _, _, _, _, _, _, _, _, _, _, _, _, _, _, _, _, _, _, _, _, _, _, _, _, _, _] [] g0 (AllE.spec trivial) rfl rfl t70 rfl rfl <| K.store Y _ g0 rfl rfl rfl t70 rfl rfl rfl rfl rfl <| K.nil <| At.next <| G.ret <| At.over_ret <| At.done Y [(.cell 4 70, .agg [_, _, _, _, _, _, _, _, _, _, _, _, _, _, _, _, _, _, _, _, _, _, _, _, _, _, _, _, _])] rfl ⟨.st rfl rfl t70 rfl rfl, trivial⟩ (to' := [(0, _), (1, _)]) ⟨rfl, rfl, trivial⟩ ?_ ?_ rfl rfl rfl (.inl rfl)
  · cases H0; rfl
  · cases H0; rfl
 ·
  replace H0 := bif_f H0 h1
  refine G.skip <| At.ns ?_
  obtain ⟨x1, hx1, H0⟩ := bnd H0
  refine G.rd mixed <| K.mv rfl rfl <| K.nilCheck g0 rfl rfl <| K.fieldAddr Y g0 rfl t74 rfl rfl <| K.load1 Y g0 rfl rfl t72 rfl rfl <| K.loadS Y _ g0 rfl rfl t68 rfl rfl rfl <| K.call0 [(.func 65, _), ((.tmp 15), _), ((.tmp 16), _)] (pvgetM hx1 1) (toFn_func (cf 65 rfl) rfl) g0 ⟨rfl, rfl, rfl, trivial⟩ ⟨rfl, trivial⟩ rfl rfl rfl rfl rfl rfl <| K.mv rfl rfl <| K.extract g0 rfl rfl rfl <| K.extract g0 rfl rfl rfl <| K.alloc Y 102 _ g0 t70 rfl rfl rfl rfl rfl <| K.store Y _ g0 rfl rfl rfl t70 rfl rfl rfl rfl rfl <| K.as rfl rfl <| K.nil <| And.intro (by kernel_rfl) <| At.nr <| K.loadS Y _ g0 rfl rfl t70 rfl rfl rfl <| K.store Y _ g0 rfl rfl rfl t70 rfl rfl rfl rfl rfl <| K.nil <| At.next <| G.ret <| At.done Y [(.cell 4 70, .agg [_, _, _, _, _, _, _, _, _, _, _, _, _, _, _, _, _, _, _, _, _, _, _, _, _, _, _, _, _])] rfl ⟨.st rfl rfl t70 rfl rfl, trivial⟩ (to' := [(0, _), (1, _)]) ⟨rfl, rfl, trivial⟩ ?_ ?_ rfl rfl rfl (.inl rfl)
  · cases H0; rfl
  · cases H0; rfl
theorem VTree_getM_con {k : Nat}  {p1 : Pool (TNode TMark TSwell)} {a1 : TRef} {ri0 rg0 : Int} {r : TNode TMark TSwell × Pool (TNode TMark TSwell)}  (H0 : VTree_get.f opsM k p1 a1 = some r) (m0 m1 : Nat) : VTree_getM_st p1 a1 ri0 rg0 r m0 m1 :=
 SCon.ren (rn [(0, m0), (1, m1)]) (VTree_getM_con0 (k := k)   H0) ⟨(blk_ren rfl rfl), (pool_ren rfl), trivial⟩ ⟨(blk_ren rfl rfl), (pool_ren rfl), trivial⟩ (by simp) (by simp)
abbrev VTree_weightM_st (p1 : Pool (TNode TMark TSwell)) (a1 : TRef) (ri0 : Int) (rg0 : Int) (r : Int × Pool (TNode TMark TSwell)) (m0 : Nat) (m1 : Nat) : Prop := SCon Try.prog 67 [SV.p m0 0, .a (.agg ((eTRef a1).map .v))] [(m0, blk m0 [.p m1 0, .i ri0, .i rg0] 74), (m1, pvM m1 p1)] (.a (.c (.v (.int .i64 r.1)))) [(m0, blk m0 [.p m1 0, .i ri0, .i rg0] 74), (m1, pvM m1 r.2)] []
theorem VTree_weightM_con0 {k : Nat}  {p1 : Pool (TNode TMark TSwell)} {a1 : TRef} {ri0 rg0 : Int} {r : Int × Pool (TNode TMark TSwell)}  (H0 : VTree_weight.f opsM k p1 a1 = some r) : VTree_weightM_st p1 a1 ri0 rg0 r 0 1 := by
 rw [VTree_weight.f] at H0
 refine spec_of [(0, _), (1, _)] [(0, _), (1, _)] 10 Try.func67 rfl Try.ntmps67 rfl rfl rfl rfl (fun β W F => ?_)
 refine G.seq <| G.rg <| K.box Y 100 _ g0 rfl rfl rfl rfl rfl rfl <| K.as rfl rfl <| K.nil <| At.ns ?_
 obtain ⟨x1, hx1, H0⟩ := bnd H0
 exact G.rg <| K.mv rfl rfl <| K.loadS Y _ g0 rfl rfl t68 rfl rfl rfl <| K.cA (cf 50 rfl) [0] (fun β w S2 h => SCon.rdBlk (VTree_getM_con hx1 0 1) rfl h) g0 rfl rfl rfl <| K.field1 Y g0 rfl t70 rfl t3 rfl rfl <| K.bin (V := .int .i64 (w64 (x1.1.size + 1))) g0 rfl rfl (fun _ => rfl) rfl <| K.as rfl rfl <| K.nil <| At.next <| G.ret <| At.dr Y [4] rfl rfl (by cases H0; rfl) (by cases H0; rfl) rfl rfl rfl
theorem VTree_weightM_con {k : Nat}  {p1 : Pool (TNode TMark TSwell)} {a1 : TRef} {ri0 rg0 : Int} {r : Int × Pool (TNode TMark TSwell)}  (H0 : VTree_weight.f opsM k p1 a1 = some r) (m0 m1 : Nat) : VTree_weightM_st p1 a1 ri0 rg0 r m0 m1 :=
 SCon.ren (rn [(0, m0), (1, m1)]) (VTree_weightM_con0 (k := k)   H0) ⟨(blk_ren rfl rfl), (pool_ren rfl), trivial⟩ ⟨(blk_ren rfl rfl), (pool_ren rfl), trivial⟩ (by simp) (by simp)
abbrev VTree_layM_st (p1 : Pool (TNode TMark TSwell)) (a1 : TRef) (a2 : TRef) (a3 : TRef) (ri0 : Int) (rg0 : Int) (r : TRef × Pool (TNode TMark TSwell)) (m0 : Nat) (m1 : Nat) : Prop := SCon Try.prog 72 [SV.p m0 0, .a (.agg ((eTRef a1).map .v)), .a (.agg ((eTRef a2).map .v)), .a (.agg ((eTRef a3).map .v))] [(m0, blk m0 [.p m1 0, .i ri0, .i rg0] 74), (m1, pvM m1 p1)] (.a (.agg ((eTRef r.1).map .v))) [(m0, blk m0 [.p m1 0, .i ri0, .i rg0] 74), (m1, pvM m1 r.2)] []
theorem VTree_layM_con0 {k : Nat}  {p1 : Pool (TNode TMark TSwell)} {a1 : TRef} {a2 : TRef} {a3 : TRef} {ri0 rg0 : Int} {r : TRef × Pool (TNode TMark TSwell)}  (H0 : VTree_lay.f opsM k p1 a1 a2 a3 = some r) : VTree_layM_st p1 a1 a2 a3 ri0 rg0 r 0 1 := by
 rw [VTree_lay.f] at H0
 refine spec_of [(0, _), (1, _), (2, _), (3, _)] [(0, _), (1, _)] 53 Try.func72 rfl Try.ntmps72 rfl rfl rfl rfl (fun β W F => ?_)
 refine G.seq <| G.rg <| K.box Y 100 _ g0 rfl rfl rfl rfl rfl rfl <| K.box Y 101 _ g0 rfl rfl rfl rfl rfl rfl <| K.box Y 102 _ g0 rfl rfl rfl rfl rfl rfl <| K.alloc Y 103 _ g0 t68 rfl rfl rfl rfl rfl <| K.nil <| At.ns ?_
 obtain ⟨x1, hx1, H0⟩ := bnd H0
 refine G.rg <| K.mv rfl rfl <| K.loadS Y _ g0 rfl rfl t68 rfl rfl rfl <| K.cA (cf 50 rfl) [0] (fun β w S2 h => SCon.rdBlk (VTree_getM_con hx1 0 1) rfl h) g0 rfl rfl rfl <| K.alloc Y 104 _ g0 t70 rfl rfl rfl rfl rfl <| K.store Y _ g0 rfl rfl rfl t70 rfl rfl rfl rfl rfl <| K.nil <| At.ns ?_
 obtain ⟨x2, hx2, H0⟩ := bnd H0
 obtain ⟨x3, hx3, H0⟩ := bnd H0
 refine G.rd mixed <| K.mv rfl rfl <| K.loadS Y _ g0 rfl rfl t68 rfl rfl rfl <| K.cA (cf 50 rfl) [0] (fun β w S2 h => SCon.rdBlk (VTree_getM_con hx2 0 1) rfl h) g0 rfl rfl rfl <| K.mv rfl rfl <| K.loadS Y _ g0 rfl rfl t68 rfl rfl rfl <| K.cA (cf 50 rfl) [0] (fun β w S2 h => SCon.rdBlk (VTree_getM_con hx3 0 1) rfl h) g0 rfl rfl rfl <| K.alloc Y 105 _ g0 t70 rfl rfl rfl rfl rfl <| K.alloc Y 106 _ g0 t70 rfl rfl rfl rfl rfl <| K.store Y _ g0 rfl rfl rfl t70 rfl rfl rfl rfl rfl <| K.store Y _ g0 rfl rfl rfl t70 rfl rfl rfl rfl rfl <| K.nil <| And.intro (by kernel_rfl) <| At.ns <| G.rd mixed <| K.loadS Y _ g0 rfl rfl t68 rfl rfl rfl <| K.loadS Y _ g0 rfl rfl t68 rfl rfl rfl <| K.fieldAddr Y g0 rfl t70 rfl rfl <| K.store Y _ g0 rfl rfl rfl t68 rfl rfl rfl rfl rfl <| K.fieldAddr Y g0 rfl t70 rfl rfl <| K.store Y _ g0 rfl rfl rfl t68 rfl rfl rfl rfl rfl <| K.nil <| And.intro (by kernel_rfl) <| At.nr <| K.fieldAddr Y g0 rfl t70 rfl rfl <| K.load1 Y g0 rfl rfl t3 rfl rfl <| K.bin (V := .int .i64 (w64 (x2.1.size + 1))) g0 rfl rfl (fun _ => rfl) rfl <| K.fieldAddr Y g0 rfl t70 rfl rfl <| K.load1 Y g0 rfl rfl t3 rfl rfl <| K.bin (V := .int .i64 (w64 ((w64 (x2.1.size + 1)) + x3.1.size))) g0 rfl rfl (fun _ => rfl) rfl <| K.fieldAddr Y g0 rfl t70 rfl rfl <| K.store Y _ g0 rfl rfl rfl t3 rfl rfl rfl rfl rfl <| K.nil <| At.ns ?_
 obtain ⟨x4, hx4, H0⟩ := bnd H0
 obtain ⟨x5, hx5, H0⟩ := bnd H0
 obtain ⟨x6, hx6, H0⟩ := bnd H0
 refine G.rd mixed <| K.fieldAddr Y g0 rfl t70 rfl rfl <| K.loadS Y _ g0 rfl rfl t43 rfl rfl rfl <| K.mkIface Y g0 rfl (mkI Try.underlying43 rfl) rfl <| K.fieldAddr Y g0 rfl t70 rfl rfl <| K.loadS Y _ g0 rfl rfl t39 rfl rfl rfl <| K.mkIface Y g0 rfl (mkI Try.underlying39 rfl) rfl <| K.callR [((.tmp 37), _)] (wave_Mark_Sum_con (k := k) hx4) (toFn_invoke (cf 96 rfl) (me39_96) rfl) g0 ⟨rfl, trivial⟩ trivial rfl rfl rfl <| K.callR [((.tmp 34), _), ((.tmp 38), _)] (wave_Swell_Plus_con (k := k) hx5) (toFn_invoke (cf 101 rfl) (me43_101) rfl) g0 ⟨rfl, rfl, trivial⟩ trivial rfl rfl rfl <| K.mkIface Y g0 rfl (mkI Try.underlying43 rfl) rfl <| K.fieldAddr Y g0 rfl t70 rfl rfl <| K.loadS Y _ g0 rfl rfl t43 rfl rfl rfl <| K.callR [((.tmp 40), _), ((.tmp 42), _)] (wave_Swell_Plus_con (k := k) hx6) (toFn_invoke (cf 101 rfl) (me43_101) rfl) g0 ⟨rfl, rfl, trivial⟩ trivial rfl rfl rfl <| K.fieldAddr Y g0 rfl t70 rfl rfl <| K.store Y _ g0 rfl rfl rfl t43 rfl rfl rfl rfl rfl <| K.nil <| And.intro (by kernel_rfl) <| At.ns ?_
 obtain ⟨x7, hx7, H0⟩ := bnd H0
 refine G.rd mixed <| K.mv rfl rfl <| K.nilCheck g0 rfl rfl <| K.fieldAddr Y g0 rfl t74 rfl rfl <| K.load1 Y g0 rfl rfl t72 rfl rfl <| K.loadS Y _ g0 rfl rfl t68 rfl rfl rfl <| K.loadS Y _ g0 rfl rfl t70 rfl rfl rfl <| K.call0 [(.func 71, _), ((.tmp 48), _), ((.tmp 49), _), ((.tmp 50), _)] (pvsetM hx7 1) (toFn_func (cf 71 rfl) rfl) g0 ⟨rfl, rfl, rfl, rfl, trivial⟩ ⟨rfl, trivial⟩ rfl rfl rfl rfl rfl rfl <| K.nil <| And.intro (by kernel_rfl) <| At.nr <| K.loadS Y _ g0 rfl rfl t68 rfl rfl rfl <| K.store Y _ g0 rfl rfl rfl t68 rfl rfl rfl rfl rfl <| K.nil <| At.next <| G.ret <| At.done Y [(.cell 8 68, .agg [_, _])] rfl ⟨.st rfl rfl t68 rfl rfl, trivial⟩ (to' := [(0, _), (1, _)]) ⟨rfl, rfl, trivial⟩ ?_ ?_ rfl rfl rfl (.inl rfl)
 · cases H0; rfl
 · cases H0; rfl
theorem VTree_layM_con {k : Nat}  {p1 : Pool (TNode TMark TSwell)} {a1 : TRef} {a2 : TRef} {a3 : TRef} {ri0 rg0 : Int} {r : TRef × Pool (TNode TMark TSwell)}  (H0 : VTree_lay.f opsM k p1 a1 a2 a3 = some r) (m0 m1 : Nat) : VTree_layM_st p1 a1 a2 a3 ri0 rg0 r m0 m1 :=
 SCon.ren (rn [(0, m0), (1, m1)]) (VTree_layM_con0 (k := k)   H0) ⟨(blk_ren rfl rfl), (pool_ren rfl), trivial⟩ ⟨(blk_ren rfl rfl), (pool_ren rfl), trivial⟩ (by simp) (by simp)
abbrev VTree_turnRightM_st (p1 : Pool (TNode TMark TSwell)) (a1 : TRef) (ri0 : Int) (rg0 : Int) (r : TRef × Pool (TNode TMark TSwell)) (m0 : Nat) (m1 : Nat) : Prop := SCon Try.prog 77 [SV.p m0 0, .a (.agg ((eTRef a1).map .v))] [(m0, blk m0 [.p m1 0, .i ri0, .i rg0] 74), (m1, pvM m1 p1)] (.a (.agg ((eTRef r.1).map .v))) [(m0, blk m0 [.p m1 0, .i ri0, .i rg0] 74), (m1, pvM m1 r.2)] []
theorem VTree_turnRightM_con0 {k : Nat}  {p1 : Pool (TNode TMark TSwell)} {a1 : TRef} {ri0 rg0 : Int} {r : TRef × Pool (TNode TMark TSwell)}  (H0 : VTree_turnRight.f opsM k p1 a1 = some r) : VTree_turnRightM_st p1 a1 ri0 rg0 r 0 1 := by
 rw [VTree_turnRight.f] at H0
 refine spec_of [(0, _), (1, _)] [(0, _), (1, _)] 28 Try.func77 rfl Try.ntmps77 rfl rfl rfl rfl (fun β W F => ?_)
 refine G.seq <| G.rg <| K.box Y 100 _ g0 rfl rfl rfl rfl rfl rfl <| K.alloc Y 101 _ g0 t68 rfl rfl rfl rfl rfl <| K.nil <| At.ns ?_
 obtain ⟨x1, hx1, H0⟩ := bnd H0
 refine G.rg <| K.mv rfl rfl <| K.loadS Y _ g0 rfl rfl t68 rfl rfl rfl <| K.cA (cf 50 rfl) [0] (fun β w S2 h => SCon.rdBlk (VTree_getM_con hx1 0 1) rfl h) g0 rfl rfl rfl <| K.alloc Y 102 _ g0 t70 rfl rfl rfl rfl rfl <| K.store Y _ g0 rfl rfl rfl t70 rfl rfl rfl rfl rfl <| K.nil <| At.ns ?_
 obtain ⟨x2, hx2, H0⟩ := bnd H0
 refine G.rg <| K.mv rfl rfl <| K.fieldAddr Y g0 rfl t70 rfl rfl <| K.loadS Y _ g0 rfl rfl t68 rfl rfl rfl <| K.cA (cf 50 rfl) [0] (fun β w S2 h => SCon.rdBlk (VTree_getM_con hx2 0 1) rfl h) g0 rfl rfl rfl <| K.alloc Y 103 _ g0 t70 rfl rfl rfl rfl rfl <| K.store Y _ g0 rfl rfl rfl t70 rfl rfl rfl rfl rfl <| K.nil <| At.ns ?_
 obtain ⟨x3, hx3, H0⟩ := bnd H0
 refine G.rg <| K.mv rfl rfl <| K.loadS Y _ g0 rfl rfl t68 rfl rfl rfl <| K.fieldAddr Y g0 rfl t70 rfl rfl <| K.loadS Y _ g0 rfl rfl t68 rfl rfl rfl <| K.fieldAddr Y g0 rfl t70 rfl rfl <| K.loadS Y _ g0 rfl rfl t68 rfl rfl rfl <| K.cA (cf 72 rfl) [0] (fun β w S2 h => SCon.rdBlk (VTree_layM_con hx3 0 1) rfl h) g0 rfl rfl rfl <| K.nil <| At.ns ?_
 obtain ⟨x4, hx4, H0⟩ := bnd H0
 refine G.rg <| K.mv rfl rfl <| K.fieldAddr Y g0 rfl t70 rfl rfl <| K.loadS Y _ g0 rfl rfl t68 rfl rfl rfl <| K.fieldAddr Y g0 rfl t70 rfl rfl <| K.loadS Y _ g0 rfl rfl t68 rfl rfl rfl <| K.loadS Y _ g0 rfl rfl t68 rfl rfl rfl <| K.cA (cf 72 rfl) [0] (fun β w S2 h => SCon.rdBlk (VTree_layM_con hx4 0 1) rfl h) g0 rfl rfl rfl <| K.store Y _ g0 rfl rfl rfl t68 rfl rfl rfl rfl rfl <| K.nil <| At.next <| G.ret <| At.done Y [(.cell 4 68, .agg [_, _])] rfl ⟨.st rfl rfl t68 rfl rfl, trivial⟩ (to' := [(0, _), (1, _)]) ⟨rfl, rfl, trivial⟩ ?_ ?_ rfl rfl rfl (.inl rfl)
 · cases H0; rfl
 · cases H0; rfl
theorem VTree_turnRightM_con {k : Nat}  {p1 : Pool (TNode TMark TSwell)} {a1 : TRef} {ri0 rg0 : Int} {r : TRef × Pool (TNode TMark TSwell)}  (H0 : VTree_turnRight.f opsM k p1 a1 = some r) (m0 m1 : Nat) : VTree_turnRightM_st p1 a1 ri0 rg0 r m0 m1 :=
 SCon.ren (rn [(0, m0), (1, m1)]) (VTree_turnRightM_con0 (k := k)   H0) ⟨(blk_ren rfl rfl), (pool_ren rfl), trivial⟩ ⟨(blk_ren rfl rfl), (pool_ren rfl), trivial⟩ (by simp) (by simp)
abbrev VTree_turnLeftM_st (p1 : Pool (TNode TMark TSwell)) (a1 : TRef) (ri0 : Int) (rg0 : Int) (r : TRef × Pool (TNode TMark TSwell)) (m0 : Nat) (m1 : Nat) : Prop := SCon Try.prog 78 [SV.p m0 0, .a (.agg ((eTRef a1).map .v))] [(m0, blk m0 [.p m1 0, .i ri0, .i rg0] 74), (m1, pvM m1 p1)] (.a (.agg ((eTRef r.1).map .v))) [(m0, blk m0 [.p m1 0, .i ri0, .i rg0] 74), (m1, pvM m1 r.2)] []
theorem VTree_turnLeftM_con0 {k : Nat}  {p1 : Pool (TNode TMark TSwell)} {a1 : TRef} {ri0 rg0 : Int} {r : TRef × Pool (TNode TMark TSwell)}  (H0 : VTree_turnLeft.f opsM k p1 a1 = some r) : VTree_turnLeftM_st p1 a1 ri0 rg0 r 0 1 := by
 rw [VTree_turnLeft.f] at H0
 refine spec_of [(0, _), (1, _)] [(0, _), (1, _)] 28 Try.func78 rfl Try.ntmps78 rfl rfl rfl rfl (fun β W F => ?_)
 refine G.seq <| G.rg <| K.box Y 100 _ g0 rfl rfl rfl rfl rfl rfl <| K.alloc Y 101 _ g0 t68 rfl rfl rfl rfl rfl <| K.nil <| At.ns ?_
 obtain ⟨x1, hx1, H0⟩ := bnd H0
 refine G.rg <| K.mv rfl rfl <| K.loadS Y _ g0 rfl rfl t68 rfl rfl rfl <| K.cA (cf 50 rfl) [0] (fun β w S2 h => SCon.rdBlk (VTree_getM_con hx1 0 1) rfl h) g0 rfl rfl rfl <| K.alloc Y 102 _ g0 t70 rfl rfl rfl rfl rfl <| K.store Y _ g0 rfl rfl rfl t70 rfl rfl rfl rfl rfl <| K.nil <| At.ns ?_
 obtain ⟨x2, hx2, H0⟩ := bnd H0
 refine G.rg <| K.mv rfl rfl <| K.fieldAddr Y g0 rfl t70 rfl rfl <| K.loadS Y _ g0 rfl rfl t68 rfl rfl rfl <| K.cA (cf 50 rfl) [0] (fun β w S2 h => SCon.rdBlk (VTree_getM_con hx2 0 1) rfl h) g0 rfl rfl rfl <| K.alloc Y 103 _ g0 t70 rfl rfl rfl rfl rfl <| K.store Y _ g0 rfl rfl rfl t70 rfl rfl rfl rfl rfl <| K.nil <| At.ns ?_
 obtain ⟨x3, hx3, H0⟩ := bnd H0
 refine G.rg <| K.mv rfl rfl <| K.loadS Y _ g0 rfl rfl t68 rfl rfl rfl <| K.fieldAddr Y g0 rfl t70 rfl rfl <| K.loadS Y _ g0 rfl rfl t68 rfl rfl rfl <| K.fieldAddr Y g0 rfl t70 rfl rfl <| K.loadS Y _ g0 rfl rfl t68 rfl rfl rfl <| K.cA (cf 72 rfl) [0] (fun β w S2 h => SCon.rdBlk (VTree_layM_con hx3 0 1) rfl h) g0 rfl rfl rfl <| K.nil <| At.ns ?_
 obtain ⟨x4, hx4, H0⟩ := bnd H0
 refine G.rg <| K.mv rfl rfl <| K.fieldAddr Y g0 rfl t70 rfl rfl <| K.loadS Y _ g0 rfl rfl t68 rfl rfl rfl <| K.loadS Y _ g0 rfl rfl t68 rfl rfl rfl <| K.fieldAddr Y g0 rfl t70 rfl rfl <| K.loadS Y _ g0 rfl rfl t68 rfl rfl rfl <| K.cA (cf 72 rfl) [0] (fun β w S2 h => SCon.rdBlk (VTree_layM_con hx4 0 1) rfl h) g0 rfl rfl rfl <| K.store Y _ g0 rfl rfl rfl t68 rfl rfl rfl rfl rfl <| K.nil <| At.next <| G.ret <| At.done Y [(.cell 4 68, .agg [_, _])] rfl ⟨.st rfl rfl t68 rfl rfl, trivial⟩ (to' := [(0, _), (1, _)]) ⟨rfl, rfl, trivial⟩ ?_ ?_ rfl rfl rfl (.inl rfl)
 · cases H0; rfl
 · cases H0; rfl
theorem VTree_turnLeftM_con {k : Nat}  {p1 : Pool (TNode TMark TSwell)} {a1 : TRef} {ri0 rg0 : Int} {r : TRef × Pool (TNode TMark TSwell)}  (H0 : VTree_turnLeft.f opsM k p1 a1 = some r) (m0 m1 : Nat) : VTree_turnLeftM_st p1 a1 ri0 rg0 r m0 m1 :=
 SCon.ren (rn [(0, m0), (1, m1)]) (VTree_turnLeftM_con0 (k := k)   H0) ⟨(blk_ren rfl rfl), (pool_ren rfl), trivial⟩ ⟨(blk_ren rfl rfl), (pool_ren rfl), trivial⟩ (by simp) (by simp)
abbrev VTree_balanceM_st (p1 : Pool (TNode TMark TSwell)) (a1 : TRef) (ri0 : Int) (rg0 : Int) (r : TRef × Pool (TNode TMark TSwell)) (m0 : Nat) (m1 : Nat) : Prop := SCon Try.prog 76 [SV.p m0 0, .a (.agg ((eTRef a1).map .v))] [(m0, blk m0 [.p m1 0, .i ri0, .i rg0] 74), (m1, pvM m1 p1)] (.a (.agg ((eTRef r.1).map .v))) [(m0, blk m0 [.p m1 0, .i ri0, .i rg0] 74), (m1, pvM m1 r.2)] []
theorem VTree_balanceM_con0 {k : Nat}  {p1 : Pool (TNode TMark TSwell)} {a1 : TRef} {ri0 rg0 : Int} {r : TRef × Pool (TNode TMark TSwell)}  (H0 : VTree_balance.f opsM k p1 a1 = some r) : VTree_balanceM_st p1 a1 ri0 rg0 r 0 1 := by
 rw [VTree_balance.f] at H0
 refine spec_of [(0, _), (1, _)] [(0, _), (1, _)] 84 Try.func76 rfl Try.ntmps76 rfl rfl rfl rfl (fun β W F => ?_)
 refine G.seq <| G.rg <| K.box Y 100 _ g0 rfl rfl rfl rfl rfl rfl <| K.alloc Y 101 _ g0 t68 rfl rfl rfl rfl rfl <| K.nil <| At.ns ?_
 obtain ⟨x1, hx1, H0⟩ := bnd H0
 refine G.rg <| K.mv rfl rfl <| K.loadS Y _ g0 rfl rfl t68 rfl rfl rfl <| K.cA (cf 50 rfl) [0] (fun β w S2 h => SCon.rdBlk (VTree_getM_con hx1 0 1) rfl h) g0 rfl rfl rfl <| K.alloc Y 102 _ g0 t70 rfl rfl rfl rfl rfl <| K.store Y _ g0 rfl rfl rfl t70 rfl rfl rfl rfl rfl <| K.nil <| At.ns ?_
 obtain ⟨x2, hx2, H0⟩ := bnd H0
 obtain ⟨x3, hx3, H0⟩ := bnd H0
 refine G.rd mixed <| K.mv rfl rfl <| K.fieldAddr Y g0 rfl t70 rfl rfl <| K.loadS Y _ g0 rfl rfl t68 rfl rfl rfl <| K.cA (cf 67 rfl) [0] (fun β w S2 h => SCon.rdBlk (VTree_weightM_con hx2 0 1) rfl h) g0 rfl rfl rfl <| K.mv rfl rfl <| K.fieldAddr Y g0 rfl t70 rfl rfl <| K.loadS Y _ g0 rfl rfl t68 rfl rfl rfl <| K.cA (cf 67 rfl) [0] (fun β w S2 h => SCon.rdBlk (VTree_weightM_con hx3 0 1) rfl h) g0 rfl rfl rfl <| K.as rfl rfl <| K.as rfl rfl <| K.nil <| And.intro (by kernel_rfl) <| At.ns <| G.block <| G.seq <| G.rg <| K.mv rfl rfl <| K.mv rfl rfl <| K.bin (V := .int .i64 (w64 (3 * x2.1))) g0 rfl rfl (fun _ => rfl) rfl <| K.bin (V := .bool (decide (x3.1 > (w64 (3 * x2.1))))) g0 rfl rfl (fun _ => rfl) rfl <| K.as rfl rfl <| K.nil <| At.next <| G.cond rfl (fun h1 => ?_) (fun h1 => ?_)
 ·
  replace H0 := bif_t H0 h1
  refine G.seq ?_
  obtain ⟨x4, hx4, H0⟩ := bnd H0
  refine G.rg <| K.mv rfl rfl <| K.fieldAddr Y g0 rfl t70 rfl rfl <| K.loadS Y _ g0 rfl rfl t68 rfl rfl rfl <| K.cA (cf 50 rfl) [0] (fun β w S2 h => SCon.rdBlk (VTree_getM_con hx4 0 1) rfl h) g0 rfl rfl rfl <| K.alloc Y 103 _ g0 t70 rfl rfl rfl rfl rfl <| K.store Y _ g0 rfl rfl rfl t70 rfl rfl rfl rfl rfl <| K.nil <| At.ns <| G.seq ?_
  obtain ⟨x5, hx5, H0⟩ := bnd H0
  obtain ⟨x6, hx6, H0⟩ := bnd H0
  refine G.rd mixed <| K.mv rfl rfl <| K.fieldAddr Y g0 rfl t70 rfl rfl <| K.loadS Y _ g0 rfl rfl t68 rfl rfl rfl <| K.cA (cf 67 rfl) [0] (fun β w S2 h => SCon.rdBlk (VTree_weightM_con hx5 0 1) rfl h) g0 rfl rfl rfl <| K.mv rfl rfl <| K.fieldAddr Y g0 rfl t70 rfl rfl <| K.loadS Y _ g0 rfl rfl t68 rfl rfl rfl <| K.cA (cf 67 rfl) [0] (fun β w S2 h => SCon.rdBlk (VTree_weightM_con hx6 0 1) rfl h) g0 rfl rfl rfl <| K.bin (V := .int .i64 (w64 (2 * x6.1))) g0 rfl rfl (fun _ => rfl) rfl <| K.bin (V := .bool (decide (x5.1 ≥ (w64 (2 * x6.1))))) g0 rfl rfl (fun _ => rfl) rfl <| K.nil <| And.intro (by kernel_rfl) <| At.next <| G.cond rfl (fun h2 => ?_) (fun h2 => ?_)
  ·
   replace H0 := bif_t H0 h2
   obtain ⟨x7, hx7, H0⟩ := bnd H0
   obtain ⟨x8, hx8, H0⟩ := bnd H0
   refine G.rd mixed <| K.mv rfl rfl <| K.loadS Y _ g0 rfl rfl t68 rfl rfl rfl <| K.fieldAddr Y g0 rfl t70 rfl rfl <| K.loadS Y _ g0 rfl rfl t68 rfl rfl rfl <| K.mv rfl rfl <| K.fieldAddr Y g0 rfl t70 rfl rfl <| K.loadS Y _ g0 rfl rfl t68 rfl rfl rfl <| K.cA (cf 77 rfl) [0] (fun β w S2 h => SCon.rdBlk (VTree_turnRightM_con hx7 0 1) rfl h) g0 rfl rfl rfl <| K.cA (cf 72 rfl) [0] (fun β w S2 h => SCon.rdBlk (VTree_layM_con hx8 0 1) rfl h) g0 rfl rfl rfl <| K.nil <| And.intro (by kernel_rfl) <| At.ns ?_
   obtain ⟨x9, hx9, H0⟩ := bnd H0
   refine G.rg <| K.mv rfl rfl <| K.loadS Y _ g0 rfl rfl t68 rfl rfl rfl <| K.cA (cf 78 rfl) [0] (fun β w S2 h => SCon.rdBlk (VTree_turnLeftM_con hx9 0 1) rfl h) g0 rfl rfl rfl <| K.store Y _ g0 rfl rfl rfl t68 rfl rfl rfl rfl rfl <| K.nil <| At.next <| G.ret <| At.block_ret <| At.over_ret <| At.done Y [(.cell 4 68, .agg [_, _])] rfl ⟨.st rfl rfl t68 rfl rfl, trivial⟩ (to' := [(0, _), (1, _)]) ⟨rfl, rfl, trivial⟩ ?_ ?_ rfl rfl rfl (.inl rfl)
   · cases H0; rfl
   · cases H0; rfl
  ·
   replace H0 := bif_f H0 h2
   refine G.skip <| At.ns ?_
   obtain ⟨x10, hx10, H0⟩ := bnd H0
   refine G.rg <| K.mv rfl rfl <| K.loadS Y _ g0 rfl rfl t68 rfl rfl rfl <| K.cA (cf 78 rfl) [0] (fun β w S2 h => SCon.rdBlk (VTree_turnLeftM_con hx10 0 1) rfl h) g0 rfl rfl rfl <| K.store Y _ g0 rfl rfl rfl t68 rfl rfl rfl rfl rfl <| K.nil <| At.next <| G.ret <| At.block_ret <| At.over_ret <| At.done Y [(.cell 4 68, .agg [_, _])] rfl ⟨.st rfl rfl t68 rfl rfl, trivial⟩ (to' := [(0, _), (1, _)]) ⟨rfl, rfl, trivial⟩ ?_ ?_ rfl rfl rfl (.inl rfl)
   · cases H0; rfl
   · cases H0; rfl
 ·
  replace H0 := bif_f H0 h1
  refine G.seq <| G.rg <| K.mv rfl rfl <| K.mv rfl rfl <| K.bin (V := .int .i64 (w64 (3 * x3.1))) g0 rfl rfl (fun _ => rfl) rfl <| K.bin (V := .bool (decide (x2.1 > (w64 (3 * x3.1))))) g0 rfl rfl (fun _ => rfl) rfl <| K.as rfl rfl <| K.nil <| At.next <| G.cond rfl (fun h3 => ?_) (fun h3 => ?_)
  ·
   replace H0 := bif_t H0 h3
   refine G.seq ?_
   obtain ⟨x11, hx11, H0⟩ := bnd H0
   refine G.rg <| K.mv rfl rfl <| K.fieldAddr Y g0 rfl t70 rfl rfl <| K.loadS Y _ g0 rfl rfl t68 rfl rfl rfl <| K.cA (cf 50 rfl) [0] (fun β w S2 h => SCon.rdBlk (VTree_getM_con hx11 0 1) rfl h) g0 rfl rfl rfl <| K.alloc Y 104 _ g0 t70 rfl rfl rfl rfl rfl <| K.store Y _ g0 rfl rfl rfl t70 rfl rfl rfl rfl rfl <| K.nil <| At.ns <| G.seq ?_
   obtain ⟨x12, hx12, H0⟩ := bnd H0
   obtain ⟨x13, hx13, H0⟩ := bnd H0
   refine G.rd mixed <| K.mv rfl rfl <| K.fieldAddr Y g0 rfl t70 rfl rfl <| K.loadS Y _ g0 rfl rfl t68 rfl rfl rfl <| K.cA (cf 67 rfl) [0] (fun β w S2 h => SCon.rdBlk (VTree_weightM_con hx12 0 1) rfl h) g0 rfl rfl rfl <| K.mv rfl rfl <| K.fieldAddr Y g0 rfl t70 rfl rfl <| K.loadS Y _ g0 rfl rfl t68 rfl rfl rfl <| K.cA (cf 67 rfl) [0] (fun β w S2 h => SCon.rdBlk (VTree_weightM_con hx13 0 1) rfl h) g0 rfl rfl rfl <| K.bin (V := .int .i64 (w64 (2 * x13.1))) g0 rfl rfl (fun _ => rfl) rfl <| K.bin (V := .bool (decide (x12.1 ≥ (w64 (2 * x13.1))))) g0 rfl rfl (fun _ => rfl) rfl <| K.nil <| And.intro (by kernel_rfl) <| At.next <| G.cond rfl (fun h4 => ?_) (fun h4 => ?_)
   ·
    replace H0 := bif_t H0 h4
    obtain ⟨x14, hx14, H0⟩ := bnd H0
    obtain ⟨x15, hx15, H0⟩ := bnd H0
    refine G.rd mixed <| K.mv rfl rfl <| K.loadS Y _ g0 rfl rfl t68 rfl rfl rfl <| K.mv rfl rfl <| K.fieldAddr Y g0 rfl t70 rfl rfl <| K.loadS Y _ g0 rfl rfl t68 rfl rfl rfl <| K.cA (cf 78 rfl) [0] (fun β w S2 h => SCon.rdBlk (VTree_turnLeftM_con hx14 0 1) rfl h) g0 rfl rfl rfl <| K.fieldAddr Y g0 rfl t70 rfl rfl <| K.loadS Y _ g0 rfl rfl t68 rfl rfl rfl <| K.cA (cf 72 rfl) [0] (fun β w S2 h => SCon.rdBlk (VTree_layM_con hx15 0 1) rfl h) g0 rfl rfl rfl <| K.nil <| And.intro (by kernel_rfl) <| At.ns ?_
    obtain ⟨x16, hx16, H0⟩ := bnd H0
    refine G.rg <| K.mv rfl rfl <| K.loadS Y _ g0 rfl rfl t68 rfl rfl rfl <| K.cA (cf 77 rfl) [0] (fun β w S2 h => SCon.rdBlk (VTree_turnRightM_con hx16 0 1) rfl h) g0 rfl rfl rfl <| K.store Y _ g0 rfl rfl rfl t68 rfl rfl rfl rfl rfl <| K.nil <| At.next <| G.ret <| At.block_ret <| At.over_ret <| At.done Y [(.cell 4 68, .agg [_, _])] rfl ⟨.st rfl rfl t68 rfl rfl, trivial⟩ (to' := [(0, _), (1, _)]) ⟨rfl, rfl, trivial⟩ ?_ ?_ rfl rfl rfl (.inl rfl)
    · cases H0; rfl
    · cases H0; rfl
   ·
    replace H0 := bif_f H0 h4
    refine G.skip <| At.ns ?_
    obtain ⟨x17, hx17, H0⟩ := bnd H0
    refine G.rg <| K.mv rfl rfl <| K.loadS Y _ g0 rfl rfl t68 rfl rfl rfl <| K.cA (cf 77 rfl) [0] (fun β w S2 h => SCon.rdBlk (VTree_turnRightM_con hx17 0 1) rfl h) g0 rfl rfl rfl <| K.store Y _ g0 rfl rfl rfl t68 rfl rfl rfl rfl rfl <| K.nil <| At.next <| G.ret <| At.block_ret <| At.over_ret <| At.done Y [(.cell 4 68, .agg [_, _])] rfl ⟨.st rfl rfl t68 rfl rfl, trivial⟩ (to' := [(0, _), (1, _)]) ⟨rfl, rfl, trivial⟩ ?_ ?_ rfl rfl rfl (.inl rfl)
    · cases H0; rfl
    · cases H0; rfl
  ·
   replace H0 := bif_f H0 h3
   refine G.skip <| At.block_normal <| At.nr <| K.loadS Y _ g0 rfl rfl t68 rfl rfl rfl <| K.store Y _ g0 rfl rfl rfl t68 rfl rfl rfl rfl rfl <| K.nil <| At.next <| G.ret <| At.done Y [(.cell 4 68, .agg [_, _])] rfl ⟨.st rfl rfl t68 rfl rfl, trivial⟩ (to' := [(0, _), (1, _)]) ⟨rfl, rfl, trivial⟩ ?_ ?_ rfl rfl rfl (.inl rfl)
   · cases H0; rfl
   · cases H0; rfl
theorem VTree_balanceM_con {k : Nat}  {p1 : Pool (TNode TMark TSwell)} {a1 : TRef} {ri0 rg0 : Int} {r : TRef × Pool (TNode TMark TSwell)}  (H0 : VTree_balance.f opsM k p1 a1 = some r) (m0 m1 : Nat) : VTree_balanceM_st p1 a1 ri0 rg0 r m0 m1 :=
 SCon.ren (rn [(0, m0), (1, m1)]) (VTree_balanceM_con0 (k := k)   H0) ⟨(blk_ren rfl rfl), (pool_ren rfl), trivial⟩ ⟨(blk_ren rfl rfl), (pool_ren rfl), trivial⟩ (by simp) (by simp)
abbrev VTree_linkM_st (p1 : Pool (TNode TMark TSwell)) (a1 : TRef) (a2 : TRef) (a3 : TRef) (ri0 : Int) (rg0 : Int) (r : TRef × Pool (TNode TMark TSwell)) (m0 : Nat) (m1 : Nat) : Prop := SCon Try.prog 70 [SV.p m0 0, .a (.agg ((eTRef a1).map .v)), .a (.agg ((eTRef a2).map .v)), .a (.agg ((eTRef a3).map .v))] [(m0, blk m0 [.p m1 0, .i ri0, .i rg0] 74), (m1, pvM m1 p1)] (.a (.agg ((eTRef r.1).map .v))) [(m0, blk m0 [.p m1 0, .i ri0, .i rg0] 74), (m1, pvM m1 r.2)] []
theorem VTree_linkM_con0 {k : Nat}  : ∀ {n : Nat} {p1 : Pool (TNode TMark TSwell)} {a1 : TRef} {a2 : TRef} {a3 : TRef} {ri0 rg0 : Int} {r : TRef × Pool (TNode TMark TSwell)}  (H0 : VTree_link.r opsM k n p1 a1 a2 a3 = some r), VTree_linkM_st p1 a1 a2 a3 ri0 rg0 r 0 1 := by
 intro n
 induction n with
 | zero => intro p1 a1 a2 a3 ri0 rg0 r H0; exact absurd H0 (by simp [VTree_link.r])
 | succ n ih =>
  intro p1 a1 a2 a3 ri0 rg0 r H0
  rw [VTree_link.r] at H0
  refine spec_of [(0, _), (1, _), (2, _), (3, _)] [(0, _), (1, _)] 66 Try.func70 rfl Try.ntmps70 rfl rfl rfl rfl (fun β W F => ?_)
  refine G.seq <| G.rg <| K.box Y 100 _ g0 rfl rfl rfl rfl rfl rfl <| K.box Y 101 _ g0 rfl rfl rfl rfl rfl rfl <| K.box Y 102 _ g0 rfl rfl rfl rfl rfl rfl <| K.alloc Y 103 _ g0 t68 rfl rfl rfl rfl rfl <| K.nil <| At.ns ?_
  obtain ⟨x1, hx1, H0⟩ := bnd H0
  obtain ⟨x2, hx2, H0⟩ := bnd H0
  refine G.rd mixed <| K.mv rfl rfl <| K.loadS Y _ g0 rfl rfl t68 rfl rfl rfl <| K.cA (cf 67 rfl) [0] (fun β w S2 h => SCon.rdBlk (VTree_weightM_con hx1 0 1) rfl h) g0 rfl rfl rfl <| K.mv rfl rfl <| K.loadS Y _ g0 rfl rfl t68 rfl rfl rfl <| K.cA (cf 67 rfl) [0] (fun β w S2 h => SCon.rdBlk (VTree_weightM_con hx2 0 1) rfl h) g0 rfl rfl rfl <| K.as rfl rfl <| K.as rfl rfl <| K.nil <| And.intro (by kernel_rfl) <| At.ns <| G.block <| G.seq <| G.rg <| K.mv rfl rfl <| K.mv rfl rfl <| K.bin (V := .int .i64 (w64 (3 * x1.1))) g0 rfl rfl (fun _ => rfl) rfl <| K.bin (V := .bool (decide (x2.1 > (w64 (3 * x1.1))))) g0 rfl rfl (fun _ => rfl) rfl <| K.as rfl rfl <| K.nil <| At.next <| G.cond rfl (fun h1 => ?_) (fun h1 => ?_)
  ·
   replace H0 := bif_t H0 h1
   refine G.seq ?_
   obtain ⟨x3, hx3, H0⟩ := bnd H0
   refine G.rg <| K.mv rfl rfl <| K.loadS Y _ g0 rfl rfl t68 rfl rfl rfl <| K.cA (cf 50 rfl) [0] (fun β w S2 h => SCon.rdBlk (VTree_getM_con hx3 0 1) rfl h) g0 rfl rfl rfl <| K.alloc Y 104 _ g0 t70 rfl rfl rfl rfl rfl <| K.store Y _ g0 rfl rfl rfl t70 rfl rfl rfl rfl rfl <| K.nil <| At.ns ?_
   obtain ⟨x4, hx4, H0⟩ := bnd H0
   obtain ⟨x5, hx5, H0⟩ := bnd H0
   obtain ⟨x6, hx6, H0⟩ := bnd H0
   refine G.rd mixed <| K.mv rfl rfl <| K.mv rfl rfl <| K.loadS Y _ g0 rfl rfl t68 rfl rfl rfl <| K.mv rfl rfl <| K.loadS Y _ g0 rfl rfl t68 rfl rfl rfl <| K.loadS Y _ g0 rfl rfl t68 rfl rfl rfl <| K.fieldAddr Y g0 rfl t70 rfl rfl <| K.loadS Y _ g0 rfl rfl t68 rfl rfl rfl <| K.cA (cf 70 rfl) [0] (fun β w S2 h => SCon.rdBlk (ih hx4) rfl h) g0 rfl rfl rfl <| K.fieldAddr Y g0 rfl t70 rfl rfl <| K.loadS Y _ g0 rfl rfl t68 rfl rfl rfl <| K.cA (cf 72 rfl) [0] (fun β w S2 h => SCon.rdBlk (VTree_layM_con hx5 0 1) rfl h) g0 rfl rfl rfl <| K.cA (cf 76 rfl) [0] (fun β w S2 h => SCon.rdBlk (VTree_balanceM_con hx6 0 1) rfl h) g0 rfl rfl rfl <| K.store Y _ g0 rfl rfl rfl t68 rfl rfl rfl rfl rfl <| K.nil <| And.intro (by kernel_rfl) <| At.next <| G.ret <| At.block_ret <| At.over_ret <| At.done Y [(.cell 8 68, .agg [_, _])] rfl ⟨.st rfl rfl t68 rfl rfl, trivial⟩ (to' := [(0, _), (1, _)]) ⟨rfl, rfl, trivial⟩ ?_ ?_ rfl rfl rfl (.inl rfl)
   · cases H0; rfl
   · cases H0; rfl
  ·
   replace H0 := bif_f H0 h1
   refine G.seq <| G.rg <| K.mv rfl rfl <| K.mv rfl rfl <| K.bin (V := .int .i64 (w64 (3 * x2.1))) g0 rfl rfl (fun _ => rfl) rfl <| K.bin (V := .bool (decide (x1.1 > (w64 (3 * x2.1))))) g0 rfl rfl (fun _ => rfl) rfl <| K.as rfl rfl <| K.nil <| At.next <| G.cond rfl (fun h2 => ?_) (fun h2 => ?_)
   ·
    replace H0 := bif_t H0 h2
    refine G.seq ?_
    obtain ⟨x7, hx7, H0⟩ := bnd H0
    refine G.rg <| K.mv rfl rfl <| K.loadS Y _ g0 rfl rfl t68 rfl rfl rfl <| K.cA (cf 50 rfl) [0] (fun β w S2 h => SCon.rdBlk (VTree_getM_con hx7 0 1) rfl h) g0 rfl rfl rfl <| K.alloc Y 105 _ g0 t70 rfl rfl rfl rfl rfl <| K.store Y _ g0 rfl rfl rfl t70 rfl rfl rfl rfl rfl <| K.nil <| At.ns ?_
    obtain ⟨x8, hx8, H0⟩ := bnd H0
    obtain ⟨x9, hx9, H0⟩ := bnd H0
    obtain ⟨x10, hx10, H0⟩ := bnd H0
    refine G.rd mixed <| K.mv rfl rfl <| K.mv rfl rfl <| K.loadS Y _ g0 rfl rfl t68 rfl rfl rfl <| K.fieldAddr Y g0 rfl t70 rfl rfl <| K.loadS Y _ g0 rfl rfl t68 rfl rfl rfl <| K.mv rfl rfl <| K.fieldAddr Y g0 rfl t70 rfl rfl <| K.loadS Y _ g0 rfl rfl t68 rfl rfl rfl <| K.loadS Y _ g0 rfl rfl t68 rfl rfl rfl <| K.loadS Y _ g0 rfl rfl t68 rfl rfl rfl <| K.cA (cf 70 rfl) [0] (fun β w S2 h => SCon.rdBlk (ih hx8) rfl h) g0 rfl rfl rfl <| K.cA (cf 72 rfl) [0] (fun β w S2 h => SCon.rdBlk (VTree_layM_con hx9 0 1) rfl h) g0 rfl rfl rfl <| K.cA (cf 76 rfl) [0] (fun β w S2 h => SCon.rdBlk (VTree_balanceM_con hx10 0 1) rfl h) g0 rfl rfl rfl <| K.store Y _ g0 rfl rfl rfl t68 rfl rfl rfl rfl rfl <| K.nil <| And.intro (by kernel_rfl) <| At.next <| G.ret <| At.block_ret <| At.over_ret <| At.done Y [(.cell 8 68, .agg [_, _])] rfl ⟨.st rfl rfl t68 rfl rfl, trivial⟩ (to' := [(0, _), (1, _)]) ⟨rfl, rfl, trivial⟩ ?_ ?_ rfl rfl rfl (.inl rfl)
    · cases H0; rfl
    · cases H0; rfl
   ·
    replace H0 := bif_f H0 h2
    refine G.skip <| At.block_normal <| At.ns ?_
    obtain ⟨x11, hx11, H0⟩ := bnd H0
    refine G.rg <| K.mv rfl rfl <| K.loadS Y _ g0 rfl rfl t68 rfl rfl rfl <| K.loadS Y _ g0 rfl rfl t68 rfl rfl rfl <| K.loadS Y _ g0 rfl rfl t68 rfl rfl rfl <| K.cA (cf 72 rfl) [0] (fun β w S2 h => SCon.rdBlk (VTree_layM_con hx11 0 1) rfl h) g0 rfl rfl rfl <| K.store Y _ g0 rfl rfl rfl t68 rfl rfl rfl rfl rfl <| K.nil <| At.next <| G.ret <| At.done Y [(.cell 8 68, .agg [_, _])] rfl ⟨.st rfl rfl t68 rfl rfl, trivial⟩ (to' := [(0, _), (1, _)]) ⟨rfl, rfl, trivial⟩ ?_ ?_ rfl rfl rfl (.inl rfl)
    · cases H0; rfl
    · cases H0; rfl
theorem VTree_linkM_con {k n : Nat}  {p1 : Pool (TNode TMark TSwell)} {a1 : TRef} {a2 : TRef} {a3 : TRef} {ri0 rg0 : Int} {r : TRef × Pool (TNode TMark TSwell)}  (H0 : VTree_link.r opsM k n p1 a1 a2 a3 = some r) (m0 m1 : Nat) : VTree_linkM_st p1 a1 a2 a3 ri0 rg0 r m0 m1 :=
 SCon.ren (rn [(0, m0), (1, m1)]) (VTree_linkM_con0 (k := k)   H0) ⟨(blk_ren rfl rfl), (pool_ren rfl), trivial⟩ ⟨(blk_ren rfl rfl), (pool_ren rfl), trivial⟩ (by simp) (by simp)
abbrev VTree_putM_st (p1 : Pool (TNode TMark TSwell)) (a1 : TRef) (a2 : TMark) (ri0 : Int) (rg0 : Int) (r : TRef × Bool × Pool (TNode TMark TSwell)) (m0 : Nat) (m1 : Nat) : Prop := SCon Try.prog 61 [SV.p m0 0, .a (.agg ((eTRef a1).map .v)), .a (.agg ((eTMark a2).map .v))] [(m0, blk m0 [.p m1 0, .i ri0, .i rg0] 74), (m1, pvM m1 p1)] (.tup [.agg ((eTRef r.1).map .v), .c (.v (.bool r.2.1))]) [(m0, blk m0 [.p m1 0, .i ri0, .i rg0] 74), (m1, pvM m1 r.2.2)] []
set_option maxHeartbeats 4000000 in
theorem VTree_putM_con0 {k : Nat}  : ∀ {n : Nat} {p1 : Pool (TNode TMark TSwell)} {a1 : TRef} {a2 : TMark} {ri0 rg0 : Int} {r : TRef × Bool × Pool (TNode TMark TSwell)}  (H0 : VTree_put.r opsM k n p1 a1 a2 = some r), VTree_putM_st p1 a1 a2 ri0 rg0 r 0 1 := by
 intro n
 induction n with
 | zero => intro p1 a1 a2 ri0 rg0 r H0; exact absurd H0 (by simp [VTree_put.r])
 | succ n ih =>
  intro p1 a1 a2 ri0 rg0 r H0
  rw [VTree_put.r] at H0
  refine spec_of [(0, _), (1, _), (2, _)] [(0, _), (1, _)] 98 Try.func61 rfl Try.ntmps61 rfl rfl rfl rfl (fun β W F => ?_)
  refine G.seq <| G.rg <| K.box Y 100 _ g0 rfl rfl rfl rfl rfl rfl <| K.box Y 101 _ g0 rfl rfl rfl rfl rfl rfl <| K.alloc Y 102 _ g0 t68 rfl rfl rfl rfl rfl <| K.as rfl rfl <| K.nil <| At.ns <| G.seq <| G.rg <| K.fieldAddr Y g0 rfl t68 rfl rfl <| K.load1 Y g0 rfl rfl t3 rfl rfl <| K.bin (V := .bool (a1.gen == 0)) g0 rfl rfl (fun _ => rfl) rfl <| K.nil <| At.next <| G.cond rfl (fun h1 => ?_) (fun h1 => ?_)
  ·
   replace H0 := bif_t H0 h1
   refine G.seq ?_
   obtain ⟨x1, hx1, H0⟩ := bnd H0
   obtain ⟨x2, hx2, H0⟩ := bnd H0
   refine G.rd mixed <| K.mv rfl rfl <| K.nilCheck g0 rfl rfl <| K.fieldAddr Y g0 rfl t74 rfl rfl <| K.load1 Y g0 rfl rfl t72 rfl rfl <| K.loadS Y _ g0 rfl rfl t39 rfl rfl rfl <| K.loadS Y _ g0 rfl rfl t39 rfl rfl rfl <| K.mkIface Y g0 rfl (mkI Try.underlying39 rfl) rfl <| K.callR [((.tmp 26), _)] (wave_Mark_Sum_con (k := k) hx1) (toFn_invoke (cf 96 rfl) (me39_96) rfl) g0 ⟨rfl, trivial⟩ trivial rfl rfl rfl <| K.build Y [(0, _), (3, _), (4, _)] [_, _, _, _, _, _, _, _, _, _, _, _, _, _, _, _, _, _, _, _, _, _, _, _, _, _, _, _, _] [((.tmp 24), _), (_, _), ((.tmp 27), _)] g0 (AllE.spec ⟨rfl, rfl, rfl, trivial⟩) rfl rfl t70 rfl rfl <| K.call0 [(.func 69, _), ((.tmp 23), _), ((.tmp 28), _)] (pvputM hx2 1) (toFn_func (cf 69 rfl) rfl) g0 ⟨rfl, rfl, rfl, trivial⟩ ⟨rfl, trivial⟩ rfl rfl rfl rfl rfl rfl <| K.mv rfl rfl <| K.extract g0 rfl rfl rfl <| K.extract g0 rfl rfl rfl <| K.alloc Y 103 _ g0 t68 rfl rfl rfl rfl rfl <| K.store Y _ g0 rfl rfl rfl t68 rfl rfl rfl rfl rfl <| K.as rfl rfl <| K.nil <| And.intro (by kernel_rfl) <| At.nr <| K.loadS Y _ g0 rfl rfl t68 rfl rfl rfl <| K.mv rfl rfl <| K.store Y _ g0 rfl rfl rfl t68 rfl rfl rfl rfl rfl <| K.as rfl rfl <| K.nil <| At.next <| G.ret <| At.over_ret <| At.done Y [(.cell 6 68, .agg [_, _]), (.tmp 7, .c _)] rfl ⟨.st rfl rfl t68 rfl rfl, .tmp rfl, trivial⟩ (to' := [(0, _), (1, _)]) ⟨rfl, rfl, trivial⟩ ?_ ?_ rfl rfl rfl (.inl rfl)
   · cases H0; rfl
   · cases H0; rfl
  ·
   replace H0 := bif_f H0 h1
   refine G.skip <| At.ns ?_
   obtain ⟨x3, hx3, H0⟩ := bnd H0
   refine G.rg <| K.mv rfl rfl <| K.loadS Y _ g0 rfl rfl t68 rfl rfl rfl <| K.cA (cf 50 rfl) [0] (fun β w S2 h => SCon.rdBlk (VTree_getM_con hx3 0 1) rfl h) g0 rfl rfl rfl <| K.alloc Y 104 _ g0 t70 rfl rfl rfl rfl rfl <| K.store Y _ g0 rfl rfl rfl t70 rfl rfl rfl rfl rfl <| K.nil <| At.ns ?_
   obtain ⟨x4, hx4, H0⟩ := bnd H0
   refine G.rg <| K.loadS Y _ g0 rfl rfl t39 rfl rfl rfl <| K.mkIface Y g0 rfl (mkI Try.underlying39 rfl) rfl <| K.fieldAddr Y g0 rfl t70 rfl rfl <| K.loadS Y _ g0 rfl rfl t39 rfl rfl rfl <| K.callR [((.tmp 38), _), ((.tmp 40), _)] (wave_Mark_Compare_con (k := k) hx4) (toFn_invoke (cf 95 rfl) (me39_95) rfl) g0 ⟨rfl, rfl, trivial⟩ trivial rfl rfl rfl <| K.as rfl rfl <| K.nil <| At.ns <| G.block <| G.seq <| G.rg <| K.mv rfl rfl <| K.bin (V := .bool (decide (x4 < 0))) g0 rfl rfl (fun _ => rfl) rfl <| K.as rfl rfl <| K.nil <| At.next <| G.cond rfl (fun h2 => ?_) (fun h2 => ?_)
   ·
    replace H0 := bif_t H0 h2
    refine G.seq ?_
    obtain ⟨x5, hx5, H0⟩ := bnd H0
    refine G.rg <| K.mv rfl rfl <| K.fieldAddr Y g0 rfl t70 rfl rfl <| K.loadS Y _ g0 rfl rfl t68 rfl rfl rfl <| K.loadS Y _ g0 rfl rfl t39 rfl rfl rfl <| K.cA (cf 61 rfl) [0] (fun β w S2 h => SCon.rdBlk (ih hx5) rfl h) g0 rfl rfl rfl <| K.mv rfl rfl <| K.extract g0 rfl rfl rfl <| K.extract g0 rfl rfl rfl <| K.alloc Y 105 _ g0 t68 rfl rfl rfl rfl rfl <| K.store Y _ g0 rfl rfl rfl t68 rfl rfl rfl rfl rfl <| K.as rfl rfl <| K.nil <| At.ns <| G.seq <| G.rg <| K.mv rfl rfl <| K.un (V := .bool (!x5.2.1)) g0 rfl (fun _ => rfl) rfl <| K.nil <| At.next <| G.cond rfl (fun h3 => ?_) (fun h3 => ?_)
    ·
     replace H0 := bif_t H0 h3
     refine G.seq <| G.rg <| K.loadS Y _ g0 rfl rfl t68 rfl rfl rfl <| K.store Y _ g0 rfl rfl rfl t68 rfl rfl rfl rfl rfl <| K.as rfl rfl <| K.nil <| At.next <| G.ret <| At.over_ret <| At.block_ret <| At.over_ret <| At.done Y [(.cell 6 68, .agg [_, _]), (.tmp 7, .c _)] rfl ⟨.st rfl rfl t68 rfl rfl, .tmp rfl, trivial⟩ (to' := [(0, _), (1, _)]) ⟨rfl, rfl, trivial⟩ ?_ ?_ rfl rfl rfl (.inl rfl)
     · cases H0; rfl
     · cases H0; rfl
    ·
     replace H0 := bif_f H0 h3
     refine G.skip <| At.ns ?_
     obtain ⟨x6, hx6, H0⟩ := bnd H0
     refine G.rg <| K.mv rfl rfl <| K.loadS Y _ g0 rfl rfl t68 rfl rfl rfl <| K.loadS Y _ g0 rfl rfl t68 rfl rfl rfl <| K.fieldAddr Y g0 rfl t70 rfl rfl <| K.loadS Y _ g0 rfl rfl t68 rfl rfl rfl <| K.cA (cf 70 rfl) [0] (fun β w S2 h => SCon.rdBlk (VTree_linkM_con hx6 0 1) rfl h) g0 rfl rfl rfl <| K.store Y _ g0 rfl rfl rfl t68 rfl rfl rfl rfl rfl <| K.as rfl rfl <| K.nil <| At.next <| G.ret <| At.block_ret <| At.over_ret <| At.done Y [(.cell 6 68, .agg [_, _]), (.tmp 7, .c _)] rfl ⟨.st rfl rfl t68 rfl rfl, .tmp rfl, trivial⟩ (to' := [(0, _), (1, _)]) ⟨rfl, rfl, trivial⟩ ?_ ?_ rfl rfl rfl (.inl rfl)
     · cases H0; rfl
     · cases H0; rfl
   ·
    replace H0 := bif_f H0 h2
    refine G.seq <| G.rg <| K.mv rfl rfl <| K.bin (V := .bool (decide (x4 > 0))) g0 rfl rfl (fun _ => rfl) rfl <| K.as rfl rfl <| K.nil <| At.next <| G.cond rfl (fun h4 => ?_) (fun h4 => ?_)
    ·
     replace H0 := bif_t H0 h4
     refine G.seq ?_
     obtain ⟨x7, hx7, H0⟩ := bnd H0
     refine G.rg <| K.mv rfl rfl <| K.fieldAddr Y g0 rfl t70 rfl rfl <| K.loadS Y _ g0 rfl rfl t68 rfl rfl rfl <| K.loadS Y _ g0 rfl rfl t39 rfl rfl rfl <| K.cA (cf 61 rfl) [0] (fun β w S2 h => SCon.rdBlk (ih hx7) rfl h) g0 rfl rfl rfl <| K.mv rfl rfl <| K.extract g0 rfl rfl rfl <| K.extract g0 rfl rfl rfl <| K.alloc Y 106 _ g0 t68 rfl rfl rfl rfl rfl <| K.store Y _ g0 rfl rfl rfl t68 rfl rfl rfl rfl rfl <| K.as rfl rfl <| K.nil <| At.ns <| G.seq <| G.rg <| K.mv rfl rfl <| K.un (V := .bool (!x7.2.1)) g0 rfl (fun _ => rfl) rfl <| K.nil <| At.next <| G.cond rfl (fun h5 => ?_) (fun h5 => ?_)
     ·
      replace H0 := bif_t H0 h5
      refine G.seq <| G.rg <| K.loadS Y _ g0 rfl rfl t68 rfl rfl rfl <| K.store Y _ g0 rfl rfl rfl t68 rfl rfl rfl rfl rfl <| K.as rfl rfl <| K.nil <| At.next <| G.ret <| At.over_ret <| At.block_ret <| At.over_ret <| At.done Y [(.cell 6 68, .agg [_, _]), (.tmp 7, .c _)] rfl ⟨.st rfl rfl t68 rfl rfl, .tmp rfl, trivial⟩ (to' := [(0, _), (1, _)]) ⟨rfl, rfl, trivial⟩ ?_ ?_ rfl rfl rfl (.inl rfl)
      · cases H0; rfl
      · cases H0; rfl
     ·
      replace H0 := bif_f H0 h5
      refine G.skip <| At.ns ?_
      obtain ⟨x8, hx8, H0⟩ := bnd H0
      refine G.rg <| K.mv rfl rfl <| K.fieldAddr Y g0 rfl t70 rfl rfl <| K.loadS Y _ g0 rfl rfl t68 rfl rfl rfl <| K.loadS Y _ g0 rfl rfl t68 rfl rfl rfl <| K.loadS Y _ g0 rfl rfl t68 rfl rfl rfl <| K.cA (cf 70 rfl) [0] (fun β w S2 h => SCon.rdBlk (VTree_linkM_con hx8 0 1) rfl h) g0 rfl rfl rfl <| K.store Y _ g0 rfl rfl rfl t68 rfl rfl rfl rfl rfl <| K.as rfl rfl <| K.nil <| At.next <| G.ret <| At.block_ret <| At.over_ret <| At.done Y [(.cell 6 68, .agg [_, _]), (.tmp 7, .c _)] rfl ⟨.st rfl rfl t68 rfl rfl, .tmp rfl, trivial⟩ (to' := [(0, _), (1, _)]) ⟨rfl, rfl, trivial⟩ ?_ ?_ rfl rfl rfl (.inl rfl)
      · cases H0; rfl
      · cases H0; rfl
    ·
     replace H0 := bif_f H0 h4
     refine G.skip <| At.block_normal <| At.nr <| K.loadS Y _ g0 rfl rfl t39 rfl rfl rfl <| K.fieldAddr Y g0 rfl t70 rfl rfl <| K.store Y _ g0 rfl rfl rfl t39 rfl rfl rfl rfl rfl <| K.nil <| At.ns ?_
     obtain ⟨x9, hx9, H0⟩ := bnd H0
     refine G.rd mixed <| K.mv rfl rfl <| K.nilCheck g0 rfl rfl <| K.fieldAddr Y g0 rfl t74 rfl rfl <| K.load1 Y g0 rfl rfl t72 rfl rfl <| K.loadS Y _ g0 rfl rfl t68 rfl rfl rfl <| K.loadS Y _ g0 rfl rfl t70 rfl rfl rfl <| K.call0 [(.func 71, _), ((.tmp 87), _), ((.tmp 88), _), ((.tmp 89), _)] (pvsetM hx9 1) (toFn_func (cf 71 rfl) rfl) g0 ⟨rfl, rfl, rfl, rfl, trivial⟩ ⟨rfl, trivial⟩ rfl rfl rfl rfl rfl rfl <| K.nil <| And.intro (by kernel_rfl) <| At.ns ?_
     obtain ⟨x10, hx10, H0⟩ := bnd H0
     refine G.rg <| K.mv rfl rfl <| K.loadS Y _ g0 rfl rfl t68 rfl rfl rfl <| K.fieldAddr Y g0 rfl t70 rfl rfl <| K.loadS Y _ g0 rfl rfl t68 rfl rfl rfl <| K.fieldAddr Y g0 rfl t70 rfl rfl <| K.loadS Y _ g0 rfl rfl t68 rfl rfl rfl <| K.cA (cf 72 rfl) [0] (fun β w S2 h => SCon.rdBlk (VTree_layM_con hx10 0 1) rfl h) g0 rfl rfl rfl <| K.store Y _ g0 rfl rfl rfl t68 rfl rfl rfl rfl rfl <| K.as rfl rfl <| K.nil <| At.next <| G.ret <| At.done Y [(.cell 6 68, .agg [_, _]), (.tmp 7, .c _)] rfl ⟨.st rfl rfl t68 rfl rfl, .tmp rfl, trivial⟩ (to' := [(0, _), (1, _)]) ⟨rfl, rfl, trivial⟩ ?_ ?_ rfl rfl rfl (.inl rfl)
     · cases H0; rfl
     · cases H0; rfl
theorem VTree_putM_con {k n : Nat}  {p1 : Pool (TNode TMark TSwell)} {a1 : TRef} {a2 : TMark} {ri0 rg0 : Int} {r : TRef × Bool × Pool (TNode TMark TSwell)}  (H0 : VTree_put.r opsM k n p1 a1 a2 = some r) (m0 m1 : Nat) : VTree_putM_st p1 a1 a2 ri0 rg0 r m0 m1 :=
 SCon.ren (rn [(0, m0), (1, m1)]) (VTree_putM_con0 (k := k)   H0) ⟨(blk_ren rfl rfl), (pool_ren rfl), trivial⟩ ⟨(blk_ren rfl rfl), (pool_ren rfl), trivial⟩ (by simp) (by simp)
abbrev VTree_PutM_st (p1 : Pool (TNode TMark TSwell)) (rt0 : TRef) (a1 : TMark) (r : Bool × TRef × Pool (TNode TMark TSwell)) (m0 : Nat) (m1 : Nat) : Prop := SCon Try.prog 43 [SV.p m0 0, .a (.agg ((eTMark a1).map .v))] [(m0, blk m0 [.p m1 0, .i rt0.index, .i rt0.gen] 74), (m1, pvM m1 p1)] (.a (.c (.v (.bool r.1)))) [(m0, blk m0 [.p m1 0, .i r.2.1.index, .i r.2.1.gen] 74), (m1, pvM m1 r.2.2)] []
theorem VTree_PutM_con0 {k : Nat}  {p1 : Pool (TNode TMark TSwell)} {rt0 : TRef} {a1 : TMark} {r : Bool × TRef × Pool (TNode TMark TSwell)}  (H0 : VTree_Put.f opsM k p1 rt0 a1 = some r) : VTree_PutM_st p1 rt0 a1 r 0 1 := by
 rw [VTree_Put.f] at H0
 refine spec_of [(0, _), (1, _)] [(0, _), (1, _)] 23 Try.func43 rfl Try.ntmps43 rfl rfl rfl rfl (fun β W F => ?_)
 refine G.seq <| G.rg <| K.box Y 100 _ g0 rfl rfl rfl rfl rfl rfl <| K.as rfl rfl <| K.nil <| At.ns ?_
 obtain ⟨x1, hx1, H0⟩ := bnd H0
 refine G.rd mixed <| K.mv rfl rfl <| K.mv rfl rfl <| K.nilCheck g0 rfl rfl <| K.fieldAddr Y g0 rfl t74 rfl rfl <| K.loadS Y _ g0 rfl rfl t68 rfl rfl rfl <| K.loadS Y _ g0 rfl rfl t39 rfl rfl rfl <| K.cA (cf 61 rfl) [0] (fun β w S2 h => SCon.rdBlk (VTree_putM_con hx1 0 1) rfl h) g0 rfl rfl rfl <| K.mv rfl rfl <| K.extract g0 rfl rfl rfl <| K.extract g0 rfl rfl rfl <| K.alloc Y 101 _ g0 t68 rfl rfl rfl rfl rfl <| K.store Y _ g0 rfl rfl rfl t68 rfl rfl rfl rfl rfl <| K.as rfl rfl <| K.nil <| And.intro (by kernel_rfl) <| At.ns <| G.seq <| G.rg <| K.mv rfl rfl <| K.nil <| At.next <| G.cond rfl (fun h1 => ?_) (fun h1 => ?_)
 ·
  replace H0 := bif_t H0 h1
  exact G.rg <| K.mv rfl rfl <| K.loadS Y _ g0 rfl rfl t68 rfl rfl rfl <| K.nilCheck g0 rfl rfl <| K.fieldAddr Y g0 rfl t74 rfl rfl <| K.store Y _ g0 rfl rfl rfl t68 rfl rfl rfl rfl rfl <| K.nil <| At.nr <| K.mv rfl rfl <| K.as rfl rfl <| K.nil <| At.next <| G.ret <| At.dr Y [4] rfl rfl (by cases H0; rfl) (by cases H0; rfl) rfl rfl rfl
 ·
  replace H0 := bif_f H0 h1
  exact G.skip <| At.nr <| K.mv rfl rfl <| K.as rfl rfl <| K.nil <| At.next <| G.ret <| At.dr Y [4] rfl rfl (by cases H0; rfl) (by cases H0; rfl) rfl rfl rfl
theorem VTree_PutM_con {k : Nat}  {p1 : Pool (TNode TMark TSwell)} {rt0 : TRef} {a1 : TMark} {r : Bool × TRef × Pool (TNode TMark TSwell)}  (H0 : VTree_Put.f opsM k p1 rt0 a1 = some r) (m0 m1 : Nat) : VTree_PutM_st p1 rt0 a1 r m0 m1 :=
 SCon.ren (rn [(0, m0), (1, m1)]) (VTree_PutM_con0 (k := k)   H0) ⟨(blk_ren rfl rfl), (pool_ren rfl), trivial⟩ ⟨(blk_ren rfl rfl), (pool_ren rfl), trivial⟩ (by simp) (by simp)
abbrev VLw10_Tree_st (S : Foot) (W0 : World) (s0 : Value) (r : TRef × Pool (TNode TMark TSwell)) (m40 : Nat) (m41 : Nat) : Prop := SCon Try.prog 14 [SV.raw s0] [(0, rd S W0)] (.a (.c (.p m40 0))) [(0, rd S W0), (m40, blk m40 [.p m41 0, .i r.1.index, .i r.1.gen] 74), (m41, pvM m41 r.2)] [m40, m41]
theorem VLw10_Tree_con0 {k : Nat}  {S : Foot} {W0 : World} {s0 : Value} {l0 : List TR08Mark} {r : TRef × Pool (TNode TMark TSwell)} (hL0 : LArg S W0 s0 eTR08Mark 8 l0) (H0 : VLw10_Tree.f k l0 = some r) : VLw10_Tree_st S W0 s0 r 40 41 := by
 rw [VLw10_Tree.f] at H0
 obtain ⟨b0, o0, hI0⟩ := hL0
 refine spec_of [(0, _)] [(0, _)] 33 Try.func14 rfl Try.ntmps14 rfl rfl rfl rfl (fun β W F => ?_)
 refine G.seq <| G.rg <| K.as rfl rfl <| K.nil <| At.ns ?_
 obtain ⟨x1, hx1, H0⟩ := bnd H0
 refine G.rg <| K.mv rfl rfl <| K.lenL (rV 0 S W0 s0 b0 o0 eTR08Mark 8 l0) (hI0.is 0) g0 rfl rfl Try.underlying22 rfl <| K.c0 (cf 42 rfl) (Vwave_New_con hx1 100 101 rfl) g0 rfl rfl rfl rfl <| K.as rfl rfl <| K.nil <| At.next ?_
 obtain ⟨x2, H1, H0⟩ := bnd H0
 refine G.sJ (σ := { v : Pool (TNode TMark TSwell) × Int × Int // x2 = v }) (fun q => [(3, .a (.c (.p 102 0)))]) (fun q => [(0, rd S W0), (103, pvM 103 q.1.1), (102, blk 102 [.p 103 0, .v (.int .i64 q.1.2.1), .v (.int .i64 q.1.2.2)] 74)]) ?_ ?_
 ·
  refine G.seq <| G.rg <| K.as rfl rfl <| K.nil <| At.next <| G.block <| G.lp (σ := { q : Nat × (Pool (TNode TMark TSwell) × Int × Int × Int) // VLw10_Tree.l0 k l0 q.1 q.2 = some x2 }) (fun q => [(0, SV.raw s0), (3, .a (.c (.p 108 0))), (4, .a (.c (.v (.int .i64 q.1.2.2.2.2))))]) (fun q => [(0, rd S W0), (109, pvM 109 q.1.2.1), (108, blk 108 [.p 109 0, .v (.int .i64 q.1.2.2.1), .v (.int .i64 q.1.2.2.2.1)] 74)]) (fun q => q.1.1) ⟨(k, (x1.2, x1.1.index, x1.1.gen, 0)), H1⟩ ?_ ?_
  · exact At.into [(108, 100), (109, 101)] [_, _, _] rfl ⟨rfl, rfl, rfl, trivial⟩ ⟨rfl, (fun _ => rfl), rfl, (pool_ren rfl), rfl, (blk_ren rfl rfl), trivial⟩ rfl
  ·
   rintro ⟨⟨n0, v1, v2, v3, v4⟩, H1⟩
   show G _ _ [(0, SV.raw s0), (3, .a (.c (.p 108 0))), (4, .a (.c (.v (.int .i64 v4))))] [(0, some (rd S W0)), (109, some (pvM 109 v1)), (108, some (blk 108 [.p 109 0, .v (.int .i64 v2), .v (.int .i64 v3)] 74))] _ _
   cases n0 with
   | zero => exact absurd H1 (by simp [VLw10_Tree.l0])
   | succ n0 =>
    have HL0 := H1
    rw [VLw10_Tree.l0] at H1
    refine G.seq <| G.seq <| G.rg <| K.mv rfl rfl <| K.mv rfl rfl <| K.lenL (rV 0 S W0 s0 b0 o0 eTR08Mark 8 l0) (hI0.is 0) g0 rfl rfl Try.underlying22 rfl <| K.bin (V := .bool (decide (v4 < (l0.length : Int)))) g0 rfl rfl (fun _ => rfl) rfl <| K.nil <| At.next <| G.cond rfl (fun h1 => ?_) (fun h1 => ?_)
    ·
     replace H1 := bif_t H1 h1
     refine G.skip <| At.ns <| G.block ?_
     obtain ⟨x3, hx3, H1⟩ := bnd H1
     obtain ⟨x4, hx4, H1⟩ := bnd H1
     exact G.rd mixed <| K.mv rfl rfl <| K.mv rfl rfl <| K.mv rfl rfl <| K.idxL (rV 0 S W0 s0 b0 o0 eTR08Mark 8 l0) ((v4).toNat) (hI0.is 0) (atL_get hx3) (atL_nn hx3) g0 rfl rfl rfl Try.underlying22 el22.size_run rfl <| K.fieldL Y (rV 0 S W0 s0 b0 o0 eTR08Mark 8 l0) ((v4).toNat) 0 0 (hI0.is 0) (atL_get hx3) g0 rfl rfl t52 rfl rfl rfl rfl <| K.loadSL Y (rV 0 S W0 s0 b0 o0 eTR08Mark 8 l0) ((v4).toNat) 0 [_, _, _, _] [_, _, _, _] (hI0.is 0) (atL_get hx3) g0 rfl rfl t35 rfl rfl rfl rfl rfl <| K.mv rfl rfl <| K.mv rfl rfl <| K.idxL (rV 0 S W0 s0 b0 o0 eTR08Mark 8 l0) ((v4).toNat) (hI0.is 0) (atL_get hx3) (atL_nn hx3) g0 rfl rfl rfl Try.underlying22 el22.size_run rfl <| K.fieldL Y (rV 0 S W0 s0 b0 o0 eTR08Mark 8 l0) ((v4).toNat) 0 4 (hI0.is 0) (atL_get hx3) g0 rfl rfl t52 rfl rfl rfl rfl <| K.load1L Y (rV 0 S W0 s0 b0 o0 eTR08Mark 8 l0) ((v4).toNat) 4 (hI0.is 0) (atL_get hx3) g0 rfl rfl t4 rfl rfl <| K.mv rfl rfl <| K.mv rfl rfl <| K.idxL (rV 0 S W0 s0 b0 o0 eTR08Mark 8 l0) ((v4).toNat) (hI0.is 0) (atL_get hx3) (atL_nn hx3) g0 rfl rfl rfl Try.underlying22 el22.size_run rfl <| K.fieldL Y (rV 0 S W0 s0 b0 o0 eTR08Mark 8 l0) ((v4).toNat) 0 5 (hI0.is 0) (atL_get hx3) g0 rfl rfl t52 rfl rfl rfl rfl <| K.loadSL Y (rV 0 S W0 s0 b0 o0 eTR08Mark 8 l0) ((v4).toNat) 5 [_, _, _] [_, _, _] (hI0.is 0) (atL_get hx3) g0 rfl rfl t37 rfl rfl rfl rfl rfl <| K.build Y [(0, _), (1, _), (2, _)] [_, _, _, _, _, _, _, _] [((.tmp 19), _), ((.tmp 24), _), ((.tmp 29), _)] g0 (AllE.spec ⟨rfl, rfl, rfl, trivial⟩) rfl rfl t39 rfl rfl <| K.c0 (cf 43 rfl) (VTree_PutM_con hx4 108 109) g0 rfl rfl rfl rfl <| K.nil <| And.intro (by kernel_rfl) <| At.block_normal <| At.next <| G.rg <| K.mv rfl rfl <| K.bin (V := .int .i64 (w64 (v4 + 1))) g0 rfl rfl (fun _ => rfl) rfl <| K.as rfl rfl <| K.nil <| At.ag ⟨(n0, (x4.2.2, x4.2.1.index, x4.2.1.gen, (w64 (v4 + 1)))), H1⟩ [] [_, _, _] (Nat.lt_succ_self _) rfl ⟨rfl, rfl, rfl, trivial⟩ ⟨rfl, (fun _ => rfl), rfl, (pool_ren rfl), rfl, (blk_ren rfl rfl), trivial⟩ rfl
    ·
     replace H1 := bif_f H1 h1
     exact G.exit <| At.over_exit <| At.over_exit <| At.block_hit <| At.jd ⟨(v1, v2, v3), oi H1⟩ [(102, 108), (103, 109)] [_, _, _] rfl ⟨rfl, trivial⟩ ⟨rfl, (fun _ => rfl), rfl, (pool_ren rfl), rfl, (blk_ren rfl rfl), trivial⟩ rfl
 ·
  rintro ⟨_, rfl⟩
  show G _ _ [(3, .a (.c (.p 102 0)))] [(0, some (rd S W0)), (103, some (pvM 103 x2.1)), (102, some (blk 102 [.p 103 0, .v (.int .i64 x2.2.1), .v (.int .i64 x2.2.2)] 74))] _ _
  exact G.seq <| G.rg <| K.mv rfl rfl <| K.as rfl rfl <| K.nil <| At.next <| G.ret <| At.ren (fs' := [(2, .a (.c (.p 40 0)))]) (tl := [(0, rd S W0), (40, blk 40 [.p 41 0, .v (.int .i64 x2.2.1), .v (.int .i64 x2.2.2)] 74), (41, pvM 41 x2.1)]) [(40, 102), (41, 103)] [_, _, _] rfl ⟨rfl, trivial⟩ ⟨rfl, (fun _ => rfl), rfl, (blk_ren rfl rfl), rfl, (pool_ren rfl), trivial⟩ rfl <| At.dr Y [2] rfl rfl (by cases H0; rfl) (by cases H0; rfl) rfl rfl rfl
theorem VLw10_Tree_con {k : Nat}  {S : Foot} {W0 : World} {s0 : Value} {l0 : List TR08Mark} {r : TRef × Pool (TNode TMark TSwell)} (hL0 : LArg S W0 s0 eTR08Mark 8 l0) (H0 : VLw10_Tree.f k l0 = some r) (m40 m41 : Nat) (hd : ndB [m40, m41] = true) : VLw10_Tree_st S W0 s0 r m40 m41 :=
 SCon.ren (rn [(40, m40), (41, m41)]) (VLw10_Tree_con0 (k := k)  hL0 H0) ⟨(fun _ => rfl), trivial⟩ ⟨(fun _ => rfl), (blk_ren rfl rfl), (pool_ren rfl), trivial⟩ (rn_nd hd rfl rfl) (rn_ks hd rfl rfl rfl)
abbrev VTree_LenM_st (p1 : Pool (TNode TMark TSwell)) (rt0 : TRef) (r : Int × Pool (TNode TMark TSwell)) (m0 : Nat) (m1 : Nat) : Prop := SCon Try.prog 21 [SV.p m0 0] [(m0, blk m0 [.p m1 0, .i rt0.index, .i rt0.gen] 74), (m1, pvM m1 p1)] (.a (.c (.v (.int .i64 r.1)))) [(m0, blk m0 [.p m1 0, .i rt0.index, .i rt0.gen] 74), (m1, pvM m1 r.2)] []
theorem VTree_LenM_con0 {k : Nat}  {p1 : Pool (TNode TMark TSwell)} {rt0 : TRef} {r : Int × Pool (TNode TMark TSwell)}  (H0 : VTree_Len.f opsM k p1 rt0 = some r) : VTree_LenM_st p1 rt0 r 0 1 := by
 rw [VTree_Len.f] at H0
 refine spec_of [(0, _)] [(0, _), (1, _)] 10 Try.func21 rfl Try.ntmps21 rfl rfl rfl rfl (fun β W F => ?_)
 refine G.seq <| G.rg <| K.as rfl rfl <| K.nil <| At.ns ?_
 obtain ⟨x1, hx1, H0⟩ := bnd H0
 exact G.rg <| K.mv rfl rfl <| K.mv rfl rfl <| K.nilCheck g0 rfl rfl <| K.fieldAddr Y g0 rfl t74 rfl rfl <| K.loadS Y _ g0 rfl rfl t68 rfl rfl rfl <| K.cA (cf 50 rfl) [0] (fun β w S2 h => SCon.rdBlk (VTree_getM_con hx1 0 1) rfl h) g0 rfl rfl rfl <| K.field1 Y g0 rfl t70 rfl t3 rfl rfl <| K.as rfl rfl <| K.nil <| At.next <| G.ret <| At.dr Y [2] rfl rfl (by cases H0; rfl) (by cases H0; rfl) rfl rfl rfl
theorem VTree_LenM_con {k : Nat}  {p1 : Pool (TNode TMark TSwell)} {rt0 : TRef} {r : Int × Pool (TNode TMark TSwell)}  (H0 : VTree_Len.f opsM k p1 rt0 = some r) (m0 m1 : Nat) : VTree_LenM_st p1 rt0 r m0 m1 :=
 SCon.ren (rn [(0, m0), (1, m1)]) (VTree_LenM_con0 (k := k)   H0) ⟨(blk_ren rfl rfl), (pool_ren rfl), trivial⟩ ⟨(blk_ren rfl rfl), (pool_ren rfl), trivial⟩ (by simp) (by simp)
abbrev Vbridge_clamp_st (p1 : Pool (TNode TMark TSwell)) (rt0 : TRef) (a1 : Int) (r : Int × Pool (TNode TMark TSwell)) (m0 : Nat) (m1 : Nat) : Prop := SCon Try.prog 46 [SV.p m0 0, .a (.c (.v (.int .i64 a1)))] [(m0, blk m0 [.p m1 0, .i rt0.index, .i rt0.gen] 74), (m1, pvM m1 p1)] (.a (.c (.v (.int .i64 r.1)))) [(m0, blk m0 [.p m1 0, .i rt0.index, .i rt0.gen] 74), (m1, pvM m1 r.2)] []
theorem Vbridge_clamp_con0 {k : Nat}  {p1 : Pool (TNode TMark TSwell)} {rt0 : TRef} {a1 : Int} {r : Int × Pool (TNode TMark TSwell)}  (H0 : Vbridge_clamp.f k p1 rt0 a1 = some r) : Vbridge_clamp_st p1 rt0 a1 r 0 1 := by
 rw [Vbridge_clamp.f] at H0
 refine spec_of [(0, _), (1, _)] [(0, _), (1, _)] 10 Try.func46 rfl Try.ntmps46 rfl rfl rfl rfl (fun β W F => ?_)
 refine G.seq <| G.rg <| K.as rfl rfl <| K.nil <| At.ns ?_
 obtain ⟨x1, hx1, H0⟩ := bnd H0
 exact G.rg <| K.mv rfl rfl <| K.bi2 (V := .int .i64 (gmax a1 0)) g0 rfl rfl (fun _ _ => rfl) rfl <| K.mv rfl rfl <| K.cA (cf 21 rfl) [0] (fun β w S2 h => SCon.rdBlk (VTree_LenM_con hx1 0 1) rfl h) g0 rfl rfl rfl <| K.bi2 (V := .int .i64 (gmin (gmax a1 0) x1.1)) g0 rfl rfl (fun _ _ => rfl) rfl <| K.as rfl rfl <| K.nil <| At.next <| G.ret <| At.dr Y [4] rfl rfl (by cases H0; rfl) (by cases H0; rfl) rfl rfl rfl
theorem Vbridge_clamp_con {k : Nat}  {p1 : Pool (TNode TMark TSwell)} {rt0 : TRef} {a1 : Int} {r : Int × Pool (TNode TMark TSwell)}  (H0 : Vbridge_clamp.f k p1 rt0 a1 = some r) (m0 m1 : Nat) : Vbridge_clamp_st p1 rt0 a1 r m0 m1 :=
 SCon.ren (rn [(0, m0), (1, m1)]) (Vbridge_clamp_con0 (k := k)   H0) ⟨(blk_ren rfl rfl), (pool_ren rfl), trivial⟩ ⟨(blk_ren rfl rfl), (pool_ren rfl), trivial⟩ (by simp) (by simp)
abbrev VTree_betweenM_st (p1 : Pool (TNode TMark TSwell)) (a1 : TRef) (a2 : Int) (a3 : Int) (ri0 : Int) (rg0 : Int) (r : TSwell × Pool (TNode TMark TSwell)) (m0 : Nat) (m1 : Nat) : Prop := SCon Try.prog 59 [SV.p m0 0, .a (.agg ((eTRef a1).map .v)), .a (.c (.v (.int .i64 a2))), .a (.c (.v (.int .i64 a3)))] [(m0, blk m0 [.p m1 0, .i ri0, .i rg0] 74), (m1, pvM m1 p1)] (.a (.agg ((eTSwell r.1).map .v))) [(m0, blk m0 [.p m1 0, .i ri0, .i rg0] 74), (m1, pvM m1 r.2)] []
set_option maxHeartbeats 4000000 in
theorem VTree_betweenM_con0 {k : Nat}  : ∀ {n : Nat} {p1 : Pool (TNode TMark TSwell)} {a1 : TRef} {a2 : Int} {a3 : Int} {ri0 rg0 : Int} {r : TSwell × Pool (TNode TMark TSwell)}  (H0 : VTree_between.r opsM k n p1 a1 a2 a3 = some r), VTree_betweenM_st p1 a1 a2 a3 ri0 rg0 r 0 1 := by
 intro n
 induction n with
 | zero => intro p1 a1 a2 a3 ri0 rg0 r H0; exact absurd H0 (by simp [VTree_between.r])
 | succ n ih =>
  intro p1 a1 a2 a3 ri0 rg0 r H0
  rw [VTree_between.r] at H0
  refine spec_of [(0, _), (1, _), (2, _), (3, _)] [(0, _), (1, _)] 85 Try.func59 rfl Try.ntmps59 rfl rfl rfl rfl (fun β W F => ?_)
  refine G.seq <| G.rg <| K.box Y 100 _ g0 rfl rfl rfl rfl rfl rfl <| K.alloc Y 101 _ g0 t43 rfl rfl rfl rfl rfl <| K.nil <| At.ns ?_
  obtain ⟨x1, hx1, H0⟩ := bnd H0
  refine G.rg <| K.mv rfl rfl <| K.loadS Y _ g0 rfl rfl t68 rfl rfl rfl <| K.cA (cf 50 rfl) [0] (fun β w S2 h => SCon.rdBlk (VTree_getM_con hx1 0 1) rfl h) g0 rfl rfl rfl <| K.alloc Y 102 _ g0 t70 rfl rfl rfl rfl rfl <| K.store Y _ g0 rfl rfl rfl t70 rfl rfl rfl rfl rfl <| K.nil <| At.nr <| K.alloc Y 103 _ g0 t43 rfl rfl rfl rfl rfl <| K.nil <| At.next ?_
  obtain ⟨x2, H1, H0⟩ := bnd H0
  refine G.sJ (σ := { v : Unit // x2 = Sum.inr v }) (fun q => [(0, .a (.c (.p 0 0))), (2, .a (.c (.v (.int .i64 a2)))), (3, .a (.c (.v (.int .i64 a3)))), (8, .a (.c (.p 104 0))), (9, .a (.c (.p 105 0))), (10, .a (.c (.p 106 0)))]) (fun q => [(1, pvM 1 x1.2), (0, blk 0 [.p 1 0, .v (.int .i64 ri0), .v (.int .i64 rg0)] 74), (104, blk 104 [.v (.int .i64 0), .v (.int .i64 0), .v (.int .i64 0), .v (.int .i64 0), .v (.int .i64 0), .v (.int .i64 0), .v (.int .i64 0), .v (.int .i64 0), .v (.int .i64 0), .v (.int .i64 0), .v (.bool false), .v (.int .i64 0), .v (.int .i64 0), .v (.bool false), .v (.int .i64 0), .v (.int .i64 0)] 43), (105, blk 105 [.v (.int .i64 x1.1.e.op.time), .v (.bool x1.1.e.op.insert), .v (.int .i64 x1.1.e.op.item.key), .v (.int .i64 x1.1.e.op.item.id), .v (.bool x1.1.e.here), .v (.bool x1.1.e.took.found), .v (.int .i64 x1.1.e.took.item.key), .v (.int .i64 x1.1.e.took.item.id), .v (.int .i64 x1.1.left.index), .v (.int .i64 x1.1.left.gen), .v (.int .i64 x1.1.right.index), .v (.int .i64 x1.1.right.gen), .v (.int .i64 x1.1.size), .v (.int .i64 x1.1.sum.count.n), .v (.int .i64 x1.1.sum.count.sum), .v (.int .i64 x1.1.sum.count.low), .v (.int .i64 x1.1.sum.weight.n), .v (.int .i64 x1.1.sum.weight.sum), .v (.int .i64 x1.1.sum.weight.low), .v (.int .i64 x1.1.sum.deletes), .v (.int .i64 x1.1.sum.free), .v (.int .i64 x1.1.sum.most.key), .v (.int .i64 x1.1.sum.most.id), .v (.bool x1.1.sum.gone.found), .v (.int .i64 x1.1.sum.gone.item.key), .v (.int .i64 x1.1.sum.gone.item.id), .v (.bool x1.1.sum.least.found), .v (.int .i64 x1.1.sum.least.item.key), .v (.int .i64 x1.1.sum.least.item.id)] 70), (106, blk 106 [.v (.int .i64 0), .v (.int .i64 0), .v (.int .i64 0), .v (.int .i64 0), .v (.int .i64 0), .v (.int .i64 0), .v (.int .i64 0), .v (.int .i64 0), .v (.int .i64 0), .v (.int .i64 0), .v (.bool false), .v (.int .i64 0), .v (.int .i64 0), .v (.bool false), .v (.int .i64 0), .v (.int .i64 0)] 43)]) ?_ ?_
  ·
   refine G.seq ?_
   rcases Bool.eq_false_or_eq_true (decide (a2 ≥ a3)) with h1 | h1
   ·
    replace H1 := bif_t H1 h1
    refine G.rg <| K.mv rfl rfl <| K.mv rfl rfl <| K.bin (V := .bool (decide (a2 ≥ a3))) g0 rfl rfl (fun _ => rfl) rfl <| K.mv rfl rfl <| K.sk rfl rfl h1 rfl <| K.sk rfl rfl h1 rfl <| K.sk rfl rfl h1 rfl <| K.sk rfl rfl h1 rfl <| K.pickT g0 rfl (h1) rfl rfl <| K.mv rfl rfl <| K.sk rfl rfl rfl rfl <| K.sk rfl rfl rfl rfl <| K.pickT g0 rfl (rfl) rfl rfl <| K.mv rfl rfl <| K.sk rfl rfl rfl rfl <| K.sk rfl rfl rfl rfl <| K.sk rfl rfl rfl rfl <| K.pickT g0 rfl (rfl) rfl rfl <| K.nil <| At.next <| G.cond rfl (fun h2 => ?_) (fun h2 => ?_)
    ·
     refine G.seq <| G.rg <| K.loadS Y _ g0 rfl rfl t43 rfl rfl rfl <| K.store Y _ g0 rfl rfl rfl t43 rfl rfl rfl rfl rfl <| K.nil <| At.next <| G.ret <| At.over_ret ?_
     cases H1
     replace H0 := sum_l H0
     refine At.done Y [(.cell 8 43, .agg [_, _, _, _, _, _, _, _, _, _, _, _, _, _, _, _])] rfl ⟨.st rfl rfl t43 rfl rfl, trivial⟩ (to' := [(0, _), (1, _)]) ⟨rfl, rfl, trivial⟩ ?_ ?_ rfl rfl rfl (.inl rfl)
     · cases H0; rfl
     · cases H0; rfl
    · cases h2
   ·
    replace H1 := bif_f H1 h1
    rcases Bool.eq_false_or_eq_true (decide (a2 ≥ x1.1.size)) with h3 | h3
    ·
     replace H1 := bif_t H1 h3
     refine G.rg <| K.mv rfl rfl <| K.mv rfl rfl <| K.bin (V := .bool (decide (a2 ≥ a3))) g0 rfl rfl (fun _ => rfl) rfl <| K.mv rfl rfl <| K.move (.inl rfl) (g1 rfl rfl h1) rfl rfl <| K.fieldAddr Y (g1 rfl rfl h1) rfl t70 rfl rfl <| K.load1 Y (g1 rfl rfl h1) rfl rfl t3 rfl rfl <| K.bin (V := .bool (decide (a2 ≥ x1.1.size))) (g1 rfl rfl h1) rfl rfl (fun _ => rfl) rfl <| K.pickF g0 rfl (h1) rfl rfl <| K.mv rfl rfl <| K.sk rfl rfl h3 rfl <| K.sk rfl rfl h3 rfl <| K.pickT g0 rfl (h3) rfl rfl <| K.mv rfl rfl <| K.sk rfl rfl rfl rfl <| K.sk rfl rfl rfl rfl <| K.sk rfl rfl rfl rfl <| K.pickT g0 rfl (rfl) rfl rfl <| K.nil <| At.next <| G.cond rfl (fun h4 => ?_) (fun h4 => ?_)
     ·
      refine G.seq <| G.rg <| K.loadS Y _ g0 rfl rfl t43 rfl rfl rfl <| K.store Y _ g0 rfl rfl rfl t43 rfl rfl rfl rfl rfl <| K.nil <| At.next <| G.ret <| At.over_ret ?_
      cases H1
      replace H0 := sum_l H0
      refine At.done Y [(.cell 8 43, .agg [_, _, _, _, _, _, _, _, _, _, _, _, _, _, _, _])] rfl ⟨.st rfl rfl t43 rfl rfl, trivial⟩ (to' := [(0, _), (1, _)]) ⟨rfl, rfl, trivial⟩ ?_ ?_ rfl rfl rfl (.inl rfl)
      · cases H0; rfl
      · cases H0; rfl
     · cases h4
    ·
     replace H1 := bif_f H1 h3
     rcases Bool.eq_false_or_eq_true (decide (a3 ≤ 0)) with h5 | h5
     ·
      replace H1 := bif_t H1 h5
      refine G.rg <| K.mv rfl rfl <| K.mv rfl rfl <| K.bin (V := .bool (decide (a2 ≥ a3))) g0 rfl rfl (fun _ => rfl) rfl <| K.mv rfl rfl <| K.move (.inl rfl) (g1 rfl rfl h1) rfl rfl <| K.fieldAddr Y (g1 rfl rfl h1) rfl t70 rfl rfl <| K.load1 Y (g1 rfl rfl h1) rfl rfl t3 rfl rfl <| K.bin (V := .bool (decide (a2 ≥ x1.1.size))) (g1 rfl rfl h1) rfl rfl (fun _ => rfl) rfl <| K.pickF g0 rfl (h1) rfl rfl <| K.mv rfl rfl <| K.move (.inl rfl) (g1 rfl rfl h3) rfl rfl <| K.bin (V := .bool (decide (a3 ≤ 0))) (g1 rfl rfl h3) rfl rfl (fun _ => rfl) rfl <| K.pickF g0 rfl (h3) rfl rfl <| K.mv rfl rfl <| K.sk rfl rfl h5 rfl <| K.sk rfl rfl h5 rfl <| K.sk rfl rfl h5 rfl <| K.pickT g0 rfl (h5) rfl rfl <| K.nil <| At.next <| G.cond rfl (fun h6 => ?_) (fun h6 => ?_)
      ·
       refine G.seq <| G.rg <| K.loadS Y _ g0 rfl rfl t43 rfl rfl rfl <| K.store Y _ g0 rfl rfl rfl t43 rfl rfl rfl rfl rfl <| K.nil <| At.next <| G.ret <| At.over_ret ?_
       cases H1
       replace H0 := sum_l H0
       refine At.done Y [(.cell 8 43, .agg [_, _, _, _, _, _, _, _, _, _, _, _, _, _, _, _])] rfl ⟨.st rfl rfl t43 rfl rfl, trivial⟩ (to' := [(0, _), (1, _)]) ⟨rfl, rfl, trivial⟩ ?_ ?_ rfl rfl rfl (.inl rfl)
       · cases H0; rfl
       · cases H0; rfl
      · cases h6
     ·
      replace H1 := bif_f H1 h5
      refine G.rg <| K.mv rfl rfl <| K.mv rfl rfl <| K.bin (V := .bool (decide (a2 ≥ a3))) g0 rfl rfl (fun _ => rfl) rfl <| K.mv rfl rfl <| K.move (.inl rfl) (g1 rfl rfl h1) rfl rfl <| K.fieldAddr Y (g1 rfl rfl h1) rfl t70 rfl rfl <| K.load1 Y (g1 rfl rfl h1) rfl rfl t3 rfl rfl <| K.bin (V := .bool (decide (a2 ≥ x1.1.size))) (g1 rfl rfl h1) rfl rfl (fun _ => rfl) rfl <| K.pickF g0 rfl (h1) rfl rfl <| K.mv rfl rfl <| K.move (.inl rfl) (g1 rfl rfl h3) rfl rfl <| K.bin (V := .bool (decide (a3 ≤ 0))) (g1 rfl rfl h3) rfl rfl (fun _ => rfl) rfl <| K.pickF g0 rfl (h3) rfl rfl <| K.mv rfl rfl <| K.fieldAddr Y (g1 rfl rfl h5) rfl t70 rfl rfl <| K.load1 Y (g1 rfl rfl h5) rfl rfl t3 rfl rfl <| K.bin (V := .bool (x1.1.size == 0)) (g1 rfl rfl h5) rfl rfl (fun _ => rfl) rfl <| K.pickF g0 rfl (h5) rfl rfl <| K.nil <| At.next <| G.cond rfl (fun h7 => ?_) (fun h7 => ?_)
      ·
       replace H1 := bif_t H1 h7
       refine G.seq <| G.rg <| K.loadS Y _ g0 rfl rfl t43 rfl rfl rfl <| K.store Y _ g0 rfl rfl rfl t43 rfl rfl rfl rfl rfl <| K.nil <| At.next <| G.ret <| At.over_ret ?_
       cases H1
       replace H0 := sum_l H0
       refine At.done Y [(.cell 8 43, .agg [_, _, _, _, _, _, _, _, _, _, _, _, _, _, _, _])] rfl ⟨.st rfl rfl t43 rfl rfl, trivial⟩ (to' := [(0, _), (1, _)]) ⟨rfl, rfl, trivial⟩ ?_ ?_ rfl rfl rfl (.inl rfl)
       · cases H0; rfl
       · cases H0; rfl
      ·
       replace H1 := bif_f H1 h7
       exact G.skip <| At.jd ⟨(), oi H1⟩ [(104, 101), (105, 102), (106, 103)] [_, _, _, _, _] rfl ⟨rfl, rfl, rfl, rfl, rfl, rfl, trivial⟩ ⟨rfl, (pool_ren rfl), rfl, (blk_ren rfl rfl), rfl, (blk_ren rfl rfl), rfl, (blk_ren rfl rfl), rfl, (blk_ren rfl rfl), trivial⟩ rfl
  ·
   rintro ⟨w2, rfl⟩
   replace H0 := sum_r H0
   show G _ _ [(0, .a (.c (.p 0 0))), (2, .a (.c (.v (.int .i64 a2)))), (3, .a (.c (.v (.int .i64 a3)))), (8, .a (.c (.p 104 0))), (9, .a (.c (.p 105 0))), (10, .a (.c (.p 106 0)))] [(1, some (pvM 1 x1.2)), (0, some (blk 0 [.p 1 0, .v (.int .i64 ri0), .v (.int .i64 rg0)] 74)), (104, some (blk 104 [.v (.int .i64 0), .v (.int .i64 0), .v (.int .i64 0), .v (.int .i64 0), .v (.int .i64 0), .v (.int .i64 0), .v (.int .i64 0), .v (.int .i64 0), .v (.int .i64 0), .v (.int .i64 0), .v (.bool false), .v (.int .i64 0), .v (.int .i64 0), .v (.bool false), .v (.int .i64 0), .v (.int .i64 0)] 43)), (105, some (blk 105 [.v (.int .i64 x1.1.e.op.time), .v (.bool x1.1.e.op.insert), .v (.int .i64 x1.1.e.op.item.key), .v (.int .i64 x1.1.e.op.item.id), .v (.bool x1.1.e.here), .v (.bool x1.1.e.took.found), .v (.int .i64 x1.1.e.took.item.key), .v (.int .i64 x1.1.e.took.item.id), .v (.int .i64 x1.1.left.index), .v (.int .i64 x1.1.left.gen), .v (.int .i64 x1.1.right.index), .v (.int .i64 x1.1.right.gen), .v (.int .i64 x1.1.size), .v (.int .i64 x1.1.sum.count.n), .v (.int .i64 x1.1.sum.count.sum), .v (.int .i64 x1.1.sum.count.low), .v (.int .i64 x1.1.sum.weight.n), .v (.int .i64 x1.1.sum.weight.sum), .v (.int .i64 x1.1.sum.weight.low), .v (.int .i64 x1.1.sum.deletes), .v (.int .i64 x1.1.sum.free), .v (.int .i64 x1.1.sum.most.key), .v (.int .i64 x1.1.sum.most.id), .v (.bool x1.1.sum.gone.found), .v (.int .i64 x1.1.sum.gone.item.key), .v (.int .i64 x1.1.sum.gone.item.id), .v (.bool x1.1.sum.least.found), .v (.int .i64 x1.1.sum.least.item.key), .v (.int .i64 x1.1.sum.least.item.id)] 70)), (106, some (blk 106 [.v (.int .i64 0), .v (.int .i64 0), .v (.int .i64 0), .v (.int .i64 0), .v (.int .i64 0), .v (.int .i64 0), .v (.int .i64 0), .v (.int .i64 0), .v (.int .i64 0), .v (.int .i64 0), .v (.bool false), .v (.int .i64 0), .v (.int .i64 0), .v (.bool false), .v (.int .i64 0), .v (.int .i64 0)] 43))] _ _
   obtain ⟨x3, H1, H0⟩ := bnd H0
   refine G.sJ (σ := { v : Unit // x3 = Sum.inr v }) (fun q => [(0, .a (.c (.p 0 0))), (2, .a (.c (.v (.int .i64 a2)))), (3, .a (.c (.v (.int .i64 a3)))), (8, .a (.c (.p 107 0))), (9, .a (.c (.p 108 0))), (10, .a (.c (.p 109 0)))]) (fun q => [(1, pvM 1 x1.2), (0, blk 0 [.p 1 0, .v (.int .i64 ri0), .v (.int .i64 rg0)] 74), (107, blk 107 [.v (.int .i64 0), .v (.int .i64 0), .v (.int .i64 0), .v (.int .i64 0), .v (.int .i64 0), .v (.int .i64 0), .v (.int .i64 0), .v (.int .i64 0), .v (.int .i64 0), .v (.int .i64 0), .v (.bool false), .v (.int .i64 0), .v (.int .i64 0), .v (.bool false), .v (.int .i64 0), .v (.int .i64 0)] 43), (108, blk 108 [.v (.int .i64 x1.1.e.op.time), .v (.bool x1.1.e.op.insert), .v (.int .i64 x1.1.e.op.item.key), .v (.int .i64 x1.1.e.op.item.id), .v (.bool x1.1.e.here), .v (.bool x1.1.e.took.found), .v (.int .i64 x1.1.e.took.item.key), .v (.int .i64 x1.1.e.took.item.id), .v (.int .i64 x1.1.left.index), .v (.int .i64 x1.1.left.gen), .v (.int .i64 x1.1.right.index), .v (.int .i64 x1.1.right.gen), .v (.int .i64 x1.1.size), .v (.int .i64 x1.1.sum.count.n), .v (.int .i64 x1.1.sum.count.sum), .v (.int .i64 x1.1.sum.count.low), .v (.int .i64 x1.1.sum.weight.n), .v (.int .i64 x1.1.sum.weight.sum), .v (.int .i64 x1.1.sum.weight.low), .v (.int .i64 x1.1.sum.deletes), .v (.int .i64 x1.1.sum.free), .v (.int .i64 x1.1.sum.most.key), .v (.int .i64 x1.1.sum.most.id), .v (.bool x1.1.sum.gone.found), .v (.int .i64 x1.1.sum.gone.item.key), .v (.int .i64 x1.1.sum.gone.item.id), .v (.bool x1.1.sum.least.found), .v (.int .i64 x1.1.sum.least.item.key), .v (.int .i64 x1.1.sum.least.item.id)] 70), (109, blk 109 [.v (.int .i64 0), .v (.int .i64 0), .v (.int .i64 0), .v (.int .i64 0), .v (.int .i64 0), .v (.int .i64 0), .v (.int .i64 0), .v (.int .i64 0), .v (.int .i64 0), .v (.int .i64 0), .v (.bool false), .v (.int .i64 0), .v (.int .i64 0), .v (.bool false), .v (.int .i64 0), .v (.int .i64 0)] 43)]) ?_ ?_
   ·
    refine G.seq ?_
    rcases Bool.eq_false_or_eq_true (decide (a2 ≤ 0)) with h8 | h8
    ·
     replace H1 := bif_t H1 h8
     refine G.rg <| K.mv rfl rfl <| K.bin (V := .bool (decide (a2 ≤ 0))) g0 rfl rfl (fun _ => rfl) rfl <| K.mv rfl rfl <| K.move (.inl rfl) (g1 rfl rfl h8) rfl rfl <| K.fieldAddr Y (g1 rfl rfl h8) rfl t70 rfl rfl <| K.load1 Y (g1 rfl rfl h8) rfl rfl t3 rfl rfl <| K.bin (V := .bool (decide (a3 ≥ x1.1.size))) (g1 rfl rfl h8) rfl rfl (fun _ => rfl) rfl <| K.pickT g0 rfl (h8) rfl rfl <| K.nil <| At.next <| G.cond rfl (fun h9 => ?_) (fun h9 => ?_)
     ·
      replace H1 := bif_t H1 h9
      refine G.seq <| G.rg <| K.fieldAddr Y g0 rfl t70 rfl rfl <| K.loadS Y _ g0 rfl rfl t43 rfl rfl rfl <| K.store Y _ g0 rfl rfl rfl t43 rfl rfl rfl rfl rfl <| K.nil <| At.next <| G.ret <| At.over_ret ?_
      cases H1
      replace H0 := sum_l H0
      refine At.done Y [(.cell 8 43, .agg [_, _, _, _, _, _, _, _, _, _, _, _, _, _, _, _])] rfl ⟨.st rfl rfl t43 rfl rfl, trivial⟩ (to' := [(0, _), (1, _)]) ⟨rfl, rfl, trivial⟩ ?_ ?_ rfl rfl rfl (.inl rfl)
      · cases H0; rfl
      · cases H0; rfl
     ·
      replace H1 := bif_f H1 h9
      exact G.skip <| At.jd ⟨(), oi H1⟩ [(107, 104), (108, 105), (109, 106)] [_, _, _, _, _] rfl ⟨rfl, rfl, rfl, rfl, rfl, rfl, trivial⟩ ⟨rfl, (pool_ren rfl), rfl, (blk_ren rfl rfl), rfl, (blk_ren rfl rfl), rfl, (blk_ren rfl rfl), rfl, (blk_ren rfl rfl), trivial⟩ rfl
    ·
     replace H1 := bif_f H1 h8
     refine G.rg <| K.mv rfl rfl <| K.bin (V := .bool (decide (a2 ≤ 0))) g0 rfl rfl (fun _ => rfl) rfl <| K.mv rfl rfl <| K.sk rfl rfl h8 rfl <| K.sk rfl rfl h8 rfl <| K.sk rfl rfl h8 rfl <| K.sk rfl rfl h8 rfl <| K.pickF g0 rfl (h8) rfl rfl <| K.nil <| At.next <| G.cond rfl (fun h10 => ?_) (fun h10 => ?_)
     · cases h10
     ·
      exact G.skip <| At.jd ⟨(), oi H1⟩ [(107, 104), (108, 105), (109, 106)] [_, _, _, _, _] rfl ⟨rfl, rfl, rfl, rfl, rfl, rfl, trivial⟩ ⟨rfl, (pool_ren rfl), rfl, (blk_ren rfl rfl), rfl, (blk_ren rfl rfl), rfl, (blk_ren rfl rfl), rfl, (blk_ren rfl rfl), trivial⟩ rfl
   ·
    rintro ⟨w3, rfl⟩
    replace H0 := sum_r H0
    show G _ _ [(0, .a (.c (.p 0 0))), (2, .a (.c (.v (.int .i64 a2)))), (3, .a (.c (.v (.int .i64 a3)))), (8, .a (.c (.p 107 0))), (9, .a (.c (.p 108 0))), (10, .a (.c (.p 109 0)))] [(1, some (pvM 1 x1.2)), (0, some (blk 0 [.p 1 0, .v (.int .i64 ri0), .v (.int .i64 rg0)] 74)), (107, some (blk 107 [.v (.int .i64 0), .v (.int .i64 0), .v (.int .i64 0), .v (.int .i64 0), .v (.int .i64 0), .v (.int .i64 0), .v (.int .i64 0), .v (.int .i64 0), .v (.int .i64 0), .v (.int .i64 0), .v (.bool false), .v (.int .i64 0), .v (.int .i64 0), .v (.bool false), .v (.int .i64 0), .v (.int .i64 0)] 43)), (108, some (blk 108 [.v (.int .i64 x1.1.e.op.time), .v (.bool x1.1.e.op.insert), .v (.int .i64 x1.1.e.op.item.key), .v (.int .i64 x1.1.e.op.item.id), .v (.bool x1.1.e.here), .v (.bool x1.1.e.took.found), .v (.int .i64 x1.1.e.took.item.key), .v (.int .i64 x1.1.e.took.item.id), .v (.int .i64 x1.1.left.index), .v (.int .i64 x1.1.left.gen), .v (.int .i64 x1.1.right.index), .v (.int .i64 x1.1.right.gen), .v (.int .i64 x1.1.size), .v (.int .i64 x1.1.sum.count.n), .v (.int .i64 x1.1.sum.count.sum), .v (.int .i64 x1.1.sum.count.low), .v (.int .i64 x1.1.sum.weight.n), .v (.int .i64 x1.1.sum.weight.sum), .v (.int .i64 x1.1.sum.weight.low), .v (.int .i64 x1.1.sum.deletes), .v (.int .i64 x1.1.sum.free), .v (.int .i64 x1.1.sum.most.key), .v (.int .i64 x1.1.sum.most.id), .v (.bool x1.1.sum.gone.found), .v (.int .i64 x1.1.sum.gone.item.key), .v (.int .i64 x1.1.sum.gone.item.id), .v (.bool x1.1.sum.least.found), .v (.int .i64 x1.1.sum.least.item.key), .v (.int .i64 x1.1.sum.least.item.id)] 70)), (109, some (blk 109 [.v (.int .i64 0), .v (.int .i64 0), .v (.int .i64 0), .v (.int .i64 0), .v (.int .i64 0), .v (.int .i64 0), .v (.int .i64 0), .v (.int .i64 0), .v (.int .i64 0), .v (.int .i64 0), .v (.bool false), .v (.int .i64 0), .v (.int .i64 0), .v (.bool false), .v (.int .i64 0), .v (.int .i64 0)] 43))] _ _
    refine G.seq ?_
    obtain ⟨x4, hx4, H0⟩ := bnd H0
    refine G.rg <| K.mv rfl rfl <| K.fieldAddr Y g0 rfl t70 rfl rfl <| K.loadS Y _ g0 rfl rfl t68 rfl rfl rfl <| K.cA (cf 50 rfl) [0] (fun β w S2 h => SCon.rdBlk (VTree_getM_con hx4 0 1) rfl h) g0 rfl rfl rfl <| K.field1 Y g0 rfl t70 rfl t3 rfl rfl <| K.as rfl rfl <| K.nil <| At.ns ?_
    obtain ⟨x5, hx5, H0⟩ := bnd H0
    refine G.rg <| K.mv rfl rfl <| K.fieldAddr Y g0 rfl t70 rfl rfl <| K.loadS Y _ g0 rfl rfl t68 rfl rfl rfl <| K.mv rfl rfl <| K.mv rfl rfl <| K.cA (cf 59 rfl) [0] (fun β w S2 h => SCon.rdBlk (ih hx5) rfl h) g0 rfl rfl rfl <| K.store Y _ g0 rfl rfl rfl t43 rfl rfl rfl rfl rfl <| K.nil <| At.next ?_
    obtain ⟨x6, H1, H0⟩ := bnd H0
    refine G.sJ (σ := { v : TSwell // x6 = v }) (fun q => [(0, .a (.c (.p 0 0))), (2, .a (.c (.v (.int .i64 a2)))), (3, .a (.c (.v (.int .i64 a3)))), (8, .a (.c (.p 110 0))), (9, .a (.c (.p 111 0))), (10, .a (.c (.p 112 0))), (11, .a (.c (.v (.int .i64 x4.1.size))))]) (fun q => [(1, pvM 1 x5.2), (0, blk 0 [.p 1 0, .v (.int .i64 ri0), .v (.int .i64 rg0)] 74), (110, blk 110 [.v (.int .i64 0), .v (.int .i64 0), .v (.int .i64 0), .v (.int .i64 0), .v (.int .i64 0), .v (.int .i64 0), .v (.int .i64 0), .v (.int .i64 0), .v (.int .i64 0), .v (.int .i64 0), .v (.bool false), .v (.int .i64 0), .v (.int .i64 0), .v (.bool false), .v (.int .i64 0), .v (.int .i64 0)] 43), (111, blk 111 [.v (.int .i64 x1.1.e.op.time), .v (.bool x1.1.e.op.insert), .v (.int .i64 x1.1.e.op.item.key), .v (.int .i64 x1.1.e.op.item.id), .v (.bool x1.1.e.here), .v (.bool x1.1.e.took.found), .v (.int .i64 x1.1.e.took.item.key), .v (.int .i64 x1.1.e.took.item.id), .v (.int .i64 x1.1.left.index), .v (.int .i64 x1.1.left.gen), .v (.int .i64 x1.1.right.index), .v (.int .i64 x1.1.right.gen), .v (.int .i64 x1.1.size), .v (.int .i64 x1.1.sum.count.n), .v (.int .i64 x1.1.sum.count.sum), .v (.int .i64 x1.1.sum.count.low), .v (.int .i64 x1.1.sum.weight.n), .v (.int .i64 x1.1.sum.weight.sum), .v (.int .i64 x1.1.sum.weight.low), .v (.int .i64 x1.1.sum.deletes), .v (.int .i64 x1.1.sum.free), .v (.int .i64 x1.1.sum.most.key), .v (.int .i64 x1.1.sum.most.id), .v (.bool x1.1.sum.gone.found), .v (.int .i64 x1.1.sum.gone.item.key), .v (.int .i64 x1.1.sum.gone.item.id), .v (.bool x1.1.sum.least.found), .v (.int .i64 x1.1.sum.least.item.key), .v (.int .i64 x1.1.sum.least.item.id)] 70), (112, blk 112 [.v (.int .i64 q.1.count.n), .v (.int .i64 q.1.count.sum), .v (.int .i64 q.1.count.low), .v (.int .i64 q.1.weight.n), .v (.int .i64 q.1.weight.sum), .v (.int .i64 q.1.weight.low), .v (.int .i64 q.1.deletes), .v (.int .i64 q.1.free), .v (.int .i64 q.1.most.key), .v (.int .i64 q.1.most.id), .v (.bool q.1.gone.found), .v (.int .i64 q.1.gone.item.key), .v (.int .i64 q.1.gone.item.id), .v (.bool q.1.least.found), .v (.int .i64 q.1.least.item.key), .v (.int .i64 q.1.least.item.id)] 43)]) ?_ ?_
    ·
     refine G.seq ?_
     rcases Bool.eq_false_or_eq_true (decide (a2 ≤ x4.1.size)) with h11 | h11
     ·
      replace H1 := bif_t H1 h11
      refine G.rg <| K.mv rfl rfl <| K.mv rfl rfl <| K.bin (V := .bool (decide (a2 ≤ x4.1.size))) g0 rfl rfl (fun _ => rfl) rfl <| K.mv rfl rfl <| K.move (.inl rfl) (g1 rfl rfl h11) rfl rfl <| K.move (.inl rfl) (g1 rfl rfl h11) rfl rfl <| K.bin (V := .bool (decide (a3 > x4.1.size))) (g1 rfl rfl h11) rfl rfl (fun _ => rfl) rfl <| K.pickT g0 rfl (h11) rfl rfl <| K.nil <| At.next <| G.cond rfl (fun h12 => ?_) (fun h12 => ?_)
      ·
       replace H1 := bif_t H1 h12
       obtain ⟨x7, hx7, H1⟩ := bnd H1
       obtain ⟨x8, hx8, H1⟩ := bnd H1
       exact G.rd mixed <| K.loadS Y _ g0 rfl rfl t43 rfl rfl rfl <| K.mkIface Y g0 rfl (mkI Try.underlying43 rfl) rfl <| K.fieldAddr Y g0 rfl t70 rfl rfl <| K.loadS Y _ g0 rfl rfl t39 rfl rfl rfl <| K.mkIface Y g0 rfl (mkI Try.underlying39 rfl) rfl <| K.callR [((.tmp 67), _)] (wave_Mark_Sum_con (k := k) hx7) (toFn_invoke (cf 96 rfl) (me39_96) rfl) g0 ⟨rfl, trivial⟩ trivial rfl rfl rfl <| K.callR [((.tmp 64), _), ((.tmp 68), _)] (wave_Swell_Plus_con (k := k) hx8) (toFn_invoke (cf 101 rfl) (me43_101) rfl) g0 ⟨rfl, rfl, trivial⟩ trivial rfl rfl rfl <| K.store Y _ g0 rfl rfl rfl t43 rfl rfl rfl rfl rfl <| K.nil <| And.intro (by kernel_rfl) <| At.jd ⟨x8, oi H1⟩ [(110, 107), (111, 108), (112, 109)] [_, _, _, _, _] rfl ⟨rfl, rfl, rfl, rfl, rfl, rfl, rfl, trivial⟩ ⟨rfl, (pool_ren rfl), rfl, (blk_ren rfl rfl), rfl, (blk_ren rfl rfl), rfl, (blk_ren rfl rfl), rfl, (blk_ren rfl rfl), trivial⟩ rfl
      ·
       replace H1 := bif_f H1 h12
       exact G.skip <| At.jd ⟨x5.1, oi H1⟩ [(110, 107), (111, 108), (112, 109)] [_, _, _, _, _] rfl ⟨rfl, rfl, rfl, rfl, rfl, rfl, rfl, trivial⟩ ⟨rfl, (pool_ren rfl), rfl, (blk_ren rfl rfl), rfl, (blk_ren rfl rfl), rfl, (blk_ren rfl rfl), rfl, (blk_ren rfl rfl), trivial⟩ rfl
     ·
      replace H1 := bif_f H1 h11
      refine G.rg <| K.mv rfl rfl <| K.mv rfl rfl <| K.bin (V := .bool (decide (a2 ≤ x4.1.size))) g0 rfl rfl (fun _ => rfl) rfl <| K.mv rfl rfl <| K.sk rfl rfl h11 rfl <| K.sk rfl rfl h11 rfl <| K.sk rfl rfl h11 rfl <| K.pickF g0 rfl (h11) rfl rfl <| K.nil <| At.next <| G.cond rfl (fun h13 => ?_) (fun h13 => ?_)
      · cases h13
      ·
       exact G.skip <| At.jd ⟨x5.1, oi H1⟩ [(110, 107), (111, 108), (112, 109)] [_, _, _, _, _] rfl ⟨rfl, rfl, rfl, rfl, rfl, rfl, rfl, trivial⟩ ⟨rfl, (pool_ren rfl), rfl, (blk_ren rfl rfl), rfl, (blk_ren rfl rfl), rfl, (blk_ren rfl rfl), rfl, (blk_ren rfl rfl), trivial⟩ rfl
    ·
     rintro ⟨_, rfl⟩
     show G _ _ [(0, .a (.c (.p 0 0))), (2, .a (.c (.v (.int .i64 a2)))), (3, .a (.c (.v (.int .i64 a3)))), (8, .a (.c (.p 110 0))), (9, .a (.c (.p 111 0))), (10, .a (.c (.p 112 0))), (11, .a (.c (.v (.int .i64 x4.1.size))))] [(1, some (pvM 1 x5.2)), (0, some (blk 0 [.p 1 0, .v (.int .i64 ri0), .v (.int .i64 rg0)] 74)), (110, some (blk 110 [.v (.int .i64 0), .v (.int .i64 0), .v (.int .i64 0), .v (.int .i64 0), .v (.int .i64 0), .v (.int .i64 0), .v (.int .i64 0), .v (.int .i64 0), .v (.int .i64 0), .v (.int .i64 0), .v (.bool false), .v (.int .i64 0), .v (.int .i64 0), .v (.bool false), .v (.int .i64 0), .v (.int .i64 0)] 43)), (111, some (blk 111 [.v (.int .i64 x1.1.e.op.time), .v (.bool x1.1.e.op.insert), .v (.int .i64 x1.1.e.op.item.key), .v (.int .i64 x1.1.e.op.item.id), .v (.bool x1.1.e.here), .v (.bool x1.1.e.took.found), .v (.int .i64 x1.1.e.took.item.key), .v (.int .i64 x1.1.e.took.item.id), .v (.int .i64 x1.1.left.index), .v (.int .i64 x1.1.left.gen), .v (.int .i64 x1.1.right.index), .v (.int .i64 x1.1.right.gen), .v (.int .i64 x1.1.size), .v (.int .i64 x1.1.sum.count.n), .v (.int .i64 x1.1.sum.count.sum), .v (.int .i64 x1.1.sum.count.low), .v (.int .i64 x1.1.sum.weight.n), .v (.int .i64 x1.1.sum.weight.sum), .v (.int .i64 x1.1.sum.weight.low), .v (.int .i64 x1.1.sum.deletes), .v (.int .i64 x1.1.sum.free), .v (.int .i64 x1.1.sum.most.key), .v (.int .i64 x1.1.sum.most.id), .v (.bool x1.1.sum.gone.found), .v (.int .i64 x1.1.sum.gone.item.key), .v (.int .i64 x1.1.sum.gone.item.id), .v (.bool x1.1.sum.least.found), .v (.int .i64 x1.1.sum.least.item.key), .v (.int .i64 x1.1.sum.least.item.id)] 70)), (112, some (blk 112 [.v (.int .i64 x6.count.n), .v (.int .i64 x6.count.sum), .v (.int .i64 x6.count.low), .v (.int .i64 x6.weight.n), .v (.int .i64 x6.weight.sum), .v (.int .i64 x6.weight.low), .v (.int .i64 x6.deletes), .v (.int .i64 x6.free), .v (.int .i64 x6.most.key), .v (.int .i64 x6.most.id), .v (.bool x6.gone.found), .v (.int .i64 x6.gone.item.key), .v (.int .i64 x6.gone.item.id), .v (.bool x6.least.found), .v (.int .i64 x6.least.item.key), .v (.int .i64 x6.least.item.id)] 43))] _ _
     refine G.seq ?_
     obtain ⟨x9, hx9, H0⟩ := bnd H0
     obtain ⟨x10, hx10, H0⟩ := bnd H0
     refine G.rd mixed <| K.loadS Y _ g0 rfl rfl t43 rfl rfl rfl <| K.mkIface Y g0 rfl (mkI Try.underlying43 rfl) rfl <| K.mv rfl rfl <| K.fieldAddr Y g0 rfl t70 rfl rfl <| K.loadS Y _ g0 rfl rfl t68 rfl rfl rfl <| K.mv rfl rfl <| K.mv rfl rfl <| K.bin (V := .int .i64 (w64 (a2 - x4.1.size))) g0 rfl rfl (fun _ => rfl) rfl <| K.bin (V := .int .i64 (w64 ((w64 (a2 - x4.1.size)) - 1))) g0 rfl rfl (fun _ => rfl) rfl <| K.mv rfl rfl <| K.mv rfl rfl <| K.bin (V := .int .i64 (w64 (a3 - x4.1.size))) g0 rfl rfl (fun _ => rfl) rfl <| K.bin (V := .int .i64 (w64 ((w64 (a3 - x4.1.size)) - 1))) g0 rfl rfl (fun _ => rfl) rfl <| K.cA (cf 59 rfl) [0] (fun β w S2 h => SCon.rdBlk (ih hx9) rfl h) g0 rfl rfl rfl <| K.callR [((.tmp 71), _), ((.tmp 83), _)] (wave_Swell_Plus_con (k := k) hx10) (toFn_invoke (cf 101 rfl) (me43_101) rfl) g0 ⟨rfl, rfl, trivial⟩ trivial rfl rfl rfl <| K.store Y _ g0 rfl rfl rfl t43 rfl rfl rfl rfl rfl <| K.nil <| And.intro (by kernel_rfl) <| At.next <| G.ret <| At.done Y [(.cell 8 43, .agg [_, _, _, _, _, _, _, _, _, _, _, _, _, _, _, _])] rfl ⟨.st rfl rfl t43 rfl rfl, trivial⟩ (to' := [(0, _), (1, _)]) ⟨rfl, rfl, trivial⟩ ?_ ?_ rfl rfl rfl (.inl rfl)
     · cases H0; rfl
     · cases H0; rfl
theorem VTree_betweenM_con {k n : Nat}  {p1 : Pool (TNode TMark TSwell)} {a1 : TRef} {a2 : Int} {a3 : Int} {ri0 rg0 : Int} {r : TSwell × Pool (TNode TMark TSwell)}  (H0 : VTree_between.r opsM k n p1 a1 a2 a3 = some r) (m0 m1 : Nat) : VTree_betweenM_st p1 a1 a2 a3 ri0 rg0 r m0 m1 :=
 SCon.ren (rn [(0, m0), (1, m1)]) (VTree_betweenM_con0 (k := k)   H0) ⟨(blk_ren rfl rfl), (pool_ren rfl), trivial⟩ ⟨(blk_ren rfl rfl), (pool_ren rfl), trivial⟩ (by simp) (by simp)
abbrev VTree_BetweenM_st (p1 : Pool (TNode TMark TSwell)) (rt0 : TRef) (a1 : Int) (a2 : Int) (r : TSwell × Pool (TNode TMark TSwell)) (m0 : Nat) (m1 : Nat) : Prop := SCon Try.prog 41 [SV.p m0 0, .a (.c (.v (.int .i64 a1))), .a (.c (.v (.int .i64 a2)))] [(m0, blk m0 [.p m1 0, .i rt0.index, .i rt0.gen] 74), (m1, pvM m1 p1)] (.a (.agg ((eTSwell r.1).map .v))) [(m0, blk m0 [.p m1 0, .i rt0.index, .i rt0.gen] 74), (m1, pvM m1 r.2)] []
theorem VTree_BetweenM_con0 {k : Nat}  {p1 : Pool (TNode TMark TSwell)} {rt0 : TRef} {a1 : Int} {a2 : Int} {r : TSwell × Pool (TNode TMark TSwell)}  (H0 : VTree_Between.f opsM k p1 rt0 a1 a2 = some r) : VTree_BetweenM_st p1 rt0 a1 a2 r 0 1 := by
 rw [VTree_Between.f] at H0
 refine spec_of [(0, _), (1, _), (2, _)] [(0, _), (1, _)] 24 Try.func41 rfl Try.ntmps41 rfl rfl rfl rfl (fun β W F => ?_)
 refine G.seq <| G.rg <| K.alloc Y 100 _ g0 t43 rfl rfl rfl rfl rfl <| K.nil <| At.ns ?_
 obtain ⟨x1, hx1, H0⟩ := bnd H0
 refine G.rg <| K.mv rfl rfl <| K.cA (cf 21 rfl) [0] (fun β w S2 h => SCon.rdBlk (VTree_LenM_con hx1 0 1) rfl h) g0 rfl rfl rfl <| K.as rfl rfl <| K.nil <| At.ns ?_
 obtain ⟨x2, hx2, H0⟩ := bnd H0
 refine G.rg <| K.mv rfl rfl <| K.mv rfl rfl <| K.nilCheck g0 rfl rfl <| K.fieldAddr Y g0 rfl t74 rfl rfl <| K.loadS Y _ g0 rfl rfl t68 rfl rfl rfl <| K.mv rfl rfl <| K.bi2 (V := .int .i64 (gmax a1 0)) g0 rfl rfl (fun _ _ => rfl) rfl <| K.mv rfl rfl <| K.bi2 (V := .int .i64 (gmin (gmax a1 0) x1.1)) g0 rfl rfl (fun _ _ => rfl) rfl <| K.mv rfl rfl <| K.bi2 (V := .int .i64 (gmax a2 0)) g0 rfl rfl (fun _ _ => rfl) rfl <| K.mv rfl rfl <| K.bi2 (V := .int .i64 (gmin (gmax a2 0) x1.1)) g0 rfl rfl (fun _ _ => rfl) rfl <| K.cA (cf 59 rfl) [0] (fun β w S2 h => SCon.rdBlk (VTree_betweenM_con hx2 0 1) rfl h) g0 rfl rfl rfl <| K.store Y _ g0 rfl rfl rfl t43 rfl rfl rfl rfl rfl <| K.nil <| At.next <| G.ret <| At.done Y [(.cell 6 43, .agg [_, _, _, _, _, _, _, _, _, _, _, _, _, _, _, _])] rfl ⟨.st rfl rfl t43 rfl rfl, trivial⟩ (to' := [(0, _), (1, _)]) ⟨rfl, rfl, trivial⟩ ?_ ?_ rfl rfl rfl (.inl rfl)
 · cases H0; rfl
 · cases H0; rfl
theorem VTree_BetweenM_con {k : Nat}  {p1 : Pool (TNode TMark TSwell)} {rt0 : TRef} {a1 : Int} {a2 : Int} {r : TSwell × Pool (TNode TMark TSwell)}  (H0 : VTree_Between.f opsM k p1 rt0 a1 a2 = some r) (m0 m1 : Nat) : VTree_BetweenM_st p1 rt0 a1 a2 r m0 m1 :=
 SCon.ren (rn [(0, m0), (1, m1)]) (VTree_BetweenM_con0 (k := k)   H0) ⟨(blk_ren rfl rfl), (pool_ren rfl), trivial⟩ ⟨(blk_ren rfl rfl), (pool_ren rfl), trivial⟩ (by simp) (by simp)
abbrev Vbridge_Height_st (p1 : Pool (TNode TMark TSwell)) (rt0 : TRef) (a1 : Int) (a2 : Int) (r : Int × Pool (TNode TMark TSwell)) (m0 : Nat) (m1 : Nat) : Prop := SCon Try.prog 13 [SV.p m0 0, .a (.c (.v (.int .i64 a1))), .a (.c (.v (.int .i64 a2)))] [(m0, blk m0 [.p m1 0, .i rt0.index, .i rt0.gen] 74), (m1, pvM m1 p1)] (.a (.c (.v (.int .i64 r.1)))) [(m0, blk m0 [.p m1 0, .i rt0.index, .i rt0.gen] 74), (m1, pvM m1 r.2)] []
theorem Vbridge_Height_con0 {k : Nat}  {p1 : Pool (TNode TMark TSwell)} {rt0 : TRef} {a1 : Int} {a2 : Int} {r : Int × Pool (TNode TMark TSwell)}  (H0 : Vbridge_Height.f k p1 rt0 a1 a2 = some r) : Vbridge_Height_st p1 rt0 a1 a2 r 0 1 := by
 rw [Vbridge_Height.f] at H0
 refine spec_of [(0, _), (1, _), (2, _)] [(0, _), (1, _)] 14 Try.func13 rfl Try.ntmps13 rfl rfl rfl rfl (fun β W F => ?_)
 refine G.seq <| G.rg <| K.as rfl rfl <| K.nil <| At.ns ?_
 obtain ⟨x1, hx1, H0⟩ := bnd H0
 exact G.rg <| K.mv rfl rfl <| K.mv rfl rfl <| K.mv rfl rfl <| K.cA (cf 41 rfl) [0] (fun β w S2 h => SCon.rdBlk (VTree_BetweenM_con hx1 0 1) rfl h) g0 rfl rfl rfl <| K.fieldS Y _ g0 rfl t43 rfl t41 rfl rfl <| K.field1 Y g0 rfl t41 rfl t3 rfl rfl <| K.bin (V := .int .i64 (w64 (a2 + x1.1.weight.sum))) g0 rfl rfl (fun _ => rfl) rfl <| K.as rfl rfl <| K.nil <| At.next <| G.ret <| At.dr Y [6] rfl rfl (by cases H0; rfl) (by cases H0; rfl) rfl rfl rfl
theorem Vbridge_Height_con {k : Nat}  {p1 : Pool (TNode TMark TSwell)} {rt0 : TRef} {a1 : Int} {a2 : Int} {r : Int × Pool (TNode TMark TSwell)}  (H0 : Vbridge_Height.f k p1 rt0 a1 a2 = some r) (m0 m1 : Nat) : Vbridge_Height_st p1 rt0 a1 a2 r m0 m1 :=
 SCon.ren (rn [(0, m0), (1, m1)]) (Vbridge_Height_con0 (k := k)   H0) ⟨(blk_ren rfl rfl), (pool_ren rfl), trivial⟩ ⟨(blk_ren rfl rfl), (pool_ren rfl), trivial⟩ (by simp) (by simp)
abbrev VTree_firstM_f14_st (g4 : FuncId) (cv4 : List Value) (Tc4 : TypeId) (p1 : Pool (TNode TMark TSwell)) (a1 : TRef) (a2 : Int) (a3 : TSwell) (ri0 : Int) (rg0 : Int) (r : Int × TSwell × Pool (TNode TMark TSwell)) (m0 : Nat) (m1 : Nat) (m2 : Nat) : Prop := SCon Try.prog 62 [SV.p m0 0, .a (.agg ((eTRef a1).map .v)), .a (.c (.v (.int .i64 a2))), .a (.agg ((eTSwell a3).map .v)), .a (.c (.fn (.func g4) [m2]))] [(m0, blk m0 [.p m1 0, .i ri0, .i rg0] 74), (m1, pvM m1 p1), (m2, vblk m2 cv4 Tc4)] (.tup [.c (.v (.int .i64 r.1)), .agg ((eTSwell r.2.1).map .v)]) [(m0, blk m0 [.p m1 0, .i ri0, .i rg0] 74), (m1, pvM m1 r.2.2), (m2, vblk m2 cv4 Tc4)] []
set_option maxHeartbeats 4000000 in
theorem VTree_firstM_f14_con0 {k : Nat} {g4 : FuncId} {fn4 : TSwell → TSwell → Option Bool} {cv4 : List Value} {Tc4 : TypeId} (cg4 : fnB Try.prog g4 = true) (hm4 : ∀ (c : Nat) {z0 : TSwell} {z1 : TSwell} {y : Bool}, fn4 z0 z1 = some y → SCon Try.prog g4 [.a (.agg ((eTSwell z0).map .v)), .a (.agg ((eTSwell z1).map .v)), SV.p c 0] [(c, vblk c cv4 Tc4)] (SV.b y) [(c, vblk c cv4 Tc4)] []) : ∀ {n : Nat} {p1 : Pool (TNode TMark TSwell)} {a1 : TRef} {a2 : Int} {a3 : TSwell} {ri0 rg0 : Int} {r : Int × TSwell × Pool (TNode TMark TSwell)}  (H0 : VTree_first.r opsM k n p1 a1 a2 a3 fn4 = some r), VTree_firstM_f14_st g4 cv4 Tc4 p1 a1 a2 a3 ri0 rg0 r 0 1 2 := by
 intro n
 induction n with
 | zero => intro p1 a1 a2 a3 ri0 rg0 r H0; exact absurd H0 (by simp [VTree_first.r])
 | succ n ih =>
  intro p1 a1 a2 a3 ri0 rg0 r H0
  rw [VTree_first.r] at H0
  refine spec_of [(0, _), (1, _), (2, _), (3, _), (4, _)] [(0, _), (1, _), (2, _)] 103 Try.func62 rfl Try.ntmps62 rfl rfl rfl rfl (fun β W F => ?_)
  refine G.seq <| G.rg <| K.box Y 100 _ g0 rfl rfl rfl rfl rfl rfl <| K.box Y 101 _ g0 rfl rfl rfl rfl rfl rfl <| K.as rfl rfl <| K.alloc Y 102 _ g0 t43 rfl rfl rfl rfl rfl <| K.nil <| At.ns ?_
  obtain ⟨x1, hx1, H0⟩ := bnd H0
  refine G.rg <| K.mv rfl rfl <| K.loadS Y _ g0 rfl rfl t68 rfl rfl rfl <| K.cA (cf 50 rfl) [0] (fun β w S2 h => SCon.rdBlk (VTree_getM_con hx1 0 1) rfl h) g0 rfl rfl rfl <| K.alloc Y 103 _ g0 t70 rfl rfl rfl rfl rfl <| K.store Y _ g0 rfl rfl rfl t70 rfl rfl rfl rfl rfl <| K.nil <| At.next ?_
  obtain ⟨x2, H1, H0⟩ := bnd H0
  refine G.sJ (σ := { v : Unit // x2 = Sum.inr v }) (fun q => [(0, .a (.c (.p 0 0))), (2, .a (.c (.v (.int .i64 a2)))), (4, .a (.c (.fn (.func g4) [2]))), (8, .a (.c (.p 104 0))), (11, .a (.c (.p 105 0))), (12, .a (.c (.p 106 0)))]) (fun q => [(1, pvM 1 x1.2), (0, blk 0 [.p 1 0, .v (.int .i64 ri0), .v (.int .i64 rg0)] 74), (2, vblk 2 cv4 Tc4), (104, blk 104 [.v (.int .i64 a3.count.n), .v (.int .i64 a3.count.sum), .v (.int .i64 a3.count.low), .v (.int .i64 a3.weight.n), .v (.int .i64 a3.weight.sum), .v (.int .i64 a3.weight.low), .v (.int .i64 a3.deletes), .v (.int .i64 a3.free), .v (.int .i64 a3.most.key), .v (.int .i64 a3.most.id), .v (.bool a3.gone.found), .v (.int .i64 a3.gone.item.key), .v (.int .i64 a3.gone.item.id), .v (.bool a3.least.found), .v (.int .i64 a3.least.item.key), .v (.int .i64 a3.least.item.id)] 43), (105, blk 105 [.v (.int .i64 0), .v (.int .i64 0), .v (.int .i64 0), .v (.int .i64 0), .v (.int .i64 0), .v (.int .i64 0), .v (.int .i64 0), .v (.int .i64 0), .v (.int .i64 0), .v (.int .i64 0), .v (.bool false), .v (.int .i64 0), .v (.int .i64 0), .v (.bool false), .v (.int .i64 0), .v (.int .i64 0)] 43), (106, blk 106 [.v (.int .i64 x1.1.e.op.time), .v (.bool x1.1.e.op.insert), .v (.int .i64 x1.1.e.op.item.key), .v (.int .i64 x1.1.e.op.item.id), .v (.bool x1.1.e.here), .v (.bool x1.1.e.took.found), .v (.int .i64 x1.1.e.took.item.key), .v (.int .i64 x1.1.e.took.item.id), .v (.int .i64 x1.1.left.index), .v (.int .i64 x1.1.left.gen), .v (.int .i64 x1.1.right.index), .v (.int .i64 x1.1.right.gen), .v (.int .i64 x1.1.size), .v (.int .i64 x1.1.sum.count.n), .v (.int .i64 x1.1.sum.count.sum), .v (.int .i64 x1.1.sum.count.low), .v (.int .i64 x1.1.sum.weight.n), .v (.int .i64 x1.1.sum.weight.sum), .v (.int .i64 x1.1.sum.weight.low), .v (.int .i64 x1.1.sum.deletes), .v (.int .i64 x1.1.sum.free), .v (.int .i64 x1.1.sum.most.key), .v (.int .i64 x1.1.sum.most.id), .v (.bool x1.1.sum.gone.found), .v (.int .i64 x1.1.sum.gone.item.key), .v (.int .i64 x1.1.sum.gone.item.id), .v (.bool x1.1.sum.least.found), .v (.int .i64 x1.1.sum.least.item.key), .v (.int .i64 x1.1.sum.least.item.id)] 70)]) ?_ ?_
  ·
   refine G.seq ?_
   rcases Bool.eq_false_or_eq_true (x1.1.size == 0) with h1 | h1
   ·
    replace H1 := bif_t H1 h1
    refine G.rg <| K.fieldAddr Y g0 rfl t70 rfl rfl <| K.load1 Y g0 rfl rfl t3 rfl rfl <| K.bin (V := .bool (x1.1.size == 0)) g0 rfl rfl (fun _ => rfl) rfl <| K.mv rfl rfl <| K.sk rfl rfl h1 rfl <| K.sk rfl rfl h1 rfl <| K.sk rfl rfl h1 rfl <| K.sk rfl rfl h1 rfl <| K.pickT g0 rfl (h1) rfl rfl <| K.mv rfl rfl <| K.sk rfl rfl rfl rfl <| K.sk rfl rfl rfl rfl <| K.sk rfl rfl rfl rfl <| K.skipU rfl rfl rfl rfl rfl <| K.skipU rfl rfl rfl rfl rfl <| K.skipU rfl rfl rfl rfl rfl <| K.skipU rfl rfl rfl rfl rfl <| K.skipU rfl rfl rfl rfl rfl <| K.skipU rfl rfl rfl rfl rfl <| K.sk rfl rfl rfl rfl <| K.pickT g0 rfl (rfl) rfl rfl <| K.nil <| At.next <| G.cond rfl (fun h2 => ?_) (fun h2 => ?_)
    ·
     refine G.seq ?_
     obtain ⟨x3, hx3, H1⟩ := bnd H1
     refine G.rg <| K.loadS Y _ g0 rfl rfl t43 rfl rfl rfl <| K.mkIface Y g0 rfl (mkI Try.underlying43 rfl) rfl <| K.fieldAddr Y g0 rfl t70 rfl rfl <| K.loadS Y _ g0 rfl rfl t43 rfl rfl rfl <| K.callR [((.tmp 41), _), ((.tmp 43), _)] (wave_Swell_Plus_con (k := k) hx3) (toFn_invoke (cf 101 rfl) (me43_101) rfl) g0 ⟨rfl, rfl, trivial⟩ trivial rfl rfl rfl <| K.as rfl rfl <| K.store Y _ g0 rfl rfl rfl t43 rfl rfl rfl rfl rfl <| K.nil <| At.next <| G.ret <| At.over_ret ?_
     cases H1
     replace H0 := sum_l H0
     refine At.done Y [(.tmp 10, .c _), (.cell 11 43, .agg [_, _, _, _, _, _, _, _, _, _, _, _, _, _, _, _])] rfl ⟨.tmp rfl, .st rfl rfl t43 rfl rfl, trivial⟩ (to' := [(0, _), (1, _), (2, _)]) ⟨rfl, rfl, rfl, trivial⟩ ?_ ?_ rfl rfl rfl (.inl rfl)
     · cases H0; rfl
     · cases H0; rfl
    · cases h2
   ·
    replace H1 := bif_f H1 h1
    rcases Bool.eq_false_or_eq_true (decide (a2 ≥ x1.1.size)) with h3 | h3
    ·
     replace H1 := bif_t H1 h3
     refine G.rg <| K.fieldAddr Y g0 rfl t70 rfl rfl <| K.load1 Y g0 rfl rfl t3 rfl rfl <| K.bin (V := .bool (x1.1.size == 0)) g0 rfl rfl (fun _ => rfl) rfl <| K.mv rfl rfl <| K.move (.inl rfl) (g1 rfl rfl h1) rfl rfl <| K.fieldAddr Y (g1 rfl rfl h1) rfl t70 rfl rfl <| K.load1 Y (g1 rfl rfl h1) rfl rfl t3 rfl rfl <| K.bin (V := .bool (decide (a2 ≥ x1.1.size))) (g1 rfl rfl h1) rfl rfl (fun _ => rfl) rfl <| K.pickF g0 rfl (h1) rfl rfl <| K.mv rfl rfl <| K.sk rfl rfl h3 rfl <| K.sk rfl rfl h3 rfl <| K.sk rfl rfl h3 rfl <| K.skipU rfl rfl rfl rfl rfl <| K.skipU rfl rfl rfl rfl rfl <| K.skipU rfl rfl rfl rfl rfl <| K.skipU rfl rfl rfl rfl rfl <| K.skipU rfl rfl rfl rfl rfl <| K.skipU rfl rfl rfl rfl rfl <| K.sk rfl rfl h3 rfl <| K.pickT g0 rfl (h3) rfl rfl <| K.nil <| At.next <| G.cond rfl (fun h4 => ?_) (fun h4 => ?_)
     ·
      refine G.seq ?_
      obtain ⟨x4, hx4, H1⟩ := bnd H1
      refine G.rg <| K.loadS Y _ g0 rfl rfl t43 rfl rfl rfl <| K.mkIface Y g0 rfl (mkI Try.underlying43 rfl) rfl <| K.fieldAddr Y g0 rfl t70 rfl rfl <| K.loadS Y _ g0 rfl rfl t43 rfl rfl rfl <| K.callR [((.tmp 41), _), ((.tmp 43), _)] (wave_Swell_Plus_con (k := k) hx4) (toFn_invoke (cf 101 rfl) (me43_101) rfl) g0 ⟨rfl, rfl, trivial⟩ trivial rfl rfl rfl <| K.as rfl rfl <| K.store Y _ g0 rfl rfl rfl t43 rfl rfl rfl rfl rfl <| K.nil <| At.next <| G.ret <| At.over_ret ?_
      cases H1
      replace H0 := sum_l H0
      refine At.done Y [(.tmp 10, .c _), (.cell 11 43, .agg [_, _, _, _, _, _, _, _, _, _, _, _, _, _, _, _])] rfl ⟨.tmp rfl, .st rfl rfl t43 rfl rfl, trivial⟩ (to' := [(0, _), (1, _), (2, _)]) ⟨rfl, rfl, rfl, trivial⟩ ?_ ?_ rfl rfl rfl (.inl rfl)
      · cases H0; rfl
      · cases H0; rfl
     · cases h4
    ·
     replace H1 := bif_f H1 h3
     rcases Bool.eq_false_or_eq_true (decide (a2 ≤ 0)) with h5 | h5
     ·
      replace H1 := bif_t H1 h5
      obtain ⟨x5, hx5, H1⟩ := bnd H1
      refine G.rg <| K.fieldAddr Y g0 rfl t70 rfl rfl <| K.load1 Y g0 rfl rfl t3 rfl rfl <| K.bin (V := .bool (x1.1.size == 0)) g0 rfl rfl (fun _ => rfl) rfl <| K.mv rfl rfl <| K.move (.inl rfl) (g1 rfl rfl h1) rfl rfl <| K.fieldAddr Y (g1 rfl rfl h1) rfl t70 rfl rfl <| K.load1 Y (g1 rfl rfl h1) rfl rfl t3 rfl rfl <| K.bin (V := .bool (decide (a2 ≥ x1.1.size))) (g1 rfl rfl h1) rfl rfl (fun _ => rfl) rfl <| K.pickF g0 rfl (h1) rfl rfl <| K.mv rfl rfl <| K.move (.inl rfl) (g1 rfl rfl h3) rfl rfl <| K.bin (V := .bool (decide (a2 ≤ 0))) (g1 rfl rfl h3) rfl rfl (fun _ => rfl) rfl <| K.move (.inl rfl) (g1 rfl rfl h3) rfl rfl <| K.move (.inl rfl) (g1 rfl rfl h5) rfl rfl <| K.loadS Y _ (g1 rfl rfl h5) rfl rfl t43 rfl rfl rfl <| K.fieldAddr Y (g1 rfl rfl h5) rfl t70 rfl rfl <| K.loadS Y _ (g1 rfl rfl h5) rfl rfl t43 rfl rfl rfl <| K.callR [((.tmp 32), _), ((.tmp 33), _), ((.tmp 35), _)] (hm4 2 hx5) (toFn_val cg4 rfl) (g1 rfl rfl h5) ⟨rfl, rfl, rfl, trivial⟩ ⟨rfl, trivial⟩ rfl rfl rfl <| K.un (V := .bool (!x5)) (g1 rfl rfl h5) rfl (fun _ => rfl) rfl <| K.pickT (g1 rfl rfl h3) rfl (h5) rfl rfl <| K.pickF g0 rfl (h3) rfl rfl <| K.nil <| At.next <| G.cond rfl (fun h6 => ?_) (fun h6 => ?_)
      ·
       replace H1 := bif_t H1 h6
       refine G.seq ?_
       obtain ⟨x6, hx6, H1⟩ := bnd H1
       refine G.rg <| K.loadS Y _ g0 rfl rfl t43 rfl rfl rfl <| K.mkIface Y g0 rfl (mkI Try.underlying43 rfl) rfl <| K.fieldAddr Y g0 rfl t70 rfl rfl <| K.loadS Y _ g0 rfl rfl t43 rfl rfl rfl <| K.callR [((.tmp 41), _), ((.tmp 43), _)] (wave_Swell_Plus_con (k := k) hx6) (toFn_invoke (cf 101 rfl) (me43_101) rfl) g0 ⟨rfl, rfl, trivial⟩ trivial rfl rfl rfl <| K.as rfl rfl <| K.store Y _ g0 rfl rfl rfl t43 rfl rfl rfl rfl rfl <| K.nil <| At.next <| G.ret <| At.over_ret ?_
       cases H1
       replace H0 := sum_l H0
       refine At.done Y [(.tmp 10, .c _), (.cell 11 43, .agg [_, _, _, _, _, _, _, _, _, _, _, _, _, _, _, _])] rfl ⟨.tmp rfl, .st rfl rfl t43 rfl rfl, trivial⟩ (to' := [(0, _), (1, _), (2, _)]) ⟨rfl, rfl, rfl, trivial⟩ ?_ ?_ rfl rfl rfl (.inl rfl)
       · cases H0; rfl
       · cases H0; rfl
      ·
       replace H1 := bif_f H1 h6
       exact G.skip <| At.jd ⟨(), oi H1⟩ [(104, 101), (105, 102), (106, 103)] [_, _, _, _, _, _] rfl ⟨rfl, rfl, rfl, rfl, rfl, rfl, trivial⟩ ⟨rfl, (pool_ren rfl), rfl, (blk_ren rfl rfl), rfl, (vblk_ren rfl), rfl, (blk_ren rfl rfl), rfl, (blk_ren rfl rfl), rfl, (blk_ren rfl rfl), trivial⟩ rfl
     ·
      replace H1 := bif_f H1 h5
      refine G.rg <| K.fieldAddr Y g0 rfl t70 rfl rfl <| K.load1 Y g0 rfl rfl t3 rfl rfl <| K.bin (V := .bool (x1.1.size == 0)) g0 rfl rfl (fun _ => rfl) rfl <| K.mv rfl rfl <| K.move (.inl rfl) (g1 rfl rfl h1) rfl rfl <| K.fieldAddr Y (g1 rfl rfl h1) rfl t70 rfl rfl <| K.load1 Y (g1 rfl rfl h1) rfl rfl t3 rfl rfl <| K.bin (V := .bool (decide (a2 ≥ x1.1.size))) (g1 rfl rfl h1) rfl rfl (fun _ => rfl) rfl <| K.pickF g0 rfl (h1) rfl rfl <| K.mv rfl rfl <| K.move (.inl rfl) (g1 rfl rfl h3) rfl rfl <| K.bin (V := .bool (decide (a2 ≤ 0))) (g1 rfl rfl h3) rfl rfl (fun _ => rfl) rfl <| K.move (.inl rfl) (g1 rfl rfl h3) rfl rfl <| K.sk rfl rfl h5 rfl <| K.sk rfl rfl h5 rfl <| K.sk rfl rfl h5 rfl <| K.sk rfl rfl h5 rfl <| K.sk rfl rfl h5 rfl <| K.sk rfl rfl h5 rfl <| K.pickF (g1 rfl rfl h3) rfl (h5) rfl rfl <| K.pickF g0 rfl (h3) rfl rfl <| K.nil <| At.next <| G.cond rfl (fun h7 => ?_) (fun h7 => ?_)
      · cases h7
      ·
       exact G.skip <| At.jd ⟨(), oi H1⟩ [(104, 101), (105, 102), (106, 103)] [_, _, _, _, _, _] rfl ⟨rfl, rfl, rfl, rfl, rfl, rfl, trivial⟩ ⟨rfl, (pool_ren rfl), rfl, (blk_ren rfl rfl), rfl, (vblk_ren rfl), rfl, (blk_ren rfl rfl), rfl, (blk_ren rfl rfl), rfl, (blk_ren rfl rfl), trivial⟩ rfl
  ·
   rintro ⟨w2, rfl⟩
   replace H0 := sum_r H0
   show G _ _ [(0, .a (.c (.p 0 0))), (2, .a (.c (.v (.int .i64 a2)))), (4, .a (.c (.fn (.func g4) [2]))), (8, .a (.c (.p 104 0))), (11, .a (.c (.p 105 0))), (12, .a (.c (.p 106 0)))] [(1, some (pvM 1 x1.2)), (0, some (blk 0 [.p 1 0, .v (.int .i64 ri0), .v (.int .i64 rg0)] 74)), (2, some (vblk 2 cv4 Tc4)), (104, some (blk 104 [.v (.int .i64 a3.count.n), .v (.int .i64 a3.count.sum), .v (.int .i64 a3.count.low), .v (.int .i64 a3.weight.n), .v (.int .i64 a3.weight.sum), .v (.int .i64 a3.weight.low), .v (.int .i64 a3.deletes), .v (.int .i64 a3.free), .v (.int .i64 a3.most.key), .v (.int .i64 a3.most.id), .v (.bool a3.gone.found), .v (.int .i64 a3.gone.item.key), .v (.int .i64 a3.gone.item.id), .v (.bool a3.least.found), .v (.int .i64 a3.least.item.key), .v (.int .i64 a3.least.item.id)] 43)), (105, some (blk 105 [.v (.int .i64 0), .v (.int .i64 0), .v (.int .i64 0), .v (.int .i64 0), .v (.int .i64 0), .v (.int .i64 0), .v (.int .i64 0), .v (.int .i64 0), .v (.int .i64 0), .v (.int .i64 0), .v (.bool false), .v (.int .i64 0), .v (.int .i64 0), .v (.bool false), .v (.int .i64 0), .v (.int .i64 0)] 43)), (106, some (blk 106 [.v (.int .i64 x1.1.e.op.time), .v (.bool x1.1.e.op.insert), .v (.int .i64 x1.1.e.op.item.key), .v (.int .i64 x1.1.e.op.item.id), .v (.bool x1.1.e.here), .v (.bool x1.1.e.took.found), .v (.int .i64 x1.1.e.took.item.key), .v (.int .i64 x1.1.e.took.item.id), .v (.int .i64 x1.1.left.index), .v (.int .i64 x1.1.left.gen), .v (.int .i64 x1.1.right.index), .v (.int .i64 x1.1.right.gen), .v (.int .i64 x1.1.size), .v (.int .i64 x1.1.sum.count.n), .v (.int .i64 x1.1.sum.count.sum), .v (.int .i64 x1.1.sum.count.low), .v (.int .i64 x1.1.sum.weight.n), .v (.int .i64 x1.1.sum.weight.sum), .v (.int .i64 x1.1.sum.weight.low), .v (.int .i64 x1.1.sum.deletes), .v (.int .i64 x1.1.sum.free), .v (.int .i64 x1.1.sum.most.key), .v (.int .i64 x1.1.sum.most.id), .v (.bool x1.1.sum.gone.found), .v (.int .i64 x1.1.sum.gone.item.key), .v (.int .i64 x1.1.sum.gone.item.id), .v (.bool x1.1.sum.least.found), .v (.int .i64 x1.1.sum.least.item.key), .v (.int .i64 x1.1.sum.least.item.id)] 70))] _ _
   refine G.seq ?_
   obtain ⟨x7, hx7, H0⟩ := bnd H0
   refine G.rg <| K.mv rfl rfl <| K.fieldAddr Y g0 rfl t70 rfl rfl <| K.loadS Y _ g0 rfl rfl t68 rfl rfl rfl <| K.cA (cf 50 rfl) [0] (fun β w S2 h => SCon.rdBlk (VTree_getM_con hx7 0 1) rfl h) g0 rfl rfl rfl <| K.field1 Y g0 rfl t70 rfl t3 rfl rfl <| K.as rfl rfl <| K.nil <| At.ns ?_
   obtain ⟨x8, hx8, H0⟩ := bnd H0
   refine G.rg <| K.mv rfl rfl <| K.fieldAddr Y g0 rfl t70 rfl rfl <| K.loadS Y _ g0 rfl rfl t68 rfl rfl rfl <| K.mv rfl rfl <| K.loadS Y _ g0 rfl rfl t43 rfl rfl rfl <| K.mv rfl rfl <| K.cA (cf 62 rfl) [0] (fun β w S2 h => SCon.rdBlk (ih hx8) rfl h) g0 rfl rfl rfl <| K.mv rfl rfl <| K.extract g0 rfl rfl rfl <| K.extract g0 rfl rfl rfl <| K.as rfl rfl <| K.store Y _ g0 rfl rfl rfl t43 rfl rfl rfl rfl rfl <| K.nil <| At.ns <| G.seq <| G.rg <| K.mv rfl rfl <| K.bin (V := .bool (decide (x8.1 ≥ 0))) g0 rfl rfl (fun _ => rfl) rfl <| K.nil <| At.next <| G.cond rfl (fun h8 => ?_) (fun h8 => ?_)
   ·
    replace H0 := bif_t H0 h8
    refine G.seq <| G.rd mixed <| K.mv rfl rfl <| K.loadS Y _ g0 rfl rfl t43 rfl rfl rfl <| K.as rfl rfl <| K.store Y _ g0 rfl rfl rfl t43 rfl rfl rfl rfl rfl <| K.nil <| And.intro (by kernel_rfl) <| At.next <| G.ret <| At.over_ret <| At.done Y [(.tmp 10, .c _), (.cell 11 43, .agg [_, _, _, _, _, _, _, _, _, _, _, _, _, _, _, _])] rfl ⟨.tmp rfl, .st rfl rfl t43 rfl rfl, trivial⟩ (to' := [(0, _), (1, _), (2, _)]) ⟨rfl, rfl, rfl, trivial⟩ ?_ ?_ rfl rfl rfl (.inl rfl)
    · cases H0; rfl
    · cases H0; rfl
   ·
    replace H0 := bif_f H0 h8
    refine G.skip <| At.ns ?_
    obtain ⟨x9, hx9, H0⟩ := bnd H0
    refine G.rg <| K.fieldAddr Y g0 rfl t70 rfl rfl <| K.loadS Y _ g0 rfl rfl t39 rfl rfl rfl <| K.mkIface Y g0 rfl (mkI Try.underlying39 rfl) rfl <| K.callR [((.tmp 66), _)] (wave_Mark_Sum_con (k := k) hx9) (toFn_invoke (cf 96 rfl) (me39_96) rfl) g0 ⟨rfl, trivial⟩ trivial rfl rfl rfl <| K.alloc Y 107 _ g0 t43 rfl rfl rfl rfl rfl <| K.store Y _ g0 rfl rfl rfl t43 rfl rfl rfl rfl rfl <| K.nil <| At.next ?_
    obtain ⟨x10, H1, H0⟩ := bnd H0
    refine G.sJ (σ := { v : Unit // x10 = Sum.inr v }) (fun q => [(0, .a (.c (.p 0 0))), (2, .a (.c (.v (.int .i64 a2)))), (4, .a (.c (.fn (.func g4) [2]))), (8, .a (.c (.p 108 0))), (11, .a (.c (.p 109 0))), (12, .a (.c (.p 110 0))), (13, .a (.c (.v (.int .i64 x7.1.size)))), (15, .a (.c (.p 111 0)))]) (fun q => [(1, pvM 1 x8.2.2), (0, blk 0 [.p 1 0, .v (.int .i64 ri0), .v (.int .i64 rg0)] 74), (2, vblk 2 cv4 Tc4), (108, blk 108 [.v (.int .i64 x8.2.1.count.n), .v (.int .i64 x8.2.1.count.sum), .v (.int .i64 x8.2.1.count.low), .v (.int .i64 x8.2.1.weight.n), .v (.int .i64 x8.2.1.weight.sum), .v (.int .i64 x8.2.1.weight.low), .v (.int .i64 x8.2.1.deletes), .v (.int .i64 x8.2.1.free), .v (.int .i64 x8.2.1.most.key), .v (.int .i64 x8.2.1.most.id), .v (.bool x8.2.1.gone.found), .v (.int .i64 x8.2.1.gone.item.key), .v (.int .i64 x8.2.1.gone.item.id), .v (.bool x8.2.1.least.found), .v (.int .i64 x8.2.1.least.item.key), .v (.int .i64 x8.2.1.least.item.id)] 43), (109, blk 109 [.v (.int .i64 0), .v (.int .i64 0), .v (.int .i64 0), .v (.int .i64 0), .v (.int .i64 0), .v (.int .i64 0), .v (.int .i64 0), .v (.int .i64 0), .v (.int .i64 0), .v (.int .i64 0), .v (.bool false), .v (.int .i64 0), .v (.int .i64 0), .v (.bool false), .v (.int .i64 0), .v (.int .i64 0)] 43), (110, blk 110 [.v (.int .i64 x1.1.e.op.time), .v (.bool x1.1.e.op.insert), .v (.int .i64 x1.1.e.op.item.key), .v (.int .i64 x1.1.e.op.item.id), .v (.bool x1.1.e.here), .v (.bool x1.1.e.took.found), .v (.int .i64 x1.1.e.took.item.key), .v (.int .i64 x1.1.e.took.item.id), .v (.int .i64 x1.1.left.index), .v (.int .i64 x1.1.left.gen), .v (.int .i64 x1.1.right.index), .v (.int .i64 x1.1.right.gen), .v (.int .i64 x1.1.size), .v (.int .i64 x1.1.sum.count.n), .v (.int .i64 x1.1.sum.count.sum), .v (.int .i64 x1.1.sum.count.low), .v (.int .i64 x1.1.sum.weight.n), .v (.int .i64 x1.1.sum.weight.sum), .v (.int .i64 x1.1.sum.weight.low), .v (.int .i64 x1.1.sum.deletes), .v (.int .i64 x1.1.sum.free), .v (.int .i64 x1.1.sum.most.key), .v (.int .i64 x1.1.sum.most.id), .v (.bool x1.1.sum.gone.found), .v (.int .i64 x1.1.sum.gone.item.key), .v (.int .i64 x1.1.sum.gone.item.id), .v (.bool x1.1.sum.least.found), .v (.int .i64 x1.1.sum.least.item.key), .v (.int .i64 x1.1.sum.least.item.id)] 70), (111, blk 111 [.v (.int .i64 x9.count.n), .v (.int .i64 x9.count.sum), .v (.int .i64 x9.count.low), .v (.int .i64 x9.weight.n), .v (.int .i64 x9.weight.sum), .v (.int .i64 x9.weight.low), .v (.int .i64 x9.deletes), .v (.int .i64 x9.free), .v (.int .i64 x9.most.key), .v (.int .i64 x9.most.id), .v (.bool x9.gone.found), .v (.int .i64 x9.gone.item.key), .v (.int .i64 x9.gone.item.id), .v (.bool x9.least.found), .v (.int .i64 x9.least.item.key), .v (.int .i64 x9.least.item.id)] 43)]) ?_ ?_
    ·
     refine G.seq ?_
     rcases Bool.eq_false_or_eq_true (decide (a2 ≤ x7.1.size)) with h9 | h9
     ·
      replace H1 := bif_t H1 h9
      obtain ⟨x11, hx11, H1⟩ := bnd H1
      refine G.rg <| K.mv rfl rfl <| K.mv rfl rfl <| K.bin (V := .bool (decide (a2 ≤ x7.1.size))) g0 rfl rfl (fun _ => rfl) rfl <| K.mv rfl rfl <| K.move (.inl rfl) (g1 rfl rfl h9) rfl rfl <| K.loadS Y _ (g1 rfl rfl h9) rfl rfl t43 rfl rfl rfl <| K.loadS Y _ (g1 rfl rfl h9) rfl rfl t43 rfl rfl rfl <| K.callR [((.tmp 72), _), ((.tmp 73), _), ((.tmp 74), _)] (hm4 2 hx11) (toFn_val cg4 rfl) (g1 rfl rfl h9) ⟨rfl, rfl, rfl, trivial⟩ ⟨rfl, trivial⟩ rfl rfl rfl <| K.pickT g0 rfl (h9) rfl rfl <| K.nil <| At.next <| G.cond rfl (fun h10 => ?_) (fun h10 => ?_)
      ·
       replace H1 := bif_t H1 h10
       refine G.seq <| G.rd mixed <| K.mv rfl rfl <| K.loadS Y _ g0 rfl rfl t43 rfl rfl rfl <| K.as rfl rfl <| K.store Y _ g0 rfl rfl rfl t43 rfl rfl rfl rfl rfl <| K.nil <| And.intro (by kernel_rfl) <| At.next <| G.ret <| At.over_ret ?_
       cases H1
       replace H0 := sum_l H0
       refine At.done Y [(.tmp 10, .c _), (.cell 11 43, .agg [_, _, _, _, _, _, _, _, _, _, _, _, _, _, _, _])] rfl ⟨.tmp rfl, .st rfl rfl t43 rfl rfl, trivial⟩ (to' := [(0, _), (1, _), (2, _)]) ⟨rfl, rfl, rfl, trivial⟩ ?_ ?_ rfl rfl rfl (.inl rfl)
       · cases H0; rfl
       · cases H0; rfl
      ·
       replace H1 := bif_f H1 h10
       exact G.skip <| At.jd ⟨(), oi H1⟩ [(108, 104), (109, 105), (110, 106), (111, 107)] [_, _, _, _, _, _, _] rfl ⟨rfl, rfl, rfl, rfl, rfl, rfl, rfl, rfl, trivial⟩ ⟨rfl, (pool_ren rfl), rfl, (blk_ren rfl rfl), rfl, (vblk_ren rfl), rfl, (blk_ren rfl rfl), rfl, (blk_ren rfl rfl), rfl, (blk_ren rfl rfl), rfl, (blk_ren rfl rfl), trivial⟩ rfl
     ·
      replace H1 := bif_f H1 h9
      refine G.rg <| K.mv rfl rfl <| K.mv rfl rfl <| K.bin (V := .bool (decide (a2 ≤ x7.1.size))) g0 rfl rfl (fun _ => rfl) rfl <| K.mv rfl rfl <| K.sk rfl rfl h9 rfl <| K.sk rfl rfl h9 rfl <| K.sk rfl rfl h9 rfl <| K.sk rfl rfl h9 rfl <| K.pickF g0 rfl (h9) rfl rfl <| K.nil <| At.next <| G.cond rfl (fun h11 => ?_) (fun h11 => ?_)
      · cases h11
      ·
       exact G.skip <| At.jd ⟨(), oi H1⟩ [(108, 104), (109, 105), (110, 106), (111, 107)] [_, _, _, _, _, _, _] rfl ⟨rfl, rfl, rfl, rfl, rfl, rfl, rfl, rfl, trivial⟩ ⟨rfl, (pool_ren rfl), rfl, (blk_ren rfl rfl), rfl, (vblk_ren rfl), rfl, (blk_ren rfl rfl), rfl, (blk_ren rfl rfl), rfl, (blk_ren rfl rfl), rfl, (blk_ren rfl rfl), trivial⟩ rfl
    ·
     rintro ⟨w10, rfl⟩
     replace H0 := sum_r H0
     show G _ _ [(0, .a (.c (.p 0 0))), (2, .a (.c (.v (.int .i64 a2)))), (4, .a (.c (.fn (.func g4) [2]))), (8, .a (.c (.p 108 0))), (11, .a (.c (.p 109 0))), (12, .a (.c (.p 110 0))), (13, .a (.c (.v (.int .i64 x7.1.size)))), (15, .a (.c (.p 111 0)))] [(1, some (pvM 1 x8.2.2)), (0, some (blk 0 [.p 1 0, .v (.int .i64 ri0), .v (.int .i64 rg0)] 74)), (2, some (vblk 2 cv4 Tc4)), (108, some (blk 108 [.v (.int .i64 x8.2.1.count.n), .v (.int .i64 x8.2.1.count.sum), .v (.int .i64 x8.2.1.count.low), .v (.int .i64 x8.2.1.weight.n), .v (.int .i64 x8.2.1.weight.sum), .v (.int .i64 x8.2.1.weight.low), .v (.int .i64 x8.2.1.deletes), .v (.int .i64 x8.2.1.free), .v (.int .i64 x8.2.1.most.key), .v (.int .i64 x8.2.1.most.id), .v (.bool x8.2.1.gone.found), .v (.int .i64 x8.2.1.gone.item.key), .v (.int .i64 x8.2.1.gone.item.id), .v (.bool x8.2.1.least.found), .v (.int .i64 x8.2.1.least.item.key), .v (.int .i64 x8.2.1.least.item.id)] 43)), (109, some (blk 109 [.v (.int .i64 0), .v (.int .i64 0), .v (.int .i64 0), .v (.int .i64 0), .v (.int .i64 0), .v (.int .i64 0), .v (.int .i64 0), .v (.int .i64 0), .v (.int .i64 0), .v (.int .i64 0), .v (.bool false), .v (.int .i64 0), .v (.int .i64 0), .v (.bool false), .v (.int .i64 0), .v (.int .i64 0)] 43)), (110, some (blk 110 [.v (.int .i64 x1.1.e.op.time), .v (.bool x1.1.e.op.insert), .v (.int .i64 x1.1.e.op.item.key), .v (.int .i64 x1.1.e.op.item.id), .v (.bool x1.1.e.here), .v (.bool x1.1.e.took.found), .v (.int .i64 x1.1.e.took.item.key), .v (.int .i64 x1.1.e.took.item.id), .v (.int .i64 x1.1.left.index), .v (.int .i64 x1.1.left.gen), .v (.int .i64 x1.1.right.index), .v (.int .i64 x1.1.right.gen), .v (.int .i64 x1.1.size), .v (.int .i64 x1.1.sum.count.n), .v (.int .i64 x1.1.sum.count.sum), .v (.int .i64 x1.1.sum.count.low), .v (.int .i64 x1.1.sum.weight.n), .v (.int .i64 x1.1.sum.weight.sum), .v (.int .i64 x1.1.sum.weight.low), .v (.int .i64 x1.1.sum.deletes), .v (.int .i64 x1.1.sum.free), .v (.int .i64 x1.1.sum.most.key), .v (.int .i64 x1.1.sum.most.id), .v (.bool x1.1.sum.gone.found), .v (.int .i64 x1.1.sum.gone.item.key), .v (.int .i64 x1.1.sum.gone.item.id), .v (.bool x1.1.sum.least.found), .v (.int .i64 x1.1.sum.least.item.key), .v (.int .i64 x1.1.sum.least.item.id)] 70)), (111, some (blk 111 [.v (.int .i64 x9.count.n), .v (.int .i64 x9.count.sum), .v (.int .i64 x9.count.low), .v (.int .i64 x9.weight.n), .v (.int .i64 x9.weight.sum), .v (.int .i64 x9.weight.low), .v (.int .i64 x9.deletes), .v (.int .i64 x9.free), .v (.int .i64 x9.most.key), .v (.int .i64 x9.most.id), .v (.bool x9.gone.found), .v (.int .i64 x9.gone.item.key), .v (.int .i64 x9.gone.item.id), .v (.bool x9.least.found), .v (.int .i64 x9.least.item.key), .v (.int .i64 x9.least.item.id)] 43))] _ _
     refine G.seq ?_
     obtain ⟨x12, hx12, H0⟩ := bnd H0
     obtain ⟨x13, hx13, H0⟩ := bnd H0
     refine G.rd mixed <| K.mv rfl rfl <| K.fieldAddr Y g0 rfl t70 rfl rfl <| K.loadS Y _ g0 rfl rfl t68 rfl rfl rfl <| K.mv rfl rfl <| K.mv rfl rfl <| K.bin (V := .int .i64 (w64 (a2 - x7.1.size))) g0 rfl rfl (fun _ => rfl) rfl <| K.bin (V := .int .i64 (w64 ((w64 (a2 - x7.1.size)) - 1))) g0 rfl rfl (fun _ => rfl) rfl <| K.loadS Y _ g0 rfl rfl t43 rfl rfl rfl <| K.mkIface Y g0 rfl (mkI Try.underlying43 rfl) rfl <| K.loadS Y _ g0 rfl rfl t43 rfl rfl rfl <| K.callR [((.tmp 88), _), ((.tmp 89), _)] (wave_Swell_Plus_con (k := k) hx12) (toFn_invoke (cf 101 rfl) (me43_101) rfl) g0 ⟨rfl, rfl, trivial⟩ trivial rfl rfl rfl <| K.mv rfl rfl <| K.cA (cf 62 rfl) [0] (fun β w S2 h => SCon.rdBlk (ih hx13) rfl h) g0 rfl rfl rfl <| K.mv rfl rfl <| K.extract g0 rfl rfl rfl <| K.extract g0 rfl rfl rfl <| K.as rfl rfl <| K.store Y _ g0 rfl rfl rfl t43 rfl rfl rfl rfl rfl <| K.nil <| And.intro (by kernel_rfl) <| At.ns <| G.seq <| G.rg <| K.mv rfl rfl <| K.bin (V := .bool (decide (x13.1 ≥ 0))) g0 rfl rfl (fun _ => rfl) rfl <| K.nil <| At.next <| G.cond rfl (fun h12 => ?_) (fun h12 => ?_)
     ·
      replace H0 := bif_t H0 h12
      refine G.rg <| K.mv rfl rfl <| K.mv rfl rfl <| K.bin (V := .int .i64 (w64 (x7.1.size + 1))) g0 rfl rfl (fun _ => rfl) rfl <| K.bin (V := .int .i64 (w64 (x13.1 + (w64 (x7.1.size + 1))))) g0 rfl rfl (fun _ => rfl) rfl <| K.as rfl rfl <| K.nil <| At.ns <| G.rd mixed <| K.mv rfl rfl <| K.loadS Y _ g0 rfl rfl t43 rfl rfl rfl <| K.as rfl rfl <| K.store Y _ g0 rfl rfl rfl t43 rfl rfl rfl rfl rfl <| K.nil <| And.intro (by kernel_rfl) <| At.next <| G.ret <| At.done Y [(.tmp 10, .c _), (.cell 11 43, .agg [_, _, _, _, _, _, _, _, _, _, _, _, _, _, _, _])] rfl ⟨.tmp rfl, .st rfl rfl t43 rfl rfl, trivial⟩ (to' := [(0, _), (1, _), (2, _)]) ⟨rfl, rfl, rfl, trivial⟩ ?_ ?_ rfl rfl rfl (.inl rfl)
      · cases H0; rfl
      · cases H0; rfl
     ·
      replace H0 := bif_f H0 h12
      refine G.skip <| At.ns <| G.rd mixed <| K.mv rfl rfl <| K.loadS Y _ g0 rfl rfl t43 rfl rfl rfl <| K.as rfl rfl <| K.store Y _ g0 rfl rfl rfl t43 rfl rfl rfl rfl rfl <| K.nil <| And.intro (by kernel_rfl) <| At.next <| G.ret <| At.done Y [(.tmp 10, .c _), (.cell 11 43, .agg [_, _, _, _, _, _, _, _, _, _, _, _, _, _, _, _])] rfl ⟨.tmp rfl, .st rfl rfl t43 rfl rfl, trivial⟩ (to' := [(0, _), (1, _), (2, _)]) ⟨rfl, rfl, rfl, trivial⟩ ?_ ?_ rfl rfl rfl (.inl rfl)
      · cases H0; rfl
      · cases H0; rfl
theorem VTree_firstM_f14_con {k n : Nat} {g4 : FuncId} {fn4 : TSwell → TSwell → Option Bool} {cv4 : List Value} {Tc4 : TypeId} (cg4 : fnB Try.prog g4 = true) (hm4 : ∀ (c : Nat) {z0 : TSwell} {z1 : TSwell} {y : Bool}, fn4 z0 z1 = some y → SCon Try.prog g4 [.a (.agg ((eTSwell z0).map .v)), .a (.agg ((eTSwell z1).map .v)), SV.p c 0] [(c, vblk c cv4 Tc4)] (SV.b y) [(c, vblk c cv4 Tc4)] []) {p1 : Pool (TNode TMark TSwell)} {a1 : TRef} {a2 : Int} {a3 : TSwell} {ri0 rg0 : Int} {r : Int × TSwell × Pool (TNode TMark TSwell)}  (H0 : VTree_first.r opsM k n p1 a1 a2 a3 fn4 = some r) (m0 m1 m2 : Nat) : VTree_firstM_f14_st g4 cv4 Tc4 p1 a1 a2 a3 ri0 rg0 r m0 m1 m2 :=
 SCon.ren (rn [(0, m0), (1, m1), (2, m2)]) (VTree_firstM_f14_con0 (k := k) cg4 hm4  H0) ⟨(blk_ren rfl rfl), (pool_ren rfl), (vblk_ren rfl), trivial⟩ ⟨(blk_ren rfl rfl), (pool_ren rfl), (vblk_ren rfl), trivial⟩ (by simp) (by simp)
abbrev VTree_FirstM_f12_st (g2 : FuncId) (cv2 : List Value) (Tc2 : TypeId) (p1 : Pool (TNode TMark TSwell)) (rt0 : TRef) (a1 : Int) (r : Int × Pool (TNode TMark TSwell)) (m0 : Nat) (m1 : Nat) (m2 : Nat) : Prop := SCon Try.prog 47 [SV.p m0 0, .a (.c (.v (.int .i64 a1))), .a (.c (.fn (.func g2) [m2]))] [(m0, blk m0 [.p m1 0, .i rt0.index, .i rt0.gen] 74), (m1, pvM m1 p1), (m2, vblk m2 cv2 Tc2)] (.a (.c (.v (.int .i64 r.1)))) [(m0, blk m0 [.p m1 0, .i rt0.index, .i rt0.gen] 74), (m1, pvM m1 r.2), (m2, vblk m2 cv2 Tc2)] []
theorem VTree_FirstM_f12_con0 {k : Nat} {g2 : FuncId} {fn2 : TSwell → TSwell → Option Bool} {cv2 : List Value} {Tc2 : TypeId} (cg2 : fnB Try.prog g2 = true) (hm2 : ∀ (c : Nat) {z0 : TSwell} {z1 : TSwell} {y : Bool}, fn2 z0 z1 = some y → SCon Try.prog g2 [.a (.agg ((eTSwell z0).map .v)), .a (.agg ((eTSwell z1).map .v)), SV.p c 0] [(c, vblk c cv2 Tc2)] (SV.b y) [(c, vblk c cv2 Tc2)] []) {p1 : Pool (TNode TMark TSwell)} {rt0 : TRef} {a1 : Int} {r : Int × Pool (TNode TMark TSwell)}  (H0 : VTree_First.f opsM k p1 rt0 a1 fn2 = some r) : VTree_FirstM_f12_st g2 cv2 Tc2 p1 rt0 a1 r 0 1 2 := by
 rw [VTree_First.f] at H0
 refine spec_of [(0, _), (1, _), (2, _)] [(0, _), (1, _), (2, _)] 27 Try.func47 rfl Try.ntmps47 rfl rfl rfl rfl (fun β W F => ?_)
 refine G.seq <| G.rg <| K.as rfl rfl <| K.nil <| At.nr <| K.alloc Y 100 _ g0 t43 rfl rfl rfl rfl rfl <| K.nil <| At.ns ?_
 obtain ⟨x1, hx1, H0⟩ := bnd H0
 obtain ⟨x2, hx2, H0⟩ := bnd H0
 exact G.rd mixed <| K.mv rfl rfl <| K.mv rfl rfl <| K.nilCheck g0 rfl rfl <| K.fieldAddr Y g0 rfl t74 rfl rfl <| K.loadS Y _ g0 rfl rfl t68 rfl rfl rfl <| K.mv rfl rfl <| K.bi2 (V := .int .i64 (gmax a1 0)) g0 rfl rfl (fun _ _ => rfl) rfl <| K.mv rfl rfl <| K.cA (cf 21 rfl) [0] (fun β w S2 h => SCon.rdBlk (VTree_LenM_con hx1 0 1) rfl h) g0 rfl rfl rfl <| K.bi2 (V := .int .i64 (gmin (gmax a1 0) x1.1)) g0 rfl rfl (fun _ _ => rfl) rfl <| K.loadS Y _ g0 rfl rfl t43 rfl rfl rfl <| K.mv rfl rfl <| K.cA (cf 62 rfl) [0] (fun β w S2 h => SCon.rdBlk (VTree_firstM_f14_con cg2 hm2 hx2 0 1 2) rfl h) g0 rfl rfl rfl <| K.mv rfl rfl <| K.extract g0 rfl rfl rfl <| K.extract g0 rfl rfl rfl <| K.alloc Y 101 _ g0 t43 rfl rfl rfl rfl rfl <| K.as rfl rfl <| K.store Y _ g0 rfl rfl rfl t43 rfl rfl rfl rfl rfl <| K.nil <| And.intro (by kernel_rfl) <| At.nr <| K.mv rfl rfl <| K.as rfl rfl <| K.nil <| At.next <| G.ret <| At.dr Y [6] rfl rfl (by cases H0; rfl) (by cases H0; rfl) rfl rfl rfl
theorem VTree_FirstM_f12_con {k : Nat} {g2 : FuncId} {fn2 : TSwell → TSwell → Option Bool} {cv2 : List Value} {Tc2 : TypeId} (cg2 : fnB Try.prog g2 = true) (hm2 : ∀ (c : Nat) {z0 : TSwell} {z1 : TSwell} {y : Bool}, fn2 z0 z1 = some y → SCon Try.prog g2 [.a (.agg ((eTSwell z0).map .v)), .a (.agg ((eTSwell z1).map .v)), SV.p c 0] [(c, vblk c cv2 Tc2)] (SV.b y) [(c, vblk c cv2 Tc2)] []) {p1 : Pool (TNode TMark TSwell)} {rt0 : TRef} {a1 : Int} {r : Int × Pool (TNode TMark TSwell)}  (H0 : VTree_First.f opsM k p1 rt0 a1 fn2 = some r) (m0 m1 m2 : Nat) : VTree_FirstM_f12_st g2 cv2 Tc2 p1 rt0 a1 r m0 m1 m2 :=
 SCon.ren (rn [(0, m0), (1, m1), (2, m2)]) (VTree_FirstM_f12_con0 (k := k) cg2 hm2  H0) ⟨(blk_ren rfl rfl), (pool_ren rfl), (vblk_ren rfl), trivial⟩ ⟨(blk_ren rfl rfl), (pool_ren rfl), (vblk_ren rfl), trivial⟩ (by simp) (by simp)
abbrev Vbridge_Next_st (p1 : Pool (TNode TMark TSwell)) (rt0 : TRef) (a1 : Int) (a2 : Int) (r : Int × Pool (TNode TMark TSwell)) (m0 : Nat) (m1 : Nat) : Prop := SCon Try.prog 17 [SV.p m0 0, .a (.c (.v (.int .i64 a1))), .a (.c (.v (.int .i64 a2)))] [(m0, blk m0 [.p m1 0, .i rt0.index, .i rt0.gen] 74), (m1, pvM m1 p1)] (.a (.c (.v (.int .i64 r.1)))) [(m0, blk m0 [.p m1 0, .i rt0.index, .i rt0.gen] 74), (m1, pvM m1 r.2)] []
theorem Vbridge_Next_con0 {k : Nat}  {p1 : Pool (TNode TMark TSwell)} {rt0 : TRef} {a1 : Int} {a2 : Int} {r : Int × Pool (TNode TMark TSwell)}  (H0 : Vbridge_Next.f k p1 rt0 a1 a2 = some r) : Vbridge_Next_st p1 rt0 a1 a2 r 0 1 := by
 rw [Vbridge_Next.f] at H0
 refine spec_of [(0, _), (1, _), (2, _)] [(0, _), (1, _)] 26 Try.func17 rfl Try.ntmps17 rfl rfl rfl rfl (fun β W F => ?_)
 refine G.seq <| G.rg <| K.as rfl rfl <| K.nil <| At.ns ?_
 obtain ⟨x1, hx1, H0⟩ := bnd H0
 refine G.rg <| K.mv rfl rfl <| K.mv rfl rfl <| K.cA (cf 46 rfl) [0] (fun β w S2 h => SCon.rdBlk (Vbridge_clamp_con hx1 0 1) rfl h) g0 rfl rfl rfl <| K.as rfl rfl <| K.nil <| At.ns <| G.seq ?_
 obtain ⟨x2, hx2, H0⟩ := bnd H0
 refine G.rg <| K.mv rfl rfl <| K.mv rfl rfl <| K.mv rfl rfl <| K.cA (cf 13 rfl) [0] (fun β w S2 h => SCon.rdBlk (Vbridge_Height_con hx2 0 1) rfl h) g0 rfl rfl rfl <| K.bin (V := .bool (decide (x2.1 ≤ 0))) g0 rfl rfl (fun _ => rfl) rfl <| K.nil <| At.next <| G.cond rfl (fun h1 => ?_) (fun h1 => ?_)
 ·
  replace H0 := bif_t H0 h1
  exact G.seq <| G.rg <| K.mv rfl rfl <| K.as rfl rfl <| K.nil <| At.next <| G.ret <| At.over_ret <| At.dr Y [6] rfl rfl (by cases H0; rfl) (by cases H0; rfl) rfl rfl rfl
 ·
  replace H0 := bif_f H0 h1
  refine G.skip <| At.ns <| G.seq ?_
  obtain ⟨x3, hx3, H0⟩ := bnd H0
  obtain ⟨x4, hx4, H0⟩ := bnd H0
  refine G.rg <| K.mv rfl rfl <| K.mv rfl rfl <| K.mv rfl rfl <| K.c0 (cf 48 rfl) (bridge_low_con hx3 100 rfl) g0 rfl rfl rfl rfl <| K.cA (cf 47 rfl) [0] (fun β w S2 h => SCon.rdBlk (VTree_FirstM_f12_con (cv2 := [(.int .i64 x3)]) (Tc2 := 3) (cf 63 rfl) (fun c _ _ _ h => bridge_low_1_con h c) hx4 0 1 100) rfl h) g0 rfl rfl rfl <| K.as rfl rfl <| K.nil <| At.nr <| K.mv rfl rfl <| K.bin (V := .bool (decide (x4.1 ≥ 0))) g0 rfl rfl (fun _ => rfl) rfl <| K.nil <| At.next <| G.cond rfl (fun h2 => ?_) (fun h2 => ?_)
  ·
   replace H0 := bif_t H0 h2
   exact G.seq <| G.rg <| K.mv rfl rfl <| K.bin (V := .int .i64 (w64 (x4.1 + 1))) g0 rfl rfl (fun _ => rfl) rfl <| K.as rfl rfl <| K.nil <| At.next <| G.ret <| At.over_ret <| At.dr Y [6] rfl rfl (by cases H0; rfl) (by cases H0; rfl) rfl rfl rfl
  ·
   replace H0 := bif_f H0 h2
   exact G.skip <| At.nr <| K.as rfl rfl <| K.nil <| At.next <| G.ret <| At.dr Y [6] rfl rfl (by cases H0; rfl) (by cases H0; rfl) rfl rfl rfl
theorem Vbridge_Next_con {k : Nat}  {p1 : Pool (TNode TMark TSwell)} {rt0 : TRef} {a1 : Int} {a2 : Int} {r : Int × Pool (TNode TMark TSwell)}  (H0 : Vbridge_Next.f k p1 rt0 a1 a2 = some r) (m0 m1 : Nat) : Vbridge_Next_st p1 rt0 a1 a2 r m0 m1 :=
 SCon.ren (rn [(0, m0), (1, m1)]) (Vbridge_Next_con0 (k := k)   H0) ⟨(blk_ren rfl rfl), (pool_ren rfl), trivial⟩ ⟨(blk_ren rfl rfl), (pool_ren rfl), trivial⟩ (by simp) (by simp)
abbrev VTree_lastOfM_f14_st (g4 : FuncId) (cv4 : List Value) (Tc4 : TypeId) (p1 : Pool (TNode TMark TSwell)) (a1 : TRef) (a2 : Int) (a3 : TSwell) (ri0 : Int) (rg0 : Int) (r : Int × Pool (TNode TMark TSwell)) (m0 : Nat) (m1 : Nat) (m2 : Nat) : Prop := SCon Try.prog 64 [SV.p m0 0, .a (.agg ((eTRef a1).map .v)), .a (.c (.v (.int .i64 a2))), .a (.agg ((eTSwell a3).map .v)), .a (.c (.fn (.func g4) [m2]))] [(m0, blk m0 [.p m1 0, .i ri0, .i rg0] 74), (m1, pvM m1 p1), (m2, vblk m2 cv4 Tc4)] (.a (.c (.v (.int .i64 r.1)))) [(m0, blk m0 [.p m1 0, .i ri0, .i rg0] 74), (m1, pvM m1 r.2), (m2, vblk m2 cv4 Tc4)] []
set_option maxHeartbeats 4000000 in
theorem VTree_lastOfM_f14_con0 {k : Nat} {g4 : FuncId} {fn4 : TSwell → TSwell → Option Bool} {cv4 : List Value} {Tc4 : TypeId} (cg4 : fnB Try.prog g4 = true) (hm4 : ∀ (c : Nat) {z0 : TSwell} {z1 : TSwell} {y : Bool}, fn4 z0 z1 = some y → SCon Try.prog g4 [.a (.agg ((eTSwell z0).map .v)), .a (.agg ((eTSwell z1).map .v)), SV.p c 0] [(c, vblk c cv4 Tc4)] (SV.b y) [(c, vblk c cv4 Tc4)] []) : ∀ {n : Nat} {p1 : Pool (TNode TMark TSwell)} {a1 : TRef} {a2 : Int} {a3 : TSwell} {ri0 rg0 : Int} {r : Int × Pool (TNode TMark TSwell)}  (H0 : VTree_lastOf.r opsM k n p1 a1 a2 a3 fn4 = some r), VTree_lastOfM_f14_st g4 cv4 Tc4 p1 a1 a2 a3 ri0 rg0 r 0 1 2 := by
 intro n
 induction n with
 | zero => intro p1 a1 a2 a3 ri0 rg0 r H0; exact absurd H0 (by simp [VTree_lastOf.r])
 | succ n ih =>
  intro p1 a1 a2 a3 ri0 rg0 r H0
  rw [VTree_lastOf.r] at H0
  refine spec_of [(0, _), (1, _), (2, _), (3, _), (4, _)] [(0, _), (1, _), (2, _)] 93 Try.func64 rfl Try.ntmps64 rfl rfl rfl rfl (fun β W F => ?_)
  refine G.seq <| G.rg <| K.box Y 100 _ g0 rfl rfl rfl rfl rfl rfl <| K.box Y 101 _ g0 rfl rfl rfl rfl rfl rfl <| K.as rfl rfl <| K.nil <| At.ns ?_
  obtain ⟨x1, hx1, H0⟩ := bnd H0
  refine G.rg <| K.mv rfl rfl <| K.loadS Y _ g0 rfl rfl t68 rfl rfl rfl <| K.cA (cf 50 rfl) [0] (fun β w S2 h => SCon.rdBlk (VTree_getM_con hx1 0 1) rfl h) g0 rfl rfl rfl <| K.alloc Y 102 _ g0 t70 rfl rfl rfl rfl rfl <| K.store Y _ g0 rfl rfl rfl t70 rfl rfl rfl rfl rfl <| K.nil <| At.next ?_
  obtain ⟨x2, H1, H0⟩ := bnd H0
  refine G.sJ (σ := { v : Unit // x2 = Sum.inr v }) (fun q => [(0, .a (.c (.p 0 0))), (2, .a (.c (.v (.int .i64 a2)))), (4, .a (.c (.fn (.func g4) [2]))), (8, .a (.c (.p 103 0))), (11, .a (.c (.p 104 0)))]) (fun q => [(1, pvM 1 x1.2), (0, blk 0 [.p 1 0, .v (.int .i64 ri0), .v (.int .i64 rg0)] 74), (2, vblk 2 cv4 Tc4), (103, blk 103 [.v (.int .i64 a3.count.n), .v (.int .i64 a3.count.sum), .v (.int .i64 a3.count.low), .v (.int .i64 a3.weight.n), .v (.int .i64 a3.weight.sum), .v (.int .i64 a3.weight.low), .v (.int .i64 a3.deletes), .v (.int .i64 a3.free), .v (.int .i64 a3.most.key), .v (.int .i64 a3.most.id), .v (.bool a3.gone.found), .v (.int .i64 a3.gone.item.key), .v (.int .i64 a3.gone.item.id), .v (.bool a3.least.found), .v (.int .i64 a3.least.item.key), .v (.int .i64 a3.least.item.id)] 43), (104, blk 104 [.v (.int .i64 x1.1.e.op.time), .v (.bool x1.1.e.op.insert), .v (.int .i64 x1.1.e.op.item.key), .v (.int .i64 x1.1.e.op.item.id), .v (.bool x1.1.e.here), .v (.bool x1.1.e.took.found), .v (.int .i64 x1.1.e.took.item.key), .v (.int .i64 x1.1.e.took.item.id), .v (.int .i64 x1.1.left.index), .v (.int .i64 x1.1.left.gen), .v (.int .i64 x1.1.right.index), .v (.int .i64 x1.1.right.gen), .v (.int .i64 x1.1.size), .v (.int .i64 x1.1.sum.count.n), .v (.int .i64 x1.1.sum.count.sum), .v (.int .i64 x1.1.sum.count.low), .v (.int .i64 x1.1.sum.weight.n), .v (.int .i64 x1.1.sum.weight.sum), .v (.int .i64 x1.1.sum.weight.low), .v (.int .i64 x1.1.sum.deletes), .v (.int .i64 x1.1.sum.free), .v (.int .i64 x1.1.sum.most.key), .v (.int .i64 x1.1.sum.most.id), .v (.bool x1.1.sum.gone.found), .v (.int .i64 x1.1.sum.gone.item.key), .v (.int .i64 x1.1.sum.gone.item.id), .v (.bool x1.1.sum.least.found), .v (.int .i64 x1.1.sum.least.item.key), .v (.int .i64 x1.1.sum.least.item.id)] 70)]) ?_ ?_
  ·
   refine G.seq ?_
   rcases Bool.eq_false_or_eq_true (x1.1.size == 0) with h1 | h1
   ·
    replace H1 := bif_t H1 h1
    refine G.rg <| K.fieldAddr Y g0 rfl t70 rfl rfl <| K.load1 Y g0 rfl rfl t3 rfl rfl <| K.bin (V := .bool (x1.1.size == 0)) g0 rfl rfl (fun _ => rfl) rfl <| K.mv rfl rfl <| K.sk rfl rfl h1 rfl <| K.sk rfl rfl h1 rfl <| K.pickT g0 rfl (h1) rfl rfl <| K.mv rfl rfl <| K.sk rfl rfl rfl rfl <| K.sk rfl rfl rfl rfl <| K.sk rfl rfl rfl rfl <| K.sk rfl rfl rfl rfl <| K.sk rfl rfl rfl rfl <| K.skipU rfl rfl rfl rfl rfl <| K.skipU rfl rfl rfl rfl rfl <| K.skipU rfl rfl rfl rfl rfl <| K.skipU rfl rfl rfl rfl rfl <| K.skipU rfl rfl rfl rfl rfl <| K.skipU rfl rfl rfl rfl rfl <| K.sk rfl rfl rfl rfl <| K.pickT g0 rfl (rfl) rfl rfl <| K.nil <| At.next <| G.cond rfl (fun h2 => ?_) (fun h2 => ?_)
    ·
     refine G.seq <| G.rg <| K.as rfl rfl <| K.nil <| At.next <| G.ret <| At.over_ret ?_
     cases H1
     replace H0 := sum_l H0
     exact At.dr Y [10] rfl rfl (by cases H0; rfl) (by cases H0; rfl) rfl rfl rfl
    · cases h2
   ·
    replace H1 := bif_f H1 h1
    rcases Bool.eq_false_or_eq_true (decide (a2 ≤ 0)) with h3 | h3
    ·
     replace H1 := bif_t H1 h3
     refine G.rg <| K.fieldAddr Y g0 rfl t70 rfl rfl <| K.load1 Y g0 rfl rfl t3 rfl rfl <| K.bin (V := .bool (x1.1.size == 0)) g0 rfl rfl (fun _ => rfl) rfl <| K.mv rfl rfl <| K.move (.inl rfl) (g1 rfl rfl h1) rfl rfl <| K.bin (V := .bool (decide (a2 ≤ 0))) (g1 rfl rfl h1) rfl rfl (fun _ => rfl) rfl <| K.pickF g0 rfl (h1) rfl rfl <| K.mv rfl rfl <| K.sk rfl rfl h3 rfl <| K.sk rfl rfl h3 rfl <| K.sk rfl rfl h3 rfl <| K.sk rfl rfl h3 rfl <| K.sk rfl rfl h3 rfl <| K.skipU rfl rfl rfl rfl rfl <| K.skipU rfl rfl rfl rfl rfl <| K.skipU rfl rfl rfl rfl rfl <| K.skipU rfl rfl rfl rfl rfl <| K.skipU rfl rfl rfl rfl rfl <| K.skipU rfl rfl rfl rfl rfl <| K.sk rfl rfl h3 rfl <| K.pickT g0 rfl (h3) rfl rfl <| K.nil <| At.next <| G.cond rfl (fun h4 => ?_) (fun h4 => ?_)
     ·
      refine G.seq <| G.rg <| K.as rfl rfl <| K.nil <| At.next <| G.ret <| At.over_ret ?_
      cases H1
      replace H0 := sum_l H0
      exact At.dr Y [10] rfl rfl (by cases H0; rfl) (by cases H0; rfl) rfl rfl rfl
     · cases h4
    ·
     replace H1 := bif_f H1 h3
     rcases Bool.eq_false_or_eq_true (decide (a2 ≥ x1.1.size)) with h5 | h5
     ·
      replace H1 := bif_t H1 h5
      obtain ⟨x3, hx3, H1⟩ := bnd H1
      refine G.rg <| K.fieldAddr Y g0 rfl t70 rfl rfl <| K.load1 Y g0 rfl rfl t3 rfl rfl <| K.bin (V := .bool (x1.1.size == 0)) g0 rfl rfl (fun _ => rfl) rfl <| K.mv rfl rfl <| K.move (.inl rfl) (g1 rfl rfl h1) rfl rfl <| K.bin (V := .bool (decide (a2 ≤ 0))) (g1 rfl rfl h1) rfl rfl (fun _ => rfl) rfl <| K.pickF g0 rfl (h1) rfl rfl <| K.mv rfl rfl <| K.move (.inl rfl) (g1 rfl rfl h3) rfl rfl <| K.fieldAddr Y (g1 rfl rfl h3) rfl t70 rfl rfl <| K.load1 Y (g1 rfl rfl h3) rfl rfl t3 rfl rfl <| K.bin (V := .bool (decide (a2 ≥ x1.1.size))) (g1 rfl rfl h3) rfl rfl (fun _ => rfl) rfl <| K.move (.inl rfl) (g1 rfl rfl h3) rfl rfl <| K.move (.inl rfl) (g1 rfl rfl h5) rfl rfl <| K.loadS Y _ (g1 rfl rfl h5) rfl rfl t43 rfl rfl rfl <| K.fieldAddr Y (g1 rfl rfl h5) rfl t70 rfl rfl <| K.loadS Y _ (g1 rfl rfl h5) rfl rfl t43 rfl rfl rfl <| K.callR [((.tmp 32), _), ((.tmp 33), _), ((.tmp 35), _)] (hm4 2 hx3) (toFn_val cg4 rfl) (g1 rfl rfl h5) ⟨rfl, rfl, rfl, trivial⟩ ⟨rfl, trivial⟩ rfl rfl rfl <| K.un (V := .bool (!x3)) (g1 rfl rfl h5) rfl (fun _ => rfl) rfl <| K.pickT (g1 rfl rfl h3) rfl (h5) rfl rfl <| K.pickF g0 rfl (h3) rfl rfl <| K.nil <| At.next <| G.cond rfl (fun h6 => ?_) (fun h6 => ?_)
      ·
       replace H1 := bif_t H1 h6
       refine G.seq <| G.rg <| K.as rfl rfl <| K.nil <| At.next <| G.ret <| At.over_ret ?_
       cases H1
       replace H0 := sum_l H0
       exact At.dr Y [10] rfl rfl (by cases H0; rfl) (by cases H0; rfl) rfl rfl rfl
      ·
       replace H1 := bif_f H1 h6
       exact G.skip <| At.jd ⟨(), oi H1⟩ [(103, 101), (104, 102)] [_, _, _, _, _] rfl ⟨rfl, rfl, rfl, rfl, rfl, trivial⟩ ⟨rfl, (pool_ren rfl), rfl, (blk_ren rfl rfl), rfl, (vblk_ren rfl), rfl, (blk_ren rfl rfl), rfl, (blk_ren rfl rfl), trivial⟩ rfl
     ·
      replace H1 := bif_f H1 h5
      refine G.rg <| K.fieldAddr Y g0 rfl t70 rfl rfl <| K.load1 Y g0 rfl rfl t3 rfl rfl <| K.bin (V := .bool (x1.1.size == 0)) g0 rfl rfl (fun _ => rfl) rfl <| K.mv rfl rfl <| K.move (.inl rfl) (g1 rfl rfl h1) rfl rfl <| K.bin (V := .bool (decide (a2 ≤ 0))) (g1 rfl rfl h1) rfl rfl (fun _ => rfl) rfl <| K.pickF g0 rfl (h1) rfl rfl <| K.mv rfl rfl <| K.move (.inl rfl) (g1 rfl rfl h3) rfl rfl <| K.fieldAddr Y (g1 rfl rfl h3) rfl t70 rfl rfl <| K.load1 Y (g1 rfl rfl h3) rfl rfl t3 rfl rfl <| K.bin (V := .bool (decide (a2 ≥ x1.1.size))) (g1 rfl rfl h3) rfl rfl (fun _ => rfl) rfl <| K.move (.inl rfl) (g1 rfl rfl h3) rfl rfl <| K.sk rfl rfl h5 rfl <| K.sk rfl rfl h5 rfl <| K.sk rfl rfl h5 rfl <| K.sk rfl rfl h5 rfl <| K.sk rfl rfl h5 rfl <| K.sk rfl rfl h5 rfl <| K.pickF (g1 rfl rfl h3) rfl (h5) rfl rfl <| K.pickF g0 rfl (h3) rfl rfl <| K.nil <| At.next <| G.cond rfl (fun h7 => ?_) (fun h7 => ?_)
      · cases h7
      ·
       exact G.skip <| At.jd ⟨(), oi H1⟩ [(103, 101), (104, 102)] [_, _, _, _, _] rfl ⟨rfl, rfl, rfl, rfl, rfl, trivial⟩ ⟨rfl, (pool_ren rfl), rfl, (blk_ren rfl rfl), rfl, (vblk_ren rfl), rfl, (blk_ren rfl rfl), rfl, (blk_ren rfl rfl), trivial⟩ rfl
  ·
   rintro ⟨w2, rfl⟩
   replace H0 := sum_r H0
   show G _ _ [(0, .a (.c (.p 0 0))), (2, .a (.c (.v (.int .i64 a2)))), (4, .a (.c (.fn (.func g4) [2]))), (8, .a (.c (.p 103 0))), (11, .a (.c (.p 104 0)))] [(1, some (pvM 1 x1.2)), (0, some (blk 0 [.p 1 0, .v (.int .i64 ri0), .v (.int .i64 rg0)] 74)), (2, some (vblk 2 cv4 Tc4)), (103, some (blk 103 [.v (.int .i64 a3.count.n), .v (.int .i64 a3.count.sum), .v (.int .i64 a3.count.low), .v (.int .i64 a3.weight.n), .v (.int .i64 a3.weight.sum), .v (.int .i64 a3.weight.low), .v (.int .i64 a3.deletes), .v (.int .i64 a3.free), .v (.int .i64 a3.most.key), .v (.int .i64 a3.most.id), .v (.bool a3.gone.found), .v (.int .i64 a3.gone.item.key), .v (.int .i64 a3.gone.item.id), .v (.bool a3.least.found), .v (.int .i64 a3.least.item.key), .v (.int .i64 a3.least.item.id)] 43)), (104, some (blk 104 [.v (.int .i64 x1.1.e.op.time), .v (.bool x1.1.e.op.insert), .v (.int .i64 x1.1.e.op.item.key), .v (.int .i64 x1.1.e.op.item.id), .v (.bool x1.1.e.here), .v (.bool x1.1.e.took.found), .v (.int .i64 x1.1.e.took.item.key), .v (.int .i64 x1.1.e.took.item.id), .v (.int .i64 x1.1.left.index), .v (.int .i64 x1.1.left.gen), .v (.int .i64 x1.1.right.index), .v (.int .i64 x1.1.right.gen), .v (.int .i64 x1.1.size), .v (.int .i64 x1.1.sum.count.n), .v (.int .i64 x1.1.sum.count.sum), .v (.int .i64 x1.1.sum.count.low), .v (.int .i64 x1.1.sum.weight.n), .v (.int .i64 x1.1.sum.weight.sum), .v (.int .i64 x1.1.sum.weight.low), .v (.int .i64 x1.1.sum.deletes), .v (.int .i64 x1.1.sum.free), .v (.int .i64 x1.1.sum.most.key), .v (.int .i64 x1.1.sum.most.id), .v (.bool x1.1.sum.gone.found), .v (.int .i64 x1.1.sum.gone.item.key), .v (.int .i64 x1.1.sum.gone.item.id), .v (.bool x1.1.sum.least.found), .v (.int .i64 x1.1.sum.least.item.key), .v (.int .i64 x1.1.sum.least.item.id)] 70))] _ _
   refine G.seq ?_
   obtain ⟨x4, hx4, H0⟩ := bnd H0
   refine G.rg <| K.mv rfl rfl <| K.fieldAddr Y g0 rfl t70 rfl rfl <| K.loadS Y _ g0 rfl rfl t68 rfl rfl rfl <| K.cA (cf 50 rfl) [0] (fun β w S2 h => SCon.rdBlk (VTree_getM_con hx4 0 1) rfl h) g0 rfl rfl rfl <| K.alloc Y 105 _ g0 t70 rfl rfl rfl rfl rfl <| K.store Y _ g0 rfl rfl rfl t70 rfl rfl rfl rfl rfl <| K.nil <| At.ns ?_
   obtain ⟨x5, hx5, H0⟩ := bnd H0
   obtain ⟨x6, hx6, H0⟩ := bnd H0
   refine G.rd mixed <| K.loadS Y _ g0 rfl rfl t43 rfl rfl rfl <| K.mkIface Y g0 rfl (mkI Try.underlying43 rfl) rfl <| K.fieldAddr Y g0 rfl t70 rfl rfl <| K.loadS Y _ g0 rfl rfl t43 rfl rfl rfl <| K.callR [((.tmp 45), _), ((.tmp 47), _)] (wave_Swell_Plus_con (k := k) hx5) (toFn_invoke (cf 101 rfl) (me43_101) rfl) g0 ⟨rfl, rfl, trivial⟩ trivial rfl rfl rfl <| K.fieldAddr Y g0 rfl t70 rfl rfl <| K.loadS Y _ g0 rfl rfl t39 rfl rfl rfl <| K.mkIface Y g0 rfl (mkI Try.underlying39 rfl) rfl <| K.callR [((.tmp 51), _)] (wave_Mark_Sum_con (k := k) hx6) (toFn_invoke (cf 96 rfl) (me39_96) rfl) g0 ⟨rfl, trivial⟩ trivial rfl rfl rfl <| K.alloc Y 106 _ g0 t43 rfl rfl rfl rfl rfl <| K.alloc Y 107 _ g0 t43 rfl rfl rfl rfl rfl <| K.store Y _ g0 rfl rfl rfl t43 rfl rfl rfl rfl rfl <| K.store Y _ g0 rfl rfl rfl t43 rfl rfl rfl rfl rfl <| K.nil <| And.intro (by kernel_rfl) <| At.ns <| G.seq ?_
   obtain ⟨x7, hx7, H0⟩ := bnd H0
   obtain ⟨x8, hx8, H0⟩ := bnd H0
   refine G.rd mixed <| K.mv rfl rfl <| K.fieldAddr Y g0 rfl t70 rfl rfl <| K.loadS Y _ g0 rfl rfl t68 rfl rfl rfl <| K.mv rfl rfl <| K.fieldAddr Y g0 rfl t70 rfl rfl <| K.load1 Y g0 rfl rfl t3 rfl rfl <| K.bin (V := .int .i64 (w64 (a2 - x4.1.size))) g0 rfl rfl (fun _ => rfl) rfl <| K.bin (V := .int .i64 (w64 ((w64 (a2 - x4.1.size)) - 1))) g0 rfl rfl (fun _ => rfl) rfl <| K.loadS Y _ g0 rfl rfl t43 rfl rfl rfl <| K.mkIface Y g0 rfl (mkI Try.underlying43 rfl) rfl <| K.loadS Y _ g0 rfl rfl t43 rfl rfl rfl <| K.callR [((.tmp 62), _), ((.tmp 63), _)] (wave_Swell_Plus_con (k := k) hx7) (toFn_invoke (cf 101 rfl) (me43_101) rfl) g0 ⟨rfl, rfl, trivial⟩ trivial rfl rfl rfl <| K.mv rfl rfl <| K.cA (cf 64 rfl) [0] (fun β w S2 h => SCon.rdBlk (ih hx8) rfl h) g0 rfl rfl rfl <| K.as rfl rfl <| K.nil <| And.intro (by kernel_rfl) <| At.nr <| K.mv rfl rfl <| K.bin (V := .bool (decide (x8.1 ≥ 0))) g0 rfl rfl (fun _ => rfl) rfl <| K.nil <| At.next <| G.cond rfl (fun h8 => ?_) (fun h8 => ?_)
   ·
    replace H0 := bif_t H0 h8
    exact G.seq <| G.rg <| K.mv rfl rfl <| K.fieldAddr Y g0 rfl t70 rfl rfl <| K.load1 Y g0 rfl rfl t3 rfl rfl <| K.bin (V := .int .i64 (w64 (x8.1 + x4.1.size))) g0 rfl rfl (fun _ => rfl) rfl <| K.bin (V := .int .i64 (w64 ((w64 (x8.1 + x4.1.size)) + 1))) g0 rfl rfl (fun _ => rfl) rfl <| K.as rfl rfl <| K.nil <| At.next <| G.ret <| At.over_ret <| At.dr Y [10] rfl rfl (by cases H0; rfl) (by cases H0; rfl) rfl rfl rfl
   ·
    replace H0 := bif_f H0 h8
    refine G.skip <| At.ns <| G.seq ?_
    rcases Bool.eq_false_or_eq_true (decide (a2 > x4.1.size)) with h9 | h9
    ·
     replace H0 := bif_t H0 h9
     obtain ⟨x9, hx9, H0⟩ := bnd H0
     refine G.rg <| K.mv rfl rfl <| K.fieldAddr Y g0 rfl t70 rfl rfl <| K.load1 Y g0 rfl rfl t3 rfl rfl <| K.bin (V := .bool (decide (a2 > x4.1.size))) g0 rfl rfl (fun _ => rfl) rfl <| K.mv rfl rfl <| K.move (.inl rfl) (g1 rfl rfl h9) rfl rfl <| K.loadS Y _ (g1 rfl rfl h9) rfl rfl t43 rfl rfl rfl <| K.loadS Y _ (g1 rfl rfl h9) rfl rfl t43 rfl rfl rfl <| K.callR [((.tmp 79), _), ((.tmp 80), _), ((.tmp 81), _)] (hm4 2 hx9) (toFn_val cg4 rfl) (g1 rfl rfl h9) ⟨rfl, rfl, rfl, trivial⟩ ⟨rfl, trivial⟩ rfl rfl rfl <| K.pickT g0 rfl (h9) rfl rfl <| K.nil <| At.next <| G.cond rfl (fun h10 => ?_) (fun h10 => ?_)
     ·
      replace H0 := bif_t H0 h10
      exact G.seq <| G.rg <| K.fieldAddr Y g0 rfl t70 rfl rfl <| K.load1 Y g0 rfl rfl t3 rfl rfl <| K.as rfl rfl <| K.nil <| At.next <| G.ret <| At.over_ret <| At.dr Y [10] rfl rfl (by cases H0; rfl) (by cases H0; rfl) rfl rfl rfl
     ·
      replace H0 := bif_f H0 h10
      refine G.skip <| At.ns ?_
      obtain ⟨x10, hx10, H0⟩ := bnd H0
      exact G.rg <| K.mv rfl rfl <| K.fieldAddr Y g0 rfl t70 rfl rfl <| K.loadS Y _ g0 rfl rfl t68 rfl rfl rfl <| K.mv rfl rfl <| K.loadS Y _ g0 rfl rfl t43 rfl rfl rfl <| K.mv rfl rfl <| K.cA (cf 64 rfl) [0] (fun β w S2 h => SCon.rdBlk (ih hx10) rfl h) g0 rfl rfl rfl <| K.as rfl rfl <| K.nil <| At.next <| G.ret <| At.dr Y [10] rfl rfl (by cases H0; rfl) (by cases H0; rfl) rfl rfl rfl
    ·
     replace H0 := bif_f H0 h9
     refine G.rg <| K.mv rfl rfl <| K.fieldAddr Y g0 rfl t70 rfl rfl <| K.load1 Y g0 rfl rfl t3 rfl rfl <| K.bin (V := .bool (decide (a2 > x4.1.size))) g0 rfl rfl (fun _ => rfl) rfl <| K.mv rfl rfl <| K.sk rfl rfl h9 rfl <| K.sk rfl rfl h9 rfl <| K.sk rfl rfl h9 rfl <| K.sk rfl rfl h9 rfl <| K.pickF g0 rfl (h9) rfl rfl <| K.nil <| At.next <| G.cond rfl (fun h11 => ?_) (fun h11 => ?_)
     · cases h11
     ·
      refine G.skip <| At.ns ?_
      obtain ⟨x11, hx11, H0⟩ := bnd H0
      exact G.rg <| K.mv rfl rfl <| K.fieldAddr Y g0 rfl t70 rfl rfl <| K.loadS Y _ g0 rfl rfl t68 rfl rfl rfl <| K.mv rfl rfl <| K.loadS Y _ g0 rfl rfl t43 rfl rfl rfl <| K.mv rfl rfl <| K.cA (cf 64 rfl) [0] (fun β w S2 h => SCon.rdBlk (ih hx11) rfl h) g0 rfl rfl rfl <| K.as rfl rfl <| K.nil <| At.next <| G.ret <| At.dr Y [10] rfl rfl (by cases H0; rfl) (by cases H0; rfl) rfl rfl rfl
theorem VTree_lastOfM_f14_con {k n : Nat} {g4 : FuncId} {fn4 : TSwell → TSwell → Option Bool} {cv4 : List Value} {Tc4 : TypeId} (cg4 : fnB Try.prog g4 = true) (hm4 : ∀ (c : Nat) {z0 : TSwell} {z1 : TSwell} {y : Bool}, fn4 z0 z1 = some y → SCon Try.prog g4 [.a (.agg ((eTSwell z0).map .v)), .a (.agg ((eTSwell z1).map .v)), SV.p c 0] [(c, vblk c cv4 Tc4)] (SV.b y) [(c, vblk c cv4 Tc4)] []) {p1 : Pool (TNode TMark TSwell)} {a1 : TRef} {a2 : Int} {a3 : TSwell} {ri0 rg0 : Int} {r : Int × Pool (TNode TMark TSwell)}  (H0 : VTree_lastOf.r opsM k n p1 a1 a2 a3 fn4 = some r) (m0 m1 m2 : Nat) : VTree_lastOfM_f14_st g4 cv4 Tc4 p1 a1 a2 a3 ri0 rg0 r m0 m1 m2 :=
 SCon.ren (rn [(0, m0), (1, m1), (2, m2)]) (VTree_lastOfM_f14_con0 (k := k) cg4 hm4  H0) ⟨(blk_ren rfl rfl), (pool_ren rfl), (vblk_ren rfl), trivial⟩ ⟨(blk_ren rfl rfl), (pool_ren rfl), (vblk_ren rfl), trivial⟩ (by simp) (by simp)
abbrev VTree_LastM_f12_st (g2 : FuncId) (cv2 : List Value) (Tc2 : TypeId) (p1 : Pool (TNode TMark TSwell)) (rt0 : TRef) (a1 : Int) (r : Int × Pool (TNode TMark TSwell)) (m0 : Nat) (m1 : Nat) (m2 : Nat) : Prop := SCon Try.prog 49 [SV.p m0 0, .a (.c (.v (.int .i64 a1))), .a (.c (.fn (.func g2) [m2]))] [(m0, blk m0 [.p m1 0, .i rt0.index, .i rt0.gen] 74), (m1, pvM m1 p1), (m2, vblk m2 cv2 Tc2)] (.a (.c (.v (.int .i64 r.1)))) [(m0, blk m0 [.p m1 0, .i rt0.index, .i rt0.gen] 74), (m1, pvM m1 r.2), (m2, vblk m2 cv2 Tc2)] []
theorem VTree_LastM_f12_con0 {k : Nat} {g2 : FuncId} {fn2 : TSwell → TSwell → Option Bool} {cv2 : List Value} {Tc2 : TypeId} (cg2 : fnB Try.prog g2 = true) (hm2 : ∀ (c : Nat) {z0 : TSwell} {z1 : TSwell} {y : Bool}, fn2 z0 z1 = some y → SCon Try.prog g2 [.a (.agg ((eTSwell z0).map .v)), .a (.agg ((eTSwell z1).map .v)), SV.p c 0] [(c, vblk c cv2 Tc2)] (SV.b y) [(c, vblk c cv2 Tc2)] []) {p1 : Pool (TNode TMark TSwell)} {rt0 : TRef} {a1 : Int} {r : Int × Pool (TNode TMark TSwell)}  (H0 : VTree_Last.f opsM k p1 rt0 a1 fn2 = some r) : VTree_LastM_f12_st g2 cv2 Tc2 p1 rt0 a1 r 0 1 2 := by
 rw [VTree_Last.f] at H0
 refine spec_of [(0, _), (1, _), (2, _)] [(0, _), (1, _), (2, _)] 21 Try.func49 rfl Try.ntmps49 rfl rfl rfl rfl (fun β W F => ?_)
 refine G.seq <| G.rg <| K.as rfl rfl <| K.nil <| At.nr <| K.alloc Y 100 _ g0 t43 rfl rfl rfl rfl rfl <| K.nil <| At.ns ?_
 obtain ⟨x1, hx1, H0⟩ := bnd H0
 obtain ⟨x2, hx2, H0⟩ := bnd H0
 exact G.rd mixed <| K.mv rfl rfl <| K.mv rfl rfl <| K.nilCheck g0 rfl rfl <| K.fieldAddr Y g0 rfl t74 rfl rfl <| K.loadS Y _ g0 rfl rfl t68 rfl rfl rfl <| K.mv rfl rfl <| K.bi2 (V := .int .i64 (gmax a1 0)) g0 rfl rfl (fun _ _ => rfl) rfl <| K.mv rfl rfl <| K.cA (cf 21 rfl) [0] (fun β w S2 h => SCon.rdBlk (VTree_LenM_con hx1 0 1) rfl h) g0 rfl rfl rfl <| K.bi2 (V := .int .i64 (gmin (gmax a1 0) x1.1)) g0 rfl rfl (fun _ _ => rfl) rfl <| K.loadS Y _ g0 rfl rfl t43 rfl rfl rfl <| K.mv rfl rfl <| K.cA (cf 64 rfl) [0] (fun β w S2 h => SCon.rdBlk (VTree_lastOfM_f14_con cg2 hm2 hx2 0 1 2) rfl h) g0 rfl rfl rfl <| K.as rfl rfl <| K.nil <| And.intro (by kernel_rfl) <| At.next <| G.ret <| At.dr Y [6] rfl rfl (by cases H0; rfl) (by cases H0; rfl) rfl rfl rfl
theorem VTree_LastM_f12_con {k : Nat} {g2 : FuncId} {fn2 : TSwell → TSwell → Option Bool} {cv2 : List Value} {Tc2 : TypeId} (cg2 : fnB Try.prog g2 = true) (hm2 : ∀ (c : Nat) {z0 : TSwell} {z1 : TSwell} {y : Bool}, fn2 z0 z1 = some y → SCon Try.prog g2 [.a (.agg ((eTSwell z0).map .v)), .a (.agg ((eTSwell z1).map .v)), SV.p c 0] [(c, vblk c cv2 Tc2)] (SV.b y) [(c, vblk c cv2 Tc2)] []) {p1 : Pool (TNode TMark TSwell)} {rt0 : TRef} {a1 : Int} {r : Int × Pool (TNode TMark TSwell)}  (H0 : VTree_Last.f opsM k p1 rt0 a1 fn2 = some r) (m0 m1 m2 : Nat) : VTree_LastM_f12_st g2 cv2 Tc2 p1 rt0 a1 r m0 m1 m2 :=
 SCon.ren (rn [(0, m0), (1, m1), (2, m2)]) (VTree_LastM_f12_con0 (k := k) cg2 hm2  H0) ⟨(blk_ren rfl rfl), (pool_ren rfl), (vblk_ren rfl), trivial⟩ ⟨(blk_ren rfl rfl), (pool_ren rfl), (vblk_ren rfl), trivial⟩ (by simp) (by simp)
abbrev Vbridge_Prior_st (p1 : Pool (TNode TMark TSwell)) (rt0 : TRef) (a1 : Int) (a2 : Int) (r : Int × Pool (TNode TMark TSwell)) (m0 : Nat) (m1 : Nat) : Prop := SCon Try.prog 19 [SV.p m0 0, .a (.c (.v (.int .i64 a1))), .a (.c (.v (.int .i64 a2)))] [(m0, blk m0 [.p m1 0, .i rt0.index, .i rt0.gen] 74), (m1, pvM m1 p1)] (.a (.c (.v (.int .i64 r.1)))) [(m0, blk m0 [.p m1 0, .i rt0.index, .i rt0.gen] 74), (m1, pvM m1 r.2)] []
theorem Vbridge_Prior_con0 {k : Nat}  {p1 : Pool (TNode TMark TSwell)} {rt0 : TRef} {a1 : Int} {a2 : Int} {r : Int × Pool (TNode TMark TSwell)}  (H0 : Vbridge_Prior.f k p1 rt0 a1 a2 = some r) : Vbridge_Prior_st p1 rt0 a1 a2 r 0 1 := by
 rw [Vbridge_Prior.f] at H0
 refine spec_of [(0, _), (1, _), (2, _)] [(0, _), (1, _)] 21 Try.func19 rfl Try.ntmps19 rfl rfl rfl rfl (fun β W F => ?_)
 refine G.seq <| G.rg <| K.as rfl rfl <| K.nil <| At.ns <| G.seq ?_
 obtain ⟨x1, hx1, H0⟩ := bnd H0
 obtain ⟨x2, hx2, H0⟩ := bnd H0
 obtain ⟨x3, hx3, H0⟩ := bnd H0
 refine G.rg <| K.mv rfl rfl <| K.mv rfl rfl <| K.mv rfl rfl <| K.cA (cf 46 rfl) [0] (fun β w S2 h => SCon.rdBlk (Vbridge_clamp_con hx1 0 1) rfl h) g0 rfl rfl rfl <| K.mv rfl rfl <| K.c0 (cf 48 rfl) (bridge_low_con hx2 100 rfl) g0 rfl rfl rfl rfl <| K.cA (cf 49 rfl) [0] (fun β w S2 h => SCon.rdBlk (VTree_LastM_f12_con (cv2 := [(.int .i64 x2)]) (Tc2 := 3) (cf 63 rfl) (fun c _ _ _ h => bridge_low_1_con h c) hx3 0 1 100) rfl h) g0 rfl rfl rfl <| K.as rfl rfl <| K.nil <| At.nr <| K.mv rfl rfl <| K.bin (V := .bool (decide (x3.1 ≥ 0))) g0 rfl rfl (fun _ => rfl) rfl <| K.nil <| At.next <| G.cond rfl (fun h1 => ?_) (fun h1 => ?_)
 ·
  replace H0 := bif_t H0 h1
  exact G.seq <| G.rg <| K.mv rfl rfl <| K.bin (V := .int .i64 (w64 (x3.1 + 1))) g0 rfl rfl (fun _ => rfl) rfl <| K.as rfl rfl <| K.nil <| At.next <| G.ret <| At.over_ret <| At.dr Y [6] rfl rfl (by cases H0; rfl) (by cases H0; rfl) rfl rfl rfl
 ·
  replace H0 := bif_f H0 h1
  refine G.skip <| At.ns <| G.seq <| G.rg <| K.mv rfl rfl <| K.bin (V := .bool (decide (a2 ≤ 0))) g0 rfl rfl (fun _ => rfl) rfl <| K.nil <| At.next <| G.cond rfl (fun h2 => ?_) (fun h2 => ?_)
  ·
   replace H0 := bif_t H0 h2
   exact G.seq <| G.rg <| K.as rfl rfl <| K.nil <| At.next <| G.ret <| At.over_ret <| At.dr Y [6] rfl rfl (by cases H0; rfl) (by cases H0; rfl) rfl rfl rfl
  ·
   replace H0 := bif_f H0 h2
   exact G.skip <| At.nr <| K.as rfl rfl <| K.nil <| At.next <| G.ret <| At.dr Y [6] rfl rfl (by cases H0; rfl) (by cases H0; rfl) rfl rfl rfl
theorem Vbridge_Prior_con {k : Nat}  {p1 : Pool (TNode TMark TSwell)} {rt0 : TRef} {a1 : Int} {a2 : Int} {r : Int × Pool (TNode TMark TSwell)}  (H0 : Vbridge_Prior.f k p1 rt0 a1 a2 = some r) (m0 m1 : Nat) : Vbridge_Prior_st p1 rt0 a1 a2 r m0 m1 :=
 SCon.ren (rn [(0, m0), (1, m1)]) (Vbridge_Prior_con0 (k := k)   H0) ⟨(blk_ren rfl rfl), (pool_ren rfl), trivial⟩ ⟨(blk_ren rfl rfl), (pool_ren rfl), trivial⟩ (by simp) (by simp)
abbrev VLw10_awake_st (r : Bool) : Prop := SCon Try.prog 11 [] [] (.a (.c (.v (.bool r)))) [] []
theorem VLw10_awake_con0 {k : Nat}  {r : Bool}  (H0 : VLw10_awake.f k = some r) : VLw10_awake_st r := by
 rw [VLw10_awake.f] at H0
 refine spec_of [] [] 37 Try.func11 rfl Try.ntmps11 rfl rfl rfl rfl (fun β W F => ?_)
 refine G.seq <| G.rg <| K.as rfl rfl <| K.nil <| At.nr <| K.build Y [(0, _), (1, _)] [_, _, _, _] [(_, _), (_, _)] g0 (AllE.spec ⟨rfl, rfl, trivial⟩) rfl rfl t35 rfl rfl <| K.build Y [(0, _)] [_, _, _, _, _, _, _, _] [((.tmp 3), _)] g0 (AllE.spec ⟨rfl, trivial⟩) rfl rfl t52 rfl rfl <| K.build Y [(0, _)] [_, _, _, _] [(_, _)] g0 (AllE.spec ⟨rfl, trivial⟩) rfl rfl t35 rfl rfl <| K.build Y [(0, _)] [_, _, _, _, _, _, _, _] [((.tmp 5), _)] g0 (AllE.spec ⟨rfl, trivial⟩) rfl rfl t52 rfl rfl <| K.buildL Y 100 ([(TR08Mark.mk (TOp.mk 1 true zTItem) false zTTook), (TR08Mark.mk (TOp.mk 2 false zTItem) false zTTook)] : List TR08Mark) [(0, _), (1, _)] [((.tmp 4), _), ((.tmp 6), _)] eTR08Mark_len g0 (AllE.spec ⟨rfl, rfl, trivial⟩) rfl rfl Try.underlying22 t52 rfl rfl rfl rfl rfl rfl rfl rfl <| K.as rfl rfl <| K.nil <| At.ns ?_
 obtain ⟨x1, hx1, H0⟩ := bnd H0
 refine G.rg <| K.mv rfl rfl <| K.cV (cf 14 rfl) [100] (fun β w S2 h => VLw10_Tree_con (la 0 rfl eTR08Mark_len rfl h) hx1 101 102 rfl) g0 (fun _ => rfl) rfl rfl rfl <| K.as rfl rfl <| K.nil <| At.ns ?_
 obtain ⟨x2, hx2, H0⟩ := bnd H0
 rcases Bool.eq_false_or_eq_true (x2.1 == 0) with h1 | h1
 ·
  replace H0 := bif_t H0 h1
  obtain ⟨x3, hx3, H0⟩ := bnd H0
  rcases Bool.eq_false_or_eq_true (x3.1 == 2) with h2 | h2
  ·
   replace H0 := bif_t H0 h2
   obtain ⟨x4, hx4, H0⟩ := bnd H0
   rcases Bool.eq_false_or_eq_true (x4.1 == 0) with h3 | h3
   ·
    replace H0 := bif_t H0 h3
    obtain ⟨x5, hx5, H0⟩ := bnd H0
    rcases Bool.eq_false_or_eq_true (x5.1 == 2) with h4 | h4
    ·
     replace H0 := bif_t H0 h4
     obtain ⟨x6, hx6, H0⟩ := bnd H0
     exact G.rg <| K.mv rfl rfl <| K.eqnil (V := true) g0 rfl rfl (pn_neq_some Try.underlying26) rfl <| K.mv rfl rfl <| K.move (.inl rfl) (g1 rfl rfl rfl) rfl rfl <| K.c0 (cf 17 rfl) (Vbridge_Next_con hx2 101 102) (g1 rfl rfl rfl) rfl rfl rfl rfl <| K.bin (V := .bool (x2.1 == 0)) (g1 rfl rfl rfl) rfl rfl (fun _ => rfl) rfl <| K.pickT g0 rfl (rfl) rfl rfl <| K.mv rfl rfl <| K.move (.inl rfl) (g1 rfl rfl h1) rfl rfl <| K.c0 (cf 17 rfl) (Vbridge_Next_con hx3 101 102) (g1 rfl rfl h1) rfl rfl rfl rfl <| K.bin (V := .bool (x3.1 == 2)) (g1 rfl rfl h1) rfl rfl (fun _ => rfl) rfl <| K.pickT g0 rfl (h1) rfl rfl <| K.mv rfl rfl <| K.move (.inl rfl) (g1 rfl rfl h2) rfl rfl <| K.c0 (cf 19 rfl) (Vbridge_Prior_con hx4 101 102) (g1 rfl rfl h2) rfl rfl rfl rfl <| K.bin (V := .bool (x4.1 == 0)) (g1 rfl rfl h2) rfl rfl (fun _ => rfl) rfl <| K.pickT g0 rfl (h2) rfl rfl <| K.mv rfl rfl <| K.move (.inl rfl) (g1 rfl rfl h3) rfl rfl <| K.c0 (cf 19 rfl) (Vbridge_Prior_con hx5 101 102) (g1 rfl rfl h3) rfl rfl rfl rfl <| K.bin (V := .bool (x5.1 == 2)) (g1 rfl rfl h3) rfl rfl (fun _ => rfl) rfl <| K.pickT g0 rfl (h3) rfl rfl <| K.mv rfl rfl <| K.move (.inl rfl) (g1 rfl rfl h4) rfl rfl <| K.c0 (cf 13 rfl) (Vbridge_Height_con hx6 101 102) (g1 rfl rfl h4) rfl rfl rfl rfl <| K.bin (V := .bool (x6.1 == 1)) (g1 rfl rfl h4) rfl rfl (fun _ => rfl) rfl <| K.pickT g0 rfl (h4) rfl rfl <| K.as rfl rfl <| K.nil <| At.next <| G.ret <| At.dr Y [0] rfl rfl (by cases H0; rfl) (by cases H0; rfl) rfl rfl rfl
    ·
     replace H0 := bif_f H0 h4
     exact G.rg <| K.mv rfl rfl <| K.eqnil (V := true) g0 rfl rfl (pn_neq_some Try.underlying26) rfl <| K.mv rfl rfl <| K.move (.inl rfl) (g1 rfl rfl rfl) rfl rfl <| K.c0 (cf 17 rfl) (Vbridge_Next_con hx2 101 102) (g1 rfl rfl rfl) rfl rfl rfl rfl <| K.bin (V := .bool (x2.1 == 0)) (g1 rfl rfl rfl) rfl rfl (fun _ => rfl) rfl <| K.pickT g0 rfl (rfl) rfl rfl <| K.mv rfl rfl <| K.move (.inl rfl) (g1 rfl rfl h1) rfl rfl <| K.c0 (cf 17 rfl) (Vbridge_Next_con hx3 101 102) (g1 rfl rfl h1) rfl rfl rfl rfl <| K.bin (V := .bool (x3.1 == 2)) (g1 rfl rfl h1) rfl rfl (fun _ => rfl) rfl <| K.pickT g0 rfl (h1) rfl rfl <| K.mv rfl rfl <| K.move (.inl rfl) (g1 rfl rfl h2) rfl rfl <| K.c0 (cf 19 rfl) (Vbridge_Prior_con hx4 101 102) (g1 rfl rfl h2) rfl rfl rfl rfl <| K.bin (V := .bool (x4.1 == 0)) (g1 rfl rfl h2) rfl rfl (fun _ => rfl) rfl <| K.pickT g0 rfl (h2) rfl rfl <| K.mv rfl rfl <| K.move (.inl rfl) (g1 rfl rfl h3) rfl rfl <| K.c0 (cf 19 rfl) (Vbridge_Prior_con hx5 101 102) (g1 rfl rfl h3) rfl rfl rfl rfl <| K.bin (V := .bool (x5.1 == 2)) (g1 rfl rfl h3) rfl rfl (fun _ => rfl) rfl <| K.pickT g0 rfl (h3) rfl rfl <| K.mv rfl rfl <| K.sk rfl rfl h4 rfl <| K.sk rfl rfl h4 rfl <| K.sk rfl rfl h4 rfl <| K.pickF g0 rfl (h4) rfl rfl <| K.as rfl rfl <| K.nil <| At.next <| G.ret <| At.dr Y [0] rfl rfl (by cases H0; rfl) (by cases H0; rfl) rfl rfl rfl
   ·
    replace H0 := bif_f H0 h3
    exact G.rg <| K.mv rfl rfl <| K.eqnil (V := true) g0 rfl rfl (pn_neq_some Try.underlying26) rfl <| K.mv rfl rfl <| K.move (.inl rfl) (g1 rfl rfl rfl) rfl rfl <| K.c0 (cf 17 rfl) (Vbridge_Next_con hx2 101 102) (g1 rfl rfl rfl) rfl rfl rfl rfl <| K.bin (V := .bool (x2.1 == 0)) (g1 rfl rfl rfl) rfl rfl (fun _ => rfl) rfl <| K.pickT g0 rfl (rfl) rfl rfl <| K.mv rfl rfl <| K.move (.inl rfl) (g1 rfl rfl h1) rfl rfl <| K.c0 (cf 17 rfl) (Vbridge_Next_con hx3 101 102) (g1 rfl rfl h1) rfl rfl rfl rfl <| K.bin (V := .bool (x3.1 == 2)) (g1 rfl rfl h1) rfl rfl (fun _ => rfl) rfl <| K.pickT g0 rfl (h1) rfl rfl <| K.mv rfl rfl <| K.move (.inl rfl) (g1 rfl rfl h2) rfl rfl <| K.c0 (cf 19 rfl) (Vbridge_Prior_con hx4 101 102) (g1 rfl rfl h2) rfl rfl rfl rfl <| K.bin (V := .bool (x4.1 == 0)) (g1 rfl rfl h2) rfl rfl (fun _ => rfl) rfl <| K.pickT g0 rfl (h2) rfl rfl <| K.mv rfl rfl <| K.sk rfl rfl h3 rfl <| K.sk rfl rfl h3 rfl <| K.sk rfl rfl h3 rfl <| K.pickF g0 rfl (h3) rfl rfl <| K.mv rfl rfl <| K.sk rfl rfl rfl rfl <| K.sk rfl rfl rfl rfl <| K.sk rfl rfl rfl rfl <| K.pickF g0 rfl (rfl) rfl rfl <| K.as rfl rfl <| K.nil <| At.next <| G.ret <| At.dr Y [0] rfl rfl (by cases H0; rfl) (by cases H0; rfl) rfl rfl rfl
  ·
   replace H0 := bif_f H0 h2
   exact G.rg <| K.mv rfl rfl <| K.eqnil (V := true) g0 rfl rfl (pn_neq_some Try.underlying26) rfl <| K.mv rfl rfl <| K.move (.inl rfl) (g1 rfl rfl rfl) rfl rfl <| K.c0 (cf 17 rfl) (Vbridge_Next_con hx2 101 102) (g1 rfl rfl rfl) rfl rfl rfl rfl <| K.bin (V := .bool (x2.1 == 0)) (g1 rfl rfl rfl) rfl rfl (fun _ => rfl) rfl <| K.pickT g0 rfl (rfl) rfl rfl <| K.mv rfl rfl <| K.move (.inl rfl) (g1 rfl rfl h1) rfl rfl <| K.c0 (cf 17 rfl) (Vbridge_Next_con hx3 101 102) (g1 rfl rfl h1) rfl rfl rfl rfl <| K.bin (V := .bool (x3.1 == 2)) (g1 rfl rfl h1) rfl rfl (fun _ => rfl) rfl <| K.pickT g0 rfl (h1) rfl rfl <| K.mv rfl rfl <| K.sk rfl rfl h2 rfl <| K.sk rfl rfl h2 rfl <| K.sk rfl rfl h2 rfl <| K.pickF g0 rfl (h2) rfl rfl <| K.mv rfl rfl <| K.sk rfl rfl rfl rfl <| K.sk rfl rfl rfl rfl <| K.sk rfl rfl rfl rfl <| K.pickF g0 rfl (rfl) rfl rfl <| K.mv rfl rfl <| K.sk rfl rfl rfl rfl <| K.sk rfl rfl rfl rfl <| K.sk rfl rfl rfl rfl <| K.pickF g0 rfl (rfl) rfl rfl <| K.as rfl rfl <| K.nil <| At.next <| G.ret <| At.dr Y [0] rfl rfl (by cases H0; rfl) (by cases H0; rfl) rfl rfl rfl
 ·
  replace H0 := bif_f H0 h1
  exact G.rg <| K.mv rfl rfl <| K.eqnil (V := true) g0 rfl rfl (pn_neq_some Try.underlying26) rfl <| K.mv rfl rfl <| K.move (.inl rfl) (g1 rfl rfl rfl) rfl rfl <| K.c0 (cf 17 rfl) (Vbridge_Next_con hx2 101 102) (g1 rfl rfl rfl) rfl rfl rfl rfl <| K.bin (V := .bool (x2.1 == 0)) (g1 rfl rfl rfl) rfl rfl (fun _ => rfl) rfl <| K.pickT g0 rfl (rfl) rfl rfl <| K.mv rfl rfl <| K.sk rfl rfl h1 rfl <| K.sk rfl rfl h1 rfl <| K.sk rfl rfl h1 rfl <| K.pickF g0 rfl (h1) rfl rfl <| K.mv rfl rfl <| K.sk rfl rfl rfl rfl <| K.sk rfl rfl rfl rfl <| K.sk rfl rfl rfl rfl <| K.pickF g0 rfl (rfl) rfl rfl <| K.mv rfl rfl <| K.sk rfl rfl rfl rfl <| K.sk rfl rfl rfl rfl <| K.sk rfl rfl rfl rfl <| K.pickF g0 rfl (rfl) rfl rfl <| K.mv rfl rfl <| K.sk rfl rfl rfl rfl <| K.sk rfl rfl rfl rfl <| K.sk rfl rfl rfl rfl <| K.pickF g0 rfl (rfl) rfl rfl <| K.as rfl rfl <| K.nil <| At.next <| G.ret <| At.dr Y [0] rfl rfl (by cases H0; rfl) (by cases H0; rfl) rfl rfl rfl
theorem VLw10_awake_con {k : Nat}  {r : Bool}  (H0 : VLw10_awake.f k = some r) : VLw10_awake_st r :=
 SCon.ren (rn []) (VLw10_awake_con0 (k := k)   H0) trivial trivial (by simp) (by simp)
abbrev R07_Height_st (a0 : Int) (r : Int) : Prop := SCon Try.prog 27 [.a (.c (.v (.int .i64 a0)))] [] (.a (.c (.v (.int .i64 r)))) [] []
theorem R07_Height_con0 {k : Nat}  {a0 : Int} {r : Int}  (H0 : R07_Height.f k a0 = some r) : R07_Height_st a0 r := by
 rw [R07_Height.f] at H0
 refine spec_of [(0, _)] [] 14 Try.func27 rfl Try.ntmps27 rfl rfl rfl rfl (fun β W F => ?_)
 refine G.seq <| G.rg <| K.as rfl rfl <| K.nil <| At.nr <| K.as rfl rfl <| K.nil <| At.next ?_
 obtain ⟨x1, H1, H0⟩ := bnd H0
 refine G.sJ (σ := { v : Int // x1 = v }) (fun q => [(3, .a (.c (.v (.int .i64 q.1))))]) (fun q => []) ?_ ?_
 ·
  refine G.seq <| G.rg <| K.mv rfl rfl <| K.bin (V := .int .i64 (w64 (a0 + 1))) g0 rfl rfl (fun _ => rfl) rfl <| K.as rfl rfl <| K.nil <| At.next <| G.block <| G.lp (σ := { q : Nat × (Int × Int) // R07_Height.l0 k q.1 q.2 = some x1 }) (fun q => [(3, .a (.c (.v (.int .i64 q.1.2.1)))), (4, .a (.c (.v (.int .i64 q.1.2.2))))]) (fun q => []) (fun q => q.1.1) ⟨(k, (2, (w64 (a0 + 1)))), H1⟩ ?_ ?_
  · exact At.into [] [] rfl ⟨rfl, rfl, trivial⟩ trivial rfl
  ·
   rintro ⟨⟨n0, v1, v2⟩, H1⟩
   show G _ _ [(3, .a (.c (.v (.int .i64 v1)))), (4, .a (.c (.v (.int .i64 v2))))] [] _ _
   cases n0 with
   | zero => exact absurd H1 (by simp [R07_Height.l0])
   | succ n0 =>
    have HL0 := H1
    rw [R07_Height.l0] at H1
    refine G.seq <| G.seq <| G.rg <| K.mv rfl rfl <| K.bin (V := .bool (decide (v2 > 1))) g0 rfl rfl (fun _ => rfl) rfl <| K.nil <| At.next <| G.cond rfl (fun h1 => ?_) (fun h1 => ?_)
    ·
     replace H1 := bif_t H1 h1
     exact G.skip <| At.ns <| G.block <| G.rg <| K.mv rfl rfl <| K.bin (V := .int .i64 (w64 (v1 + 3))) g0 rfl rfl (fun _ => rfl) rfl <| K.as rfl rfl <| K.nil <| At.block_normal <| At.next <| G.rg <| K.mv rfl rfl <| K.bin (V := .int .i64 (w64 (v2.tdiv 2))) g0 rfl rfl (quo_run (by decide)) rfl <| K.as rfl rfl <| K.nil <| At.ag ⟨(n0, ((w64 (v1 + 3)), (w64 (v2.tdiv 2)))), H1⟩ [] [] (Nat.lt_succ_self _) rfl ⟨rfl, rfl, trivial⟩ trivial rfl
    ·
     replace H1 := bif_f H1 h1
     exact G.exit <| At.over_exit <| At.over_exit <| At.block_hit <| At.jd ⟨v1, oi H1⟩ [] [] rfl ⟨rfl, trivial⟩ trivial rfl
 ·
  rintro ⟨_, rfl⟩
  show G _ _ [(3, .a (.c (.v (.int .i64 x1))))] [] _ _
  exact G.seq <| G.rg <| K.mv rfl rfl <| K.as rfl rfl <| K.nil <| At.next <| G.ret <| At.dr Y [2] rfl rfl (by cases H0; rfl) (by cases H0; rfl) rfl rfl rfl
theorem R07_Height_con {k : Nat}  {a0 : Int} {r : Int}  (H0 : R07_Height.f k a0 = some r) : R07_Height_st a0 r :=
 SCon.ren (rn []) (R07_Height_con0 (k := k)   H0) trivial trivial (by simp) (by simp)
abbrev VTree_VisitsM_st (p1 : Pool (TNode TMark TSwell)) (ri0 : Int) (rg0 : Int) (r : Int) (m0 : Nat) (m1 : Nat) : Prop := SCon Try.prog 28 [SV.p m0 0] [(m0, blk m0 [.p m1 0, .i ri0, .i rg0] 74), (m1, pvM m1 p1)] (.a (.c (.v (.int .i64 r)))) [(m0, blk m0 [.p m1 0, .i ri0, .i rg0] 74), (m1, pvM m1 p1)] []
theorem VTree_VisitsM_con0 {k : Nat}  {p1 : Pool (TNode TMark TSwell)} {ri0 rg0 : Int} {r : Int}  (H0 : VTree_Visits.f opsM k p1 = some r) : VTree_VisitsM_st p1 ri0 rg0 r 0 1 := by
 rw [VTree_Visits.f] at H0
 refine spec_of [(0, _)] [(0, _), (1, _)] 8 Try.func28 rfl Try.ntmps28 rfl rfl rfl rfl (fun β W F => ?_)
 exact G.seq <| G.rg <| K.as rfl rfl <| K.nil <| At.nr <| K.mv rfl rfl <| K.nilCheck g0 rfl rfl <| K.fieldAddr Y g0 rfl t74 rfl rfl <| K.load1 Y g0 rfl rfl t72 rfl rfl <| K.callR [(.func 52, _), ((.tmp 6), _)] (pvvisitsM p1 1) (toFn_func (cf 52 rfl) rfl) g0 ⟨rfl, rfl, trivial⟩ ⟨rfl, trivial⟩ rfl rfl rfl <| K.as rfl rfl <| K.nil <| At.next <| G.ret <| At.dr Y [2] rfl rfl (by cases H0; rfl) (by cases H0; rfl) rfl rfl rfl
theorem VTree_VisitsM_con {k : Nat}  {p1 : Pool (TNode TMark TSwell)} {ri0 rg0 : Int} {r : Int}  (H0 : VTree_Visits.f opsM k p1 = some r) (m0 m1 : Nat) : VTree_VisitsM_st p1 ri0 rg0 r m0 m1 :=
 SCon.ren (rn [(0, m0), (1, m1)]) (VTree_VisitsM_con0 (k := k)   H0) ⟨(blk_ren rfl rfl), (pool_ren rfl), trivial⟩ ⟨(blk_ren rfl rfl), (pool_ren rfl), trivial⟩ (by simp) (by simp)
abbrev Vbridge_Best_st (p1 : Pool (TNode TMark TSwell)) (rt0 : TRef) (a1 : Int) (r : TTook × Pool (TNode TMark TSwell)) (m0 : Nat) (m1 : Nat) : Prop := SCon Try.prog 23 [SV.p m0 0, .a (.c (.v (.int .i64 a1)))] [(m0, blk m0 [.p m1 0, .i rt0.index, .i rt0.gen] 74), (m1, pvM m1 p1)] (.a (.agg ((eTTook r.1).map .v))) [(m0, blk m0 [.p m1 0, .i rt0.index, .i rt0.gen] 74), (m1, pvM m1 r.2)] []
theorem Vbridge_Best_con0 {k : Nat}  {p1 : Pool (TNode TMark TSwell)} {rt0 : TRef} {a1 : Int} {r : TTook × Pool (TNode TMark TSwell)}  (H0 : Vbridge_Best.f k p1 rt0 a1 = some r) : Vbridge_Best_st p1 rt0 a1 r 0 1 := by
 rw [Vbridge_Best.f] at H0
 refine spec_of [(0, _), (1, _)] [(0, _), (1, _)] 13 Try.func23 rfl Try.ntmps23 rfl rfl rfl rfl (fun β W F => ?_)
 refine G.seq <| G.rg <| K.alloc Y 100 _ g0 t37 rfl rfl rfl rfl rfl <| K.nil <| At.ns ?_
 obtain ⟨x1, hx1, H0⟩ := bnd H0
 obtain ⟨x2, hx2, H0⟩ := bnd H0
 obtain ⟨x3, hx3, H0⟩ := bnd H0
 refine G.rg <| K.mv rfl rfl <| K.mv rfl rfl <| K.mv rfl rfl <| K.cA (cf 46 rfl) [0] (fun β w S2 h => SCon.rdBlk (Vbridge_clamp_con hx1 0 1) rfl h) g0 rfl rfl rfl <| K.mv rfl rfl <| K.cA (cf 21 rfl) [0] (fun β w S2 h => SCon.rdBlk (VTree_LenM_con hx2 0 1) rfl h) g0 rfl rfl rfl <| K.cA (cf 41 rfl) [0] (fun β w S2 h => SCon.rdBlk (VTree_BetweenM_con hx3 0 1) rfl h) g0 rfl rfl rfl <| K.fieldS Y _ g0 rfl t43 rfl t37 rfl rfl <| K.store Y _ g0 rfl rfl rfl t37 rfl rfl rfl rfl rfl <| K.nil <| At.next <| G.ret <| At.done Y [(.cell 4 37, .agg [_, _, _])] rfl ⟨.st rfl rfl t37 rfl rfl, trivial⟩ (to' := [(0, _), (1, _)]) ⟨rfl, rfl, trivial⟩ ?_ ?_ rfl rfl rfl (.inl rfl)
 · cases H0; rfl
 · cases H0; rfl
theorem Vbridge_Best_con {k : Nat}  {p1 : Pool (TNode TMark TSwell)} {rt0 : TRef} {a1 : Int} {r : TTook × Pool (TNode TMark TSwell)}  (H0 : Vbridge_Best.f k p1 rt0 a1 = some r) (m0 m1 : Nat) : Vbridge_Best_st p1 rt0 a1 r m0 m1 :=
 SCon.ren (rn [(0, m0), (1, m1)]) (Vbridge_Best_con0 (k := k)   H0) ⟨(blk_ren rfl rfl), (pool_ren rfl), trivial⟩ ⟨(blk_ren rfl rfl), (pool_ren rfl), trivial⟩ (by simp) (by simp)
abbrev Vbridge_Least_st (p1 : Pool (TNode TMark TSwell)) (rt0 : TRef) (a1 : Int) (r : TTook × Pool (TNode TMark TSwell)) (m0 : Nat) (m1 : Nat) : Prop := SCon Try.prog 25 [SV.p m0 0, .a (.c (.v (.int .i64 a1)))] [(m0, blk m0 [.p m1 0, .i rt0.index, .i rt0.gen] 74), (m1, pvM m1 p1)] (.a (.agg ((eTTook r.1).map .v))) [(m0, blk m0 [.p m1 0, .i rt0.index, .i rt0.gen] 74), (m1, pvM m1 r.2)] []
theorem Vbridge_Least_con0 {k : Nat}  {p1 : Pool (TNode TMark TSwell)} {rt0 : TRef} {a1 : Int} {r : TTook × Pool (TNode TMark TSwell)}  (H0 : Vbridge_Least.f k p1 rt0 a1 = some r) : Vbridge_Least_st p1 rt0 a1 r 0 1 := by
 rw [Vbridge_Least.f] at H0
 refine spec_of [(0, _), (1, _)] [(0, _), (1, _)] 11 Try.func25 rfl Try.ntmps25 rfl rfl rfl rfl (fun β W F => ?_)
 refine G.seq <| G.rg <| K.alloc Y 100 _ g0 t37 rfl rfl rfl rfl rfl <| K.nil <| At.ns ?_
 obtain ⟨x1, hx1, H0⟩ := bnd H0
 obtain ⟨x2, hx2, H0⟩ := bnd H0
 refine G.rg <| K.mv rfl rfl <| K.mv rfl rfl <| K.mv rfl rfl <| K.cA (cf 46 rfl) [0] (fun β w S2 h => SCon.rdBlk (Vbridge_clamp_con hx1 0 1) rfl h) g0 rfl rfl rfl <| K.cA (cf 41 rfl) [0] (fun β w S2 h => SCon.rdBlk (VTree_BetweenM_con hx2 0 1) rfl h) g0 rfl rfl rfl <| K.fieldS Y _ g0 rfl t43 rfl t37 rfl rfl <| K.store Y _ g0 rfl rfl rfl t37 rfl rfl rfl rfl rfl <| K.nil <| At.next <| G.ret <| At.done Y [(.cell 4 37, .agg [_, _, _])] rfl ⟨.st rfl rfl t37 rfl rfl, trivial⟩ (to' := [(0, _), (1, _)]) ⟨rfl, rfl, trivial⟩ ?_ ?_ rfl rfl rfl (.inl rfl)
 · cases H0; rfl
 · cases H0; rfl
theorem Vbridge_Least_con {k : Nat}  {p1 : Pool (TNode TMark TSwell)} {rt0 : TRef} {a1 : Int} {r : TTook × Pool (TNode TMark TSwell)}  (H0 : Vbridge_Least.f k p1 rt0 a1 = some r) (m0 m1 : Nat) : Vbridge_Least_st p1 rt0 a1 r m0 m1 :=
 SCon.ren (rn [(0, m0), (1, m1)]) (Vbridge_Least_con0 (k := k)   H0) ⟨(blk_ren rfl rfl), (pool_ren rfl), trivial⟩ ⟨(blk_ren rfl rfl), (pool_ren rfl), trivial⟩ (by simp) (by simp)
abbrev VLw10_BridgeVisits_st (S : Foot) (W0 : World) (s0 : Value) (a1 : Int) (a2 : Int) (r : Bool) : Prop := SCon Try.prog 7 [SV.raw s0, .a (.c (.v (.int .i64 a1))), .a (.c (.v (.int .i64 a2)))] [(0, rd S W0)] (.a (.c (.v (.bool r)))) [(0, rd S W0)] []
set_option maxHeartbeats 4000000 in
theorem VLw10_BridgeVisits_con0 {k : Nat}  {S : Foot} {W0 : World} {s0 : Value} {l0 : List TR08Mark} {a1 : Int} {a2 : Int} {r : Bool} (hL0 : LArg S W0 s0 eTR08Mark 8 l0) (H0 : VLw10_BridgeVisits.f k l0 a1 a2 = some r) : VLw10_BridgeVisits_st S W0 s0 a1 a2 r := by
 rw [VLw10_BridgeVisits.f] at H0
 obtain ⟨b0, o0, hI0⟩ := hL0
 refine spec_of [(0, _), (1, _), (2, _)] [(0, _)] 83 Try.func7 rfl Try.ntmps7 rfl rfl rfl rfl (fun β W F => ?_)
 refine G.seq <| G.rg <| K.as rfl rfl <| K.nil <| At.next ?_
 obtain ⟨x1, H1, H0⟩ := bnd H0
 refine G.sJ (σ := { v : Unit // x1 = Sum.inr v }) (fun q => [(0, SV.raw s0), (1, .a (.c (.v (.int .i64 a1)))), (2, .a (.c (.v (.int .i64 a2))))]) (fun q => [(0, rd S W0)]) ?_ ?_
 ·
  refine G.seq ?_
  obtain ⟨x2, hx2, H1⟩ := bnd H1
  rcases Bool.eq_false_or_eq_true (!x2) with h1 | h1
  ·
   replace H1 := bif_t H1 h1
   refine G.rg <| K.cR (cf 11 rfl) (VLw10_awake_con hx2) g0 rfl rfl rfl rfl <| K.un (V := .bool (!x2)) g0 rfl (fun _ => rfl) rfl <| K.mv rfl rfl <| K.sk rfl rfl h1 rfl <| K.sk rfl rfl h1 rfl <| K.sk rfl rfl h1 rfl <| K.sk rfl rfl h1 rfl <| K.pickT g0 rfl (h1) rfl rfl <| K.nil <| At.next <| G.cond rfl (fun h2 => ?_) (fun h2 => ?_)
   ·
    refine G.seq ?_
    obtain ⟨x3, hx3, H1⟩ := bnd H1
    refine G.rg <| K.cR (cf 11 rfl) (VLw10_awake_con hx3) g0 rfl rfl rfl rfl <| K.as rfl rfl <| K.nil <| At.next <| G.ret <| At.over_ret ?_
    cases H1
    replace H0 := sum_l H0
    exact At.dr Y [6] rfl rfl (by cases H0; rfl) (by cases H0; rfl) rfl rfl rfl
   · cases h2
  ·
   replace H1 := bif_f H1 h1
   obtain ⟨x4, hx4, H1⟩ := bnd H1
   refine G.rg <| K.cR (cf 11 rfl) (VLw10_awake_con hx2) g0 rfl rfl rfl rfl <| K.un (V := .bool (!x2)) g0 rfl (fun _ => rfl) rfl <| K.mv rfl rfl <| K.move (.inl rfl) (g1 rfl rfl h1) rfl rfl <| K.move (.inl rfl) (g1 rfl rfl h1) rfl rfl <| K.cV (cf 12 rfl) [0] (fun β w S2 h => Lw10_small_con ((hI0.isC 0).larg ⟨_, List.mem_cons_self⟩ h) hx4) (g1 rfl rfl h1) (fun _ => rfl) rfl rfl rfl <| K.un (V := .bool (!x4)) (g1 rfl rfl h1) rfl (fun _ => rfl) rfl <| K.pickF g0 rfl (h1) rfl rfl <| K.nil <| At.next <| G.cond rfl (fun h3 => ?_) (fun h3 => ?_)
   ·
    replace H1 := bif_t H1 h3
    refine G.seq ?_
    obtain ⟨x5, hx5, H1⟩ := bnd H1
    refine G.rg <| K.cR (cf 11 rfl) (VLw10_awake_con hx5) g0 rfl rfl rfl rfl <| K.as rfl rfl <| K.nil <| At.next <| G.ret <| At.over_ret ?_
    cases H1
    replace H0 := sum_l H0
    exact At.dr Y [6] rfl rfl (by cases H0; rfl) (by cases H0; rfl) rfl rfl rfl
   ·
    replace H1 := bif_f H1 h3
    exact G.skip <| At.jd ⟨(), oi H1⟩ [] [_] rfl ⟨rfl, rfl, rfl, trivial⟩ ⟨rfl, (fun _ => rfl), trivial⟩ rfl
 ·
  rintro ⟨w1, rfl⟩
  replace H0 := sum_r H0
  show G _ _ [(0, SV.raw s0), (1, .a (.c (.v (.int .i64 a1)))), (2, .a (.c (.v (.int .i64 a2))))] [(0, some (rd S W0))] _ _
  refine G.seq ?_
  obtain ⟨x6, hx6, H0⟩ := bnd H0
  refine G.rg <| K.mv rfl rfl <| K.cV (cf 14 rfl) [0] (fun β w S2 h => VLw10_Tree_con ((hI0.isC 0).larg ⟨_, List.mem_cons_self⟩ h) hx6 100 101 rfl) g0 (fun _ => rfl) rfl rfl rfl <| K.as rfl rfl <| K.nil <| At.ns ?_
  obtain ⟨x7, hx7, H0⟩ := bnd H0
  obtain ⟨x8, hx8, H0⟩ := bnd H0
  refine G.rg <| K.mv rfl rfl <| K.c0 (cf 21 rfl) (VTree_LenM_con hx7 100 101) g0 rfl rfl rfl rfl <| K.cR (cf 27 rfl) (R07_Height_con hx8) g0 rfl rfl rfl rfl <| K.bin (V := .int .i64 (w64 (x8 + 4))) g0 rfl rfl (fun _ => rfl) rfl <| K.bin (V := .int .i64 (w64 (1000 * (w64 (x8 + 4))))) g0 rfl rfl (fun _ => rfl) rfl <| K.as rfl rfl <| K.nil <| At.ns ?_
  obtain ⟨x9, hx9, H0⟩ := bnd H0
  refine G.rg <| K.mv rfl rfl <| K.cR (cf 28 rfl) (VTree_VisitsM_con hx9 100 101) g0 rfl rfl rfl rfl <| K.as rfl rfl <| K.nil <| At.ns ?_
  obtain ⟨x10, hx10, H0⟩ := bnd H0
  refine G.rg <| K.mv rfl rfl <| K.mv rfl rfl <| K.mv rfl rfl <| K.c0 (cf 17 rfl) (Vbridge_Next_con hx10 100 101) g0 rfl rfl rfl rfl <| K.nil <| At.ns ?_
  obtain ⟨x11, hx11, H0⟩ := bnd H0
  refine G.rg <| K.mv rfl rfl <| K.cR (cf 28 rfl) (VTree_VisitsM_con hx11 100 101) g0 rfl rfl rfl rfl <| K.mv rfl rfl <| K.bin (V := .int .i64 (w64 (x11 - x9))) g0 rfl rfl (fun _ => rfl) rfl <| K.as rfl rfl <| K.nil <| At.ns ?_
  obtain ⟨x12, hx12, H0⟩ := bnd H0
  refine G.rg <| K.mv rfl rfl <| K.cR (cf 28 rfl) (VTree_VisitsM_con hx12 100 101) g0 rfl rfl rfl rfl <| K.as rfl rfl <| K.nil <| At.ns ?_
  obtain ⟨x13, hx13, H0⟩ := bnd H0
  refine G.rg <| K.mv rfl rfl <| K.mv rfl rfl <| K.mv rfl rfl <| K.c0 (cf 19 rfl) (Vbridge_Prior_con hx13 100 101) g0 rfl rfl rfl rfl <| K.nil <| At.ns ?_
  obtain ⟨x14, hx14, H0⟩ := bnd H0
  refine G.rg <| K.mv rfl rfl <| K.cR (cf 28 rfl) (VTree_VisitsM_con hx14 100 101) g0 rfl rfl rfl rfl <| K.mv rfl rfl <| K.bin (V := .int .i64 (w64 (x14 - x12))) g0 rfl rfl (fun _ => rfl) rfl <| K.as rfl rfl <| K.nil <| At.ns ?_
  obtain ⟨x15, hx15, H0⟩ := bnd H0
  refine G.rg <| K.mv rfl rfl <| K.cR (cf 28 rfl) (VTree_VisitsM_con hx15 100 101) g0 rfl rfl rfl rfl <| K.as rfl rfl <| K.nil <| At.ns ?_
  obtain ⟨x16, hx16, H0⟩ := bnd H0
  refine G.rg <| K.mv rfl rfl <| K.mv rfl rfl <| K.c0 (cf 23 rfl) (Vbridge_Best_con hx16 100 101) g0 rfl rfl rfl rfl <| K.nil <| At.ns ?_
  obtain ⟨x17, hx17, H0⟩ := bnd H0
  refine G.rg <| K.mv rfl rfl <| K.mv rfl rfl <| K.c0 (cf 25 rfl) (Vbridge_Least_con hx17 100 101) g0 rfl rfl rfl rfl <| K.nil <| At.ns ?_
  obtain ⟨x18, hx18, H0⟩ := bnd H0
  refine G.rg <| K.mv rfl rfl <| K.cR (cf 28 rfl) (VTree_VisitsM_con hx18 100 101) g0 rfl rfl rfl rfl <| K.mv rfl rfl <| K.bin (V := .int .i64 (w64 (x18 - x15))) g0 rfl rfl (fun _ => rfl) rfl <| K.as rfl rfl <| K.nil <| At.ns ?_
  rcases Bool.eq_false_or_eq_true (decide ((w64 (x11 - x9)) ≤ (w64 (1000 * (w64 (x8 + 4)))))) with h4 | h4
  ·
   replace H0 := bif_t H0 h4
   rcases Bool.eq_false_or_eq_true (decide ((w64 (x14 - x12)) ≤ (w64 (1000 * (w64 (x8 + 4)))))) with h5 | h5
   ·
    replace H0 := bif_t H0 h5
    rcases Bool.eq_false_or_eq_true (decide ((w64 (x18 - x15)) ≤ (w64 (2 * (w64 (1000 * (w64 (x8 + 4)))))))) with h6 | h6
    ·
     replace H0 := bif_t H0 h6
     obtain ⟨x19, hx19, H0⟩ := bnd H0
     obtain ⟨x20, hx20, H0⟩ := bnd H0
     exact G.rg <| K.mv rfl rfl <| K.mv rfl rfl <| K.bin (V := .bool (decide ((w64 (x11 - x9)) ≤ (w64 (1000 * (w64 (x8 + 4))))))) g0 rfl rfl (fun _ => rfl) rfl <| K.mv rfl rfl <| K.move (.inl rfl) (g1 rfl rfl h4) rfl rfl <| K.move (.inl rfl) (g1 rfl rfl h4) rfl rfl <| K.bin (V := .bool (decide ((w64 (x14 - x12)) ≤ (w64 (1000 * (w64 (x8 + 4))))))) (g1 rfl rfl h4) rfl rfl (fun _ => rfl) rfl <| K.pickT g0 rfl (h4) rfl rfl <| K.mv rfl rfl <| K.move (.inl rfl) (g1 rfl rfl h5) rfl rfl <| K.move (.inl rfl) (g1 rfl rfl h5) rfl rfl <| K.bin (V := .int .i64 (w64 (2 * (w64 (1000 * (w64 (x8 + 4))))))) (g1 rfl rfl h5) rfl rfl (fun _ => rfl) rfl <| K.bin (V := .bool (decide ((w64 (x18 - x15)) ≤ (w64 (2 * (w64 (1000 * (w64 (x8 + 4))))))))) (g1 rfl rfl h5) rfl rfl (fun _ => rfl) rfl <| K.pickT g0 rfl (h5) rfl rfl <| K.mv rfl rfl <| K.move (.inl rfl) (g1 rfl rfl h6) rfl rfl <| K.c0 (cf 21 rfl) (VTree_LenM_con hx19 100 101) (g1 rfl rfl h6) rfl rfl rfl rfl <| K.move (.inl rfl) (g1 rfl rfl h6) rfl rfl <| K.cV (cf 16 rfl) [0] (fun β w S2 h => R10_Timed_con ((hI0.isC 0).larg ⟨_, List.mem_cons_self⟩ h) hx20 102 rfl) (g1 rfl rfl h6) (fun _ => rfl) rfl rfl rfl <| K.lenL (lrowV 102 52 eTR08Mark 8 x20) (lrowV_is eTR08Mark_len (by decide)) (g1 rfl rfl h6) rfl rfl Try.underlying22 rfl <| K.bin (V := .bool (x19.1 == (x20.length : Int))) (g1 rfl rfl h6) rfl rfl (fun _ => rfl) rfl <| K.pickT g0 rfl (h6) rfl rfl <| K.as rfl rfl <| K.nil <| At.next <| G.ret <| At.dr Y [6] rfl rfl (by cases H0; rfl) (by cases H0; rfl) rfl rfl rfl
    ·
     replace H0 := bif_f H0 h6
     exact G.rg <| K.mv rfl rfl <| K.mv rfl rfl <| K.bin (V := .bool (decide ((w64 (x11 - x9)) ≤ (w64 (1000 * (w64 (x8 + 4))))))) g0 rfl rfl (fun _ => rfl) rfl <| K.mv rfl rfl <| K.move (.inl rfl) (g1 rfl rfl h4) rfl rfl <| K.move (.inl rfl) (g1 rfl rfl h4) rfl rfl <| K.bin (V := .bool (decide ((w64 (x14 - x12)) ≤ (w64 (1000 * (w64 (x8 + 4))))))) (g1 rfl rfl h4) rfl rfl (fun _ => rfl) rfl <| K.pickT g0 rfl (h4) rfl rfl <| K.mv rfl rfl <| K.move (.inl rfl) (g1 rfl rfl h5) rfl rfl <| K.move (.inl rfl) (g1 rfl rfl h5) rfl rfl <| K.bin (V := .int .i64 (w64 (2 * (w64 (1000 * (w64 (x8 + 4))))))) (g1 rfl rfl h5) rfl rfl (fun _ => rfl) rfl <| K.bin (V := .bool (decide ((w64 (x18 - x15)) ≤ (w64 (2 * (w64 (1000 * (w64 (x8 + 4))))))))) (g1 rfl rfl h5) rfl rfl (fun _ => rfl) rfl <| K.pickT g0 rfl (h5) rfl rfl <| K.mv rfl rfl <| K.sk rfl rfl h6 rfl <| K.sk rfl rfl h6 rfl <| K.sk rfl rfl h6 rfl <| K.sk rfl rfl h6 rfl <| K.sk rfl rfl h6 rfl <| K.sk rfl rfl h6 rfl <| K.pickF g0 rfl (h6) rfl rfl <| K.as rfl rfl <| K.nil <| At.next <| G.ret <| At.dr Y [6] rfl rfl (by cases H0; rfl) (by cases H0; rfl) rfl rfl rfl
   ·
    replace H0 := bif_f H0 h5
    exact G.rg <| K.mv rfl rfl <| K.mv rfl rfl <| K.bin (V := .bool (decide ((w64 (x11 - x9)) ≤ (w64 (1000 * (w64 (x8 + 4))))))) g0 rfl rfl (fun _ => rfl) rfl <| K.mv rfl rfl <| K.move (.inl rfl) (g1 rfl rfl h4) rfl rfl <| K.move (.inl rfl) (g1 rfl rfl h4) rfl rfl <| K.bin (V := .bool (decide ((w64 (x14 - x12)) ≤ (w64 (1000 * (w64 (x8 + 4))))))) (g1 rfl rfl h4) rfl rfl (fun _ => rfl) rfl <| K.pickT g0 rfl (h4) rfl rfl <| K.mv rfl rfl <| K.sk rfl rfl h5 rfl <| K.sk rfl rfl h5 rfl <| K.sk rfl rfl h5 rfl <| K.sk rfl rfl h5 rfl <| K.pickF g0 rfl (h5) rfl rfl <| K.mv rfl rfl <| K.sk rfl rfl rfl rfl <| K.sk rfl rfl rfl rfl <| K.sk rfl rfl rfl rfl <| K.sk rfl rfl rfl rfl <| K.sk rfl rfl rfl rfl <| K.sk rfl rfl rfl rfl <| K.pickF g0 rfl (rfl) rfl rfl <| K.as rfl rfl <| K.nil <| At.next <| G.ret <| At.dr Y [6] rfl rfl (by cases H0; rfl) (by cases H0; rfl) rfl rfl rfl
  ·
   replace H0 := bif_f H0 h4
   exact G.rg <| K.mv rfl rfl <| K.mv rfl rfl <| K.bin (V := .bool (decide ((w64 (x11 - x9)) ≤ (w64 (1000 * (w64 (x8 + 4))))))) g0 rfl rfl (fun _ => rfl) rfl <| K.mv rfl rfl <| K.sk rfl rfl h4 rfl <| K.sk rfl rfl h4 rfl <| K.sk rfl rfl h4 rfl <| K.pickF g0 rfl (h4) rfl rfl <| K.mv rfl rfl <| K.sk rfl rfl rfl rfl <| K.sk rfl rfl rfl rfl <| K.sk rfl rfl rfl rfl <| K.sk rfl rfl rfl rfl <| K.pickF g0 rfl (rfl) rfl rfl <| K.mv rfl rfl <| K.sk rfl rfl rfl rfl <| K.sk rfl rfl rfl rfl <| K.sk rfl rfl rfl rfl <| K.sk rfl rfl rfl rfl <| K.sk rfl rfl rfl rfl <| K.sk rfl rfl rfl rfl <| K.pickF g0 rfl (rfl) rfl rfl <| K.as rfl rfl <| K.nil <| At.next <| G.ret <| At.dr Y [6] rfl rfl (by cases H0; rfl) (by cases H0; rfl) rfl rfl rfl
end Go.Proofs.Ythcehagablploaa
namespace Go.Proofs.Ythcehagablploaa
open Go Go.Proofs.Ythcehagablploaa.Sx
theorem w64_id {x : Int} (h0 : -9223372036854775808 ≤ x) (h1 : x < 9223372036854775808) : w64 x = x := by simp only [w64, IntKind.wrap_i64]; omega
theorem w64_succ {i : Nat} (h : i < 4611686018427387904) : w64 ((i : Int) + 1) = ((i + 1 : Nat) : Int) := by rw [w64_id (by omega) (by omega)]; omega
theorem atL_nat {α : Type} {l : List α} {i : Nat} {x : α} (h : l[i]? = some x) : atL l (i : Int) = some x := by
  unfold atL
  have : ¬ ((i : Int) < 0) := by omega
  simp [this, h]
theorem drop_cons {α : Type} {l : List α} {i : Nat} (h : i < l.length) : ∃ x, l[i]? = some x ∧ l.drop i = x :: l.drop (i + 1) :=
  ⟨l[i], List.getElem?_eq_getElem h, List.drop_eq_getElem_cons h⟩
theorem dec_lt {i n : Nat} (h : i < n) : decide ((i : Int) < (n : Int)) = true := by simp; omega
theorem dec_nlt {i n : Nat} (h : n ≤ i) : decide ((i : Int) < (n : Int)) = false := by simp; omega
end Go.Proofs.Ythcehagablploaa
namespace Go.Proofs.Ythcehagablploaa
open Go Go.Proofs.Ythcehagablploaa.Sx
theorem ref_ext {a b : TRef} (h1 : a.index = b.index) (h2 : a.gen = b.gen) : a = b := by cases a; cases b; simp_all
instance : DecidableEq TRef := fun a b => if h : a.index = b.index ∧ a.gen = b.gen then .isTrue (ref_ext h.1 h.2) else .isFalse (fun e => h (by rw [e]; exact ⟨rfl, rfl⟩))
section
variable {α : Type} {z : α}
def look (p : Pool α) (r : TRef) : Option α := (lookC p.cells r.index r.gen).map (·.v)
structure PW (p : Pool α) (L : List TRef) (B : Nat) : Prop where
  len : p.cells.length ≤ B
  small : B < 4294967295
  room : p.free.length + L.length ≤ p.cells.length
  nodup : p.free.Nodup
  free : ∀ i ∈ p.free, 0 ≤ i ∧ ∃ c, p.cells[i.toNat]? = some c ∧ c.live = false ∧ c.gen < 4294967295
  gen : ∀ c ∈ p.cells, 0 ≤ c.gen ∧ c.gen ≤ 4294967295 ∧ (c.live = true → 1 ≤ c.gen)
  live : ∀ r, (look p r).isSome = true ↔ r ∈ L
  ld : L.Nodup
  held : p.held = (L.length : Int)
theorem PW.ok {p : Pool α} {L : List TRef} {B : Nat} (h : PW p L B) : pOk p := by
  refine ⟨Nat.lt_of_le_of_lt h.len h.small, ?_, fun i hi => ?_⟩
  · have := h.room; have := h.len; have := h.small; omega
  · obtain ⟨h0, c, hc, _⟩ := h.free i hi
    exact ⟨h0, (List.getElem?_eq_some_iff.1 hc).1⟩
theorem PW.dok {p : Pool α} {L : List TRef} {B : Nat} (h : PW p L B) : decide (pOk p) = true := decide_eq_true h.ok
theorem PW.mono {p : Pool α} {L : List TRef} {B B' : Nat} (h : PW p L B) (hB : B ≤ B') (hs : B' < 4294967295) : PW p L B' := ⟨Nat.le_trans h.len hB, hs, h.room, h.nodup, h.free, h.gen, h.live, h.ld, h.held⟩
theorem PW.perm {p : Pool α} {L L' : List TRef} {B : Nat} (h : PW p L B) (hp : L.Perm L') : PW p L' B :=
  ⟨h.len, h.small, by rw [← hp.length_eq]; exact h.room, h.nodup, h.free, h.gen, fun r => (h.live r).trans hp.mem_iff, hp.nodup_iff.1 h.ld, by rw [← hp.length_eq]; exact h.held⟩
theorem PW.new (c : Int) (B : Nat) (hB : B < 4294967295) : PW (⟨[], [], c, 0, 0⟩ : Pool α) [] B :=
  ⟨Nat.zero_le _, hB, Nat.le_refl _, List.Pairwise.nil, fun i hi => (by cases hi), fun c hc => (by cases hc), fun r => by simp [look, lookC], List.Pairwise.nil, rfl⟩
theorem look_cell {p : Pool α} {r : TRef} {v : α} (h : look p r = some v) : ∃ (n : Nat) (c : Cell α), r.index = n ∧ p.cells[n]? = some c ∧ c.live = true ∧ c.gen = r.gen ∧ c.v = v ∧ lookC p.cells r.index r.gen = some c := by
  unfold look at h
  cases hc : lookC p.cells r.index r.gen with
  | none => rw [hc] at h; cases h
  | some c =>
    rw [hc] at h
    obtain ⟨n, h1, h2, h3, h4⟩ := lookC_some hc
    exact ⟨n, c, h1, h2, h3, h4, by simpa using h, rfl⟩
theorem lookC_at {cells : List (Cell α)} {n : Nat} {g : Int} : lookC cells (n : Int) g = match cells[n]? with | some c => if c.live = true ∧ c.gen = g then some c else none | none => none := by
  unfold lookC
  rw [if_neg (by omega), Int.toNat_natCast]
  cases cells[n]? <;> rfl
theorem PW.get {p : Pool α} {L : List TRef} {B : Nat} (h : PW p L B) {r : TRef} {v : α} (hl : look p r = some v) : pGet z p r.index r.gen = some (v, true) := by
  obtain ⟨n, c, h1, h2, h3, h4, h5, h6⟩ := look_cell hl
  unfold pGet Pool.get
  rw [h.dok, h6]
  simp [h5]
theorem PW.mem {p : Pool α} {L : List TRef} {B : Nat} (h : PW p L B) {r : TRef} {v : α} (hl : look p r = some v) : r ∈ L := (h.live r).1 (by rw [hl]; rfl)
theorem PW.ex {p : Pool α} {L : List TRef} {B : Nat} (h : PW p L B) {r : TRef} (hr : r ∈ L) : ∃ v, look p r = some v := Option.isSome_iff_exists.1 ((h.live r).2 hr)
theorem PW.gen_ne {p : Pool α} {L : List TRef} {B : Nat} (h : PW p L B) {r : TRef} (hr : r ∈ L) : r.gen ≠ 0 := by
  obtain ⟨v, hv⟩ := h.ex hr
  obtain ⟨n, c, h1, h2, h3, h4, h5, h6⟩ := look_cell hv
  have := (h.gen c (List.mem_of_getElem? h2)).2.2 h3
  omega
theorem look_set {cells : List (Cell α)} {n : Nat} {c : Cell α} (hc : cells[n]? = some c) (c' : Cell α) (r : TRef) : lookC (cells.set n c') r.index r.gen = if r.index = n then (if c'.live = true ∧ c'.gen = r.gen then some c' else none) else lookC cells r.index r.gen := by
  have hlt := (List.getElem?_eq_some_iff.1 hc).1
  by_cases h : r.index = n
  · rw [if_pos h, h, lookC_at]
    simp [hlt]
  · rw [if_neg h]
    unfold lookC
    by_cases h0 : r.index < 0
    · rw [if_pos h0, if_pos h0]
    · rw [if_neg h0, if_neg h0, List.getElem?_set_ne (by omega)]
theorem PW.set {p : Pool α} {L : List TRef} {B : Nat} (h : PW p L B) {r : TRef} {v : α} (hl : look p r = some v) (v' : α) :
    ∃ p', pSet p r.index r.gen v' = some (true, p') ∧ PW p' L B ∧ look p' r = some v' ∧ (∀ x, x ≠ r → look p' x = look p x) ∧ p'.cap = p.cap := by
  obtain ⟨n, c, h1, h2, h3, h4, h5, h6⟩ := look_cell hl
  have hlt := (List.getElem?_eq_some_iff.1 h2).1
  refine ⟨(p.set r.index r.gen v').2, ?_, ?_, ?_, ?_, ?_⟩
  · unfold pSet
    rw [h.dok]
    simp only [cond_true]
    unfold Pool.set
    rw [h6]
  all_goals (unfold Pool.set; rw [h6]; try simp only [h1, Int.toNat_natCast])
  · have hlook : ∀ x, (look ({ p with cells := p.cells.set n { c with v := v' }, vis := IntKind.i64.wrap (p.vis + 1) } : Pool α) x).isSome = (look p x).isSome := by
      intro x
      unfold look
      simp only [look_set h2]
      by_cases hx : x.index = n
      · rw [if_pos hx, hx, lookC_at, h2]
        simp only
        by_cases hg : c.live = true ∧ c.gen = x.gen
        · rw [if_pos hg, if_pos hg]; rfl
        · rw [if_neg hg, if_neg hg]
      · rw [if_neg hx]
    refine ⟨by simpa using h.len, h.small, by simpa using h.room, h.nodup, fun i hi => ?_, fun d hd => ?_, fun x => by rw [hlook]; exact h.live x, h.ld, h.held⟩
    · obtain ⟨h0, d, hd, hl', hg⟩ := h.free i hi
      refine ⟨h0, d, ?_, hl', hg⟩
      have : n ≠ i.toNat := by rintro rfl; rw [h2] at hd; cases hd; rw [h3] at hl'; cases hl'
      simp only
      rw [List.getElem?_set_ne this]; exact hd
    · rcases List.mem_or_eq_of_mem_set hd with hd | rfl
      · exact h.gen d hd
      · exact h.gen c (List.mem_of_getElem? h2)
  · have := look_set h2 { c with v := v' } r
    rw [if_pos h1, if_pos ⟨h3, h4⟩] at this
    unfold look
    simp only
    rw [this]; rfl
  · intro x hx
    unfold look
    simp only [look_set h2]
    by_cases hi : x.index = n
    · rw [if_pos hi, hi, lookC_at, h2]
      have : ¬ (c.live = true ∧ c.gen = x.gen) := fun hc => hx (ref_ext (hi.trans h1.symm) (hc.2.symm.trans h4))
      simp only
      rw [if_neg this, if_neg this]
    · rw [if_neg hi]
theorem PW.put_full {p : Pool α} {L : List TRef} {B : Nat} (h : PW p L B) (hc : (L.length : Int) = p.cap) (v : α) : pPut z p v = some (((0, 0), false), p) := by
  unfold pPut Pool.put
  rw [h.dok, if_pos (h.held.trans hc)]
  rfl
theorem PW.put {p : Pool α} {L : List TRef} {B : Nat} (h : PW p L B) (hc : (L.length : Int) ≠ p.cap) (hB : B + 1 < 4294967295) (v : α) :
    ∃ (r : TRef) (p' : Pool α), pPut z p v = some (((r.index, r.gen), true), p') ∧ r ∉ L ∧ r.gen ≠ 0 ∧ PW p' (r :: L) (B + 1) ∧ look p' r = some v ∧ (∀ x, x ≠ r → look p' x = look p x) ∧ p'.cap = p.cap := by
  have hh : ¬ p.held = p.cap := fun e => hc (h.held.symm.trans e)
  have hr := h.room
  have hheld : IntKind.i64.wrap (p.held + 1) = ((L.length + 1 : Nat) : Int) := by
    have e := h.held
    have hB2 := h.len
    rw [show IntKind.i64.wrap (p.held + 1) = w64 (p.held + 1) from rfl, w64_id (by omega) (by omega)]; omega
  cases hl : p.free.getLast? with
  | none =>
    have hf : p.free = [] := by simpa using hl
    have hnx : p.next z = ((p.cells.length : Int), { p with cells := p.cells ++ [⟨z, 0, false⟩] }) := by unfold Pool.next; rw [hl]
    have hcc : (p.cells ++ [⟨z, 0, false⟩])[p.cells.length]? = some ⟨z, 0, false⟩ := by simp
    have hput : p.put z v = ((((p.cells.length : Int), 1), true), ⟨p.cells ++ [⟨v, 1, true⟩], p.free, p.cap, IntKind.i64.wrap (p.held + 1), p.vis⟩) := by
      unfold Pool.put
      rw [if_neg hh, hnx]
      simp only [Int.toNat_natCast, hcc, Pool.lay]
      simp
      rfl
    have hlook : ∀ x : TRef, lookC (p.cells ++ [⟨v, 1, true⟩]) x.index x.gen = if x.index = (p.cells.length : Int) then (if (1 : Int) = x.gen then some ⟨v, 1, true⟩ else none) else lookC p.cells x.index x.gen := by
      intro x
      by_cases hi : x.index = (p.cells.length : Int)
      · rw [if_pos hi, hi, lookC_at]; simp
      · rw [if_neg hi]
        unfold lookC
        by_cases h0 : x.index < 0
        · rw [if_pos h0, if_pos h0]
        · rw [if_neg h0, if_neg h0]
          by_cases h1 : x.index.toNat < p.cells.length
          · rw [List.getElem?_append_left h1]
          · rw [List.getElem?_eq_none (by simp; omega), List.getElem?_eq_none (by omega)]
    have hnone : ∀ g : Int, look p ⟨(p.cells.length : Int), g⟩ = none := by intro g; unfold look; simp [lookC_at]
    refine ⟨⟨(p.cells.length : Int), 1⟩, ⟨p.cells ++ [⟨v, 1, true⟩], p.free, p.cap, IntKind.i64.wrap (p.held + 1), p.vis⟩, by unfold pPut; rw [h.dok, hput]; rfl, ?_, by simp, ?_, ?_, ?_, rfl⟩
    · intro hm
      have := (h.live _).2 hm
      rw [hnone] at this; cases this
    · refine ⟨by have := h.len; simp; omega, hB, by simp [hf]; simp [hf] at hr; omega, h.nodup, fun i hi => (by rw [hf] at hi; cases hi), fun d hd => ?_, fun x => ?_, ?_, hheld⟩
      · rcases List.mem_append.1 hd with hd | hd
        · exact h.gen d hd
        · simp at hd; subst hd; simp
      · unfold look
        simp only [hlook]
        by_cases hi : x.index = (p.cells.length : Int)
        · rw [if_pos hi]
          by_cases hg : (1 : Int) = x.gen
          · rw [if_pos hg]
            simp only [Option.map_some, Option.isSome_some, List.mem_cons, true_iff]
            exact .inl (ref_ext hi hg.symm)
          · rw [if_neg hg]
            simp only [Option.map_none, Option.isSome_none, Bool.false_eq_true, List.mem_cons, false_iff, not_or]
            refine ⟨fun e => hg (by rw [e]), fun hm => ?_⟩
            have := (h.live _).2 hm
            rw [show x = ⟨(p.cells.length : Int), x.gen⟩ from ref_ext hi rfl, hnone] at this; cases this
        · rw [if_neg hi]
          have := h.live x
          unfold look at this
          rw [this, List.mem_cons]
          exact ⟨.inr, fun hm => hm.resolve_left (fun e => hi (by rw [e]))⟩
      · refine List.nodup_cons.2 ⟨fun hm => ?_, h.ld⟩
        have := (h.live _).2 hm
        rw [hnone] at this; cases this
    · have := hlook ⟨(p.cells.length : Int), 1⟩
      rw [if_pos rfl, if_pos rfl] at this
      unfold look
      simp only
      rw [this]; rfl
    · intro x hx
      unfold look
      simp only [hlook]
      by_cases hi : x.index = (p.cells.length : Int)
      · rw [if_pos hi]
        have : ¬ ((1 : Int) = x.gen) := fun e => hx (ref_ext hi e.symm)
        rw [if_neg this, hi, lookC_at]; simp
      · rw [if_neg hi]
  | some i =>
    have hm : i ∈ p.free := List.mem_of_getLast? hl
    obtain ⟨h0, c, hcell, hlv, hg⟩ := h.free i hm
    have hlt := (List.getElem?_eq_some_iff.1 hcell).1
    have hsplit : p.free = p.free.dropLast ++ [i] := by
      have hne : p.free ≠ [] := List.ne_nil_of_mem hm
      have := List.dropLast_concat_getLast hne
      rw [List.getLast?_eq_some_getLast hne] at hl
      simp at hl; rw [hl] at this; exact this.symm
    have hgc := h.gen c (List.mem_of_getElem? hcell)
    have hnx : p.next z = (i, { p with free := p.free.dropLast }) := by unfold Pool.next; rw [hl]
    have hgw : IntKind.i64.wrap (c.gen + 1) = c.gen + 1 := by
      rw [show IntKind.i64.wrap (c.gen + 1) = w64 (c.gen + 1) from rfl, w64_id (by omega) (by omega)]
    have hput : p.put z v = (((i, c.gen + 1), true), ⟨p.cells.set i.toNat ⟨v, c.gen + 1, true⟩, p.free.dropLast, p.cap, IntKind.i64.wrap (p.held + 1), p.vis⟩) := by
      unfold Pool.put
      rw [if_neg hh, hnx]
      simp only [hcell, Pool.lay, hgw]
    have hnone : ∀ x : TRef, x.index = i → look p x = none := by
      intro x hx
      unfold look
      have : lookC p.cells x.index x.gen = none := by
        rw [hx, show i = ((i.toNat : Nat) : Int) by omega, lookC_at, hcell]
        simp [hlv]
      rw [this]; rfl
    have hii : ∀ x : TRef, x.index = ((i.toNat : Nat) : Int) ↔ x.index = i := fun x => by omega
    refine ⟨⟨i, c.gen + 1⟩, ⟨p.cells.set i.toNat ⟨v, c.gen + 1, true⟩, p.free.dropLast, p.cap, IntKind.i64.wrap (p.held + 1), p.vis⟩, by unfold pPut; rw [h.dok, hput]; rfl, ?_, by simp; omega, ?_, ?_, ?_, rfl⟩
    · intro hmm
      have := (h.live _).2 hmm
      rw [hnone _ rfl] at this; cases this
    · have hdl : p.free.dropLast.length = p.free.length - 1 := by simp
      have hfp : 0 < p.free.length := List.length_pos_of_mem hm
      refine ⟨by have := h.len; simp; omega, hB, by simp; omega, ?_, fun j hj => ?_, fun d hd => ?_, fun x => ?_, ?_, hheld⟩
      · have := h.nodup
        rw [hsplit] at this
        exact (List.nodup_append.1 this).1
      · have hj' : j ∈ p.free := by rw [hsplit]; exact List.mem_append_left _ hj
        obtain ⟨j0, d, hd, hl', hg'⟩ := h.free j hj'
        refine ⟨j0, d, ?_, hl', hg'⟩
        have hne : i.toNat ≠ j.toNat := by
          intro e
          have : i = j := by omega
          subst this
          have hn := h.nodup
          rw [hsplit] at hn
          exact (List.nodup_append.1 hn).2.2 i hj i (by simp) rfl
        simp only
        rw [List.getElem?_set_ne hne]; exact hd
      · rcases List.mem_or_eq_of_mem_set hd with hd | rfl
        · exact h.gen d hd
        · exact ⟨by simp only; omega, by simp only; omega, fun _ => by simp only; omega⟩
      · unfold look
        simp only [look_set hcell, hii]
        by_cases hi : x.index = i
        · rw [if_pos hi]
          by_cases hgx : c.gen + 1 = x.gen
          · simp only [hgx, and_self, if_true, Option.map_some, Option.isSome_some, List.mem_cons, true_iff]
            exact .inl (ref_ext hi rfl)
          · simp only [hgx, and_false, if_false, Option.map_none, Option.isSome_none, Bool.false_eq_true, List.mem_cons, false_iff, not_or]
            refine ⟨fun e => hgx (by rw [e]), fun hmm => ?_⟩
            have := (h.live _).2 hmm
            rw [hnone _ hi] at this; cases this
        · rw [if_neg hi]
          have := h.live x
          unfold look at this
          rw [this, List.mem_cons]
          exact ⟨.inr, fun hmm => hmm.resolve_left (fun e => hi (by rw [e]))⟩
      · refine List.nodup_cons.2 ⟨fun hmm => ?_, h.ld⟩
        have := (h.live _).2 hmm
        rw [hnone _ rfl] at this; cases this
    · have := look_set hcell ⟨v, c.gen + 1, true⟩ ⟨i, c.gen + 1⟩
      rw [if_pos (by simp only; omega), if_pos ⟨rfl, rfl⟩] at this
      unfold look
      simp only
      rw [this]; rfl
    · intro x hx
      by_cases hi : x.index = i
      · rw [hnone x hi]
        unfold look
        simp only [look_set hcell, hii]
        have : ¬ (c.gen + 1 = x.gen) := fun e => hx (ref_ext hi e.symm)
        rw [if_pos hi]; simp [this]
      · unfold look
        simp only [look_set hcell, hii]
        rw [if_neg hi]
end
end Go.Proofs.Ythcehagablploaa
namespace Go.Proofs.Ythcehagablploaa
open Go Go.Proofs.Ythcehagablploaa.Sx
inductive Tr (E : Type) where
  | nil
  | node (r : TRef) (e : E) (l u : Tr E)
namespace Tr
variable {E : Type}
def size : Tr E → Nat
  | nil => 0
  | node _ _ l u => l.size + 1 + u.size
abbrev w (t : Tr E) : Nat := t.size + 1
def toList : Tr E → List E
  | nil => []
  | node _ e l u => l.toList ++ e :: u.toList
def refs : Tr E → List TRef
  | nil => []
  | node r _ l u => l.refs ++ r :: u.refs
theorem len_toList : ∀ t : Tr E, t.toList.length = t.size
  | nil => rfl
  | node _ _ l u => by simp only [toList, List.length_append, List.length_cons, len_toList l, len_toList u, size]; omega
theorem len_refs : ∀ t : Tr E, t.refs.length = t.size
  | nil => rfl
  | node _ _ l u => by simp only [refs, List.length_append, List.length_cons, len_refs l, len_refs u, size]; omega
def turnL : Tr E → Tr E
  | node r e l (node r2 e2 a b) => node r2 e2 (node r e l a) b
  | t => t
def turnR : Tr E → Tr E
  | node r e (node r2 e2 a b) u => node r2 e2 a (node r e b u)
  | t => t
def bal : Tr E → Tr E
  | nil => nil
  | node r e l u =>
    if u.w > 3 * l.w then (match u with
      | node r2 e2 a b => if a.w ≥ 2 * b.w then turnL (node r e l (turnR (node r2 e2 a b))) else turnL (node r e l (node r2 e2 a b))
      | nil => node r e l u)
    else if l.w > 3 * u.w then (match l with
      | node r2 e2 a b => if b.w ≥ 2 * a.w then turnR (node r e (turnL (node r2 e2 a b)) u) else turnR (node r e (node r2 e2 a b) u)
      | nil => node r e l u)
    else node r e l u
def link : Nat → Tr E → TRef → E → Tr E → Tr E
  | 0, l, r, e, u => node r e l u
  | n + 1, l, r, e, u =>
    if u.w > 3 * l.w then (match u with
      | node r2 e2 a b => bal (node r2 e2 (link n l r e a) b)
      | nil => node r e l u)
    else if l.w > 3 * u.w then (match l with
      | node r2 e2 a b => bal (node r2 e2 a (link n b r e u))
      | nil => node r e l u)
    else node r e l u
theorem bal_node (r : TRef) (e : E) (l u : Tr E) : bal (node r e l u) =
    if u.w > 3 * l.w then (match u with
      | node r2 e2 a b => if a.w ≥ 2 * b.w then turnL (node r e l (turnR (node r2 e2 a b))) else turnL (node r e l (node r2 e2 a b))
      | nil => node r e l u)
    else if l.w > 3 * u.w then (match l with
      | node r2 e2 a b => if b.w ≥ 2 * a.w then turnR (node r e (turnL (node r2 e2 a b)) u) else turnR (node r e (node r2 e2 a b) u)
      | nil => node r e l u)
    else node r e l u := by rw [bal.eq_def]
theorem link_succ (n : Nat) (l : Tr E) (r : TRef) (e : E) (u : Tr E) : link (n + 1) l r e u =
    if u.w > 3 * l.w then (match u with
      | node r2 e2 a b => bal (node r2 e2 (link n l r e a) b)
      | nil => node r e l u)
    else if l.w > 3 * u.w then (match l with
      | node r2 e2 a b => bal (node r2 e2 a (link n b r e u))
      | nil => node r e l u)
    else node r e l u := by rw [link.eq_def]
theorem turnL_list (t : Tr E) : t.turnL.toList = t.toList := by
  unfold turnL; split <;> simp [toList]
theorem turnR_list (t : Tr E) : t.turnR.toList = t.toList := by
  unfold turnR; split <;> simp [toList]
theorem turnL_refs (t : Tr E) : t.turnL.refs = t.refs := by
  unfold turnL; split <;> simp [refs]
theorem turnR_refs (t : Tr E) : t.turnR.refs = t.refs := by
  unfold turnR; split <;> simp [refs]
theorem bal_list (t : Tr E) : t.bal.toList = t.toList := by
  cases t with
  | nil => rfl
  | node r e l u =>
    rw [bal_node]
    split
    · cases u with
      | nil => rfl
      | node r2 e2 a b =>
        simp only
        split
        · rw [turnL_list]; simp only [toList]; rw [turnR_list]; simp [toList]
        · rw [turnL_list]
    · split
      · cases l with
        | nil => rfl
        | node r2 e2 a b =>
          simp only
          split
          · rw [turnR_list]; simp only [toList]; rw [turnL_list]; simp [toList]
          · rw [turnR_list]
      · rfl
theorem bal_refs (t : Tr E) : t.bal.refs = t.refs := by
  cases t with
  | nil => rfl
  | node r e l u =>
    rw [bal_node]
    split
    · cases u with
      | nil => rfl
      | node r2 e2 a b =>
        simp only
        split
        · rw [turnL_refs]; simp only [refs]; rw [turnR_refs]; simp [refs]
        · rw [turnL_refs]
    · split
      · cases l with
        | nil => rfl
        | node r2 e2 a b =>
          simp only
          split
          · rw [turnR_refs]; simp only [refs]; rw [turnL_refs]; simp [refs]
          · rw [turnR_refs]
      · rfl
theorem link_list : ∀ (n : Nat) (l : Tr E) (r : TRef) (e : E) (u : Tr E), (link n l r e u).toList = l.toList ++ e :: u.toList
  | 0, l, r, e, u => rfl
  | n + 1, l, r, e, u => by
    rw [link_succ]
    split
    · cases u with
      | nil => rfl
      | node r2 e2 a b => simp only [bal_list, toList, link_list n l r e a]; simp
    · split
      · cases l with
        | nil => rfl
        | node r2 e2 a b => simp only [bal_list, toList, link_list n b r e u]; simp
      · rfl
theorem link_refs : ∀ (n : Nat) (l : Tr E) (r : TRef) (e : E) (u : Tr E), (link n l r e u).refs = l.refs ++ r :: u.refs
  | 0, l, r, e, u => rfl
  | n + 1, l, r, e, u => by
    rw [link_succ]
    split
    · cases u with
      | nil => rfl
      | node r2 e2 a b => simp only [bal_refs, refs, link_refs n l r e a]; simp
    · split
      · cases l with
        | nil => rfl
        | node r2 e2 a b => simp only [bal_refs, refs, link_refs n b r e u]; simp
      · rfl
theorem link_size (n : Nat) (l : Tr E) (r : TRef) (e : E) (u : Tr E) : (link n l r e u).size = l.size + 1 + u.size := by
  rw [← len_toList, link_list]; simp [len_toList]; omega
end Tr
structure OpsOk {E A : Type} (O : Ops E A) (k N : Nat) (G : E → Prop) (S : A → List E → Prop) (lt : E → E → Prop) : Prop where
  cmp : ∀ a b, ∃ c, O.cmp k a b = some c ∧ (c < 0 ↔ lt a b) ∧ (c > 0 ↔ lt b a)
  sum : ∀ e, G e → ∃ s, O.sum k e = some s ∧ S s [e]
  plus : ∀ {a b l r}, S a l → S b r → (∀ e ∈ l ++ r, G e) → (l ++ r).length < N → ∃ c, O.plus k a b = some c ∧ S c (l ++ r)
  zero : S O.zA []
  irrefl : ∀ a, ¬ lt a a
  trans : ∀ {a b c}, lt a b → lt b c → lt a c
  left : ∀ {a b c}, ¬ lt a b → ¬ lt b a → lt a c → lt b c
  right : ∀ {a b c}, ¬ lt a b → ¬ lt b a → lt c a → lt c b
  big : N < 4294967296
section
variable {E A : Type} {O : Ops E A} {k N : Nat} {G : E → Prop} {S : A → List E → Prop} {lt : E → E → Prop}
abbrev PN (E A : Type) := Pool (TNode E A)
def Rep (S : A → List E → Prop) (p : PN E A) : TRef → Tr E → Prop
  | r, .nil => r = zTRef
  | r, .node r' e l u => r = r' ∧ r.gen ≠ 0 ∧ ∃ n, look p r = some n ∧ n.e = e ∧ n.size = ((l.size + 1 + u.size : Nat) : Int) ∧ S n.sum (l.toList ++ e :: u.toList) ∧ Rep S p n.left l ∧ Rep S p n.right u
theorem Rep.frame {p p' : PN E A} : ∀ {t : Tr E} {r : TRef}, Rep S p r t → (∀ x ∈ t.refs, look p' x = look p x) → Rep S p' r t
  | .nil, _, h, _ => h
  | .node r' e l u, r, ⟨h1, h2, n, h3, h4, h5, h6, h7, h8⟩, hf => by
    subst h1
    refine ⟨rfl, h2, n, (hf r (by simp [Tr.refs])).trans h3, h4, h5, h6, h7.frame (fun x hx => hf x (by simp [Tr.refs, hx])), h8.frame (fun x hx => hf x (by simp [Tr.refs, hx]))⟩
theorem Rep.sub {p : PN E A} {L : List TRef} {B : Nat} (hP : PW p L B) : ∀ {t : Tr E} {r : TRef}, Rep S p r t → ∀ x ∈ t.refs, x ∈ L
  | .nil, _, _, x, hx => by simp [Tr.refs] at hx
  | .node r' e l u, r, ⟨h1, h2, n, h3, h4, h5, h6, h7, h8⟩, x, hx => by
    subst h1
    simp only [Tr.refs, List.mem_append, List.mem_cons] at hx
    rcases hx with hx | rfl | hx
    · exact h7.sub hP x hx
    · exact hP.mem h3
    · exact h8.sub hP x hx
theorem Rep.nil_iff {p : PN E A} {r : TRef} {t : Tr E} (h : Rep S p r t) : r.gen = 0 ↔ t = .nil := by
  cases t with
  | nil => have : r = zTRef := h; rw [this]; simp
  | node r' e l u => obtain ⟨h1, h2, _⟩ := h; simp [h2]
structure IsN (S : A → List E → Prop) (p : PN E A) (r : TRef) (t : Tr E) (n : TNode E A) : Prop where
  size : n.size = (t.size : Int)
  sum : S n.sum t.toList
  node : ∀ {r' e l u}, t = .node r' e l u → r = r' ∧ n.e = e ∧ Rep S p n.left l ∧ Rep S p n.right u ∧ look p r = some n
theorem get_ok (ok : OpsOk O k N G S lt) {p : PN E A} {L : List TRef} {B : Nat} (hP : PW p L B) {t : Tr E} {r : TRef} (h : Rep S p r t) : ∃ n, Tree_get.f O k p r = some n ∧ IsN S p r t n := by
  unfold Tree_get.f
  cases t with
  | nil =>
    have : r = zTRef := h
    subst this
    exact ⟨zNode O, rfl, rfl, ok.zero, fun e => by cases e⟩
  | node r' e l u =>
    obtain ⟨h1, h2, n, h3, h4, h5, h6, h7, h8⟩ := h
    subst h1
    have e0 : (r.gen == 0) = false := by simpa using h2
    refine ⟨n, ?_, h5, by rw [Tr.toList]; exact h6, fun e => by cases e; exact ⟨rfl, h4, h7, h8, h3⟩⟩
    rw [e0, hP.get h3]; rfl
theorem weight_ok (ok : OpsOk O k N G S lt) {p : PN E A} {L : List TRef} {B : Nat} (hP : PW p L B) {t : Tr E} {r : TRef} (h : Rep S p r t) (hs : t.size < 4294967296) : Tree_weight.f O k p r = some ((t.w : Nat) : Int) := by
  obtain ⟨n, h1, h2⟩ := get_ok ok hP h
  unfold Tree_weight.f
  rw [h1]
  simp only [Option.bind_some, h2.size]
  rw [w64_id (by omega) (by omega)]
  rfl
structure Left (S : A → List E → Prop) (p p' : PN E A) (L : List TRef) (B : Nat) (r : TRef) (t : Tr E) (F : List TRef) : Prop where
  pw : PW p' L B
  rep : Rep S p' r t
  frame : ∀ x, x ∉ F → look p' x = look p x
  cap : p'.cap = p.cap
theorem lay_ok (ok : OpsOk O k N G S lt) {p : PN E A} {L : List TRef} {B : Nat} (hP : PW p L B) {r a b : TRef} {n0 : TNode E A} (hr : look p r = some n0) {l u : Tr E} (hl : Rep S p a l) (hu : Rep S p b u)
    (h1 : r ∉ l.refs) (h2 : r ∉ u.refs) (hG : ∀ e ∈ l.toList ++ n0.e :: u.toList, G e) (hN : l.size + 1 + u.size < N) : ∃ p', Tree_lay.f O k p r a b = some (r, p') ∧ Left S p p' L B r (.node r n0.e l u) [r] := by
  have hg := hP.gen_ne (hP.mem hr)
  have e0 : (r.gen == 0) = false := by simpa using hg
  have hget : Tree_get.f O k p r = some n0 := by unfold Tree_get.f; rw [e0, hP.get hr]; rfl
  obtain ⟨nl, l1, l2⟩ := get_ok ok hP hl
  obtain ⟨nu, u1, u2⟩ := get_ok ok hP hu
  obtain ⟨s, s1, s2⟩ := ok.sum n0.e (hG _ (by simp))
  obtain ⟨c1, c2, c3⟩ := ok.plus l2.sum s2 (fun e he => hG e (by simp at he ⊢; rcases he with he | he; exact .inl he; exact .inr (.inl he))) (by simp [Tr.len_toList]; omega)
  obtain ⟨d1, d2, d3⟩ := ok.plus c3 u2.sum (fun e he => hG e (by simpa [or_assoc] using he)) (by simp [Tr.len_toList]; omega)
  have hb := ok.big
  have hsz : w64 (w64 (nl.size + 1) + nu.size) = ((l.size + 1 + u.size : Nat) : Int) := by
    have e1 : w64 ((l.size : Int) + 1) = (l.size : Int) + 1 := w64_id (by omega) (by omega)
    rw [l2.size, u2.size, e1, w64_id (by omega) (by omega)]; omega
  obtain ⟨p', q1, q2, q3, q4, q5⟩ := hP.set hr (TNode.mk n0.e a b (w64 (w64 (nl.size + 1) + nu.size)) d1)
  refine ⟨p', ?_, q2, ⟨rfl, hg, _, q3, rfl, hsz, by simpa using d3, hl.frame (fun x hx => q4 x (fun e => h1 (e ▸ hx))), hu.frame (fun x hx => q4 x (fun e => h2 (e ▸ hx)))⟩, fun x hx => q4 x (by simpa using hx), q5⟩
  unfold Tree_lay.f
  rw [hget, l1, u1]
  simp only [Option.bind_some, s1, c2, d2, q1]
theorem turnLeft_ok (ok : OpsOk O k N G S lt) {p : PN E A} {L : List TRef} {B : Nat} (hP : PW p L B) {r r' r2 : TRef} {e e2 : E} {l a b : Tr E} (h : Rep S p r (.node r' e l (.node r2 e2 a b))) (hnd : (Tr.node r' e l (.node r2 e2 a b)).refs.Nodup)
    (hG : ∀ x ∈ (Tr.node r' e l (.node r2 e2 a b)).toList, G x) (hN : (Tr.node r' e l (.node r2 e2 a b)).size < N) : ∃ p', Tree_turnLeft.f O k p r = some (r2, p') ∧ Left S p p' L B r2 (.node r2 e2 (.node r' e l a) b) (Tr.node r' e l (.node r2 e2 a b)).refs := by
  obtain ⟨n, g1, g2⟩ := get_ok ok hP h
  obtain ⟨rfl, he, hl, hu, hlk⟩ := g2.node rfl
  obtain ⟨n2, g3, g4⟩ := get_ok ok hP hu
  obtain ⟨hr2, he2, ha, hb, hlk2⟩ := g4.node rfl
  simp only [Tr.refs, List.nodup_append, List.nodup_cons, List.mem_append, List.mem_cons, not_or] at hnd
  obtain ⟨nl, ⟨⟨nr1, nr2, nr3⟩, na, ⟨nb1, nb⟩, nab⟩, nlu⟩ := hnd
  simp only [Tr.toList, List.mem_append, List.mem_cons] at hG
  simp only [Tr.size] at hN
  have hra : r ∉ a.refs := nr1
  obtain ⟨p1, q1, q2⟩ := lay_ok ok hP hlk hl ha (fun hm => nlu _ hm _ (.inl rfl) rfl) nr1 (fun x hx => hG x (by rw [he] at hx; simp at hx ⊢; rcases hx with hx | hx | hx <;> simp [hx])) (by omega)
  have hb1 : Rep S p1 n2.right b := hb.frame (fun x hx => q2.frame x (by simp; rintro rfl; exact nr3 hx))
  have hlk2' : look p1 r2 = some n2 := by rw [q2.frame r2 (by simp; exact fun e => nr2 e.symm), ← hr2]; exact hlk2
  have hrep1 : Rep S p1 r (.node r e l a) := by have := q2.rep; rw [he] at this; exact this
  obtain ⟨p2, q3, q4⟩ := lay_ok ok q2.pw hlk2' hrep1 hb1 (by simp only [Tr.refs, List.mem_append, List.mem_cons, not_or]; exact ⟨fun hm => nlu _ hm _ (.inr (.inr (.inl rfl))) rfl, fun e => nr2 e.symm, fun hm => nab _ hm _ (.inl rfl) rfl⟩) nb1
    (fun x hx => hG x (by rw [he2] at hx; simp [Tr.toList] at hx ⊢; rcases hx with hx | hx | hx | hx | hx <;> simp [hx])) (by simp only [Tr.size]; omega)
  refine ⟨p2, ?_, q4.pw, by have := q4.rep; rw [he2] at this; exact this, fun x hx => ?_, q4.cap.trans q2.cap⟩
  · unfold Tree_turnLeft.f
    rw [g1]
    simp only [Option.bind_some, g3, q1]
    rw [hr2, q3]; rfl
  · simp only [Tr.refs, List.mem_append, List.mem_cons, not_or] at hx
    rw [q4.frame x (by simp; exact hx.2.2.2.1), q2.frame x (by simp; exact hx.2.1)]
theorem turnRight_ok (ok : OpsOk O k N G S lt) {p : PN E A} {L : List TRef} {B : Nat} (hP : PW p L B) {r r' r2 : TRef} {e e2 : E} {u a b : Tr E} (h : Rep S p r (.node r' e (.node r2 e2 a b) u)) (hnd : (Tr.node r' e (.node r2 e2 a b) u).refs.Nodup)
    (hG : ∀ x ∈ (Tr.node r' e (.node r2 e2 a b) u).toList, G x) (hN : (Tr.node r' e (.node r2 e2 a b) u).size < N) : ∃ p', Tree_turnRight.f O k p r = some (r2, p') ∧ Left S p p' L B r2 (.node r2 e2 a (.node r' e b u)) (Tr.node r' e (.node r2 e2 a b) u).refs := by
  obtain ⟨n, g1, g2⟩ := get_ok ok hP h
  obtain ⟨rfl, he, hl, hu, hlk⟩ := g2.node rfl
  obtain ⟨n2, g3, g4⟩ := get_ok ok hP hl
  obtain ⟨hr2, he2, ha, hb, hlk2⟩ := g4.node rfl
  simp only [Tr.refs, List.nodup_append, List.nodup_cons, List.mem_append, List.mem_cons, not_or] at hnd
  obtain ⟨⟨na, ⟨nb1, nb⟩, nab⟩, ⟨nu1, nu⟩, nlu⟩ := hnd
  simp only [Tr.toList, List.mem_append, List.mem_cons] at hG
  simp only [Tr.size] at hN
  have hne : r2 ≠ r := fun e => nlu r2 (.inr (.inl rfl)) r (.inl rfl) e
  obtain ⟨p1, q1, q2⟩ := lay_ok ok hP hlk hb hu (fun hm => nlu r (.inr (.inr hm)) r (.inl rfl) rfl) nu1 (fun x hx => hG x (by rw [he] at hx; simp at hx ⊢; rcases hx with hx | hx | hx <;> simp [hx])) (by omega)
  have ha1 : Rep S p1 n2.left a := ha.frame (fun x hx => q2.frame x (by simp; rintro rfl; exact nlu _ (.inl hx) _ (.inl rfl) rfl))
  have hlk2' : look p1 r2 = some n2 := by rw [q2.frame r2 (by simp; exact hne), ← hr2]; exact hlk2
  have hrep1 : Rep S p1 r (.node r e b u) := by have := q2.rep; rw [he] at this; exact this
  obtain ⟨p2, q3, q4⟩ := lay_ok ok q2.pw hlk2' ha1 hrep1 (fun hm => nab _ hm _ (.inl rfl) rfl) (by simp only [Tr.refs, List.mem_append, List.mem_cons, not_or]; exact ⟨nb1, hne, fun hm => nlu _ (.inr (.inl rfl)) _ (.inr hm) rfl⟩)
    (fun x hx => hG x (by rw [he2] at hx; simp [Tr.toList] at hx ⊢; rcases hx with hx | hx | hx | hx | hx <;> simp [hx])) (by simp only [Tr.size]; omega)
  refine ⟨p2, ?_, q4.pw, by have := q4.rep; rw [he2] at this; exact this, fun x hx => ?_, q4.cap.trans q2.cap⟩
  · unfold Tree_turnRight.f
    rw [g1]
    simp only [Option.bind_some, g3, q1]
    rw [hr2, q3]; rfl
  · simp only [Tr.refs, List.mem_append, List.mem_cons, not_or] at hx
    rw [q4.frame x (by simp; exact hx.1.2.1), q2.frame x (by simp; exact hx.2.1)]
end
end Go.Proofs.Ythcehagablploaa
namespace Go.Proofs.Ythcehagablploaa
open Go Go.Proofs.Ythcehagablploaa.Sx
namespace Tr
variable {E : Type}
def WB : Tr E → Prop
  | nil => True
  | node _ _ l u => l.w ≤ 3 * u.w ∧ u.w ≤ 3 * l.w ∧ WB l ∧ WB u
def ht : Tr E → Nat
  | nil => 0
  | node _ _ l u => 1 + max l.ht u.ht
theorem w_node (r : TRef) (e : E) (l u : Tr E) : (node r e l u).w = l.w + u.w := by simp only [w, size]; omega
theorem w_pos (t : Tr E) : 1 ≤ t.w := by simp only [w]; omega
theorem w_nil : (nil : Tr E).w = 1 := rfl
theorem w_one {t : Tr E} (h : t.w ≤ 1) : t = nil := by
  cases t with
  | nil => rfl
  | node r e l u => rw [w_node] at h; have := w_pos l; have := w_pos u; omega
theorem child {t : Tr E} (h : WB t) (h1 : 1 ≤ t.ht) : ∃ c : Tr E, WB c ∧ c.ht + 1 = t.ht ∧ 4 * c.w ≤ 3 * t.w := by
  cases t with
  | nil => simp [ht] at h1
  | node r e l u =>
    obtain ⟨a, b, c, d⟩ := h
    rw [w_node]
    by_cases hh : l.ht ≤ u.ht
    · exact ⟨u, d, by simp only [ht]; omega, by omega⟩
    · exact ⟨l, c, by simp only [ht]; omega, by omega⟩
theorem ht_pow : ∀ (j : Nat) {t : Tr E}, WB t → 3 * (j + 1) ≤ t.ht → 2 ^ (j + 1) ≤ t.w
  | j, t, h, hj => by
    obtain ⟨c1, a1, b1, d1⟩ := child h (by omega)
    obtain ⟨c2, a2, b2, d2⟩ := child a1 (by omega)
    obtain ⟨c3, a3, b3, d3⟩ := child a2 (by omega)
    cases j with
    | zero => have := w_pos c3; omega
    | succ j =>
      have := ht_pow j a3 (by omega)
      rw [Nat.pow_succ] at this ⊢
      rw [Nat.pow_succ]; omega
theorem ht_le {t : Tr E} (h : WB t) : t.ht ≤ 2 + 3 * Nat.log2 t.w := by
  by_cases hh : t.ht ≤ 2 + 3 * Nat.log2 t.w
  · exact hh
  · have h1 := ht_pow (Nat.log2 t.w) h (by omega)
    have h2 := Nat.lt_log2_self (n := t.w)
    omega
def Near (l u : Tr E) : Prop := u.w ≤ 3 * l.w + 3 ∧ l.w ≤ 3 * u.w + 3
theorem link_flat (n : Nat) {l u : Tr E} {r : TRef} {e : E} (h1 : u.w ≤ 3 * l.w) (h2 : l.w ≤ 3 * u.w) : link n l r e u = node r e l u := by
  cases n with
  | zero => rfl
  | succ n => rw [link_succ, if_neg (by omega), if_neg (by omega)]
theorem bal_l {r r2 : TRef} {e e2 : E} {l a b : Tr E} (hl : WB l) (ha : WB a) (hb : WB b) (h1 : l.w ≤ 3 * a.w) (h2 : a.w ≤ 3 * l.w) (h3 : 3 * l.w < a.w + b.w) (h4 : a.w ≤ 3 * b.w) (h5 : b.w ≤ 3 * a.w) (h6 : a.w + b.w ≤ 3 * l.w + 3) : WB (bal (node r2 e2 (node r e l a) b)) := by
  rw [bal_node]
  have p1 := w_pos l; have p2 := w_pos a; have p3 := w_pos b
  rw [w_node]
  rw [if_neg (by omega)]
  split
  · rename_i h
    simp only
    rw [if_pos (by omega)]
    cases a with
    | nil => rw [w_nil] at *; omega
    | node ra ea a1 a2 =>
      obtain ⟨x1, x2, x3, x4⟩ := ha
      rw [w_node] at *
      have q1 := w_pos a1; have q2 := w_pos a2
      simp only [turnL, turnR]
      refine ⟨?_, ?_, ⟨?_, ?_, hl, x3⟩, ⟨?_, ?_, x4, hb⟩⟩
      · rw [w_node, w_node]; omega
      · rw [w_node, w_node]; omega
      · omega
      · omega
      · omega
      · omega
  · exact ⟨by rw [w_node]; omega, by rw [w_node]; omega, ⟨h1, h2, hl, ha⟩, hb⟩
theorem bal_r {r r2 : TRef} {e e2 : E} {u a b : Tr E} (hu : WB u) (ha : WB a) (hb : WB b) (h1 : u.w ≤ 3 * b.w) (h2 : b.w ≤ 3 * u.w) (h3 : 3 * u.w < a.w + b.w) (h4 : a.w ≤ 3 * b.w) (h5 : b.w ≤ 3 * a.w) (h6 : a.w + b.w ≤ 3 * u.w + 3) : WB (bal (node r2 e2 a (node r e b u))) := by
  rw [bal_node]
  have p1 := w_pos u; have p2 := w_pos a; have p3 := w_pos b
  rw [w_node]
  split
  · rename_i h
    simp only
    rw [if_pos (by omega)]
    cases b with
    | nil => rw [w_nil] at *; omega
    | node rb eb b1 b2 =>
      obtain ⟨x1, x2, x3, x4⟩ := hb
      rw [w_node] at *
      have q1 := w_pos b1; have q2 := w_pos b2
      simp only [turnL, turnR]
      refine ⟨?_, ?_, ⟨?_, ?_, ha, x3⟩, ⟨?_, ?_, x4, hu⟩⟩
      · rw [w_node, w_node]; omega
      · rw [w_node, w_node]; omega
      · omega
      · omega
      · omega
      · omega
  · rw [if_neg (by omega)]
    exact ⟨by rw [w_node]; omega, by rw [w_node]; omega, ha, ⟨h2, h1, hb, hu⟩⟩
theorem link_wb (n : Nat) {l u : Tr E} {r : TRef} {e : E} (hl : WB l) (hu : WB u) (hn : Near l u) : WB (link (n + 3) l r e u) := by
  obtain ⟨n1, n2⟩ := hn
  have p1 := w_pos l; have p2 := w_pos u
  by_cases c1 : u.w > 3 * l.w
  · rw [link_succ, if_pos c1]
    cases u with
    | nil => rw [w_nil] at *; omega
    | node r2 e2 a b =>
      simp only
      obtain ⟨x1, x2, x3, x4⟩ := hu
      rw [w_node] at *
      have q1 := w_pos a; have q2 := w_pos b
      by_cases c2 : a.w ≤ 3 * l.w
      · rw [link_flat _ c2 (by omega)]
        exact bal_l hl x3 x4 (by omega) c2 (by omega) x1 x2 (by omega)
      · -- l is nil, a of weight 4, b of weight 2
        have e1 : l.w = 1 := by omega
        have e2' : a.w = 4 := by omega
        have e3 : b.w = 2 := by omega
        have hi : WB (link (n + 2) l r e a) := by
          rw [link_succ, if_pos (by omega)]
          cases a with
          | nil => rw [w_nil] at *; omega
          | node r3 e3' a1 a2 =>
            simp only
            obtain ⟨y1, y2, y3, y4⟩ := x3
            rw [w_node] at *
            have z1 := w_pos a1; have z2 := w_pos a2
            rw [link_flat _ (by omega) (by omega)]
            exact bal_l hl y3 y4 (by omega) (by omega) (by omega) y1 y2 (by omega)
        have hw : (link (n + 2) l r e a).w = 5 := by
          have := link_size (n + 2) l r e a
          simp only [w] at *; omega
        rw [bal_node, if_neg (by omega), if_neg (by omega)]
        exact ⟨by omega, by omega, hi, x4⟩
  · by_cases c2 : l.w > 3 * u.w
    · rw [link_succ, if_neg c1, if_pos c2]
      cases l with
      | nil => rw [w_nil] at *; omega
      | node r2 e2 a b =>
        simp only
        obtain ⟨x1, x2, x3, x4⟩ := hl
        rw [w_node] at *
        have q1 := w_pos a; have q2 := w_pos b
        by_cases c3 : b.w ≤ 3 * u.w
        · rw [link_flat _ (by omega) c3]
          exact bal_r hu x3 x4 (by omega) c3 (by omega) x1 x2 (by omega)
        · have e1 : u.w = 1 := by omega
          have e2' : b.w = 4 := by omega
          have e3 : a.w = 2 := by omega
          have hi : WB (link (n + 2) b r e u) := by
            rw [link_succ, if_neg (by omega), if_pos (by omega)]
            cases b with
            | nil => rw [w_nil] at *; omega
            | node r3 e3' b1 b2 =>
              simp only
              obtain ⟨y1, y2, y3, y4⟩ := x4
              rw [w_node] at *
              have z1 := w_pos b1; have z2 := w_pos b2
              rw [link_flat _ (by omega) (by omega)]
              exact bal_r hu y3 y4 (by omega) (by omega) (by omega) y1 y2 (by omega)
          have hw : (link (n + 2) b r e u).w = 5 := by
            have := link_size (n + 2) b r e u
            simp only [w] at *; omega
          rw [bal_node, if_neg (by omega), if_neg (by omega)]
          exact ⟨by omega, by omega, x3, hi⟩
    · rw [link_flat _ (by omega) (by omega)]
      exact ⟨by omega, by omega, hl, hu⟩
end Tr
end Go.Proofs.Ythcehagablploaa
namespace Go.Proofs.Ythcehagablploaa
open Go Go.Proofs.Ythcehagablploaa.Sx
abbrev vz {α : Type} (p : Pool α) (v : Int) : Pool α := { p with vis := v }
theorem wrap1 {v : Int} (h0 : 0 ≤ v) (h : v < 4611686018427387904) : IntKind.i64.wrap (v + 1) = v + 1 := by simp only [IntKind.wrap_i64]; omega
section
variable {α : Type} {z : α}
theorem vz_ok {p : Pool α} {v : Int} : decide (pOk (vz p v)) = decide (pOk p) := rfl
theorem vGet_v {p : Pool α} {i g : Int} {x : α × Bool} (h : pGet z p i g = some x) {v : Int} (h0 : 0 ≤ v) (hb : v < 4611686018427387904) : ∃ v', vGet z (vz p v) i g = some (x, vz p v') ∧ v ≤ v' ∧ v' ≤ v + 1 := by
  unfold pGet at h
  unfold vGet
  rw [vz_ok]
  cases hp : decide (pOk p) with
  | false => rw [hp] at h; cases h
  | true =>
    rw [hp, cond_true] at h
    rw [cond_true]
    cases h
    unfold Pool.get
    simp only [show (vz p v).cells = p.cells from rfl]
    cases lookC p.cells i g with
    | none => exact ⟨v, rfl, by omega, by omega⟩
    | some c => exact ⟨v + 1, by simp only [Pool.hit, wrap1 h0 hb], by omega, by omega⟩
theorem pSet_v {p : Pool α} {i g : Int} {y : α} {x : Bool × Pool α} (h : pSet p i g y = some x) {v : Int} (h0 : 0 ≤ v) (hb : v < 4611686018427387904) : ∃ v', pSet (vz p v) i g y = some (x.1, vz x.2 v') ∧ v ≤ v' ∧ v' ≤ v + 1 := by
  unfold pSet at h ⊢
  rw [vz_ok]
  cases hp : decide (pOk p) with
  | false => rw [hp] at h; cases h
  | true =>
    rw [hp, cond_true] at h
    rw [cond_true]
    cases h
    unfold Pool.set
    cases hc : lookC p.cells i g with
    | none => exact ⟨v, rfl, by omega, by omega⟩
    | some c => exact ⟨v + 1, by simp only [wrap1 h0 hb], by omega, by omega⟩
end
section
variable {E A : Type} {O : Ops E A} {k : Nat}
theorem get_v {p : PN E A} {r : TRef} {n : TNode E A} (h : Tree_get.f O k p r = some n) {v : Int} (h0 : 0 ≤ v) (hb : v < 4611686018427387904) : ∃ v', VTree_get.f O k (vz p v) r = some (n, vz p v') ∧ v ≤ v' ∧ v' ≤ v + 1 := by
  unfold Tree_get.f at h
  unfold VTree_get.f
  cases hg : (r.gen == 0) with
  | true => rw [hg] at h; cases h; exact ⟨v, rfl, by omega, by omega⟩
  | false =>
    rw [hg, cond_false] at h
    rw [cond_false]
    obtain ⟨x, hx, h⟩ := bnd h
    cases h
    obtain ⟨v', h1, h2, h3⟩ := vGet_v hx h0 hb
    exact ⟨v', by rw [h1]; rfl, h2, h3⟩
theorem weight_v {p : PN E A} {r : TRef} {n : Int} (h : Tree_weight.f O k p r = some n) {v : Int} (h0 : 0 ≤ v) (hb : v < 4611686018427387904) : ∃ v', VTree_weight.f O k (vz p v) r = some (n, vz p v') ∧ v ≤ v' ∧ v' ≤ v + 1 := by
  unfold Tree_weight.f at h
  unfold VTree_weight.f
  obtain ⟨x, hx, h⟩ := bnd h
  cases h
  obtain ⟨v', h1, h2, h3⟩ := get_v hx h0 hb
  exact ⟨v', by rw [h1]; rfl, h2, h3⟩
theorem lay_v {p p' : PN E A} {r a b r' : TRef} (h : Tree_lay.f O k p r a b = some (r', p')) {v : Int} (h0 : 0 ≤ v) (hb : v + 10 < 4611686018427387904) : ∃ v', VTree_lay.f O k (vz p v) r a b = some (r', vz p' v') ∧ v ≤ v' ∧ v' ≤ v + 4 := by
  unfold Tree_lay.f at h
  unfold VTree_lay.f
  obtain ⟨x1, g1, h⟩ := bnd h
  obtain ⟨x2, g2, h⟩ := bnd h
  obtain ⟨x3, g3, h⟩ := bnd h
  obtain ⟨x4, g4, h⟩ := bnd h
  obtain ⟨x5, g5, h⟩ := bnd h
  obtain ⟨x6, g6, h⟩ := bnd h
  obtain ⟨x7, g7, h⟩ := bnd h
  cases h
  obtain ⟨v1, a1, b1, c1⟩ := get_v g1 h0 (by omega)
  obtain ⟨v2, a2, b2, c2⟩ := get_v g2 (v := v1) (by omega) (by omega)
  obtain ⟨v3, a3, b3, c3⟩ := get_v g3 (v := v2) (by omega) (by omega)
  obtain ⟨v4, a4, b4, c4⟩ := pSet_v g7 (v := v3) (by omega) (by omega)
  refine ⟨v4, ?_, by omega, by omega⟩
  simp only [a1, a2, a3, g4, g5, g6, a4, Option.bind_some]
theorem turnRight_v {p p' : PN E A} {r r' : TRef} (h : Tree_turnRight.f O k p r = some (r', p')) {v : Int} (h0 : 0 ≤ v) (hb : v + 30 < 4611686018427387904) : ∃ v', VTree_turnRight.f O k (vz p v) r = some (r', vz p' v') ∧ v ≤ v' ∧ v' ≤ v + 10 := by
  unfold Tree_turnRight.f at h
  unfold VTree_turnRight.f
  obtain ⟨x1, g1, h⟩ := bnd h
  obtain ⟨x2, g2, h⟩ := bnd h
  obtain ⟨x3, g3, h⟩ := bnd h
  obtain ⟨x4, g4, h⟩ := bnd h
  cases h
  obtain ⟨v1, a1, b1, c1⟩ := get_v g1 h0 (by omega)
  obtain ⟨v2, a2, b2, c2⟩ := get_v g2 (v := v1) (by omega) (by omega)
  obtain ⟨v3, a3, b3, c3⟩ := lay_v (r' := x3.1) (p' := x3.2) g3 (v := v2) (by omega) (by omega)
  obtain ⟨v4, a4, b4, c4⟩ := lay_v (r' := x4.1) (p' := x4.2) g4 (v := v3) (by omega) (by omega)
  exact ⟨v4, by simp only [a1, a2, a3, a4, Option.bind_some], by omega, by omega⟩
theorem turnLeft_v {p p' : PN E A} {r r' : TRef} (h : Tree_turnLeft.f O k p r = some (r', p')) {v : Int} (h0 : 0 ≤ v) (hb : v + 30 < 4611686018427387904) : ∃ v', VTree_turnLeft.f O k (vz p v) r = some (r', vz p' v') ∧ v ≤ v' ∧ v' ≤ v + 10 := by
  unfold Tree_turnLeft.f at h
  unfold VTree_turnLeft.f
  obtain ⟨x1, g1, h⟩ := bnd h
  obtain ⟨x2, g2, h⟩ := bnd h
  obtain ⟨x3, g3, h⟩ := bnd h
  obtain ⟨x4, g4, h⟩ := bnd h
  cases h
  obtain ⟨v1, a1, b1, c1⟩ := get_v g1 h0 (by omega)
  obtain ⟨v2, a2, b2, c2⟩ := get_v g2 (v := v1) (by omega) (by omega)
  obtain ⟨v3, a3, b3, c3⟩ := lay_v (r' := x3.1) (p' := x3.2) g3 (v := v2) (by omega) (by omega)
  obtain ⟨v4, a4, b4, c4⟩ := lay_v (r' := x4.1) (p' := x4.2) g4 (v := v3) (by omega) (by omega)
  exact ⟨v4, by simp only [a1, a2, a3, a4, Option.bind_some], by omega, by omega⟩
theorem balance_v {p p' : PN E A} {r r' : TRef} (h : Tree_balance.f O k p r = some (r', p')) {v : Int} (h0 : 0 ≤ v) (hb : v + 100 < 4611686018427387904) : ∃ v', VTree_balance.f O k (vz p v) r = some (r', vz p' v') ∧ v ≤ v' ∧ v' ≤ v + 30 := by
  unfold Tree_balance.f at h
  unfold VTree_balance.f
  obtain ⟨x1, g1, h⟩ := bnd h
  obtain ⟨x2, g2, h⟩ := bnd h
  obtain ⟨x3, g3, h⟩ := bnd h
  obtain ⟨v1, a1, b1, c1⟩ := get_v g1 h0 (by omega)
  obtain ⟨v2, a2, b2, c2⟩ := weight_v g2 (v := v1) (by omega) (by omega)
  obtain ⟨v3, a3, b3, c3⟩ := weight_v g3 (v := v2) (by omega) (by omega)
  simp only [a1, a2, a3, Option.bind_some]
  cases hc : decide (x3 > w64 (3 * x2)) with
  | true =>
    rw [hc, cond_true] at h
    rw [cond_true]
    obtain ⟨x4, g4, h⟩ := bnd h
    obtain ⟨x5, g5, h⟩ := bnd h
    obtain ⟨x6, g6, h⟩ := bnd h
    obtain ⟨v4, a4, b4, c4⟩ := get_v g4 (v := v3) (by omega) (by omega)
    obtain ⟨v5, a5, b5, c5⟩ := weight_v g5 (v := v4) (by omega) (by omega)
    obtain ⟨v6, a6, b6, c6⟩ := weight_v g6 (v := v5) (by omega) (by omega)
    simp only [a4, a5, a6, Option.bind_some]
    cases hd : decide (x5 ≥ w64 (2 * x6)) with
    | true =>
      rw [hd, cond_true] at h
      rw [cond_true]
      obtain ⟨x7, g7, h⟩ := bnd h
      obtain ⟨x8, g8, h⟩ := bnd h
      obtain ⟨x9, g9, h⟩ := bnd h
      cases h
      obtain ⟨v7, a7, b7, c7⟩ := turnRight_v (r' := x7.1) (p' := x7.2) g7 (v := v6) (by omega) (by omega)
      obtain ⟨v8, a8, b8, c8⟩ := lay_v (r' := x8.1) (p' := x8.2) g8 (v := v7) (by omega) (by omega)
      obtain ⟨v9, a9, b9, c9⟩ := turnLeft_v (r' := x9.1) (p' := x9.2) g9 (v := v8) (by omega) (by omega)
      exact ⟨v9, by simp only [a7, a8, a9, Option.bind_some], by omega, by omega⟩
    | false =>
      rw [hd, cond_false] at h
      rw [cond_false]
      obtain ⟨x9, g9, h⟩ := bnd h
      cases h
      obtain ⟨v9, a9, b9, c9⟩ := turnLeft_v (r' := x9.1) (p' := x9.2) g9 (v := v6) (by omega) (by omega)
      exact ⟨v9, by simp only [a9, Option.bind_some], by omega, by omega⟩
  | false =>
    rw [hc, cond_false] at h
    rw [cond_false]
    cases he : decide (x2 > w64 (3 * x3)) with
    | true =>
      rw [he, cond_true] at h
      rw [cond_true]
      obtain ⟨x4, g4, h⟩ := bnd h
      obtain ⟨x5, g5, h⟩ := bnd h
      obtain ⟨x6, g6, h⟩ := bnd h
      obtain ⟨v4, a4, b4, c4⟩ := get_v g4 (v := v3) (by omega) (by omega)
      obtain ⟨v5, a5, b5, c5⟩ := weight_v g5 (v := v4) (by omega) (by omega)
      obtain ⟨v6, a6, b6, c6⟩ := weight_v g6 (v := v5) (by omega) (by omega)
      simp only [a4, a5, a6, Option.bind_some]
      cases hd : decide (x5 ≥ w64 (2 * x6)) with
      | true =>
        rw [hd, cond_true] at h
        rw [cond_true]
        obtain ⟨x7, g7, h⟩ := bnd h
        obtain ⟨x8, g8, h⟩ := bnd h
        obtain ⟨x9, g9, h⟩ := bnd h
        cases h
        obtain ⟨v7, a7, b7, c7⟩ := turnLeft_v (r' := x7.1) (p' := x7.2) g7 (v := v6) (by omega) (by omega)
        obtain ⟨v8, a8, b8, c8⟩ := lay_v (r' := x8.1) (p' := x8.2) g8 (v := v7) (by omega) (by omega)
        obtain ⟨v9, a9, b9, c9⟩ := turnRight_v (r' := x9.1) (p' := x9.2) g9 (v := v8) (by omega) (by omega)
        exact ⟨v9, by simp only [a7, a8, a9, Option.bind_some], by omega, by omega⟩
      | false =>
        rw [hd, cond_false] at h
        rw [cond_false]
        obtain ⟨x9, g9, h⟩ := bnd h
        cases h
        obtain ⟨v9, a9, b9, c9⟩ := turnRight_v (r' := x9.1) (p' := x9.2) g9 (v := v6) (by omega) (by omega)
        exact ⟨v9, by simp only [a9, Option.bind_some], by omega, by omega⟩
    | false =>
      rw [he, cond_false] at h
      rw [cond_false]
      cases h
      exact ⟨v3, rfl, by omega, by omega⟩
end
end Go.Proofs.Ythcehagablploaa
namespace Go.Proofs.Ythcehagablploaa
open Go Go.Proofs.Ythcehagablploaa.Sx
section
variable {E A : Type} {O : Ops E A} {k N : Nat} {G : E → Prop} {S : A → List E → Prop} {lt : E → E → Prop}
theorem dec_gt3 {a b : Nat} (hb : b < 4294967296) : decide ((a : Int) > w64 (3 * (b : Int))) = decide (a > 3 * b) := by
  rw [w64_id (by omega) (by omega)]
  by_cases h : a > 3 * b
  · simp only [h, decide_true, decide_eq_true_eq]; omega
  · simp only [h, decide_false, decide_eq_false_iff_not]; omega
theorem dec_ge2 {a b : Nat} (hb : b < 4294967296) : decide ((a : Int) ≥ w64 (2 * (b : Int))) = decide (a ≥ 2 * b) := by
  rw [w64_id (by omega) (by omega)]
  by_cases h : a ≥ 2 * b
  · simp only [h, decide_true, decide_eq_true_eq]; omega
  · simp only [h, decide_false, decide_eq_false_iff_not]; omega
theorem nodup_left {l u : List TRef} {r : TRef} (h : (l ++ r :: u).Nodup) : l.Nodup := (List.nodup_append.1 h).1
theorem nodup_right {l u : List TRef} {r : TRef} (h : (l ++ r :: u).Nodup) : u.Nodup := (List.nodup_cons.1 (List.nodup_append.1 h).2.1).2
theorem nodup_l {l u : List TRef} {r : TRef} (h : (l ++ r :: u).Nodup) : r ∉ l := fun hm => (List.nodup_append.1 h).2.2 r hm r List.mem_cons_self rfl
theorem nodup_u {l u : List TRef} {r : TRef} (h : (l ++ r :: u).Nodup) : r ∉ u := (List.nodup_cons.1 (List.nodup_append.1 h).2.1).1
theorem nodup_lu {l u : List TRef} {r : TRef} (h : (l ++ r :: u).Nodup) {x : TRef} (hl : x ∈ l) (hu : x ∈ u) : False := (List.nodup_append.1 h).2.2 x hl x (List.mem_cons_of_mem _ hu) rfl
theorem balance_ok (ok : OpsOk O k N G S lt) {p : PN E A} {L : List TRef} {B : Nat} (hP : PW p L B) {r r0 : TRef} {e : E} {l u : Tr E} (h : Rep S p r (.node r0 e l u)) (hnd : (Tr.node r0 e l u).refs.Nodup)
    (hG : ∀ x ∈ (Tr.node r0 e l u).toList, G x) (hN : (Tr.node r0 e l u).size < N) : ∃ r' p', Tree_balance.f O k p r = some (r', p') ∧ Left S p p' L B r' (Tr.bal (.node r0 e l u)) (Tr.node r0 e l u).refs := by
  have hbig := ok.big
  obtain ⟨n, g1, g2⟩ := get_ok ok hP h
  obtain ⟨rfl, he, hl, hu, hlk⟩ := g2.node rfl
  have hN' := hN
  simp only [Tr.size] at hN'
  have wl := weight_ok ok hP hl (by omega)
  have wu := weight_ok ok hP hu (by omega)
  unfold Tree_balance.f
  rw [g1]
  simp only [Option.bind_some, wl, wu]
  rw [dec_gt3 (by simp only [Tr.w]; omega), dec_gt3 (by simp only [Tr.w]; omega), Tr.bal_node]
  by_cases c1 : u.w > 3 * l.w
  · simp only [c1, decide_true, cond_true, if_true]
    cases u with
    | nil => simp only [Tr.w, Tr.size] at c1; omega
    | node r2 e2 a b =>
      obtain ⟨n2, q1, q2⟩ := get_ok ok hP hu
      obtain ⟨hr2, he2, ha, hb, hlk2⟩ := q2.node rfl
      simp only [Tr.size] at hN'
      have wa := weight_ok ok hP ha (by omega)
      have wb := weight_ok ok hP hb (by omega)
      simp only [q1, Option.bind_some, wa, wb]
      rw [dec_ge2 (by simp only [Tr.w]; omega)]
      by_cases c2 : a.w ≥ 2 * b.w
      · simp only [c2, decide_true, cond_true, if_true]
        cases a with
        | nil => simp only [Tr.w, Tr.size] at c2; omega
        | node r3 e3 c d =>
          have hndu : (Tr.node r2 e2 (.node r3 e3 c d) b).refs.Nodup := nodup_right hnd
          obtain ⟨p1, t1, t2⟩ := turnRight_ok ok hP hu hndu (fun x hx => hG x (by simp [Tr.toList] at hx ⊢; rcases hx with hx | hx | hx | hx | hx <;> simp [hx])) (by simp only [Tr.size] at hN ⊢; omega)
          have hlk1 : look p1 r = some n := by rw [t2.frame r (nodup_u hnd)]; exact hlk
          have hl1 : Rep S p1 n.left l := hl.frame (fun x hx => t2.frame x (fun hm => nodup_lu hnd hx hm))
          have hrf : (Tr.node r3 e3 c (.node r2 e2 d b)).refs = (Tr.node r2 e2 (.node r3 e3 c d) b).refs := by simp [Tr.refs]
          have htl : (Tr.node r3 e3 c (.node r2 e2 d b)).toList = (Tr.node r2 e2 (.node r3 e3 c d) b).toList := by simp [Tr.toList]
          obtain ⟨p2, v1, v2⟩ := lay_ok ok t2.pw hlk1 hl1 t2.rep (nodup_l hnd) (by rw [hrf]; exact nodup_u hnd) (fun x hx => hG x (by rw [he, htl] at hx; exact hx)) (by simp only [Tr.size] at hN ⊢; omega)
          have hrep : Rep S p2 r (.node r e l (.node r3 e3 c (.node r2 e2 d b))) := by have := v2.rep; rw [he] at this; exact this
          obtain ⟨p3, y1, y2⟩ := turnLeft_ok ok v2.pw hrep (by simp only [Tr.refs] at hnd ⊢; simpa using hnd) (fun x hx => hG x (by simp [Tr.toList] at hx ⊢; exact hx)) (by simp only [Tr.size] at hN ⊢; omega)
          refine ⟨r3, p3, ?_, y2.pw, ?_, fun x hx => ?_, y2.cap.trans (v2.cap.trans t2.cap)⟩
          · simp only [t1, Option.bind_some, v1, y1]
          · simp only [Tr.turnR, Tr.turnL]; exact y2.rep
          · have hx2 : x ∉ (Tr.node r e l (.node r3 e3 c (.node r2 e2 d b))).refs := by simpa [Tr.refs] using hx
            simp only [Tr.refs, List.mem_append, List.mem_cons, not_or] at hx
            rw [y2.frame x hx2, v2.frame x (by simp; exact hx.2.1), t2.frame x (by simp only [Tr.refs, List.mem_append, List.mem_cons, not_or]; exact hx.2.2)]
      · simp only [c2, decide_false, cond_false, if_false]
        obtain ⟨p1, t1, t2⟩ := turnLeft_ok ok hP h hnd hG hN
        refine ⟨r2, p1, ?_, t2.pw, by simp only [Tr.turnL]; exact t2.rep, t2.frame, t2.cap⟩
        simp only [t1, Option.bind_some]
  · simp only [c1, decide_false, cond_false, if_false]
    by_cases c3 : l.w > 3 * u.w
    · simp only [c3, decide_true, cond_true, if_true]
      cases l with
      | nil => simp only [Tr.w, Tr.size] at c3; omega
      | node r2 e2 a b =>
        obtain ⟨n2, q1, q2⟩ := get_ok ok hP hl
        obtain ⟨hr2, he2, ha, hb, hlk2⟩ := q2.node rfl
        simp only [Tr.size] at hN'
        have wa := weight_ok ok hP ha (by omega)
        have wb := weight_ok ok hP hb (by omega)
        simp only [q1, Option.bind_some, wa, wb]
        rw [dec_ge2 (by simp only [Tr.w]; omega)]
        by_cases c2 : b.w ≥ 2 * a.w
        · simp only [c2, decide_true, cond_true, if_true]
          cases b with
          | nil => simp only [Tr.w, Tr.size] at c2; omega
          | node r3 e3 c d =>
            have hndl : (Tr.node r2 e2 a (.node r3 e3 c d)).refs.Nodup := nodup_left hnd
            obtain ⟨p1, t1, t2⟩ := turnLeft_ok ok hP hl hndl (fun x hx => hG x (by simp [Tr.toList] at hx ⊢; rcases hx with hx | hx | hx | hx | hx <;> simp [hx])) (by simp only [Tr.size] at hN ⊢; omega)
            have hlk1 : look p1 r = some n := by rw [t2.frame r (nodup_l hnd)]; exact hlk
            have hu1 : Rep S p1 n.right u := hu.frame (fun x hx => t2.frame x (fun hm => nodup_lu hnd hm hx))
            have hrf : (Tr.node r3 e3 (.node r2 e2 a c) d).refs = (Tr.node r2 e2 a (.node r3 e3 c d)).refs := by simp [Tr.refs]
            have htl : (Tr.node r3 e3 (.node r2 e2 a c) d).toList = (Tr.node r2 e2 a (.node r3 e3 c d)).toList := by simp [Tr.toList]
            obtain ⟨p2, v1, v2⟩ := lay_ok ok t2.pw hlk1 t2.rep hu1 (by rw [hrf]; exact nodup_l hnd) (nodup_u hnd) (fun x hx => hG x (by rw [he, htl] at hx; exact hx)) (by simp only [Tr.size] at hN ⊢; omega)
            have hrep : Rep S p2 r (.node r e (.node r3 e3 (.node r2 e2 a c) d) u) := by have := v2.rep; rw [he] at this; exact this
            obtain ⟨p3, y1, y2⟩ := turnRight_ok ok v2.pw hrep (by simp only [Tr.refs] at hnd ⊢; simpa using hnd) (fun x hx => hG x (by simp [Tr.toList] at hx ⊢; exact hx)) (by simp only [Tr.size] at hN ⊢; omega)
            refine ⟨r3, p3, ?_, y2.pw, ?_, fun x hx => ?_, y2.cap.trans (v2.cap.trans t2.cap)⟩
            · simp only [t1, Option.bind_some, v1, y1]
            · simp only [Tr.turnR, Tr.turnL]; exact y2.rep
            · have hx2 : x ∉ (Tr.node r e (.node r3 e3 (.node r2 e2 a c) d) u).refs := by simpa [Tr.refs] using hx
              simp only [Tr.refs, List.mem_append, List.mem_cons, not_or] at hx
              rw [y2.frame x hx2, v2.frame x (by simp; exact hx.2.1), t2.frame x (by simp only [Tr.refs, List.mem_append, List.mem_cons, not_or]; exact hx.1)]
        · simp only [c2, decide_false, cond_false, if_false]
          obtain ⟨p1, t1, t2⟩ := turnRight_ok ok hP h hnd hG hN
          refine ⟨r2, p1, ?_, t2.pw, by simp only [Tr.turnR]; exact t2.rep, t2.frame, t2.cap⟩
          simp only [t1, Option.bind_some]
    · simp only [c3, decide_false, cond_false, if_false]
      exact ⟨r, p, rfl, hP, h, fun x _ => rfl, rfl⟩
theorem link_ok (ok : OpsOk O k N G S lt) : ∀ (n : Nat) {p : PN E A} {L : List TRef} {B : Nat} (hP : PW p L B) {a m b : TRef} {n0 : TNode E A} {l u : Tr E}, l.size + u.size < n → Rep S p a l → look p m = some n0 → Rep S p b u → (l.refs ++ m :: u.refs).Nodup →
    (∀ x ∈ l.toList ++ n0.e :: u.toList, G x) → l.size + 1 + u.size < N → ∃ r' p', Tree_link.r O k n p a m b = some (r', p') ∧ Left S p p' L B r' (Tr.link n l m n0.e u) (l.refs ++ m :: u.refs)
  | 0, _, _, _, _, _, _, _, _, _, _, h, _, _, _, _, _, _ => by omega
  | n + 1, p, L, B, hP, a, m, b, n0, l, u, hn, hl, hm, hu, hnd, hG, hN => by
    have hbig := ok.big
    have wl := weight_ok ok hP hl (by omega)
    have wu := weight_ok ok hP hu (by omega)
    simp only [Tree_link.r, wl, wu, Option.bind_some]
    rw [dec_gt3 (by simp only [Tr.w]; omega), dec_gt3 (by simp only [Tr.w]; omega), Tr.link_succ]
    by_cases c1 : u.w > 3 * l.w
    · simp only [c1, decide_true, cond_true, if_true]
      cases u with
      | nil => simp only [Tr.w, Tr.size] at c1; omega
      | node r2 e2 c d =>
        obtain ⟨n2, q1, q2⟩ := get_ok ok hP hu
        obtain ⟨hr2, he2, hc, hd, hlk2⟩ := q2.node rfl
        subst hr2
        simp only [Tr.size] at hn hN
        have hnd1 : (l.refs ++ m :: c.refs).Nodup := by
          simp only [Tr.refs] at hnd
          refine List.Nodup.sublist ?_ hnd
          exact List.Sublist.append_left (List.Sublist.cons_cons _ (List.sublist_append_left _ _)) _
        have hndu : (Tr.node b e2 c d).refs.Nodup := nodup_right hnd
        have hbL : b ∉ l.refs ++ m :: c.refs := by
          simp only [List.mem_append, List.mem_cons, not_or]
          refine ⟨fun h => nodup_lu hnd h (by simp [Tr.refs]), fun e => nodup_u hnd (by rw [← e]; simp [Tr.refs]), nodup_l hndu⟩
        have hdL : ∀ x ∈ d.refs, x ∉ l.refs ++ m :: c.refs := by
          intro x hx
          simp only [List.mem_append, List.mem_cons, not_or]
          exact ⟨fun h => nodup_lu hnd h (by simp [Tr.refs, hx]), fun e => nodup_u hnd (by rw [← e]; simp [Tr.refs, hx]), fun h => nodup_lu hndu h hx⟩
        obtain ⟨r1, p1, t1, t2⟩ := link_ok ok n hP (by omega) hl hm hc hnd1 (fun x hx => hG x (by simp [Tr.toList] at hx ⊢; rcases hx with hx | hx | hx <;> simp [hx])) (by omega)
        have hlk1 : look p1 b = some n2 := by rw [t2.frame b hbL]; exact hlk2
        have hd1 : Rep S p1 n2.right d := hd.frame (fun x hx => t2.frame x (hdL x hx))
        have hnd2 : (Tr.node b e2 (Tr.link n l m n0.e c) d).refs.Nodup := by simp only [Tr.refs, Tr.link_refs] at hnd ⊢; simpa using hnd
        have hG2 : ∀ x ∈ (Tr.node b e2 (Tr.link n l m n0.e c) d).toList, G x := fun x hx => hG x (by simp [Tr.toList, Tr.link_list] at hx ⊢; exact hx)
        have hsz : (Tr.node b e2 (Tr.link n l m n0.e c) d).size < N := by simp only [Tr.size, Tr.link_size]; omega
        obtain ⟨p2, v1, v2⟩ := lay_ok ok t2.pw hlk1 t2.rep hd1 (nodup_l hnd2) (nodup_u hnd2) (fun x hx => hG2 x (by rw [he2] at hx; exact hx)) (by simpa [Tr.size] using hsz)
        have hrep : Rep S p2 b (.node b e2 (Tr.link n l m n0.e c) d) := by have := v2.rep; rw [he2] at this; exact this
        obtain ⟨r', p3, y1, y2⟩ := balance_ok ok v2.pw hrep hnd2 hG2 hsz
        refine ⟨r', p3, ?_, y2.pw, y2.rep, fun x hx => ?_, y2.cap.trans (v2.cap.trans t2.cap)⟩
        · simp only [q1, Option.bind_some, t1, v1, y1]
        · have hx1 : x ∉ (Tr.node b e2 (Tr.link n l m n0.e c) d).refs := by simp only [Tr.refs, Tr.link_refs] at hx ⊢; simpa using hx
          simp only [Tr.refs, List.mem_append, List.mem_cons, not_or] at hx
          rw [y2.frame x hx1, v2.frame x (by simp; exact hx.2.2.2.1), t2.frame x (by simp only [List.mem_append, List.mem_cons, not_or]; exact ⟨hx.1, hx.2.1, hx.2.2.1⟩)]
    · simp only [c1, decide_false, cond_false, if_false]
      by_cases c3 : l.w > 3 * u.w
      · simp only [c3, decide_true, cond_true, if_true]
        cases l with
        | nil => simp only [Tr.w, Tr.size] at c3; omega
        | node r2 e2 c d =>
          obtain ⟨n2, q1, q2⟩ := get_ok ok hP hl
          obtain ⟨hr2, he2, hc, hd, hlk2⟩ := q2.node rfl
          subst hr2
          simp only [Tr.size] at hn hN
          have hnd' : (c.refs ++ a :: (d.refs ++ m :: u.refs)).Nodup := by simp only [Tr.refs] at hnd; simpa using hnd
          have hnd1 : (d.refs ++ m :: u.refs).Nodup := nodup_right hnd'
          have haL : a ∉ d.refs ++ m :: u.refs := nodup_u hnd'
          have hcL : ∀ x ∈ c.refs, x ∉ d.refs ++ m :: u.refs := fun x hx h => nodup_lu hnd' hx h
          obtain ⟨r1, p1, t1, t2⟩ := link_ok ok n hP (by omega) hd hm hu hnd1 (fun x hx => hG x (by simp [Tr.toList] at hx ⊢; rcases hx with hx | hx | hx <;> simp [hx])) (by omega)
          have hlk1 : look p1 a = some n2 := by rw [t2.frame a haL]; exact hlk2
          have hc1 : Rep S p1 n2.left c := hc.frame (fun x hx => t2.frame x (hcL x hx))
          have hnd2 : (Tr.node a e2 c (Tr.link n d m n0.e u)).refs.Nodup := by simp only [Tr.refs, Tr.link_refs]; exact hnd'
          have hG2 : ∀ x ∈ (Tr.node a e2 c (Tr.link n d m n0.e u)).toList, G x := fun x hx => hG x (by simp [Tr.toList, Tr.link_list] at hx ⊢; exact hx)
          have hsz : (Tr.node a e2 c (Tr.link n d m n0.e u)).size < N := by simp only [Tr.size, Tr.link_size]; omega
          obtain ⟨p2, v1, v2⟩ := lay_ok ok t2.pw hlk1 hc1 t2.rep (nodup_l hnd2) (nodup_u hnd2) (fun x hx => hG2 x (by rw [he2] at hx; exact hx)) (by simpa [Tr.size] using hsz)
          have hrep : Rep S p2 a (.node a e2 c (Tr.link n d m n0.e u)) := by have := v2.rep; rw [he2] at this; exact this
          obtain ⟨r', p3, y1, y2⟩ := balance_ok ok v2.pw hrep hnd2 hG2 hsz
          refine ⟨r', p3, ?_, y2.pw, y2.rep, fun x hx => ?_, y2.cap.trans (v2.cap.trans t2.cap)⟩
          · simp only [q1, Option.bind_some, t1, v1, y1]
          · have hx1 : x ∉ (Tr.node a e2 c (Tr.link n d m n0.e u)).refs := by simp only [Tr.refs, Tr.link_refs] at hx ⊢; simpa using hx
            simp only [Tr.refs, List.mem_append, List.mem_cons, not_or] at hx
            rw [y2.frame x hx1, v2.frame x (by simp; exact hx.1.2.1), t2.frame x (by simp only [List.mem_append, List.mem_cons, not_or]; exact ⟨hx.1.2.2, hx.2⟩)]
      · simp only [c3, decide_false, cond_false, if_false]
        obtain ⟨p1, t1, t2⟩ := lay_ok ok hP hm hl hu (nodup_l hnd) (nodup_u hnd) hG hN
        refine ⟨m, p1, by simp only [t1, Option.bind_some], t2.pw, t2.rep, fun x hx => t2.frame x ?_, t2.cap⟩
        simp only [List.mem_append, List.mem_cons, not_or] at hx
        simp; exact hx.2.1
theorem linkf_ok (ok : OpsOk O k N G S lt) (hk : N ≤ k) {p : PN E A} {L : List TRef} {B : Nat} (hP : PW p L B) {a m b : TRef} {n0 : TNode E A} {l u : Tr E} (hl : Rep S p a l) (hm : look p m = some n0) (hu : Rep S p b u) (hnd : (l.refs ++ m :: u.refs).Nodup)
    (hG : ∀ x ∈ l.toList ++ n0.e :: u.toList, G x) (hN : l.size + 1 + u.size < N) : ∃ r' p', Tree_link.f O k p a m b = some (r', p') ∧ Left S p p' L B r' (Tr.link k l m n0.e u) (l.refs ++ m :: u.refs) :=
  link_ok ok k hP (by omega) hl hm hu hnd hG hN
end
end Go.Proofs.Ythcehagablploaa
namespace Go.Proofs.Ythcehagablploaa
open Go Go.Proofs.Ythcehagablploaa.Sx
structure Cut {E : Type} (lt : E → E → Prop) (e : E) (l a m b : List E) : Prop where
  eq : l = a ++ (m ++ b)
  la : ∀ x ∈ a, lt x e
  lb : ∀ x ∈ b, lt e x
  lm : m = [] ∨ ∃ y, m = [y] ∧ ¬ lt e y ∧ ¬ lt y e
abbrev InOrd {E : Type} (lt : E → E → Prop) (l : List E) : Prop := l.Pairwise lt
section
variable {E A : Type} {O : Ops E A} {k N : Nat} {G : E → Prop} {S : A → List E → Prop} {lt : E → E → Prop}
theorem Cut.nil (e : E) : Cut lt e [] [] [] [] := ⟨rfl, by simp, by simp, .inl rfl⟩
theorem Cut.left (ok : OpsOk O k N G S lt) {e n : E} {l a m b u : List E} (h : Cut lt e l a m b) (hs : InOrd lt (l ++ n :: u)) (hl : lt e n) : Cut lt e (l ++ n :: u) a m (b ++ n :: u) := by
  refine ⟨by rw [h.eq]; simp, h.la, fun x hx => ?_, h.lm⟩
  rcases List.mem_append.1 hx with hx | hx
  · exact h.lb x hx
  · rcases List.mem_cons.1 hx with rfl | hx
    · exact hl
    · exact ok.trans hl ((List.pairwise_cons.1 (List.pairwise_append.1 hs).2.1).1 x hx)
theorem Cut.right (ok : OpsOk O k N G S lt) {e n : E} {l a m b u : List E} (h : Cut lt e u a m b) (hs : InOrd lt (l ++ n :: u)) (hl : lt n e) : Cut lt e (l ++ n :: u) (l ++ n :: a) m b := by
  refine ⟨by rw [h.eq]; simp, fun x hx => ?_, h.lb, h.lm⟩
  rcases List.mem_append.1 hx with hx | hx
  · exact ok.trans ((List.pairwise_append.1 hs).2.2 x hx n List.mem_cons_self) hl
  · rcases List.mem_cons.1 hx with rfl | hx
    · exact hl
    · exact h.la x hx
theorem Cut.mid (ok : OpsOk O k N G S lt) {e n : E} {l u : List E} (hs : InOrd lt (l ++ n :: u)) (h1 : ¬ lt e n) (h2 : ¬ lt n e) : Cut lt e (l ++ n :: u) l [n] u := by
  refine ⟨by simp, fun x hx => ?_, fun x hx => ?_, .inr ⟨n, rfl, h1, h2⟩⟩
  · exact ok.right h2 h1 ((List.pairwise_append.1 hs).2.2 x hx n List.mem_cons_self)
  · exact ok.left h2 h1 ((List.pairwise_cons.1 (List.pairwise_append.1 hs).2.1).1 x hx)
theorem sorted_l {l u : List E} {n : E} (hs : InOrd lt (l ++ n :: u)) : InOrd lt l := (List.pairwise_append.1 hs).1
theorem sorted_u {l u : List E} {n : E} (hs : InOrd lt (l ++ n :: u)) : InOrd lt u := (List.pairwise_cons.1 (List.pairwise_append.1 hs).2.1).2
theorem Cut.put (ok : OpsOk O k N G S lt) {e : E} {l a m b : List E} (h : Cut lt e l a m b) (hs : InOrd lt l) : InOrd lt (a ++ e :: b) := by
  rw [h.eq] at hs
  obtain ⟨h1, h2, h3⟩ := List.pairwise_append.1 hs
  refine List.pairwise_append.2 ⟨h1, List.pairwise_cons.2 ⟨h.lb, (List.pairwise_append.1 h2).2.1⟩, fun x hx y hy => ?_⟩
  rcases List.mem_cons.1 hy with rfl | hy
  · exact h.la x hx
  · exact h3 x hx y (List.mem_append_right _ hy)
structure PutL (S : A → List E → Prop) (p p' : PN E A) (L : List TRef) (B : Nat) (t t' : Tr E) (r' : TRef) (F : List TRef) : Prop where
  pw : PW p' (F ++ L) (B + 1)
  rep : Rep S p' r' t'
  refs : t'.refs.Perm (F ++ t.refs)
  frame : ∀ x, x ∉ F → x ∉ t.refs → look p' x = look p x
  cap : p'.cap = p.cap
theorem put_ok (ok : OpsOk O k N G S lt) (hk : N ≤ k) {p : PN E A} {L : List TRef} {B : Nat} (hP : PW p L B) (hB : B + 1 < 4294967295) (e : E) (hGe : G e) : ∀ (n : Nat) {r : TRef} {t : Tr E}, t.size < n → Rep S p r t → t.refs.Nodup → InOrd lt t.toList → (∀ x ∈ t.toList, G x) → t.size + 1 < N →
    ∃ a m b, Cut lt e t.toList a m b ∧
      ((m = [] ∧ (L.length : Int) = p.cap ∧ ∃ rr, Tree_put.r O k n p r e = some (rr, false, p)) ∨
       (∃ r' p' t' F, (m = [] → (L.length : Int) ≠ p.cap) ∧ F.length + m.length = 1 ∧ Tree_put.r O k n p r e = some (r', true, p') ∧ t'.toList = a ++ e :: b ∧ PutL S p p' L B t t' r' F))
  | 0, _, _, h, _, _, _, _, _ => by omega
  | n + 1, r, .nil, hn, hr, hnd, hs, hG, hN => by
    refine ⟨[], [], [], Cut.nil e, ?_⟩
    have e0 : (r.gen == 0) = true := by simpa using hr.nil_iff.2 rfl
    obtain ⟨s, s1, s2⟩ := ok.sum e hGe
    simp only [Tree_put.r, e0, cond_true, s1, Option.bind_some]
    by_cases hc : (L.length : Int) = p.cap
    · exact .inl ⟨trivial, hc, ⟨⟨0, 0⟩, by rw [hP.put_full hc]; rfl⟩⟩
    · right
      obtain ⟨r1, p1, q1, q2, q3, q4, q5, q6, q7⟩ := hP.put (z := zNode O) hc hB (TNode.mk e zTRef zTRef 1 s)
      refine ⟨r1, p1, .node r1 e .nil .nil, [r1], fun _ => hc, rfl, by rw [q1]; rfl, rfl, q4, ⟨rfl, q3, _, q5, rfl, rfl, by simpa [Tr.toList] using s2, rfl, rfl⟩, by simp [Tr.refs], fun x hx _ => q6 x (by simpa using hx), q7⟩
  | n + 1, r, .node r0 e0 l u, hn, hr, hnd, hs, hG, hN => by
    obtain ⟨n1, g1, g2⟩ := get_ok ok hP hr
    obtain ⟨rfl, he, hl, hu, hlk⟩ := g2.node rfl
    have hg : (r.gen == 0) = false := by
      have := hP.gen_ne (hP.mem hlk); simpa using this
    obtain ⟨c, c1, c2, c3⟩ := ok.cmp e n1.e
    have hsz : (Tr.node r e0 l u).size = l.size + 1 + u.size := rfl
    have hln : (Tr.node r e0 l u).toList = l.toList ++ e0 :: u.toList := rfl
    have hrL : r ∈ L := hP.mem hlk
    simp only [Tree_put.r, hg, cond_false, g1, Option.bind_some, c1]
    rw [he] at c2 c3
    rw [hln] at hs hG ⊢
    by_cases h1 : c < 0
    · have hlt := c2.1 h1
      simp only [h1, decide_true, cond_true]
      obtain ⟨a, m, b, hcut, hres⟩ := put_ok ok hk hP hB e hGe n (by omega) hl (nodup_left hnd) (sorted_l hs) (fun x hx => hG x (List.mem_append_left _ hx)) (by omega)
      refine ⟨a, m, b ++ e0 :: u.toList, hcut.left ok hs hlt, ?_⟩
      rcases hres with ⟨h2, h3, rr, h4⟩ | ⟨r', p', t', F, h2, h3, h4, h5, h6⟩
      · exact .inl ⟨h2, h3, r, by simp only [h4, Option.bind_some]; rfl⟩
      · right
        have hF : ∀ x ∈ F, x ∉ L := fun x hx hL => (List.nodup_append.1 h6.pw.ld).2.2 x hx x hL rfl
        have hrF : r ∉ F := fun h => hF r h hrL
        have hlk1 : look p' r = some n1 := by rw [h6.frame r hrF (nodup_l hnd)]; exact hlk
        have hu1 : Rep S p' n1.right u := hu.frame (fun x hx => h6.frame x (fun h => hF x h (hu.sub hP x hx)) (fun h => nodup_lu hnd h hx))
        have hperm : (t'.refs ++ r :: u.refs).Perm (F ++ (Tr.node r e0 l u).refs) := by
          have := h6.refs.append_right (r :: u.refs)
          simpa [Tr.refs] using this
        have hFn : (F ++ (Tr.node r e0 l u).refs).Nodup := List.nodup_append.2 ⟨(List.nodup_append.1 h6.pw.ld).1, hnd, fun x hx y hy hxy => hF x hx (hxy ▸ hr.sub hP y hy)⟩
        have hts : t'.size ≤ l.size + 1 := by
          have := congrArg List.length h5
          have h7 := congrArg List.length hcut.eq
          simp only [Tr.len_toList, List.length_append, List.length_cons] at this h7; omega
        obtain ⟨r2, p2, v1, v2⟩ := linkf_ok ok hk h6.pw h6.rep hlk1 hu1 (hperm.nodup_iff.2 hFn) (fun x hx => by
          rw [h5, he] at hx
          simp only [List.mem_append, List.mem_cons] at hx
          have h8 : ∀ y, y ∈ a ∨ y ∈ b → y ∈ l.toList := fun y hy => by rw [hcut.eq]; rcases hy with hy | hy <;> simp [hy]
          rcases hx with (hx | rfl | hx) | rfl | hx
          · exact hG x (List.mem_append_left _ (h8 x (.inl hx)))
          · exact hGe
          · exact hG x (List.mem_append_left _ (h8 x (.inr hx)))
          · exact hG x (by simp)
          · exact hG x (by simp [hx])) (by omega)
        refine ⟨r2, p2, Tr.link k t' r n1.e u, F, h2, h3, ?_, ?_, v2.pw, v2.rep, ?_, fun x hx1 hx2 => ?_, v2.cap.trans h6.cap⟩
        · simp only [h4, Option.bind_some, v1]; rfl
        · rw [Tr.link_list, h5, he]; simp
        · rw [Tr.link_refs]; exact hperm
        · have hx3 : x ∉ l.refs := fun h => hx2 (by simp [Tr.refs, h])
          rw [v2.frame x (fun h => by
            rcases List.mem_append.1 (hperm.mem_iff.1 h) with h | h
            · exact hx1 h
            · exact hx2 h), h6.frame x hx1 hx3]
    · simp only [h1, decide_false, cond_false]
      by_cases h1' : c > 0
      · have hlt := c3.1 h1'
        simp only [h1', decide_true, cond_true]
        obtain ⟨a, m, b, hcut, hres⟩ := put_ok ok hk hP hB e hGe n (by omega) hu (nodup_right hnd) (sorted_u hs) (fun x hx => hG x (by simp [hx])) (by omega)
        refine ⟨l.toList ++ e0 :: a, m, b, hcut.right ok hs hlt, ?_⟩
        rcases hres with ⟨h2, h3, rr, h4⟩ | ⟨r', p', t', F, h2, h3, h4, h5, h6⟩
        · exact .inl ⟨h2, h3, r, by simp only [h4, Option.bind_some]; rfl⟩
        · right
          have hF : ∀ x ∈ F, x ∉ L := fun x hx hL => (List.nodup_append.1 h6.pw.ld).2.2 x hx x hL rfl
          have hrF : r ∉ F := fun h => hF r h hrL
          have hlk1 : look p' r = some n1 := by rw [h6.frame r hrF (nodup_u hnd)]; exact hlk
          have hl1 : Rep S p' n1.left l := hl.frame (fun x hx => h6.frame x (fun h => hF x h (hl.sub hP x hx)) (fun h => nodup_lu hnd hx h))
          have hperm : (l.refs ++ r :: t'.refs).Perm (F ++ (Tr.node r e0 l u).refs) := by
            have h7 : (l.refs ++ r :: t'.refs).Perm (l.refs ++ r :: (F ++ u.refs)) := List.Perm.append_left _ (List.Perm.cons _ h6.refs)
            refine h7.trans ?_
            have : (F ++ (Tr.node r e0 l u).refs) = F ++ ((l.refs ++ [r]) ++ u.refs) := by simp [Tr.refs]
            rw [this, show l.refs ++ r :: (F ++ u.refs) = (l.refs ++ [r]) ++ (F ++ u.refs) by simp, ← List.append_assoc, ← List.append_assoc]
            exact List.Perm.append_right _ List.perm_append_comm
          have hFn : (F ++ (Tr.node r e0 l u).refs).Nodup := List.nodup_append.2 ⟨(List.nodup_append.1 h6.pw.ld).1, hnd, fun x hx y hy hxy => hF x hx (hxy ▸ hr.sub hP y hy)⟩
          have hts : t'.size ≤ u.size + 1 := by
            have := congrArg List.length h5
            have h7 := congrArg List.length hcut.eq
            simp only [Tr.len_toList, List.length_append, List.length_cons] at this h7; omega
          obtain ⟨r2, p2, v1, v2⟩ := linkf_ok ok hk h6.pw hl1 hlk1 h6.rep (hperm.nodup_iff.2 hFn) (fun x hx => by
            rw [h5, he] at hx
            simp only [List.mem_append, List.mem_cons] at hx
            have h8 : ∀ y, y ∈ a ∨ y ∈ b → y ∈ u.toList := fun y hy => by rw [hcut.eq]; rcases hy with hy | hy <;> simp [hy]
            rcases hx with hx | rfl | hx | rfl | hx
            · exact hG x (by simp [hx])
            · exact hG x (by simp)
            · exact hG x (by simp [h8 x (.inl hx)])
            · exact hGe
            · exact hG x (by simp [h8 x (.inr hx)])) (by omega)
          refine ⟨r2, p2, Tr.link k l r n1.e t', F, h2, h3, ?_, ?_, v2.pw, v2.rep, ?_, fun x hx1 hx2 => ?_, v2.cap.trans h6.cap⟩
          · simp only [h4, Option.bind_some, v1]; rfl
          · rw [Tr.link_list, h5, he]; simp
          · rw [Tr.link_refs]; exact hperm
          · have hx3 : x ∉ u.refs := fun h => hx2 (by simp [Tr.refs, h])
            rw [v2.frame x (fun h => by
              rcases List.mem_append.1 (hperm.mem_iff.1 h) with h | h
              · exact hx1 h
              · exact hx2 h), h6.frame x hx1 hx3]
      · simp only [h1', decide_false, cond_false]
        have n1' : ¬ lt e e0 := fun h => h1 (c2.2 h)
        have n2' : ¬ lt e0 e := fun h => h1' (c3.2 h)
        refine ⟨l.toList, [e0], u.toList, Cut.mid ok hs n1' n2', .inr ?_⟩
        obtain ⟨p1, q1, q2, q3, q4, q5⟩ := hP.set hlk (TNode.mk e n1.left n1.right n1.size n1.sum)
        have hl1 : Rep S p1 n1.left l := hl.frame (fun x hx => q4 x (fun h => nodup_l hnd (h ▸ hx)))
        have hu1 : Rep S p1 n1.right u := hu.frame (fun x hx => q4 x (fun h => nodup_u hnd (h ▸ hx)))
        obtain ⟨p2, v1, v2⟩ := lay_ok ok q2 q3 hl1 hu1 (nodup_l hnd) (nodup_u hnd) (fun x hx => by
          simp only [List.mem_append, List.mem_cons] at hx
          rcases hx with hx | rfl | hx
          · exact hG x (by simp [hx])
          · exact hGe
          · exact hG x (by simp [hx])) (by omega)
        refine ⟨r, p2, .node r e l u, [], by simp, rfl, ?_, rfl, v2.pw.mono (Nat.le_succ _) hB, v2.rep, by simp [Tr.refs], fun x hx1 hx2 => ?_, v2.cap.trans q5⟩
        · simp only [q1, Option.bind_some, v1]
        · have hxr : x ≠ r := fun h => hx2 (by simp [Tr.refs, h])
          rw [v2.frame x (by simpa using hxr), q4 x hxr]
end
end Go.Proofs.Ythcehagablploaa
namespace Go.Proofs.Ythcehagablploaa
open Go Go.Proofs.Ythcehagablploaa.Sx
namespace Tr
variable {E : Type}
def ld : Nat → Tr E → Tr E → Nat
  | 0, _, _ => 0
  | n + 1, l, u => if u.w > 3 * l.w then (match u with
      | node _ _ a _ => 1 + ld n l a
      | nil => 0)
    else if l.w > 3 * u.w then (match l with
      | node _ _ _ b => 1 + ld n b u
      | nil => 0)
    else 0
theorem ld_flat (n : Nat) {l u : Tr E} (h1 : u.w ≤ 3 * l.w) (h2 : l.w ≤ 3 * u.w) : ld n l u = 0 := by
  cases n with
  | zero => rfl
  | succ n => rw [ld.eq_def]; simp only; rw [if_neg (by omega), if_neg (by omega)]
theorem ld_near (n : Nat) {l u : Tr E} (hl : WB l) (hu : WB u) (hn : Near l u) : ld n l u ≤ 2 := by
  obtain ⟨n1, n2⟩ := hn
  have p1 := w_pos l; have p2 := w_pos u
  cases n with
  | zero => exact Nat.zero_le _
  | succ n =>
    rw [ld.eq_def]; simp only
    by_cases c1 : u.w > 3 * l.w
    · rw [if_pos c1]
      cases u with
      | nil => exact Nat.zero_le _
      | node r2 e2 a b =>
        simp only
        obtain ⟨x1, x2, x3, x4⟩ := hu
        rw [w_node] at *
        have q1 := w_pos a; have q2 := w_pos b
        by_cases c2 : a.w ≤ 3 * l.w
        · rw [ld_flat _ c2 (by omega)]; omega
        · cases n with
          | zero => simp [ld]
          | succ n =>
            rw [ld.eq_def]; simp only
            rw [if_pos (by omega)]
            cases a with
            | nil => simp
            | node r3 e3 a1 a2 =>
              simp only
              obtain ⟨y1, y2, y3, y4⟩ := x3
              rw [w_node] at *
              have z1 := w_pos a1; have z2 := w_pos a2
              rw [ld_flat _ (by omega) (by omega)]
              omega
    · rw [if_neg c1]
      by_cases c2 : l.w > 3 * u.w
      · rw [if_pos c2]
        cases l with
        | nil => exact Nat.zero_le _
        | node r2 e2 a b =>
          simp only
          obtain ⟨x1, x2, x3, x4⟩ := hl
          rw [w_node] at *
          have q1 := w_pos a; have q2 := w_pos b
          by_cases c3 : b.w ≤ 3 * u.w
          · rw [ld_flat _ (by omega) c3]; omega
          · cases n with
            | zero => simp [ld]
            | succ n =>
              rw [ld.eq_def]; simp only
              rw [if_neg (by omega), if_pos (by omega)]
              cases b with
              | nil => simp
              | node r3 e3 b1 b2 =>
                simp only
                obtain ⟨y1, y2, y3, y4⟩ := x4
                rw [w_node] at *
                have z1 := w_pos b1; have z2 := w_pos b2
                rw [ld_flat _ (by omega) (by omega)]
                omega
      · rw [if_neg c2]; exact Nat.zero_le _
end Tr
section
variable {E A : Type} {O : Ops E A} {k N : Nat} {G : E → Prop} {S : A → List E → Prop} {lt : E → E → Prop}
theorem Rep.uniq {p : PN E A} : ∀ {t t2 : Tr E} {r : TRef}, Rep S p r t → Rep S p r t2 → t = t2
  | .nil, .nil, _, _, _ => rfl
  | .nil, .node _ _ _ _, r, h, h2 => by
    obtain ⟨h3, h4, _⟩ := h2
    have : r = zTRef := h
    subst this; exact absurd rfl h4
  | .node _ _ _ _, .nil, r, h, h2 => by
    obtain ⟨h3, h4, _⟩ := h
    have : r = zTRef := h2
    subst this; exact absurd rfl h4
  | .node r1 e1 l1 u1, .node r2 e2 l2 u2, r, h, h2 => by
    obtain ⟨a1, a2, n, a3, a4, a5, a6, a7, a8⟩ := h
    obtain ⟨b1, b2, m, b3, b4, b5, b6, b7, b8⟩ := h2
    rw [a3] at b3; cases b3
    subst a1; subst b1; subst a4; subst b4
    rw [a7.uniq b7, a8.uniq b8]
theorem w3 {n : Nat} (h : n < 4294967296) : w64 (3 * (n : Int)) = ((3 * n : Nat) : Int) := by simp only [w64, IntKind.wrap_i64]; omega
theorem link_v (ok : OpsOk O k N G S lt) : ∀ (n : Nat) {p : PN E A} {L : List TRef} {B : Nat} (hP : PW p L B) {a m b : TRef} {l u : Tr E} (hl : Rep S p a l) (hu : Rep S p b u) (hN : l.size + 1 + u.size < N) {r' : TRef} {p' : PN E A} (h : Tree_link.r O k n p a m b = some (r', p')) {v : Int} (h0 : 0 ≤ v) (hb : v + 100 * (Tr.ld n l u : Nat) + 200 < 4611686018427387904),
    ∃ v', VTree_link.r O k n (vz p v) a m b = some (r', vz p' v') ∧ v ≤ v' ∧ v' ≤ v + 37 * (Tr.ld n l u : Nat) + 6
  | 0, _, _, _, _, _, _, _, _, _, _, _, _, _, _, h, _, _, _ => by cases h
  | n + 1, p, L, B, hP, a, m, b, l, u, hl, hu, hN, r', p', h, v, h0, hb => by
    have hbig := ok.big
    have wl := weight_ok ok hP hl (by omega)
    have wu := weight_ok ok hP hu (by omega)
    simp only [Tree_link.r, wl, wu, Option.bind_some] at h
    obtain ⟨v1, a1, b1, c1⟩ := weight_v wl h0 (by omega)
    obtain ⟨v2, a2, b2, c2⟩ := weight_v wu (v := v1) (by omega) (by omega)
    simp only [VTree_link.r, a1, a2, Option.bind_some]
    rw [w3 (by simp only [Tr.w]; omega), w3 (by simp only [Tr.w]; omega)] at h
    rw [w3 (by simp only [Tr.w]; omega), w3 (by simp only [Tr.w]; omega)]
    rw [Tr.ld.eq_def] at hb ⊢
    simp only at hb ⊢
    by_cases c3 : u.w > 3 * l.w
    · have d3 : decide (((u.w : Nat) : Int) > ((3 * l.w : Nat) : Int)) = true := decide_eq_true (by omega)
      rw [d3, cond_true] at h
      rw [d3, cond_true]
      rw [if_pos c3] at hb ⊢
      cases u with
      | nil => have := Tr.w_pos l; rw [Tr.w_nil] at c3; omega
      | node r2 e2 c d =>
        simp only at hb ⊢
        obtain ⟨n2, q1, q2⟩ := get_ok ok hP hu
        obtain ⟨hr2, he2, hc, hd, hlk2⟩ := q2.node rfl
        simp only [Tr.size] at hN
        rw [q1, Option.bind_some] at h
        obtain ⟨x4, g4, h⟩ := bnd h
        obtain ⟨x5, g5, h⟩ := bnd h
        obtain ⟨x6, g6, h⟩ := bnd h
        cases h
        obtain ⟨v3, a3, b3, e3⟩ := get_v q1 (v := v2) (by omega) (by omega)
        obtain ⟨v4, a4, b4, e4⟩ := link_v ok n hP hl hc (by omega) (r' := x4.1) (p' := x4.2) g4 (v := v3) (by omega) (by omega)
        obtain ⟨v5, a5, b5, e5⟩ := lay_v (r' := x5.1) (p' := x5.2) g5 (v := v4) (by omega) (by omega)
        obtain ⟨v6, a6, b6, e6⟩ := balance_v (r' := x6.1) (p' := x6.2) g6 (v := v5) (by omega) (by omega)
        exact ⟨v6, by simp only [a3, a4, a5, a6, Option.bind_some], by omega, by omega⟩
    · have d3 : decide (((u.w : Nat) : Int) > ((3 * l.w : Nat) : Int)) = false := decide_eq_false (by omega)
      rw [d3, cond_false] at h
      rw [d3, cond_false]
      rw [if_neg c3] at hb ⊢
      by_cases c4 : l.w > 3 * u.w
      · have d4 : decide (((l.w : Nat) : Int) > ((3 * u.w : Nat) : Int)) = true := decide_eq_true (by omega)
        rw [d4, cond_true] at h
        rw [d4, cond_true]
        rw [if_pos c4] at hb ⊢
        cases l with
        | nil => have := Tr.w_pos u; rw [Tr.w_nil] at c4; omega
        | node r2 e2 c d =>
          simp only at hb ⊢
          obtain ⟨n2, q1, q2⟩ := get_ok ok hP hl
          obtain ⟨hr2, he2, hc, hd, hlk2⟩ := q2.node rfl
          simp only [Tr.size] at hN
          rw [q1, Option.bind_some] at h
          obtain ⟨x4, g4, h⟩ := bnd h
          obtain ⟨x5, g5, h⟩ := bnd h
          obtain ⟨x6, g6, h⟩ := bnd h
          cases h
          obtain ⟨v3, a3, b3, e3⟩ := get_v q1 (v := v2) (by omega) (by omega)
          obtain ⟨v4, a4, b4, e4⟩ := link_v ok n hP hd hu (by omega) (r' := x4.1) (p' := x4.2) g4 (v := v3) (by omega) (by omega)
          obtain ⟨v5, a5, b5, e5⟩ := lay_v (r' := x5.1) (p' := x5.2) g5 (v := v4) (by omega) (by omega)
          obtain ⟨v6, a6, b6, e6⟩ := balance_v (r' := x6.1) (p' := x6.2) g6 (v := v5) (by omega) (by omega)
          exact ⟨v6, by simp only [a3, a4, a5, a6, Option.bind_some], by omega, by omega⟩
      · have d4 : decide (((l.w : Nat) : Int) > ((3 * u.w : Nat) : Int)) = false := decide_eq_false (by omega)
        rw [d4, cond_false] at h
        rw [d4, cond_false]
        obtain ⟨x4, g4, h⟩ := bnd h
        cases h
        obtain ⟨v4, a4, b4, e4⟩ := lay_v (r' := x4.1) (p' := x4.2) g4 (v := v2) (by omega) (by omega)
        exact ⟨v4, by simp only [a4, Option.bind_some], by omega, by omega⟩
theorem linkf_v (ok : OpsOk O k N G S lt) {p : PN E A} {L : List TRef} {B : Nat} (hP : PW p L B) {a m b : TRef} {l u : Tr E} (hl : Rep S p a l) (hu : Rep S p b u) (hN : l.size + 1 + u.size < N) (wl : Tr.WB l) (wu : Tr.WB u) (hn : Tr.Near l u) {r' : TRef} {p' : PN E A} (h : Tree_link.f O k p a m b = some (r', p')) {v : Int} (h0 : 0 ≤ v) (hb : v + 400 < 4611686018427387904) :
    ∃ v', VTree_link.f O k (vz p v) a m b = some (r', vz p' v') ∧ v ≤ v' ∧ v' ≤ v + 80 := by
  have hd := Tr.ld_near k wl wu hn
  obtain ⟨v', h1, h2, h3⟩ := link_v ok k hP hl hu hN (m := m) h h0 (by omega)
  exact ⟨v', h1, h2, by omega⟩
end
end Go.Proofs.Ythcehagablploaa
namespace Go.Proofs.Ythcehagablploaa
open Go Go.Proofs.Ythcehagablploaa.Sx
theorem pPut_v {α : Type} {z : α} {p : Pool α} {y : α} {x : ((Int × Int) × Bool) × Pool α} (h : pPut z p y = some x) (v : Int) : pPut z (vz p v) y = some (x.1, vz x.2 v) := by
  unfold pPut at h ⊢
  rw [vz_ok]
  cases hp : decide (pOk p) with
  | false => rw [hp] at h; cases h
  | true =>
    rw [hp, cond_true] at h
    rw [cond_true]
    cases h
    unfold Pool.put Pool.next
    by_cases hh : p.held = p.cap
    · simp only [hh, if_true]
    · simp only [hh, if_false]
      cases hl : p.free.getLast? with
      | none =>
        simp only
        split <;> rfl
      | some i =>
        simp only
        split <;> rfl
namespace Tr
variable {E : Type}
theorem wb_one {t : Tr E} (h : t.size = 1) : WB t := by
  cases t with
  | nil => trivial
  | node r e l u =>
    simp only [size] at h
    have hl := w_one (t := l) (by simp only [w]; omega)
    have hu := w_one (t := u) (by simp only [w]; omega)
    subst hl; subst hu
    exact ⟨by rw [w_nil]; omega, by rw [w_nil]; omega, trivial, trivial⟩
theorem link_wbk {k : Nat} (hk : 3 ≤ k) {l u : Tr E} {r : TRef} {e : E} (hl : WB l) (hu : WB u) (hn : Near l u) : WB (link k l r e u) := by
  obtain ⟨n, rfl⟩ : ∃ n, k = n + 3 := ⟨k - 3, by omega⟩
  exact link_wb n hl hu hn
end Tr
section
variable {E A : Type} {O : Ops E A} {k N : Nat} {G : E → Prop} {S : A → List E → Prop} {lt : E → E → Prop}
theorem put_v (ok : OpsOk O k N G S lt) (hk : N ≤ k) (h3 : 3 ≤ k) {p : PN E A} {L : List TRef} {B : Nat} (hP : PW p L B) (hB : B + 1 < 4294967295) (e : E) (hGe : G e) : ∀ (n : Nat) {r : TRef} {t : Tr E}, t.size < n → Rep S p r t → t.refs.Nodup → InOrd lt t.toList → (∀ x ∈ t.toList, G x) → t.size + 1 < N → Tr.WB t →
    ∀ {r' : TRef} {f : Bool} {p' : PN E A}, Tree_put.r O k n p r e = some (r', f, p') → ∀ {v : Int}, 0 ≤ v → v + 1000 * (t.ht + 1 : Nat) < 4611686018427387904 →
    (f = true → ∃ t', Rep S p' r' t' ∧ Tr.WB t' ∧ t.w ≤ t'.w ∧ t'.w ≤ t.w + 1) ∧ ∃ v', VTree_put.r O k n (vz p v) r e = some (r', f, vz p' v') ∧ v ≤ v' ∧ v' ≤ v + 82 * (t.ht : Nat)
  | 0, _, _, h, _, _, _, _, _, _, _, _, _, _, _, _, _ => by omega
  | n + 1, r, .nil, hn, hr, hnd, hs, hG, hN, hw, r', f, p', h, v, h0, hb => by
    have e0 : (r.gen == 0) = true := by simpa using hr.nil_iff.2 rfl
    obtain ⟨s, s1, s2⟩ := ok.sum e hGe
    have h' := h
    simp only [Tree_put.r, e0, cond_true, s1, Option.bind_some] at h
    simp only [VTree_put.r, e0, cond_true, s1, Option.bind_some]
    obtain ⟨x, g, h⟩ := bnd h
    cases h
    refine ⟨fun hf => ?_, v, by rw [pPut_v g v]; rfl, by omega, by omega⟩
    obtain ⟨a, m, b, hcut, hres⟩ := put_ok ok hk hP hB e hGe (n + 1) (t := .nil) hn hr hnd hs hG hN
    rcases hres with ⟨_, _, rr, h4⟩ | ⟨r2, p2, t', F, h2, h3', h4, h5, h6⟩
    · rw [h4] at h'; simp only [Option.some.injEq, Prod.mk.injEq] at h'; rw [← h'.2.1] at hf; cases hf
    · rw [h4] at h'; simp only [Option.some.injEq, Prod.mk.injEq] at h'
      have hsz : t'.size = 1 := by
        have h7 := congrArg List.length h5
        have h8 := congrArg List.length hcut.eq
        simp only [Tr.len_toList, List.length_append, List.length_cons, Tr.toList, List.length_nil] at h7 h8; omega
      refine ⟨t', ?_, Tr.wb_one hsz, by simp only [Tr.w, Tr.size]; omega, by simp only [Tr.w, Tr.size]; omega⟩
      rw [← h'.1, ← h'.2.2]; exact h6.rep
  | n + 1, r, .node r0 e0 l u, hn, hr, hnd, hs, hG, hN, hw, rz, f, pz, h, v, h0, hb => by
    obtain ⟨n1, g1, g2⟩ := get_ok ok hP hr
    obtain ⟨rfl, he, hl, hu, hlk⟩ := g2.node rfl
    have hg : (r.gen == 0) = false := by
      have := hP.gen_ne (hP.mem hlk); simpa using this
    obtain ⟨c, c1, c2, c3⟩ := ok.cmp e n1.e
    have hsz : (Tr.node r e0 l u).size = l.size + 1 + u.size := rfl
    have hln : (Tr.node r e0 l u).toList = l.toList ++ e0 :: u.toList := rfl
    have hht : (Tr.node r e0 l u).ht = 1 + max l.ht u.ht := rfl
    have hww := Tr.w_node r e0 l u
    obtain ⟨w1, w2, w3', w4⟩ := hw
    have hrL : r ∈ L := hP.mem hlk
    obtain ⟨v1, a1, b1, d1⟩ := get_v g1 h0 (by omega)
    simp only [Tree_put.r, hg, cond_false, g1, Option.bind_some, c1] at h
    simp only [VTree_put.r, hg, cond_false, a1, Option.bind_some, c1]
    rw [hln] at hs hG
    by_cases h1 : c < 0
    · simp only [h1, decide_true, cond_true] at h ⊢
      obtain ⟨x5, g5, h⟩ := bnd h
      obtain ⟨ih1, v2, a2, b2, d2⟩ := put_v ok hk h3 hP hB e hGe n (by omega) hl (nodup_left hnd) (sorted_l hs) (fun x hx => hG x (List.mem_append_left _ hx)) (by omega) w3' (r' := x5.1) (f := x5.2.1) (p' := x5.2.2) g5 (v := v1) (by omega) (by omega)
      simp only [a2, Option.bind_some]
      obtain ⟨a, m, b, hcut, hres⟩ := put_ok ok hk hP hB e hGe n (by omega) hl (nodup_left hnd) (sorted_l hs) (fun x hx => hG x (List.mem_append_left _ hx)) (by omega)
      rcases hres with ⟨_, _, rr, h4⟩ | ⟨r', p', t', F, h2, h3', h4, h5, h6⟩
      · rw [h4] at g5
        cases g5
        simp only [Bool.not_false, cond_true] at h ⊢
        cases h
        exact ⟨fun h => (by cases h), v2, rfl, by omega, by omega⟩
      · rw [h4] at g5
        cases g5
        simp only [Bool.not_true, cond_false] at h ⊢
        obtain ⟨x6, g6, h⟩ := bnd h
        cases h
        have hF : ∀ x ∈ F, x ∉ L := fun x hx hL => (List.nodup_append.1 h6.pw.ld).2.2 x hx x hL rfl
        have hrF : r ∉ F := fun h => hF r h hrL
        have hlk1 : look p' r = some n1 := by rw [h6.frame r hrF (nodup_l hnd)]; exact hlk
        have hu1 : Rep S p' n1.right u := hu.frame (fun x hx => h6.frame x (fun h => hF x h (hu.sub hP x hx)) (fun h => nodup_lu hnd h hx))
        have hperm : (t'.refs ++ r :: u.refs).Perm (F ++ (Tr.node r e0 l u).refs) := by
          have := h6.refs.append_right (r :: u.refs)
          simpa [Tr.refs] using this
        have hFn : (F ++ (Tr.node r e0 l u).refs).Nodup := List.nodup_append.2 ⟨(List.nodup_append.1 h6.pw.ld).1, hnd, fun x hx y hy hxy => hF x hx (hxy ▸ hr.sub hP y hy)⟩
        obtain ⟨t2, k1, k2, k3, k4⟩ := ih1 rfl
        have k1' : Rep S p' r' t2 := k1
        have := h6.rep.uniq k1'
        subst this
        have hts : t'.size ≤ l.size + 1 := by simp only [Tr.w] at k4; omega
        obtain ⟨r2, p2, y1, y2⟩ := linkf_ok ok hk h6.pw h6.rep hlk1 hu1 (hperm.nodup_iff.2 hFn) (fun x hx => by
          rw [h5, he] at hx
          simp only [List.mem_append, List.mem_cons] at hx
          have h8 : ∀ y, y ∈ a ∨ y ∈ b → y ∈ l.toList := fun y hy => by rw [hcut.eq]; rcases hy with hy | hy <;> simp [hy]
          rcases hx with (hx | rfl | hx) | rfl | hx
          · exact hG x (List.mem_append_left _ (h8 x (.inl hx)))
          · exact hGe
          · exact hG x (List.mem_append_left _ (h8 x (.inr hx)))
          · exact hG x (by simp)
          · exact hG x (by simp [hx])) (by omega)
        have hnear : Tr.Near t' u := ⟨by omega, by omega⟩
        have g6' : Tree_link.f O k p' r' r n1.right = some x6 := g6
        have y1' := y1
        rw [y1] at g6'
        cases g6'
        obtain ⟨v3, a3, b3, d3⟩ := linkf_v ok h6.pw h6.rep hu1 (by omega) k2 w4 hnear y1' (v := v2) (by omega) (by omega)
        have a3' : VTree_link.f O k (vz p' v2) r' r n1.right = _ := a3
        refine ⟨fun _ => ⟨_, y2.rep, Tr.link_wbk h3 k2 w4 hnear, ?_, ?_⟩, v3, by simp only [a3', Option.bind_some], by omega, by omega⟩
        · have := Tr.link_size k t' r n1.e u
          simp only [Tr.w] at *; omega
        · have := Tr.link_size k t' r n1.e u
          simp only [Tr.w] at *; omega
    · simp only [h1, decide_false, cond_false] at h ⊢
      by_cases h1' : c > 0
      · simp only [h1', decide_true, cond_true] at h ⊢
        obtain ⟨x5, g5, h⟩ := bnd h
        obtain ⟨ih1, v2, a2, b2, d2⟩ := put_v ok hk h3 hP hB e hGe n (by omega) hu (nodup_right hnd) (sorted_u hs) (fun x hx => hG x (by simp [hx])) (by omega) w4 (r' := x5.1) (f := x5.2.1) (p' := x5.2.2) g5 (v := v1) (by omega) (by omega)
        simp only [a2, Option.bind_some]
        obtain ⟨a, m, b, hcut, hres⟩ := put_ok ok hk hP hB e hGe n (by omega) hu (nodup_right hnd) (sorted_u hs) (fun x hx => hG x (by simp [hx])) (by omega)
        rcases hres with ⟨_, _, rr, h4⟩ | ⟨r', p', t', F, h2, h3', h4, h5, h6⟩
        · rw [h4] at g5
          cases g5
          simp only [Bool.not_false, cond_true] at h ⊢
          cases h
          exact ⟨fun h => (by cases h), v2, rfl, by omega, by omega⟩
        · rw [h4] at g5
          cases g5
          simp only [Bool.not_true, cond_false] at h ⊢
          obtain ⟨x6, g6, h⟩ := bnd h
          cases h
          have hF : ∀ x ∈ F, x ∉ L := fun x hx hL => (List.nodup_append.1 h6.pw.ld).2.2 x hx x hL rfl
          have hrF : r ∉ F := fun h => hF r h hrL
          have hlk1 : look p' r = some n1 := by rw [h6.frame r hrF (nodup_u hnd)]; exact hlk
          have hl1 : Rep S p' n1.left l := hl.frame (fun x hx => h6.frame x (fun h => hF x h (hl.sub hP x hx)) (fun h => nodup_lu hnd hx h))
          have hperm : (l.refs ++ r :: t'.refs).Perm (F ++ (Tr.node r e0 l u).refs) := by
            have h7 : (l.refs ++ r :: t'.refs).Perm (l.refs ++ r :: (F ++ u.refs)) := List.Perm.append_left _ (List.Perm.cons _ h6.refs)
            refine h7.trans ?_
            have : (F ++ (Tr.node r e0 l u).refs) = F ++ ((l.refs ++ [r]) ++ u.refs) := by simp [Tr.refs]
            rw [this, show l.refs ++ r :: (F ++ u.refs) = (l.refs ++ [r]) ++ (F ++ u.refs) by simp, ← List.append_assoc, ← List.append_assoc]
            exact List.Perm.append_right _ List.perm_append_comm
          have hFn : (F ++ (Tr.node r e0 l u).refs).Nodup := List.nodup_append.2 ⟨(List.nodup_append.1 h6.pw.ld).1, hnd, fun x hx y hy hxy => hF x hx (hxy ▸ hr.sub hP y hy)⟩
          obtain ⟨t2, k1, k2, k3, k4⟩ := ih1 rfl
          have k1' : Rep S p' r' t2 := k1
          have := h6.rep.uniq k1'
          subst this
          have hts : t'.size ≤ u.size + 1 := by simp only [Tr.w] at k4; omega
          obtain ⟨r2, p2, y1, y2⟩ := linkf_ok ok hk h6.pw hl1 hlk1 h6.rep (hperm.nodup_iff.2 hFn) (fun x hx => by
            rw [h5, he] at hx
            simp only [List.mem_append, List.mem_cons] at hx
            have h8 : ∀ y, y ∈ a ∨ y ∈ b → y ∈ u.toList := fun y hy => by rw [hcut.eq]; rcases hy with hy | hy <;> simp [hy]
            rcases hx with hx | rfl | hx | rfl | hx
            · exact hG x (by simp [hx])
            · exact hG x (by simp)
            · exact hG x (by simp [h8 x (.inl hx)])
            · exact hGe
            · exact hG x (by simp [h8 x (.inr hx)])) (by omega)
          have hnear : Tr.Near l t' := ⟨by omega, by omega⟩
          have g6' : Tree_link.f O k p' n1.left r r' = some x6 := g6
          have y1' := y1
          rw [y1] at g6'
          cases g6'
          obtain ⟨v3, a3, b3, d3⟩ := linkf_v ok h6.pw hl1 h6.rep (by omega) w3' k2 hnear y1' (v := v2) (by omega) (by omega)
          have a3' : VTree_link.f O k (vz p' v2) n1.left r r' = _ := a3
          refine ⟨fun _ => ⟨_, y2.rep, Tr.link_wbk h3 w3' k2 hnear, ?_, ?_⟩, v3, by simp only [a3', Option.bind_some], by omega, by omega⟩
          · have := Tr.link_size k l r n1.e t'
            simp only [Tr.w] at *; omega
          · have := Tr.link_size k l r n1.e t'
            simp only [Tr.w] at *; omega
      · simp only [h1', decide_false, cond_false] at h ⊢
        obtain ⟨x9, g9, h⟩ := bnd h
        obtain ⟨x10, g10, h⟩ := bnd h
        cases h
        obtain ⟨v2, a2, b2, d2⟩ := pSet_v g9 (v := v1) (by omega) (by omega)
        obtain ⟨v3, a3, b3, d3⟩ := lay_v (r' := x10.1) (p' := x10.2) g10 (v := v2) (by omega) (by omega)
        refine ⟨fun _ => ?_, v3, by simp only [a2, a3, Option.bind_some], by omega, by omega⟩
        obtain ⟨p1, q1, q2, q3, q4, q5⟩ := hP.set hlk (TNode.mk e n1.left n1.right n1.size n1.sum)
        have hl1 : Rep S p1 n1.left l := hl.frame (fun x hx => q4 x (fun h => nodup_l hnd (h ▸ hx)))
        have hu1 : Rep S p1 n1.right u := hu.frame (fun x hx => q4 x (fun h => nodup_u hnd (h ▸ hx)))
        obtain ⟨p2, y1, y2⟩ := lay_ok ok q2 q3 hl1 hu1 (nodup_l hnd) (nodup_u hnd) (fun x hx => by
          simp only [List.mem_append, List.mem_cons] at hx
          rcases hx with hx | rfl | hx
          · exact hG x (by simp [hx])
          · exact hGe
          · exact hG x (by simp [hx])) (by omega)
        rw [q1] at g9
        cases g9
        rw [y1] at g10
        cases g10
        exact ⟨.node r e l u, y2.rep, ⟨w1, w2, w3', w4⟩, by rw [hww, Tr.w_node]; exact Nat.le_refl _, by rw [hww, Tr.w_node]; omega⟩
end
end Go.Proofs.Ythcehagablploaa

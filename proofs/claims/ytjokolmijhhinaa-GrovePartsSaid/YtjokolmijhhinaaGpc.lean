/- My texts that the proof of GroveParts rests on, part 3: a calculus of walks, the walks, and the plain law. -/
import Derived.KernelRfl
import Derived.Test.YtjokolmijhhinaaGpb
set_option linter.unusedVariables false
set_option linter.unusedSimpArgs false
namespace Go.Proofs.Ytjokolmijhhinaa
open Go Go.Proofs.Ytjokolmijhhinaa.Sx
abbrev plE (k : Nat) (p : Pool (TNode TL07Elem TTide)) : Tok := pl k 137 154 3 12 fCE p
theorem plgetE {p : Pool (TNode TL07Elem TTide)} {i g : Int} {x : (TNode TL07Elem TTide) × Bool} (h : pGet zNodeE p i g = some x) (k : Nat) : SCon Try.prog 83 [SV.p k 0, SV.agg [.i i, .i g]] [(k, plE k p)] (.tup [avE x.1, .c (.b x.2)]) [(k, plE k p)] [] := by
 obtain ⟨hp, hx⟩ := grd h
 cases hx
 refine SCon.hide fun v => ?_
 obtain ⟨h1, v', h2⟩ := get_vis (p := p) (z := zNodeE) v i g
 refine ⟨v', ?_⟩
 have := getE' { p with vis := v } i g (hp.ok v) (by decide) k
 rw [h1, h2] at this
 exact this
theorem plsetE {p : Pool (TNode TL07Elem TTide)} {i g : Int} {y : (TNode TL07Elem TTide)} {x : Bool × Pool (TNode TL07Elem TTide)} (h : pSet p i g y = some x) (k : Nat) : SCon Try.prog 87 [SV.p k 0, SV.agg [.i i, .i g], .a (avE y)] [(k, plE k p)] (SV.b x.1) [(k, plE k x.2)] [] := by
 obtain ⟨hp, hx⟩ := grd h
 cases hx
 refine SCon.hide fun v => ?_
 obtain ⟨h1, v', h2⟩ := set_vis (p := p) v i g y
 refine ⟨v', ?_⟩
 have := setE' { p with vis := v } i g y (hp.ok v) (by decide) k
 rw [h1, h2] at this
 exact this
theorem plputE {p : Pool (TNode TL07Elem TTide)} {y : (TNode TL07Elem TTide)} {x : ((Int × Int) × Bool) × Pool (TNode TL07Elem TTide)} (h : pPut zNodeE p y = some x) (k : Nat) : SCon Try.prog 86 [SV.p k 0, .a (avE y)] [(k, plE k p)] (.tup [.agg [.i x.1.1.1, .i x.1.1.2], .c (.b x.1.2)]) [(k, plE k x.2)] [] := by
 obtain ⟨hp, hx⟩ := grd h
 cases hx
 refine SCon.hide fun v => ?_
 obtain ⟨h1, v', h2⟩ := put_vis (p := p) (z := zNodeE) v y
 refine ⟨v', ?_⟩
 have := putE { p with vis := v } y (hp.ok v) (by decide) k
 rw [h1, h2] at this
 exact this
theorem pldropE {p : Pool (TNode TL07Elem TTide)} {i g : Int} {x : ((TNode TL07Elem TTide) × Bool) × Pool (TNode TL07Elem TTide)} (h : pDrop zNodeE p i g = some x) (k : Nat) : SCon Try.prog 85 [SV.p k 0, SV.agg [.i i, .i g]] [(k, plE k p)] (.tup [avE x.1.1, .c (.b x.1.2)]) [(k, plE k x.2)] [] := by
 obtain ⟨hp, hx⟩ := grd h
 cases hx
 refine SCon.hide fun v => ?_
 obtain ⟨h1, v', h2⟩ := drop_vis (p := p) (z := zNodeE) v i g
 refine ⟨v', ?_⟩
 have := dropE' { p with vis := v } i g (hp.ok v) (by decide) k
 rw [h1, h2] at this
 exact this
theorem plnewE (c : Int) (k : Nat) : SCon Try.prog 61 [SV.i c] [] (SV.p k 0) [(k, plE k ⟨[], [], capOf c, 0, 0⟩)] [k] := SCon.hideNew (newE c k)
abbrev Tree_NewE_st (a0 : Int) (r : TRef × Pool (TNode TL07Elem TTide)) (m40 : Nat) (m41 : Nat) : Prop := SCon Try.prog 18 [.a (.c (.v (.int .i64 a0)))] [] (.a (.c (.p m40 0))) [(m40, blk m40 [.p m41 0, .i r.1.index, .i r.1.gen] 101), (m41, plE m41 r.2)] [m40, m41]
theorem Tree_NewE_con0 {k : Nat}  {a0 : Int} {r : TRef × Pool (TNode TL07Elem TTide)}  (H0 : Tree_New.f opsE k a0 = some r) : Tree_NewE_st a0 r 40 41 := by
 rw [Tree_New.f] at H0
 refine spec_of [(0, _)] [] 7 Try.func18 R Try.ntmps18 R R R R (fun β W F => ?_)
 exact G.seq <| G.rg <| K.as R R <| K.nil <| At.nr <| K.mv R R <| K.call0 [(.func 61, _), ((.tmp 3), _)] (plnewE a0 100) (toFn_func (cf 61 R) R) g0 ⟨R, R, trivial⟩ trivial R R R R R R <| K.build Y [(0, _)] [_, _, _] [((.tmp 4), _)] g0 (AllE.spec ⟨R, trivial⟩) R R t101 R R <| K.box Y 101 _ g0 R R R R R R <| K.as R R <| K.nil <| At.next <| G.ret <| At.ren (fs' := [(2, .a (.c (.p 40 0)))]) (tl := [(40, blk 40 [.p 41 0, .v (.int .i64 0), .v (.int .i64 0)] 101), (41, plE 41 (⟨[], [], capOf a0, 0, 0⟩ : Pool (TNode TL07Elem TTide)))]) [(40, 101), (41, 100)] [_, _] R ⟨R, trivial⟩ ⟨R, (blk_ren R R), R, (pl_ren R), trivial⟩ R <| At.dr Y [2] R R (by cases H0; rfl) (by cases H0; rfl) R R R
theorem Tree_NewE_con {k : Nat}  {a0 : Int} {r : TRef × Pool (TNode TL07Elem TTide)}  (H0 : Tree_New.f opsE k a0 = some r) (m40 m41 : Nat) (hd : ndB [m40, m41] = true) : Tree_NewE_st a0 r m40 m41 :=
 SCon.ren (rn [(40, m40), (41, m41)]) (Tree_NewE_con0 (k := k)   H0) trivial ⟨(blk_ren R R), (pl_ren R), trivial⟩ (rn_nd hd R R) (rn_ks hd R R R)
abbrev Tree_getE_st (p1 : Pool (TNode TL07Elem TTide)) (a1 : TRef) (ri0 : Int) (rg0 : Int) (r : TNode TL07Elem TTide) (m0 : Nat) (m1 : Nat) : Prop := SCon Try.prog 62 [SV.p m0 0, .a (.agg ((eTRef a1).map .v))] [(m0, blk m0 [.p m1 0, .i ri0, .i rg0] 101), (m1, plE m1 p1)] (.a (.agg ((eTNode_TL07Elem_TTide r).map .v))) [(m0, blk m0 [.p m1 0, .i ri0, .i rg0] 101), (m1, plE m1 p1)] []
theorem Tree_getE_con0 {k : Nat}  {p1 : Pool (TNode TL07Elem TTide)} {a1 : TRef} {ri0 rg0 : Int} {r : TNode TL07Elem TTide}  (H0 : Tree_get.f opsE k p1 a1 = some r) : Tree_getE_st p1 a1 ri0 rg0 r 0 1 := by
 rw [Tree_get.f] at H0
 refine spec_of [(0, _), (1, _)] [(0, _), (1, _)] 21 Try.func62 R Try.ntmps62 R R R R (fun β W F => ?_)
 refine G.seq <| G.rg <| K.box Y 100 _ g0 R R R R R R <| K.alloc Y 101 _ g0 t104 R R R R R <| K.nil <| At.ns <| G.seq <| G.rg <| K.fieldAddr Y g0 R t99 R R <| K.load1 Y g0 R R t3 R R <| K.bin (V := .bool (a1.gen == 0)) g0 R R (fun _ => R) R <| K.nil <| At.next <| G.cond R (fun h1 => ?_) (fun h1 => ?_)
 ·
  replace H0 := bif_t H0 h1
  refine G.seq <| G.rg <| K.build Y [] [_, _, _, _, _, _, _, _, _, _] [] g0 (AllE.spec trivial) R R t104 R R <| K.store Y _ g0 R R R t104 R R R R R <| K.nil <| At.next <| G.ret <| At.over_ret <| At.done Y [(.cell 4 104, .agg [_, _, _, _, _, _, _, _, _, _])] R ⟨.st R R t104 R R, trivial⟩ (to' := [(0, _), (1, _)]) ⟨R, R, trivial⟩ ?_ ?_ R R R (.inl R)
  · cases H0; rfl
  · cases H0; rfl
 ·
  replace H0 := bif_f H0 h1
  refine G.skip <| At.ns ?_
  obtain ⟨x1, hx1, H0⟩ := bnd H0
  refine G.rd mixed <| K.mv R R <| K.nilCheck g0 R R <| K.fieldAddr Y g0 R t101 R R <| K.load1 Y g0 R R t97 R R <| K.loadS Y _ g0 R R t99 R R R <| K.callR [(.func 83, _), ((.tmp 15), _), ((.tmp 16), _)] (plgetE hx1 1) (toFn_func (cf 83 R) R) g0 ⟨R, R, R, trivial⟩ ⟨R, trivial⟩ R R R <| K.mv R R <| K.extract g0 R R R <| K.extract g0 R R R <| K.alloc Y 102 _ g0 t104 R R R R R <| K.store Y _ g0 R R R t104 R R R R R <| K.as R R <| K.nil <| And.intro (by kernel_rfl) <| At.nr <| K.loadS Y _ g0 R R t104 R R R <| K.store Y _ g0 R R R t104 R R R R R <| K.nil <| At.next <| G.ret <| At.done Y [(.cell 4 104, .agg [_, _, _, _, _, _, _, _, _, _])] R ⟨.st R R t104 R R, trivial⟩ (to' := [(0, _), (1, _)]) ⟨R, R, trivial⟩ ?_ ?_ R R R (.inl R)
  · cases H0; rfl
  · cases H0; rfl
theorem Tree_getE_con {k : Nat}  {p1 : Pool (TNode TL07Elem TTide)} {a1 : TRef} {ri0 rg0 : Int} {r : TNode TL07Elem TTide}  (H0 : Tree_get.f opsE k p1 a1 = some r) (m0 m1 : Nat) : Tree_getE_st p1 a1 ri0 rg0 r m0 m1 :=
 SCon.ren (rn [(0, m0), (1, m1)]) (Tree_getE_con0 (k := k)   H0) ⟨(blk_ren R R), (pl_ren R), trivial⟩ ⟨(blk_ren R R), (pl_ren R), trivial⟩ (by simp) (by simp)
abbrev Tree_weightE_st (p1 : Pool (TNode TL07Elem TTide)) (a1 : TRef) (ri0 : Int) (rg0 : Int) (r : Int) (m0 : Nat) (m1 : Nat) : Prop := SCon Try.prog 67 [SV.p m0 0, .a (.agg ((eTRef a1).map .v))] [(m0, blk m0 [.p m1 0, .i ri0, .i rg0] 101), (m1, plE m1 p1)] (.a (.c (.v (.int .i64 r)))) [(m0, blk m0 [.p m1 0, .i ri0, .i rg0] 101), (m1, plE m1 p1)] []
theorem Tree_weightE_con0 {k : Nat}  {p1 : Pool (TNode TL07Elem TTide)} {a1 : TRef} {ri0 rg0 : Int} {r : Int}  (H0 : Tree_weight.f opsE k p1 a1 = some r) : Tree_weightE_st p1 a1 ri0 rg0 r 0 1 := by
 rw [Tree_weight.f] at H0
 refine spec_of [(0, _), (1, _)] [(0, _), (1, _)] 10 Try.func67 R Try.ntmps67 R R R R (fun β W F => ?_)
 refine G.seq <| G.rg <| K.box Y 100 _ g0 R R R R R R <| K.as R R <| K.nil <| At.ns ?_
 obtain ⟨x1, hx1, H0⟩ := bnd H0
 exact G.rg <| K.mv R R <| K.loadS Y _ g0 R R t99 R R R <| K.cR (cf 62 R) (Tree_getE_con hx1 0 1) g0 R R R R <| K.field1 Y g0 R t104 R t3 R R <| K.bin (V := .int .i64 (w64 (x1.size + 1))) g0 R R (fun _ => R) R <| K.as R R <| K.nil <| At.next <| G.ret <| At.dr Y [4] R R (by cases H0; rfl) (by cases H0; rfl) R R R
theorem Tree_weightE_con {k : Nat}  {p1 : Pool (TNode TL07Elem TTide)} {a1 : TRef} {ri0 rg0 : Int} {r : Int}  (H0 : Tree_weight.f opsE k p1 a1 = some r) (m0 m1 : Nat) : Tree_weightE_st p1 a1 ri0 rg0 r m0 m1 :=
 SCon.ren (rn [(0, m0), (1, m1)]) (Tree_weightE_con0 (k := k)   H0) ⟨(blk_ren R R), (pl_ren R), trivial⟩ ⟨(blk_ren R R), (pl_ren R), trivial⟩ (by simp) (by simp)
abbrev Tree_layE_st (p1 : Pool (TNode TL07Elem TTide)) (a1 : TRef) (a2 : TRef) (a3 : TRef) (ri0 : Int) (rg0 : Int) (r : TRef × Pool (TNode TL07Elem TTide)) (m0 : Nat) (m1 : Nat) : Prop := SCon Try.prog 88 [SV.p m0 0, .a (.agg ((eTRef a1).map .v)), .a (.agg ((eTRef a2).map .v)), .a (.agg ((eTRef a3).map .v))] [(m0, blk m0 [.p m1 0, .i ri0, .i rg0] 101), (m1, plE m1 p1)] (.a (.agg ((eTRef r.1).map .v))) [(m0, blk m0 [.p m1 0, .i ri0, .i rg0] 101), (m1, plE m1 r.2)] []
theorem Tree_layE_con0 {k : Nat}  {p1 : Pool (TNode TL07Elem TTide)} {a1 : TRef} {a2 : TRef} {a3 : TRef} {ri0 rg0 : Int} {r : TRef × Pool (TNode TL07Elem TTide)}  (H0 : Tree_lay.f opsE k p1 a1 a2 a3 = some r) : Tree_layE_st p1 a1 a2 a3 ri0 rg0 r 0 1 := by
 rw [Tree_lay.f] at H0
 refine spec_of [(0, _), (1, _), (2, _), (3, _)] [(0, _), (1, _)] 53 Try.func88 R Try.ntmps88 R R R R (fun β W F => ?_)
 refine G.seq <| G.rg <| K.box Y 100 _ g0 R R R R R R <| K.box Y 101 _ g0 R R R R R R <| K.box Y 102 _ g0 R R R R R R <| K.alloc Y 103 _ g0 t99 R R R R R <| K.nil <| At.ns ?_
 obtain ⟨x1, hx1, H0⟩ := bnd H0
 refine G.rg <| K.mv R R <| K.loadS Y _ g0 R R t99 R R R <| K.cR (cf 62 R) (Tree_getE_con hx1 0 1) g0 R R R R <| K.alloc Y 104 _ g0 t104 R R R R R <| K.store Y _ g0 R R R t104 R R R R R <| K.nil <| At.ns ?_
 obtain ⟨x2, hx2, H0⟩ := bnd H0
 obtain ⟨x3, hx3, H0⟩ := bnd H0
 refine G.rd mixed <| K.mv R R <| K.loadS Y _ g0 R R t99 R R R <| K.cR (cf 62 R) (Tree_getE_con hx2 0 1) g0 R R R R <| K.mv R R <| K.loadS Y _ g0 R R t99 R R R <| K.cR (cf 62 R) (Tree_getE_con hx3 0 1) g0 R R R R <| K.alloc Y 105 _ g0 t104 R R R R R <| K.alloc Y 106 _ g0 t104 R R R R R <| K.store Y _ g0 R R R t104 R R R R R <| K.store Y _ g0 R R R t104 R R R R R <| K.nil <| And.intro (by kernel_rfl) <| At.ns <| G.rd mixed <| K.loadS Y _ g0 R R t99 R R R <| K.loadS Y _ g0 R R t99 R R R <| K.fieldAddr Y g0 R t104 R R <| K.store Y _ g0 R R R t99 R R R R R <| K.fieldAddr Y g0 R t104 R R <| K.store Y _ g0 R R R t99 R R R R R <| K.nil <| And.intro (by kernel_rfl) <| At.nr <| K.fieldAddr Y g0 R t104 R R <| K.load1 Y g0 R R t3 R R <| K.bin (V := .int .i64 (w64 (x2.size + 1))) g0 R R (fun _ => R) R <| K.fieldAddr Y g0 R t104 R R <| K.load1 Y g0 R R t3 R R <| K.bin (V := .int .i64 (w64 ((w64 (x2.size + 1)) + x3.size))) g0 R R (fun _ => R) R <| K.fieldAddr Y g0 R t104 R R <| K.store Y _ g0 R R R t3 R R R R R <| K.nil <| At.ns ?_
 obtain ⟨x4, hx4, H0⟩ := bnd H0
 obtain ⟨x5, hx5, H0⟩ := bnd H0
 obtain ⟨x6, hx6, H0⟩ := bnd H0
 refine G.rd mixed <| K.fieldAddr Y g0 R t104 R R <| K.loadS Y _ g0 R R t32 R R R <| K.mkIface Y g0 R (mkI Try.underlying32 R) R <| K.fieldAddr Y g0 R t104 R R <| K.loadS Y _ g0 R R t35 R R R <| K.mkIface Y g0 R (mkI Try.underlying35 R) R <| K.callR [((.tmp 37), _)] (Lw07_elem_Sum_con (k := k) hx4) (toFn_invoke (cf 132 R) (me35_132) R) g0 ⟨R, trivial⟩ trivial R R R <| K.callR [((.tmp 34), _), ((.tmp 38), _)] (tide_Tide_Plus_con (k := k) hx5) (toFn_invoke (cf 130 R) (me32_130) R) g0 ⟨R, R, trivial⟩ trivial R R R <| K.mkIface Y g0 R (mkI Try.underlying32 R) R <| K.fieldAddr Y g0 R t104 R R <| K.loadS Y _ g0 R R t32 R R R <| K.callR [((.tmp 40), _), ((.tmp 42), _)] (tide_Tide_Plus_con (k := k) hx6) (toFn_invoke (cf 130 R) (me32_130) R) g0 ⟨R, R, trivial⟩ trivial R R R <| K.fieldAddr Y g0 R t104 R R <| K.store Y _ g0 R R R t32 R R R R R <| K.nil <| And.intro (by kernel_rfl) <| At.ns ?_
 obtain ⟨x7, hx7, H0⟩ := bnd H0
 refine G.rd mixed <| K.mv R R <| K.nilCheck g0 R R <| K.fieldAddr Y g0 R t101 R R <| K.load1 Y g0 R R t97 R R <| K.loadS Y _ g0 R R t99 R R R <| K.loadS Y _ g0 R R t104 R R R <| K.call0 [(.func 87, _), ((.tmp 48), _), ((.tmp 49), _), ((.tmp 50), _)] (plsetE hx7 1) (toFn_func (cf 87 R) R) g0 ⟨R, R, R, R, trivial⟩ ⟨R, trivial⟩ R R R R R R <| K.nil <| And.intro (by kernel_rfl) <| At.nr <| K.loadS Y _ g0 R R t99 R R R <| K.store Y _ g0 R R R t99 R R R R R <| K.nil <| At.next <| G.ret <| At.done Y [(.cell 8 99, .agg [_, _])] R ⟨.st R R t99 R R, trivial⟩ (to' := [(0, _), (1, _)]) ⟨R, R, trivial⟩ ?_ ?_ R R R (.inl R)
 · cases H0; rfl
 · cases H0; rfl
theorem Tree_layE_con {k : Nat}  {p1 : Pool (TNode TL07Elem TTide)} {a1 : TRef} {a2 : TRef} {a3 : TRef} {ri0 rg0 : Int} {r : TRef × Pool (TNode TL07Elem TTide)}  (H0 : Tree_lay.f opsE k p1 a1 a2 a3 = some r) (m0 m1 : Nat) : Tree_layE_st p1 a1 a2 a3 ri0 rg0 r m0 m1 :=
 SCon.ren (rn [(0, m0), (1, m1)]) (Tree_layE_con0 (k := k)   H0) ⟨(blk_ren R R), (pl_ren R), trivial⟩ ⟨(blk_ren R R), (pl_ren R), trivial⟩ (by simp) (by simp)
abbrev Tree_turnRightE_st (p1 : Pool (TNode TL07Elem TTide)) (a1 : TRef) (ri0 : Int) (rg0 : Int) (r : TRef × Pool (TNode TL07Elem TTide)) (m0 : Nat) (m1 : Nat) : Prop := SCon Try.prog 110 [SV.p m0 0, .a (.agg ((eTRef a1).map .v))] [(m0, blk m0 [.p m1 0, .i ri0, .i rg0] 101), (m1, plE m1 p1)] (.a (.agg ((eTRef r.1).map .v))) [(m0, blk m0 [.p m1 0, .i ri0, .i rg0] 101), (m1, plE m1 r.2)] []
theorem Tree_turnRightE_con0 {k : Nat}  {p1 : Pool (TNode TL07Elem TTide)} {a1 : TRef} {ri0 rg0 : Int} {r : TRef × Pool (TNode TL07Elem TTide)}  (H0 : Tree_turnRight.f opsE k p1 a1 = some r) : Tree_turnRightE_st p1 a1 ri0 rg0 r 0 1 := by
 rw [Tree_turnRight.f] at H0
 refine spec_of [(0, _), (1, _)] [(0, _), (1, _)] 28 Try.func110 R Try.ntmps110 R R R R (fun β W F => ?_)
 refine G.seq <| G.rg <| K.box Y 100 _ g0 R R R R R R <| K.alloc Y 101 _ g0 t99 R R R R R <| K.nil <| At.ns ?_
 obtain ⟨x1, hx1, H0⟩ := bnd H0
 refine G.rg <| K.mv R R <| K.loadS Y _ g0 R R t99 R R R <| K.cR (cf 62 R) (Tree_getE_con hx1 0 1) g0 R R R R <| K.alloc Y 102 _ g0 t104 R R R R R <| K.store Y _ g0 R R R t104 R R R R R <| K.nil <| At.ns ?_
 obtain ⟨x2, hx2, H0⟩ := bnd H0
 refine G.rg <| K.mv R R <| K.fieldAddr Y g0 R t104 R R <| K.loadS Y _ g0 R R t99 R R R <| K.cR (cf 62 R) (Tree_getE_con hx2 0 1) g0 R R R R <| K.alloc Y 103 _ g0 t104 R R R R R <| K.store Y _ g0 R R R t104 R R R R R <| K.nil <| At.ns ?_
 obtain ⟨x3, hx3, H0⟩ := bnd H0
 refine G.rg <| K.mv R R <| K.loadS Y _ g0 R R t99 R R R <| K.fieldAddr Y g0 R t104 R R <| K.loadS Y _ g0 R R t99 R R R <| K.fieldAddr Y g0 R t104 R R <| K.loadS Y _ g0 R R t99 R R R <| K.c0 (cf 88 R) (Tree_layE_con hx3 0 1) g0 R R R R <| K.nil <| At.ns ?_
 obtain ⟨x4, hx4, H0⟩ := bnd H0
 refine G.rg <| K.mv R R <| K.fieldAddr Y g0 R t104 R R <| K.loadS Y _ g0 R R t99 R R R <| K.fieldAddr Y g0 R t104 R R <| K.loadS Y _ g0 R R t99 R R R <| K.loadS Y _ g0 R R t99 R R R <| K.c0 (cf 88 R) (Tree_layE_con hx4 0 1) g0 R R R R <| K.store Y _ g0 R R R t99 R R R R R <| K.nil <| At.next <| G.ret <| At.done Y [(.cell 4 99, .agg [_, _])] R ⟨.st R R t99 R R, trivial⟩ (to' := [(0, _), (1, _)]) ⟨R, R, trivial⟩ ?_ ?_ R R R (.inl R)
 · cases H0; rfl
 · cases H0; rfl
theorem Tree_turnRightE_con {k : Nat}  {p1 : Pool (TNode TL07Elem TTide)} {a1 : TRef} {ri0 rg0 : Int} {r : TRef × Pool (TNode TL07Elem TTide)}  (H0 : Tree_turnRight.f opsE k p1 a1 = some r) (m0 m1 : Nat) : Tree_turnRightE_st p1 a1 ri0 rg0 r m0 m1 :=
 SCon.ren (rn [(0, m0), (1, m1)]) (Tree_turnRightE_con0 (k := k)   H0) ⟨(blk_ren R R), (pl_ren R), trivial⟩ ⟨(blk_ren R R), (pl_ren R), trivial⟩ (by simp) (by simp)
abbrev Tree_turnLeftE_st (p1 : Pool (TNode TL07Elem TTide)) (a1 : TRef) (ri0 : Int) (rg0 : Int) (r : TRef × Pool (TNode TL07Elem TTide)) (m0 : Nat) (m1 : Nat) : Prop := SCon Try.prog 111 [SV.p m0 0, .a (.agg ((eTRef a1).map .v))] [(m0, blk m0 [.p m1 0, .i ri0, .i rg0] 101), (m1, plE m1 p1)] (.a (.agg ((eTRef r.1).map .v))) [(m0, blk m0 [.p m1 0, .i ri0, .i rg0] 101), (m1, plE m1 r.2)] []
theorem Tree_turnLeftE_con0 {k : Nat}  {p1 : Pool (TNode TL07Elem TTide)} {a1 : TRef} {ri0 rg0 : Int} {r : TRef × Pool (TNode TL07Elem TTide)}  (H0 : Tree_turnLeft.f opsE k p1 a1 = some r) : Tree_turnLeftE_st p1 a1 ri0 rg0 r 0 1 := by
 rw [Tree_turnLeft.f] at H0
 refine spec_of [(0, _), (1, _)] [(0, _), (1, _)] 28 Try.func111 R Try.ntmps111 R R R R (fun β W F => ?_)
 refine G.seq <| G.rg <| K.box Y 100 _ g0 R R R R R R <| K.alloc Y 101 _ g0 t99 R R R R R <| K.nil <| At.ns ?_
 obtain ⟨x1, hx1, H0⟩ := bnd H0
 refine G.rg <| K.mv R R <| K.loadS Y _ g0 R R t99 R R R <| K.cR (cf 62 R) (Tree_getE_con hx1 0 1) g0 R R R R <| K.alloc Y 102 _ g0 t104 R R R R R <| K.store Y _ g0 R R R t104 R R R R R <| K.nil <| At.ns ?_
 obtain ⟨x2, hx2, H0⟩ := bnd H0
 refine G.rg <| K.mv R R <| K.fieldAddr Y g0 R t104 R R <| K.loadS Y _ g0 R R t99 R R R <| K.cR (cf 62 R) (Tree_getE_con hx2 0 1) g0 R R R R <| K.alloc Y 103 _ g0 t104 R R R R R <| K.store Y _ g0 R R R t104 R R R R R <| K.nil <| At.ns ?_
 obtain ⟨x3, hx3, H0⟩ := bnd H0
 refine G.rg <| K.mv R R <| K.loadS Y _ g0 R R t99 R R R <| K.fieldAddr Y g0 R t104 R R <| K.loadS Y _ g0 R R t99 R R R <| K.fieldAddr Y g0 R t104 R R <| K.loadS Y _ g0 R R t99 R R R <| K.c0 (cf 88 R) (Tree_layE_con hx3 0 1) g0 R R R R <| K.nil <| At.ns ?_
 obtain ⟨x4, hx4, H0⟩ := bnd H0
 refine G.rg <| K.mv R R <| K.fieldAddr Y g0 R t104 R R <| K.loadS Y _ g0 R R t99 R R R <| K.loadS Y _ g0 R R t99 R R R <| K.fieldAddr Y g0 R t104 R R <| K.loadS Y _ g0 R R t99 R R R <| K.c0 (cf 88 R) (Tree_layE_con hx4 0 1) g0 R R R R <| K.store Y _ g0 R R R t99 R R R R R <| K.nil <| At.next <| G.ret <| At.done Y [(.cell 4 99, .agg [_, _])] R ⟨.st R R t99 R R, trivial⟩ (to' := [(0, _), (1, _)]) ⟨R, R, trivial⟩ ?_ ?_ R R R (.inl R)
 · cases H0; rfl
 · cases H0; rfl
theorem Tree_turnLeftE_con {k : Nat}  {p1 : Pool (TNode TL07Elem TTide)} {a1 : TRef} {ri0 rg0 : Int} {r : TRef × Pool (TNode TL07Elem TTide)}  (H0 : Tree_turnLeft.f opsE k p1 a1 = some r) (m0 m1 : Nat) : Tree_turnLeftE_st p1 a1 ri0 rg0 r m0 m1 :=
 SCon.ren (rn [(0, m0), (1, m1)]) (Tree_turnLeftE_con0 (k := k)   H0) ⟨(blk_ren R R), (pl_ren R), trivial⟩ ⟨(blk_ren R R), (pl_ren R), trivial⟩ (by simp) (by simp)
abbrev Tree_balanceE_st (p1 : Pool (TNode TL07Elem TTide)) (a1 : TRef) (ri0 : Int) (rg0 : Int) (r : TRef × Pool (TNode TL07Elem TTide)) (m0 : Nat) (m1 : Nat) : Prop := SCon Try.prog 103 [SV.p m0 0, .a (.agg ((eTRef a1).map .v))] [(m0, blk m0 [.p m1 0, .i ri0, .i rg0] 101), (m1, plE m1 p1)] (.a (.agg ((eTRef r.1).map .v))) [(m0, blk m0 [.p m1 0, .i ri0, .i rg0] 101), (m1, plE m1 r.2)] []
theorem Tree_balanceE_con0 {k : Nat}  {p1 : Pool (TNode TL07Elem TTide)} {a1 : TRef} {ri0 rg0 : Int} {r : TRef × Pool (TNode TL07Elem TTide)}  (H0 : Tree_balance.f opsE k p1 a1 = some r) : Tree_balanceE_st p1 a1 ri0 rg0 r 0 1 := by
 rw [Tree_balance.f] at H0
 refine spec_of [(0, _), (1, _)] [(0, _), (1, _)] 84 Try.func103 R Try.ntmps103 R R R R (fun β W F => ?_)
 refine G.seq <| G.rg <| K.box Y 100 _ g0 R R R R R R <| K.alloc Y 101 _ g0 t99 R R R R R <| K.nil <| At.ns ?_
 obtain ⟨x1, hx1, H0⟩ := bnd H0
 refine G.rg <| K.mv R R <| K.loadS Y _ g0 R R t99 R R R <| K.cR (cf 62 R) (Tree_getE_con hx1 0 1) g0 R R R R <| K.alloc Y 102 _ g0 t104 R R R R R <| K.store Y _ g0 R R R t104 R R R R R <| K.nil <| At.ns ?_
 obtain ⟨x2, hx2, H0⟩ := bnd H0
 obtain ⟨x3, hx3, H0⟩ := bnd H0
 refine G.rd mixed <| K.mv R R <| K.fieldAddr Y g0 R t104 R R <| K.loadS Y _ g0 R R t99 R R R <| K.cR (cf 67 R) (Tree_weightE_con hx2 0 1) g0 R R R R <| K.mv R R <| K.fieldAddr Y g0 R t104 R R <| K.loadS Y _ g0 R R t99 R R R <| K.cR (cf 67 R) (Tree_weightE_con hx3 0 1) g0 R R R R <| K.as R R <| K.as R R <| K.nil <| And.intro (by kernel_rfl) <| At.ns <| G.block <| G.seq <| G.rg <| K.mv R R <| K.mv R R <| K.bin (V := .int .i64 (w64 (3 * x2))) g0 R R (fun _ => R) R <| K.bin (V := .bool (decide (x3 > (w64 (3 * x2))))) g0 R R (fun _ => R) R <| K.as R R <| K.nil <| At.next <| G.cond R (fun h1 => ?_) (fun h1 => ?_)
 ·
  replace H0 := bif_t H0 h1
  refine G.seq ?_
  obtain ⟨x4, hx4, H0⟩ := bnd H0
  refine G.rg <| K.mv R R <| K.fieldAddr Y g0 R t104 R R <| K.loadS Y _ g0 R R t99 R R R <| K.cR (cf 62 R) (Tree_getE_con hx4 0 1) g0 R R R R <| K.alloc Y 103 _ g0 t104 R R R R R <| K.store Y _ g0 R R R t104 R R R R R <| K.nil <| At.ns <| G.seq ?_
  obtain ⟨x5, hx5, H0⟩ := bnd H0
  obtain ⟨x6, hx6, H0⟩ := bnd H0
  refine G.rd mixed <| K.mv R R <| K.fieldAddr Y g0 R t104 R R <| K.loadS Y _ g0 R R t99 R R R <| K.cR (cf 67 R) (Tree_weightE_con hx5 0 1) g0 R R R R <| K.mv R R <| K.fieldAddr Y g0 R t104 R R <| K.loadS Y _ g0 R R t99 R R R <| K.cR (cf 67 R) (Tree_weightE_con hx6 0 1) g0 R R R R <| K.bin (V := .int .i64 (w64 (2 * x6))) g0 R R (fun _ => R) R <| K.bin (V := .bool (decide (x5 ≥ (w64 (2 * x6))))) g0 R R (fun _ => R) R <| K.nil <| And.intro (by kernel_rfl) <| At.next <| G.cond R (fun h2 => ?_) (fun h2 => ?_)
  ·
   replace H0 := bif_t H0 h2
   obtain ⟨x7, hx7, H0⟩ := bnd H0
   obtain ⟨x8, hx8, H0⟩ := bnd H0
   refine G.rd mixed <| K.mv R R <| K.loadS Y _ g0 R R t99 R R R <| K.fieldAddr Y g0 R t104 R R <| K.loadS Y _ g0 R R t99 R R R <| K.mv R R <| K.fieldAddr Y g0 R t104 R R <| K.loadS Y _ g0 R R t99 R R R <| K.c0 (cf 110 R) (Tree_turnRightE_con hx7 0 1) g0 R R R R <| K.c0 (cf 88 R) (Tree_layE_con hx8 0 1) g0 R R R R <| K.nil <| And.intro (by kernel_rfl) <| At.ns ?_
   obtain ⟨x9, hx9, H0⟩ := bnd H0
   refine G.rg <| K.mv R R <| K.loadS Y _ g0 R R t99 R R R <| K.c0 (cf 111 R) (Tree_turnLeftE_con hx9 0 1) g0 R R R R <| K.store Y _ g0 R R R t99 R R R R R <| K.nil <| At.next <| G.ret <| At.block_ret <| At.over_ret <| At.done Y [(.cell 4 99, .agg [_, _])] R ⟨.st R R t99 R R, trivial⟩ (to' := [(0, _), (1, _)]) ⟨R, R, trivial⟩ ?_ ?_ R R R (.inl R)
   · cases H0; rfl
   · cases H0; rfl
  ·
   replace H0 := bif_f H0 h2
   refine G.skip <| At.ns ?_
   obtain ⟨x10, hx10, H0⟩ := bnd H0
   refine G.rg <| K.mv R R <| K.loadS Y _ g0 R R t99 R R R <| K.c0 (cf 111 R) (Tree_turnLeftE_con hx10 0 1) g0 R R R R <| K.store Y _ g0 R R R t99 R R R R R <| K.nil <| At.next <| G.ret <| At.block_ret <| At.over_ret <| At.done Y [(.cell 4 99, .agg [_, _])] R ⟨.st R R t99 R R, trivial⟩ (to' := [(0, _), (1, _)]) ⟨R, R, trivial⟩ ?_ ?_ R R R (.inl R)
   · cases H0; rfl
   · cases H0; rfl
 ·
  replace H0 := bif_f H0 h1
  refine G.seq <| G.rg <| K.mv R R <| K.mv R R <| K.bin (V := .int .i64 (w64 (3 * x3))) g0 R R (fun _ => R) R <| K.bin (V := .bool (decide (x2 > (w64 (3 * x3))))) g0 R R (fun _ => R) R <| K.as R R <| K.nil <| At.next <| G.cond R (fun h3 => ?_) (fun h3 => ?_)
  ·
   replace H0 := bif_t H0 h3
   refine G.seq ?_
   obtain ⟨x11, hx11, H0⟩ := bnd H0
   refine G.rg <| K.mv R R <| K.fieldAddr Y g0 R t104 R R <| K.loadS Y _ g0 R R t99 R R R <| K.cR (cf 62 R) (Tree_getE_con hx11 0 1) g0 R R R R <| K.alloc Y 104 _ g0 t104 R R R R R <| K.store Y _ g0 R R R t104 R R R R R <| K.nil <| At.ns <| G.seq ?_
   obtain ⟨x12, hx12, H0⟩ := bnd H0
   obtain ⟨x13, hx13, H0⟩ := bnd H0
   refine G.rd mixed <| K.mv R R <| K.fieldAddr Y g0 R t104 R R <| K.loadS Y _ g0 R R t99 R R R <| K.cR (cf 67 R) (Tree_weightE_con hx12 0 1) g0 R R R R <| K.mv R R <| K.fieldAddr Y g0 R t104 R R <| K.loadS Y _ g0 R R t99 R R R <| K.cR (cf 67 R) (Tree_weightE_con hx13 0 1) g0 R R R R <| K.bin (V := .int .i64 (w64 (2 * x13))) g0 R R (fun _ => R) R <| K.bin (V := .bool (decide (x12 ≥ (w64 (2 * x13))))) g0 R R (fun _ => R) R <| K.nil <| And.intro (by kernel_rfl) <| At.next <| G.cond R (fun h4 => ?_) (fun h4 => ?_)
   ·
    replace H0 := bif_t H0 h4
    obtain ⟨x14, hx14, H0⟩ := bnd H0
    obtain ⟨x15, hx15, H0⟩ := bnd H0
    refine G.rd mixed <| K.mv R R <| K.loadS Y _ g0 R R t99 R R R <| K.mv R R <| K.fieldAddr Y g0 R t104 R R <| K.loadS Y _ g0 R R t99 R R R <| K.c0 (cf 111 R) (Tree_turnLeftE_con hx14 0 1) g0 R R R R <| K.fieldAddr Y g0 R t104 R R <| K.loadS Y _ g0 R R t99 R R R <| K.c0 (cf 88 R) (Tree_layE_con hx15 0 1) g0 R R R R <| K.nil <| And.intro (by kernel_rfl) <| At.ns ?_
    obtain ⟨x16, hx16, H0⟩ := bnd H0
    refine G.rg <| K.mv R R <| K.loadS Y _ g0 R R t99 R R R <| K.c0 (cf 110 R) (Tree_turnRightE_con hx16 0 1) g0 R R R R <| K.store Y _ g0 R R R t99 R R R R R <| K.nil <| At.next <| G.ret <| At.block_ret <| At.over_ret <| At.done Y [(.cell 4 99, .agg [_, _])] R ⟨.st R R t99 R R, trivial⟩ (to' := [(0, _), (1, _)]) ⟨R, R, trivial⟩ ?_ ?_ R R R (.inl R)
    · cases H0; rfl
    · cases H0; rfl
   ·
    replace H0 := bif_f H0 h4
    refine G.skip <| At.ns ?_
    obtain ⟨x17, hx17, H0⟩ := bnd H0
    refine G.rg <| K.mv R R <| K.loadS Y _ g0 R R t99 R R R <| K.c0 (cf 110 R) (Tree_turnRightE_con hx17 0 1) g0 R R R R <| K.store Y _ g0 R R R t99 R R R R R <| K.nil <| At.next <| G.ret <| At.block_ret <| At.over_ret <| At.done Y [(.cell 4 99, .agg [_, _])] R ⟨.st R R t99 R R, trivial⟩ (to' := [(0, _), (1, _)]) ⟨R, R, trivial⟩ ?_ ?_ R R R (.inl R)
    · cases H0; rfl
    · cases H0; rfl
  ·
   replace H0 := bif_f H0 h3
   refine G.skip <| At.block_normal <| At.nr <| K.loadS Y _ g0 R R t99 R R R <| K.store Y _ g0 R R R t99 R R R R R <| K.nil <| At.next <| G.ret <| At.done Y [(.cell 4 99, .agg [_, _])] R ⟨.st R R t99 R R, trivial⟩ (to' := [(0, _), (1, _)]) ⟨R, R, trivial⟩ ?_ ?_ R R R (.inl R)
   · cases H0; rfl
   · cases H0; rfl
theorem Tree_balanceE_con {k : Nat}  {p1 : Pool (TNode TL07Elem TTide)} {a1 : TRef} {ri0 rg0 : Int} {r : TRef × Pool (TNode TL07Elem TTide)}  (H0 : Tree_balance.f opsE k p1 a1 = some r) (m0 m1 : Nat) : Tree_balanceE_st p1 a1 ri0 rg0 r m0 m1 :=
 SCon.ren (rn [(0, m0), (1, m1)]) (Tree_balanceE_con0 (k := k)   H0) ⟨(blk_ren R R), (pl_ren R), trivial⟩ ⟨(blk_ren R R), (pl_ren R), trivial⟩ (by simp) (by simp)
abbrev Tree_linkE_st (p1 : Pool (TNode TL07Elem TTide)) (a1 : TRef) (a2 : TRef) (a3 : TRef) (ri0 : Int) (rg0 : Int) (r : TRef × Pool (TNode TL07Elem TTide)) (m0 : Nat) (m1 : Nat) : Prop := SCon Try.prog 84 [SV.p m0 0, .a (.agg ((eTRef a1).map .v)), .a (.agg ((eTRef a2).map .v)), .a (.agg ((eTRef a3).map .v))] [(m0, blk m0 [.p m1 0, .i ri0, .i rg0] 101), (m1, plE m1 p1)] (.a (.agg ((eTRef r.1).map .v))) [(m0, blk m0 [.p m1 0, .i ri0, .i rg0] 101), (m1, plE m1 r.2)] []
theorem Tree_linkE_con0 {k : Nat}  : ∀ {n : Nat} {p1 : Pool (TNode TL07Elem TTide)} {a1 : TRef} {a2 : TRef} {a3 : TRef} {ri0 rg0 : Int} {r : TRef × Pool (TNode TL07Elem TTide)}  (H0 : Tree_link.r opsE k n p1 a1 a2 a3 = some r), Tree_linkE_st p1 a1 a2 a3 ri0 rg0 r 0 1 := by
 intro n
 induction n with
 | zero => intro p1 a1 a2 a3 ri0 rg0 r H0; exact absurd H0 (by simp [Tree_link.r])
 | succ n ih =>
  intro p1 a1 a2 a3 ri0 rg0 r H0
  rw [Tree_link.r] at H0
  refine spec_of [(0, _), (1, _), (2, _), (3, _)] [(0, _), (1, _)] 66 Try.func84 R Try.ntmps84 R R R R (fun β W F => ?_)
  refine G.seq <| G.rg <| K.box Y 100 _ g0 R R R R R R <| K.box Y 101 _ g0 R R R R R R <| K.box Y 102 _ g0 R R R R R R <| K.alloc Y 103 _ g0 t99 R R R R R <| K.nil <| At.ns ?_
  obtain ⟨x1, hx1, H0⟩ := bnd H0
  obtain ⟨x2, hx2, H0⟩ := bnd H0
  refine G.rd mixed <| K.mv R R <| K.loadS Y _ g0 R R t99 R R R <| K.cR (cf 67 R) (Tree_weightE_con hx1 0 1) g0 R R R R <| K.mv R R <| K.loadS Y _ g0 R R t99 R R R <| K.cR (cf 67 R) (Tree_weightE_con hx2 0 1) g0 R R R R <| K.as R R <| K.as R R <| K.nil <| And.intro (by kernel_rfl) <| At.ns <| G.block <| G.seq <| G.rg <| K.mv R R <| K.mv R R <| K.bin (V := .int .i64 (w64 (3 * x1))) g0 R R (fun _ => R) R <| K.bin (V := .bool (decide (x2 > (w64 (3 * x1))))) g0 R R (fun _ => R) R <| K.as R R <| K.nil <| At.next <| G.cond R (fun h1 => ?_) (fun h1 => ?_)
  ·
   replace H0 := bif_t H0 h1
   refine G.seq ?_
   obtain ⟨x3, hx3, H0⟩ := bnd H0
   refine G.rg <| K.mv R R <| K.loadS Y _ g0 R R t99 R R R <| K.cR (cf 62 R) (Tree_getE_con hx3 0 1) g0 R R R R <| K.alloc Y 104 _ g0 t104 R R R R R <| K.store Y _ g0 R R R t104 R R R R R <| K.nil <| At.ns ?_
   obtain ⟨x4, hx4, H0⟩ := bnd H0
   obtain ⟨x5, hx5, H0⟩ := bnd H0
   obtain ⟨x6, hx6, H0⟩ := bnd H0
   refine G.rd mixed <| K.mv R R <| K.mv R R <| K.loadS Y _ g0 R R t99 R R R <| K.mv R R <| K.loadS Y _ g0 R R t99 R R R <| K.loadS Y _ g0 R R t99 R R R <| K.fieldAddr Y g0 R t104 R R <| K.loadS Y _ g0 R R t99 R R R <| K.c0 (cf 84 R) (ih hx4) g0 R R R R <| K.fieldAddr Y g0 R t104 R R <| K.loadS Y _ g0 R R t99 R R R <| K.c0 (cf 88 R) (Tree_layE_con hx5 0 1) g0 R R R R <| K.c0 (cf 103 R) (Tree_balanceE_con hx6 0 1) g0 R R R R <| K.store Y _ g0 R R R t99 R R R R R <| K.nil <| And.intro (by kernel_rfl) <| At.next <| G.ret <| At.block_ret <| At.over_ret <| At.done Y [(.cell 8 99, .agg [_, _])] R ⟨.st R R t99 R R, trivial⟩ (to' := [(0, _), (1, _)]) ⟨R, R, trivial⟩ ?_ ?_ R R R (.inl R)
   · cases H0; rfl
   · cases H0; rfl
  ·
   replace H0 := bif_f H0 h1
   refine G.seq <| G.rg <| K.mv R R <| K.mv R R <| K.bin (V := .int .i64 (w64 (3 * x2))) g0 R R (fun _ => R) R <| K.bin (V := .bool (decide (x1 > (w64 (3 * x2))))) g0 R R (fun _ => R) R <| K.as R R <| K.nil <| At.next <| G.cond R (fun h2 => ?_) (fun h2 => ?_)
   ·
    replace H0 := bif_t H0 h2
    refine G.seq ?_
    obtain ⟨x7, hx7, H0⟩ := bnd H0
    refine G.rg <| K.mv R R <| K.loadS Y _ g0 R R t99 R R R <| K.cR (cf 62 R) (Tree_getE_con hx7 0 1) g0 R R R R <| K.alloc Y 105 _ g0 t104 R R R R R <| K.store Y _ g0 R R R t104 R R R R R <| K.nil <| At.ns ?_
    obtain ⟨x8, hx8, H0⟩ := bnd H0
    obtain ⟨x9, hx9, H0⟩ := bnd H0
    obtain ⟨x10, hx10, H0⟩ := bnd H0
    refine G.rd mixed <| K.mv R R <| K.mv R R <| K.loadS Y _ g0 R R t99 R R R <| K.fieldAddr Y g0 R t104 R R <| K.loadS Y _ g0 R R t99 R R R <| K.mv R R <| K.fieldAddr Y g0 R t104 R R <| K.loadS Y _ g0 R R t99 R R R <| K.loadS Y _ g0 R R t99 R R R <| K.loadS Y _ g0 R R t99 R R R <| K.c0 (cf 84 R) (ih hx8) g0 R R R R <| K.c0 (cf 88 R) (Tree_layE_con hx9 0 1) g0 R R R R <| K.c0 (cf 103 R) (Tree_balanceE_con hx10 0 1) g0 R R R R <| K.store Y _ g0 R R R t99 R R R R R <| K.nil <| And.intro (by kernel_rfl) <| At.next <| G.ret <| At.block_ret <| At.over_ret <| At.done Y [(.cell 8 99, .agg [_, _])] R ⟨.st R R t99 R R, trivial⟩ (to' := [(0, _), (1, _)]) ⟨R, R, trivial⟩ ?_ ?_ R R R (.inl R)
    · cases H0; rfl
    · cases H0; rfl
   ·
    replace H0 := bif_f H0 h2
    refine G.skip <| At.block_normal <| At.ns ?_
    obtain ⟨x11, hx11, H0⟩ := bnd H0
    refine G.rg <| K.mv R R <| K.loadS Y _ g0 R R t99 R R R <| K.loadS Y _ g0 R R t99 R R R <| K.loadS Y _ g0 R R t99 R R R <| K.c0 (cf 88 R) (Tree_layE_con hx11 0 1) g0 R R R R <| K.store Y _ g0 R R R t99 R R R R R <| K.nil <| At.next <| G.ret <| At.done Y [(.cell 8 99, .agg [_, _])] R ⟨.st R R t99 R R, trivial⟩ (to' := [(0, _), (1, _)]) ⟨R, R, trivial⟩ ?_ ?_ R R R (.inl R)
    · cases H0; rfl
    · cases H0; rfl
theorem Tree_linkE_con {k n : Nat}  {p1 : Pool (TNode TL07Elem TTide)} {a1 : TRef} {a2 : TRef} {a3 : TRef} {ri0 rg0 : Int} {r : TRef × Pool (TNode TL07Elem TTide)}  (H0 : Tree_link.r opsE k n p1 a1 a2 a3 = some r) (m0 m1 : Nat) : Tree_linkE_st p1 a1 a2 a3 ri0 rg0 r m0 m1 :=
 SCon.ren (rn [(0, m0), (1, m1)]) (Tree_linkE_con0 (k := k)   H0) ⟨(blk_ren R R), (pl_ren R), trivial⟩ ⟨(blk_ren R R), (pl_ren R), trivial⟩ (by simp) (by simp)
abbrev Tree_putE_st (p1 : Pool (TNode TL07Elem TTide)) (a1 : TRef) (a2 : TL07Elem) (ri0 : Int) (rg0 : Int) (r : TRef × Bool × Pool (TNode TL07Elem TTide)) (m0 : Nat) (m1 : Nat) : Prop := SCon Try.prog 65 [SV.p m0 0, .a (.agg ((eTRef a1).map .v)), .a (.agg ((eTL07Elem a2).map .v))] [(m0, blk m0 [.p m1 0, .i ri0, .i rg0] 101), (m1, plE m1 p1)] (.tup [.agg ((eTRef r.1).map .v), .c (.v (.bool r.2.1))]) [(m0, blk m0 [.p m1 0, .i ri0, .i rg0] 101), (m1, plE m1 r.2.2)] []
set_option maxHeartbeats 4000000 in
theorem Tree_putE_con0 {k : Nat}  : ∀ {n : Nat} {p1 : Pool (TNode TL07Elem TTide)} {a1 : TRef} {a2 : TL07Elem} {ri0 rg0 : Int} {r : TRef × Bool × Pool (TNode TL07Elem TTide)}  (H0 : Tree_put.r opsE k n p1 a1 a2 = some r), Tree_putE_st p1 a1 a2 ri0 rg0 r 0 1 := by
 intro n
 induction n with
 | zero => intro p1 a1 a2 ri0 rg0 r H0; exact absurd H0 (by simp [Tree_put.r])
 | succ n ih =>
  intro p1 a1 a2 ri0 rg0 r H0
  rw [Tree_put.r] at H0
  refine spec_of [(0, _), (1, _), (2, _)] [(0, _), (1, _)] 98 Try.func65 R Try.ntmps65 R R R R (fun β W F => ?_)
  refine G.seq <| G.rg <| K.box Y 100 _ g0 R R R R R R <| K.box Y 101 _ g0 R R R R R R <| K.alloc Y 102 _ g0 t99 R R R R R <| K.as R R <| K.nil <| At.ns <| G.seq <| G.rg <| K.fieldAddr Y g0 R t99 R R <| K.load1 Y g0 R R t3 R R <| K.bin (V := .bool (a1.gen == 0)) g0 R R (fun _ => R) R <| K.nil <| At.next <| G.cond R (fun h1 => ?_) (fun h1 => ?_)
  ·
   replace H0 := bif_t H0 h1
   refine G.seq ?_
   obtain ⟨x1, hx1, H0⟩ := bnd H0
   obtain ⟨x2, hx2, H0⟩ := bnd H0
   refine G.rd mixed <| K.mv R R <| K.nilCheck g0 R R <| K.fieldAddr Y g0 R t101 R R <| K.load1 Y g0 R R t97 R R <| K.loadS Y _ g0 R R t35 R R R <| K.loadS Y _ g0 R R t35 R R R <| K.mkIface Y g0 R (mkI Try.underlying35 R) R <| K.callR [((.tmp 26), _)] (Lw07_elem_Sum_con (k := k) hx1) (toFn_invoke (cf 132 R) (me35_132) R) g0 ⟨R, trivial⟩ trivial R R R <| K.build Y [(0, _), (3, _), (4, _)] [_, _, _, _, _, _, _, _, _, _] [((.tmp 24), _), (_, _), ((.tmp 27), _)] g0 (AllE.spec ⟨R, R, R, trivial⟩) R R t104 R R <| K.call0 [(.func 86, _), ((.tmp 23), _), ((.tmp 28), _)] (plputE hx2 1) (toFn_func (cf 86 R) R) g0 ⟨R, R, R, trivial⟩ ⟨R, trivial⟩ R R R R R R <| K.mv R R <| K.extract g0 R R R <| K.extract g0 R R R <| K.alloc Y 103 _ g0 t99 R R R R R <| K.store Y _ g0 R R R t99 R R R R R <| K.as R R <| K.nil <| And.intro (by kernel_rfl) <| At.nr <| K.loadS Y _ g0 R R t99 R R R <| K.mv R R <| K.store Y _ g0 R R R t99 R R R R R <| K.as R R <| K.nil <| At.next <| G.ret <| At.over_ret <| At.done Y [(.cell 6 99, .agg [_, _]), (.tmp 7, .c _)] R ⟨.st R R t99 R R, .tmp R, trivial⟩ (to' := [(0, _), (1, _)]) ⟨R, R, trivial⟩ ?_ ?_ R R R (.inl R)
   · cases H0; rfl
   · cases H0; rfl
  ·
   replace H0 := bif_f H0 h1
   refine G.skip <| At.ns ?_
   obtain ⟨x3, hx3, H0⟩ := bnd H0
   refine G.rg <| K.mv R R <| K.loadS Y _ g0 R R t99 R R R <| K.cR (cf 62 R) (Tree_getE_con hx3 0 1) g0 R R R R <| K.alloc Y 104 _ g0 t104 R R R R R <| K.store Y _ g0 R R R t104 R R R R R <| K.nil <| At.ns ?_
   obtain ⟨x4, hx4, H0⟩ := bnd H0
   refine G.rg <| K.loadS Y _ g0 R R t35 R R R <| K.mkIface Y g0 R (mkI Try.underlying35 R) R <| K.fieldAddr Y g0 R t104 R R <| K.loadS Y _ g0 R R t35 R R R <| K.callR [((.tmp 38), _), ((.tmp 40), _)] (Lw07_elem_Compare_con (k := k) hx4) (toFn_invoke (cf 131 R) (me35_131) R) g0 ⟨R, R, trivial⟩ trivial R R R <| K.as R R <| K.nil <| At.ns <| G.block <| G.seq <| G.rg <| K.mv R R <| K.bin (V := .bool (decide (x4 < 0))) g0 R R (fun _ => R) R <| K.as R R <| K.nil <| At.next <| G.cond R (fun h2 => ?_) (fun h2 => ?_)
   ·
    replace H0 := bif_t H0 h2
    refine G.seq ?_
    obtain ⟨x5, hx5, H0⟩ := bnd H0
    refine G.rg <| K.mv R R <| K.fieldAddr Y g0 R t104 R R <| K.loadS Y _ g0 R R t99 R R R <| K.loadS Y _ g0 R R t35 R R R <| K.c0 (cf 65 R) (ih hx5) g0 R R R R <| K.mv R R <| K.extract g0 R R R <| K.extract g0 R R R <| K.alloc Y 105 _ g0 t99 R R R R R <| K.store Y _ g0 R R R t99 R R R R R <| K.as R R <| K.nil <| At.ns <| G.seq <| G.rg <| K.mv R R <| K.un (V := .bool (!x5.2.1)) g0 R (fun _ => R) R <| K.nil <| At.next <| G.cond R (fun h3 => ?_) (fun h3 => ?_)
    ·
     replace H0 := bif_t H0 h3
     refine G.seq <| G.rg <| K.loadS Y _ g0 R R t99 R R R <| K.store Y _ g0 R R R t99 R R R R R <| K.as R R <| K.nil <| At.next <| G.ret <| At.over_ret <| At.block_ret <| At.over_ret <| At.done Y [(.cell 6 99, .agg [_, _]), (.tmp 7, .c _)] R ⟨.st R R t99 R R, .tmp R, trivial⟩ (to' := [(0, _), (1, _)]) ⟨R, R, trivial⟩ ?_ ?_ R R R (.inl R)
     · cases H0; rfl
     · cases H0; rfl
    ·
     replace H0 := bif_f H0 h3
     refine G.skip <| At.ns ?_
     obtain ⟨x6, hx6, H0⟩ := bnd H0
     refine G.rg <| K.mv R R <| K.loadS Y _ g0 R R t99 R R R <| K.loadS Y _ g0 R R t99 R R R <| K.fieldAddr Y g0 R t104 R R <| K.loadS Y _ g0 R R t99 R R R <| K.c0 (cf 84 R) (Tree_linkE_con hx6 0 1) g0 R R R R <| K.store Y _ g0 R R R t99 R R R R R <| K.as R R <| K.nil <| At.next <| G.ret <| At.block_ret <| At.over_ret <| At.done Y [(.cell 6 99, .agg [_, _]), (.tmp 7, .c _)] R ⟨.st R R t99 R R, .tmp R, trivial⟩ (to' := [(0, _), (1, _)]) ⟨R, R, trivial⟩ ?_ ?_ R R R (.inl R)
     · cases H0; rfl
     · cases H0; rfl
   ·
    replace H0 := bif_f H0 h2
    refine G.seq <| G.rg <| K.mv R R <| K.bin (V := .bool (decide (x4 > 0))) g0 R R (fun _ => R) R <| K.as R R <| K.nil <| At.next <| G.cond R (fun h4 => ?_) (fun h4 => ?_)
    ·
     replace H0 := bif_t H0 h4
     refine G.seq ?_
     obtain ⟨x7, hx7, H0⟩ := bnd H0
     refine G.rg <| K.mv R R <| K.fieldAddr Y g0 R t104 R R <| K.loadS Y _ g0 R R t99 R R R <| K.loadS Y _ g0 R R t35 R R R <| K.c0 (cf 65 R) (ih hx7) g0 R R R R <| K.mv R R <| K.extract g0 R R R <| K.extract g0 R R R <| K.alloc Y 106 _ g0 t99 R R R R R <| K.store Y _ g0 R R R t99 R R R R R <| K.as R R <| K.nil <| At.ns <| G.seq <| G.rg <| K.mv R R <| K.un (V := .bool (!x7.2.1)) g0 R (fun _ => R) R <| K.nil <| At.next <| G.cond R (fun h5 => ?_) (fun h5 => ?_)
     ·
      replace H0 := bif_t H0 h5
      refine G.seq <| G.rg <| K.loadS Y _ g0 R R t99 R R R <| K.store Y _ g0 R R R t99 R R R R R <| K.as R R <| K.nil <| At.next <| G.ret <| At.over_ret <| At.block_ret <| At.over_ret <| At.done Y [(.cell 6 99, .agg [_, _]), (.tmp 7, .c _)] R ⟨.st R R t99 R R, .tmp R, trivial⟩ (to' := [(0, _), (1, _)]) ⟨R, R, trivial⟩ ?_ ?_ R R R (.inl R)
      · cases H0; rfl
      · cases H0; rfl
     ·
      replace H0 := bif_f H0 h5
      refine G.skip <| At.ns ?_
      obtain ⟨x8, hx8, H0⟩ := bnd H0
      refine G.rg <| K.mv R R <| K.fieldAddr Y g0 R t104 R R <| K.loadS Y _ g0 R R t99 R R R <| K.loadS Y _ g0 R R t99 R R R <| K.loadS Y _ g0 R R t99 R R R <| K.c0 (cf 84 R) (Tree_linkE_con hx8 0 1) g0 R R R R <| K.store Y _ g0 R R R t99 R R R R R <| K.as R R <| K.nil <| At.next <| G.ret <| At.block_ret <| At.over_ret <| At.done Y [(.cell 6 99, .agg [_, _]), (.tmp 7, .c _)] R ⟨.st R R t99 R R, .tmp R, trivial⟩ (to' := [(0, _), (1, _)]) ⟨R, R, trivial⟩ ?_ ?_ R R R (.inl R)
      · cases H0; rfl
      · cases H0; rfl
    ·
     replace H0 := bif_f H0 h4
     refine G.skip <| At.block_normal <| At.nr <| K.loadS Y _ g0 R R t35 R R R <| K.fieldAddr Y g0 R t104 R R <| K.store Y _ g0 R R R t35 R R R R R <| K.nil <| At.ns ?_
     obtain ⟨x9, hx9, H0⟩ := bnd H0
     refine G.rd mixed <| K.mv R R <| K.nilCheck g0 R R <| K.fieldAddr Y g0 R t101 R R <| K.load1 Y g0 R R t97 R R <| K.loadS Y _ g0 R R t99 R R R <| K.loadS Y _ g0 R R t104 R R R <| K.call0 [(.func 87, _), ((.tmp 87), _), ((.tmp 88), _), ((.tmp 89), _)] (plsetE hx9 1) (toFn_func (cf 87 R) R) g0 ⟨R, R, R, R, trivial⟩ ⟨R, trivial⟩ R R R R R R <| K.nil <| And.intro (by kernel_rfl) <| At.ns ?_
     obtain ⟨x10, hx10, H0⟩ := bnd H0
     refine G.rg <| K.mv R R <| K.loadS Y _ g0 R R t99 R R R <| K.fieldAddr Y g0 R t104 R R <| K.loadS Y _ g0 R R t99 R R R <| K.fieldAddr Y g0 R t104 R R <| K.loadS Y _ g0 R R t99 R R R <| K.c0 (cf 88 R) (Tree_layE_con hx10 0 1) g0 R R R R <| K.store Y _ g0 R R R t99 R R R R R <| K.as R R <| K.nil <| At.next <| G.ret <| At.done Y [(.cell 6 99, .agg [_, _]), (.tmp 7, .c _)] R ⟨.st R R t99 R R, .tmp R, trivial⟩ (to' := [(0, _), (1, _)]) ⟨R, R, trivial⟩ ?_ ?_ R R R (.inl R)
     · cases H0; rfl
     · cases H0; rfl
theorem Tree_putE_con {k n : Nat}  {p1 : Pool (TNode TL07Elem TTide)} {a1 : TRef} {a2 : TL07Elem} {ri0 rg0 : Int} {r : TRef × Bool × Pool (TNode TL07Elem TTide)}  (H0 : Tree_put.r opsE k n p1 a1 a2 = some r) (m0 m1 : Nat) : Tree_putE_st p1 a1 a2 ri0 rg0 r m0 m1 :=
 SCon.ren (rn [(0, m0), (1, m1)]) (Tree_putE_con0 (k := k)   H0) ⟨(blk_ren R R), (pl_ren R), trivial⟩ ⟨(blk_ren R R), (pl_ren R), trivial⟩ (by simp) (by simp)
abbrev Tree_PutE_st (p1 : Pool (TNode TL07Elem TTide)) (rt0 : TRef) (a1 : TL07Elem) (r : Bool × TRef × Pool (TNode TL07Elem TTide)) (m0 : Nat) (m1 : Nat) : Prop := SCon Try.prog 23 [SV.p m0 0, .a (.agg ((eTL07Elem a1).map .v))] [(m0, blk m0 [.p m1 0, .i rt0.index, .i rt0.gen] 101), (m1, plE m1 p1)] (.a (.c (.v (.bool r.1)))) [(m0, blk m0 [.p m1 0, .i r.2.1.index, .i r.2.1.gen] 101), (m1, plE m1 r.2.2)] []
theorem Tree_PutE_con0 {k : Nat}  {p1 : Pool (TNode TL07Elem TTide)} {rt0 : TRef} {a1 : TL07Elem} {r : Bool × TRef × Pool (TNode TL07Elem TTide)}  (H0 : Tree_Put.f opsE k p1 rt0 a1 = some r) : Tree_PutE_st p1 rt0 a1 r 0 1 := by
 rw [Tree_Put.f] at H0
 refine spec_of [(0, _), (1, _)] [(0, _), (1, _)] 23 Try.func23 R Try.ntmps23 R R R R (fun β W F => ?_)
 refine G.seq <| G.rg <| K.box Y 100 _ g0 R R R R R R <| K.as R R <| K.nil <| At.ns ?_
 obtain ⟨x1, hx1, H0⟩ := bnd H0
 refine G.rd mixed <| K.mv R R <| K.mv R R <| K.nilCheck g0 R R <| K.fieldAddr Y g0 R t101 R R <| K.loadS Y _ g0 R R t99 R R R <| K.loadS Y _ g0 R R t35 R R R <| K.c0 (cf 65 R) (Tree_putE_con hx1 0 1) g0 R R R R <| K.mv R R <| K.extract g0 R R R <| K.extract g0 R R R <| K.alloc Y 101 _ g0 t99 R R R R R <| K.store Y _ g0 R R R t99 R R R R R <| K.as R R <| K.nil <| And.intro (by kernel_rfl) <| At.ns <| G.seq <| G.rg <| K.mv R R <| K.nil <| At.next <| G.cond R (fun h1 => ?_) (fun h1 => ?_)
 ·
  replace H0 := bif_t H0 h1
  exact G.rg <| K.mv R R <| K.loadS Y _ g0 R R t99 R R R <| K.nilCheck g0 R R <| K.fieldAddr Y g0 R t101 R R <| K.store Y _ g0 R R R t99 R R R R R <| K.nil <| At.nr <| K.mv R R <| K.as R R <| K.nil <| At.next <| G.ret <| At.dr Y [4] R R (by cases H0; rfl) (by cases H0; rfl) R R R
 ·
  replace H0 := bif_f H0 h1
  exact G.skip <| At.nr <| K.mv R R <| K.as R R <| K.nil <| At.next <| G.ret <| At.dr Y [4] R R (by cases H0; rfl) (by cases H0; rfl) R R R
theorem Tree_PutE_con {k : Nat}  {p1 : Pool (TNode TL07Elem TTide)} {rt0 : TRef} {a1 : TL07Elem} {r : Bool × TRef × Pool (TNode TL07Elem TTide)}  (H0 : Tree_Put.f opsE k p1 rt0 a1 = some r) (m0 m1 : Nat) : Tree_PutE_st p1 rt0 a1 r m0 m1 :=
 SCon.ren (rn [(0, m0), (1, m1)]) (Tree_PutE_con0 (k := k)   H0) ⟨(blk_ren R R), (pl_ren R), trivial⟩ ⟨(blk_ren R R), (pl_ren R), trivial⟩ (by simp) (by simp)
abbrev Tree_LenE_st (p1 : Pool (TNode TL07Elem TTide)) (rt0 : TRef) (r : Int) (m0 : Nat) (m1 : Nat) : Prop := SCon Try.prog 20 [SV.p m0 0] [(m0, blk m0 [.p m1 0, .i rt0.index, .i rt0.gen] 101), (m1, plE m1 p1)] (.a (.c (.v (.int .i64 r)))) [(m0, blk m0 [.p m1 0, .i rt0.index, .i rt0.gen] 101), (m1, plE m1 p1)] []
theorem Tree_LenE_con0 {k : Nat}  {p1 : Pool (TNode TL07Elem TTide)} {rt0 : TRef} {r : Int}  (H0 : Tree_Len.f opsE k p1 rt0 = some r) : Tree_LenE_st p1 rt0 r 0 1 := by
 rw [Tree_Len.f] at H0
 refine spec_of [(0, _)] [(0, _), (1, _)] 10 Try.func20 R Try.ntmps20 R R R R (fun β W F => ?_)
 refine G.seq <| G.rg <| K.as R R <| K.nil <| At.ns ?_
 obtain ⟨x1, hx1, H0⟩ := bnd H0
 exact G.rg <| K.mv R R <| K.mv R R <| K.nilCheck g0 R R <| K.fieldAddr Y g0 R t101 R R <| K.loadS Y _ g0 R R t99 R R R <| K.cR (cf 62 R) (Tree_getE_con hx1 0 1) g0 R R R R <| K.field1 Y g0 R t104 R t3 R R <| K.as R R <| K.nil <| At.next <| G.ret <| At.dr Y [2] R R (by cases H0; rfl) (by cases H0; rfl) R R R
theorem Tree_LenE_con {k : Nat}  {p1 : Pool (TNode TL07Elem TTide)} {rt0 : TRef} {r : Int}  (H0 : Tree_Len.f opsE k p1 rt0 = some r) (m0 m1 : Nat) : Tree_LenE_st p1 rt0 r m0 m1 :=
 SCon.ren (rn [(0, m0), (1, m1)]) (Tree_LenE_con0 (k := k)   H0) ⟨(blk_ren R R), (pl_ren R), trivial⟩ ⟨(blk_ren R R), (pl_ren R), trivial⟩ (by simp) (by simp)
abbrev Tree_firstE_st (g4 : FuncId) (p1 : Pool (TNode TL07Elem TTide)) (a1 : TRef) (a2 : Int) (a3 : TTide) (ri0 : Int) (rg0 : Int) (r : Int × TTide) (m0 : Nat) (m1 : Nat) : Prop := SCon Try.prog 68 [SV.p m0 0, .a (.agg ((eTRef a1).map .v)), .a (.c (.v (.int .i64 a2))), .a (.agg ((eTTide a3).map .v)), SV.raw (.func (.func g4) #[] #[])] [(m0, blk m0 [.p m1 0, .i ri0, .i rg0] 101), (m1, plE m1 p1)] (.tup [.c (.v (.int .i64 r.1)), .agg ((eTTide r.2).map .v)]) [(m0, blk m0 [.p m1 0, .i ri0, .i rg0] 101), (m1, plE m1 p1)] []
set_option maxHeartbeats 4000000 in
theorem Tree_firstE_con0 {k : Nat} {g4 : FuncId} {fn4 : TTide → TTide → Option Bool} (cg4 : fnB Try.prog g4 = true) (hm4 : ∀ {z0 : TTide} {z1 : TTide} {y : Bool}, fn4 z0 z1 = some y → SCon Try.prog g4 [.a (.agg ((eTTide z0).map .v)), .a (.agg ((eTTide z1).map .v))] [] (SV.b y) [] []) : ∀ {n : Nat} {p1 : Pool (TNode TL07Elem TTide)} {a1 : TRef} {a2 : Int} {a3 : TTide} {ri0 rg0 : Int} {r : Int × TTide}  (H0 : Tree_first.r opsE k n p1 a1 a2 a3 fn4 = some r), Tree_firstE_st g4 p1 a1 a2 a3 ri0 rg0 r 0 1 := by
 intro n
 induction n with
 | zero => intro p1 a1 a2 a3 ri0 rg0 r H0; exact absurd H0 (by simp [Tree_first.r])
 | succ n ih =>
  intro p1 a1 a2 a3 ri0 rg0 r H0
  rw [Tree_first.r] at H0
  refine spec_of [(0, _), (1, _), (2, _), (3, _), (4, _)] [(0, _), (1, _)] 103 Try.func68 R Try.ntmps68 R R R R (fun β W F => ?_)
  refine G.seq <| G.rg <| K.box Y 100 _ g0 R R R R R R <| K.box Y 101 _ g0 R R R R R R <| K.as R R <| K.alloc Y 102 _ g0 t32 R R R R R <| K.nil <| At.ns ?_
  obtain ⟨x1, hx1, H0⟩ := bnd H0
  refine G.rg <| K.mv R R <| K.loadS Y _ g0 R R t99 R R R <| K.cR (cf 62 R) (Tree_getE_con hx1 0 1) g0 R R R R <| K.alloc Y 103 _ g0 t104 R R R R R <| K.store Y _ g0 R R R t104 R R R R R <| K.nil <| At.next ?_
  obtain ⟨x2, H1, H0⟩ := bnd H0
  refine G.sJ (σ := { v : Unit // x2 = Sum.inr v }) (fun q => [(0, .a (.c (.p 0 0))), (2, .a (.c (.v (.int .i64 a2)))), (4, .a (.c (.v (.func (.func g4) #[] #[])))), (8, .a (.c (.p 104 0))), (11, .a (.c (.p 105 0))), (12, .a (.c (.p 106 0)))]) (fun q => [(1, plE 1 p1), (0, blk 0 [.p 1 0, .v (.int .i64 ri0), .v (.int .i64 rg0)] 101), (104, blk 104 [.v (.int .i64 a3.n), .v (.int .i64 a3.sum), .v (.int .i64 a3.low)] 32), (105, blk 105 [.v (.int .i64 0), .v (.int .i64 0), .v (.int .i64 0)] 32), (106, blk 106 [.v (.int .i64 x1.e.k), .v (.int .i64 x1.e.w), .v (.int .i64 x1.left.index), .v (.int .i64 x1.left.gen), .v (.int .i64 x1.right.index), .v (.int .i64 x1.right.gen), .v (.int .i64 x1.size), .v (.int .i64 x1.sum.n), .v (.int .i64 x1.sum.sum), .v (.int .i64 x1.sum.low)] 104)]) ?_ ?_
  ·
   refine G.seq ?_
   rcases Bool.eq_false_or_eq_true (x1.size == 0) with h1 | h1
   ·
    replace H1 := bif_t H1 h1
    refine G.rg <| K.fieldAddr Y g0 R t104 R R <| K.load1 Y g0 R R t3 R R <| K.bin (V := .bool (x1.size == 0)) g0 R R (fun _ => R) R <| K.mv R R <| K.sk R R h1 R <| K.sk R R h1 R <| K.sk R R h1 R <| K.sk R R h1 R <| K.pickT g0 R (h1) R R <| K.mv R R <| K.sk R R R R <| K.sk R R R R <| K.sk R R R R <| K.skipU R R R R R <| K.skipU R R R R R <| K.skipU R R R R R <| K.skipU R R R R R <| K.skipU R R R R R <| K.skipU R R R R R <| K.sk R R R R <| K.pickT g0 R (R) R R <| K.nil <| At.next <| G.cond R (fun h2 => ?_) (fun h2 => ?_)
    ·
     refine G.seq ?_
     obtain ⟨x3, hx3, H1⟩ := bnd H1
     refine G.rg <| K.loadS Y _ g0 R R t32 R R R <| K.mkIface Y g0 R (mkI Try.underlying32 R) R <| K.fieldAddr Y g0 R t104 R R <| K.loadS Y _ g0 R R t32 R R R <| K.callR [((.tmp 41), _), ((.tmp 43), _)] (tide_Tide_Plus_con (k := k) hx3) (toFn_invoke (cf 130 R) (me32_130) R) g0 ⟨R, R, trivial⟩ trivial R R R <| K.as R R <| K.store Y _ g0 R R R t32 R R R R R <| K.nil <| At.next <| G.ret <| At.over_ret ?_
     cases H1
     replace H0 := sum_l H0
     refine At.done Y [(.tmp 10, .c _), (.cell 11 32, .agg [_, _, _])] R ⟨.tmp R, .st R R t32 R R, trivial⟩ (to' := [(0, _), (1, _)]) ⟨R, R, trivial⟩ ?_ ?_ R R R (.inl R)
     · cases H0; rfl
     · cases H0; rfl
    · cases h2
   ·
    replace H1 := bif_f H1 h1
    rcases Bool.eq_false_or_eq_true (decide (a2 ≥ x1.size)) with h3 | h3
    ·
     replace H1 := bif_t H1 h3
     refine G.rg <| K.fieldAddr Y g0 R t104 R R <| K.load1 Y g0 R R t3 R R <| K.bin (V := .bool (x1.size == 0)) g0 R R (fun _ => R) R <| K.mv R R <| K.move (.inl R) (g1 R R h1) R R <| K.fieldAddr Y (g1 R R h1) R t104 R R <| K.load1 Y (g1 R R h1) R R t3 R R <| K.bin (V := .bool (decide (a2 ≥ x1.size))) (g1 R R h1) R R (fun _ => R) R <| K.pickF g0 R (h1) R R <| K.mv R R <| K.sk R R h3 R <| K.sk R R h3 R <| K.sk R R h3 R <| K.skipU R R R R R <| K.skipU R R R R R <| K.skipU R R R R R <| K.skipU R R R R R <| K.skipU R R R R R <| K.skipU R R R R R <| K.sk R R h3 R <| K.pickT g0 R (h3) R R <| K.nil <| At.next <| G.cond R (fun h4 => ?_) (fun h4 => ?_)
     ·
      refine G.seq ?_
      obtain ⟨x4, hx4, H1⟩ := bnd H1
      refine G.rg <| K.loadS Y _ g0 R R t32 R R R <| K.mkIface Y g0 R (mkI Try.underlying32 R) R <| K.fieldAddr Y g0 R t104 R R <| K.loadS Y _ g0 R R t32 R R R <| K.callR [((.tmp 41), _), ((.tmp 43), _)] (tide_Tide_Plus_con (k := k) hx4) (toFn_invoke (cf 130 R) (me32_130) R) g0 ⟨R, R, trivial⟩ trivial R R R <| K.as R R <| K.store Y _ g0 R R R t32 R R R R R <| K.nil <| At.next <| G.ret <| At.over_ret ?_
      cases H1
      replace H0 := sum_l H0
      refine At.done Y [(.tmp 10, .c _), (.cell 11 32, .agg [_, _, _])] R ⟨.tmp R, .st R R t32 R R, trivial⟩ (to' := [(0, _), (1, _)]) ⟨R, R, trivial⟩ ?_ ?_ R R R (.inl R)
      · cases H0; rfl
      · cases H0; rfl
     · cases h4
    ·
     replace H1 := bif_f H1 h3
     rcases Bool.eq_false_or_eq_true (decide (a2 ≤ 0)) with h5 | h5
     ·
      replace H1 := bif_t H1 h5
      obtain ⟨x5, hx5, H1⟩ := bnd H1
      refine G.rg <| K.fieldAddr Y g0 R t104 R R <| K.load1 Y g0 R R t3 R R <| K.bin (V := .bool (x1.size == 0)) g0 R R (fun _ => R) R <| K.mv R R <| K.move (.inl R) (g1 R R h1) R R <| K.fieldAddr Y (g1 R R h1) R t104 R R <| K.load1 Y (g1 R R h1) R R t3 R R <| K.bin (V := .bool (decide (a2 ≥ x1.size))) (g1 R R h1) R R (fun _ => R) R <| K.pickF g0 R (h1) R R <| K.mv R R <| K.move (.inl R) (g1 R R h3) R R <| K.bin (V := .bool (decide (a2 ≤ 0))) (g1 R R h3) R R (fun _ => R) R <| K.move (.inl R) (g1 R R h3) R R <| K.move (.inl R) (g1 R R h5) R R <| K.loadS Y _ (g1 R R h5) R R t32 R R R <| K.fieldAddr Y (g1 R R h5) R t104 R R <| K.loadS Y _ (g1 R R h5) R R t32 R R R <| K.callR [((.tmp 32), _), ((.tmp 33), _), ((.tmp 35), _)] (hm4 hx5) (toFn_raw cg4 R) (g1 R R h5) ⟨R, R, R, trivial⟩ trivial R R R <| K.un (V := .bool (!x5)) (g1 R R h5) R (fun _ => R) R <| K.pickT (g1 R R h3) R (h5) R R <| K.pickF g0 R (h3) R R <| K.nil <| At.next <| G.cond R (fun h6 => ?_) (fun h6 => ?_)
      ·
       replace H1 := bif_t H1 h6
       refine G.seq ?_
       obtain ⟨x6, hx6, H1⟩ := bnd H1
       refine G.rg <| K.loadS Y _ g0 R R t32 R R R <| K.mkIface Y g0 R (mkI Try.underlying32 R) R <| K.fieldAddr Y g0 R t104 R R <| K.loadS Y _ g0 R R t32 R R R <| K.callR [((.tmp 41), _), ((.tmp 43), _)] (tide_Tide_Plus_con (k := k) hx6) (toFn_invoke (cf 130 R) (me32_130) R) g0 ⟨R, R, trivial⟩ trivial R R R <| K.as R R <| K.store Y _ g0 R R R t32 R R R R R <| K.nil <| At.next <| G.ret <| At.over_ret ?_
       cases H1
       replace H0 := sum_l H0
       refine At.done Y [(.tmp 10, .c _), (.cell 11 32, .agg [_, _, _])] R ⟨.tmp R, .st R R t32 R R, trivial⟩ (to' := [(0, _), (1, _)]) ⟨R, R, trivial⟩ ?_ ?_ R R R (.inl R)
       · cases H0; rfl
       · cases H0; rfl
      ·
       replace H1 := bif_f H1 h6
       exact G.skip <| At.jd ⟨(), oi H1⟩ [(104, 101), (105, 102), (106, 103)] [_, _, _, _, _] R ⟨R, R, R, R, R, R, trivial⟩ ⟨R, (pl_ren R), R, (blk_ren R R), R, (blk_ren R R), R, (blk_ren R R), R, (blk_ren R R), trivial⟩ R
     ·
      replace H1 := bif_f H1 h5
      refine G.rg <| K.fieldAddr Y g0 R t104 R R <| K.load1 Y g0 R R t3 R R <| K.bin (V := .bool (x1.size == 0)) g0 R R (fun _ => R) R <| K.mv R R <| K.move (.inl R) (g1 R R h1) R R <| K.fieldAddr Y (g1 R R h1) R t104 R R <| K.load1 Y (g1 R R h1) R R t3 R R <| K.bin (V := .bool (decide (a2 ≥ x1.size))) (g1 R R h1) R R (fun _ => R) R <| K.pickF g0 R (h1) R R <| K.mv R R <| K.move (.inl R) (g1 R R h3) R R <| K.bin (V := .bool (decide (a2 ≤ 0))) (g1 R R h3) R R (fun _ => R) R <| K.move (.inl R) (g1 R R h3) R R <| K.sk R R h5 R <| K.sk R R h5 R <| K.sk R R h5 R <| K.sk R R h5 R <| K.sk R R h5 R <| K.sk R R h5 R <| K.pickF (g1 R R h3) R (h5) R R <| K.pickF g0 R (h3) R R <| K.nil <| At.next <| G.cond R (fun h7 => ?_) (fun h7 => ?_)
      · cases h7
      ·
       exact G.skip <| At.jd ⟨(), oi H1⟩ [(104, 101), (105, 102), (106, 103)] [_, _, _, _, _] R ⟨R, R, R, R, R, R, trivial⟩ ⟨R, (pl_ren R), R, (blk_ren R R), R, (blk_ren R R), R, (blk_ren R R), R, (blk_ren R R), trivial⟩ R
  ·
   rintro ⟨w2, rfl⟩
   replace H0 := sum_r H0
   show G _ _ [(0, .a (.c (.p 0 0))), (2, .a (.c (.v (.int .i64 a2)))), (4, .a (.c (.v (.func (.func g4) #[] #[])))), (8, .a (.c (.p 104 0))), (11, .a (.c (.p 105 0))), (12, .a (.c (.p 106 0)))] [(1, some (plE 1 p1)), (0, some (blk 0 [.p 1 0, .v (.int .i64 ri0), .v (.int .i64 rg0)] 101)), (104, some (blk 104 [.v (.int .i64 a3.n), .v (.int .i64 a3.sum), .v (.int .i64 a3.low)] 32)), (105, some (blk 105 [.v (.int .i64 0), .v (.int .i64 0), .v (.int .i64 0)] 32)), (106, some (blk 106 [.v (.int .i64 x1.e.k), .v (.int .i64 x1.e.w), .v (.int .i64 x1.left.index), .v (.int .i64 x1.left.gen), .v (.int .i64 x1.right.index), .v (.int .i64 x1.right.gen), .v (.int .i64 x1.size), .v (.int .i64 x1.sum.n), .v (.int .i64 x1.sum.sum), .v (.int .i64 x1.sum.low)] 104))] _ _
   refine G.seq ?_
   obtain ⟨x7, hx7, H0⟩ := bnd H0
   refine G.rg <| K.mv R R <| K.fieldAddr Y g0 R t104 R R <| K.loadS Y _ g0 R R t99 R R R <| K.cR (cf 62 R) (Tree_getE_con hx7 0 1) g0 R R R R <| K.field1 Y g0 R t104 R t3 R R <| K.as R R <| K.nil <| At.ns ?_
   obtain ⟨x8, hx8, H0⟩ := bnd H0
   refine G.rg <| K.mv R R <| K.fieldAddr Y g0 R t104 R R <| K.loadS Y _ g0 R R t99 R R R <| K.mv R R <| K.loadS Y _ g0 R R t32 R R R <| K.mv R R <| K.cR (cf 68 R) (ih hx8) g0 R R R R <| K.mv R R <| K.extract g0 R R R <| K.extract g0 R R R <| K.as R R <| K.store Y _ g0 R R R t32 R R R R R <| K.nil <| At.ns <| G.seq <| G.rg <| K.mv R R <| K.bin (V := .bool (decide (x8.1 ≥ 0))) g0 R R (fun _ => R) R <| K.nil <| At.next <| G.cond R (fun h8 => ?_) (fun h8 => ?_)
   ·
    replace H0 := bif_t H0 h8
    refine G.seq <| G.rd mixed <| K.mv R R <| K.loadS Y _ g0 R R t32 R R R <| K.as R R <| K.store Y _ g0 R R R t32 R R R R R <| K.nil <| And.intro (by kernel_rfl) <| At.next <| G.ret <| At.over_ret <| At.done Y [(.tmp 10, .c _), (.cell 11 32, .agg [_, _, _])] R ⟨.tmp R, .st R R t32 R R, trivial⟩ (to' := [(0, _), (1, _)]) ⟨R, R, trivial⟩ ?_ ?_ R R R (.inl R)
    · cases H0; rfl
    · cases H0; rfl
   ·
    replace H0 := bif_f H0 h8
    refine G.skip <| At.ns ?_
    obtain ⟨x9, hx9, H0⟩ := bnd H0
    refine G.rg <| K.fieldAddr Y g0 R t104 R R <| K.loadS Y _ g0 R R t35 R R R <| K.mkIface Y g0 R (mkI Try.underlying35 R) R <| K.callR [((.tmp 66), _)] (Lw07_elem_Sum_con (k := k) hx9) (toFn_invoke (cf 132 R) (me35_132) R) g0 ⟨R, trivial⟩ trivial R R R <| K.alloc Y 107 _ g0 t32 R R R R R <| K.store Y _ g0 R R R t32 R R R R R <| K.nil <| At.next ?_
    obtain ⟨x10, H1, H0⟩ := bnd H0
    refine G.sJ (σ := { v : Unit // x10 = Sum.inr v }) (fun q => [(0, .a (.c (.p 0 0))), (2, .a (.c (.v (.int .i64 a2)))), (4, .a (.c (.v (.func (.func g4) #[] #[])))), (8, .a (.c (.p 108 0))), (11, .a (.c (.p 109 0))), (12, .a (.c (.p 110 0))), (13, .a (.c (.v (.int .i64 x7.size)))), (15, .a (.c (.p 111 0)))]) (fun q => [(1, plE 1 p1), (0, blk 0 [.p 1 0, .v (.int .i64 ri0), .v (.int .i64 rg0)] 101), (108, blk 108 [.v (.int .i64 x8.2.n), .v (.int .i64 x8.2.sum), .v (.int .i64 x8.2.low)] 32), (109, blk 109 [.v (.int .i64 0), .v (.int .i64 0), .v (.int .i64 0)] 32), (110, blk 110 [.v (.int .i64 x1.e.k), .v (.int .i64 x1.e.w), .v (.int .i64 x1.left.index), .v (.int .i64 x1.left.gen), .v (.int .i64 x1.right.index), .v (.int .i64 x1.right.gen), .v (.int .i64 x1.size), .v (.int .i64 x1.sum.n), .v (.int .i64 x1.sum.sum), .v (.int .i64 x1.sum.low)] 104), (111, blk 111 [.v (.int .i64 x9.n), .v (.int .i64 x9.sum), .v (.int .i64 x9.low)] 32)]) ?_ ?_
    ·
     refine G.seq ?_
     rcases Bool.eq_false_or_eq_true (decide (a2 ≤ x7.size)) with h9 | h9
     ·
      replace H1 := bif_t H1 h9
      obtain ⟨x11, hx11, H1⟩ := bnd H1
      refine G.rg <| K.mv R R <| K.mv R R <| K.bin (V := .bool (decide (a2 ≤ x7.size))) g0 R R (fun _ => R) R <| K.mv R R <| K.move (.inl R) (g1 R R h9) R R <| K.loadS Y _ (g1 R R h9) R R t32 R R R <| K.loadS Y _ (g1 R R h9) R R t32 R R R <| K.callR [((.tmp 72), _), ((.tmp 73), _), ((.tmp 74), _)] (hm4 hx11) (toFn_raw cg4 R) (g1 R R h9) ⟨R, R, R, trivial⟩ trivial R R R <| K.pickT g0 R (h9) R R <| K.nil <| At.next <| G.cond R (fun h10 => ?_) (fun h10 => ?_)
      ·
       replace H1 := bif_t H1 h10
       refine G.seq <| G.rd mixed <| K.mv R R <| K.loadS Y _ g0 R R t32 R R R <| K.as R R <| K.store Y _ g0 R R R t32 R R R R R <| K.nil <| And.intro (by kernel_rfl) <| At.next <| G.ret <| At.over_ret ?_
       cases H1
       replace H0 := sum_l H0
       refine At.done Y [(.tmp 10, .c _), (.cell 11 32, .agg [_, _, _])] R ⟨.tmp R, .st R R t32 R R, trivial⟩ (to' := [(0, _), (1, _)]) ⟨R, R, trivial⟩ ?_ ?_ R R R (.inl R)
       · cases H0; rfl
       · cases H0; rfl
      ·
       replace H1 := bif_f H1 h10
       exact G.skip <| At.jd ⟨(), oi H1⟩ [(108, 104), (109, 105), (110, 106), (111, 107)] [_, _, _, _, _, _] R ⟨R, R, R, R, R, R, R, R, trivial⟩ ⟨R, (pl_ren R), R, (blk_ren R R), R, (blk_ren R R), R, (blk_ren R R), R, (blk_ren R R), R, (blk_ren R R), trivial⟩ R
     ·
      replace H1 := bif_f H1 h9
      refine G.rg <| K.mv R R <| K.mv R R <| K.bin (V := .bool (decide (a2 ≤ x7.size))) g0 R R (fun _ => R) R <| K.mv R R <| K.sk R R h9 R <| K.sk R R h9 R <| K.sk R R h9 R <| K.sk R R h9 R <| K.pickF g0 R (h9) R R <| K.nil <| At.next <| G.cond R (fun h11 => ?_) (fun h11 => ?_)
      · cases h11
      ·
       exact G.skip <| At.jd ⟨(), oi H1⟩ [(108, 104), (109, 105), (110, 106), (111, 107)] [_, _, _, _, _, _] R ⟨R, R, R, R, R, R, R, R, trivial⟩ ⟨R, (pl_ren R), R, (blk_ren R R), R, (blk_ren R R), R, (blk_ren R R), R, (blk_ren R R), R, (blk_ren R R), trivial⟩ R
    ·
     rintro ⟨w10, rfl⟩
     replace H0 := sum_r H0
     show G _ _ [(0, .a (.c (.p 0 0))), (2, .a (.c (.v (.int .i64 a2)))), (4, .a (.c (.v (.func (.func g4) #[] #[])))), (8, .a (.c (.p 108 0))), (11, .a (.c (.p 109 0))), (12, .a (.c (.p 110 0))), (13, .a (.c (.v (.int .i64 x7.size)))), (15, .a (.c (.p 111 0)))] [(1, some (plE 1 p1)), (0, some (blk 0 [.p 1 0, .v (.int .i64 ri0), .v (.int .i64 rg0)] 101)), (108, some (blk 108 [.v (.int .i64 x8.2.n), .v (.int .i64 x8.2.sum), .v (.int .i64 x8.2.low)] 32)), (109, some (blk 109 [.v (.int .i64 0), .v (.int .i64 0), .v (.int .i64 0)] 32)), (110, some (blk 110 [.v (.int .i64 x1.e.k), .v (.int .i64 x1.e.w), .v (.int .i64 x1.left.index), .v (.int .i64 x1.left.gen), .v (.int .i64 x1.right.index), .v (.int .i64 x1.right.gen), .v (.int .i64 x1.size), .v (.int .i64 x1.sum.n), .v (.int .i64 x1.sum.sum), .v (.int .i64 x1.sum.low)] 104)), (111, some (blk 111 [.v (.int .i64 x9.n), .v (.int .i64 x9.sum), .v (.int .i64 x9.low)] 32))] _ _
     refine G.seq ?_
     obtain ⟨x12, hx12, H0⟩ := bnd H0
     obtain ⟨x13, hx13, H0⟩ := bnd H0
     refine G.rd mixed <| K.mv R R <| K.fieldAddr Y g0 R t104 R R <| K.loadS Y _ g0 R R t99 R R R <| K.mv R R <| K.mv R R <| K.bin (V := .int .i64 (w64 (a2 - x7.size))) g0 R R (fun _ => R) R <| K.bin (V := .int .i64 (w64 ((w64 (a2 - x7.size)) - 1))) g0 R R (fun _ => R) R <| K.loadS Y _ g0 R R t32 R R R <| K.mkIface Y g0 R (mkI Try.underlying32 R) R <| K.loadS Y _ g0 R R t32 R R R <| K.callR [((.tmp 88), _), ((.tmp 89), _)] (tide_Tide_Plus_con (k := k) hx12) (toFn_invoke (cf 130 R) (me32_130) R) g0 ⟨R, R, trivial⟩ trivial R R R <| K.mv R R <| K.cR (cf 68 R) (ih hx13) g0 R R R R <| K.mv R R <| K.extract g0 R R R <| K.extract g0 R R R <| K.as R R <| K.store Y _ g0 R R R t32 R R R R R <| K.nil <| And.intro (by kernel_rfl) <| At.ns <| G.seq <| G.rg <| K.mv R R <| K.bin (V := .bool (decide (x13.1 ≥ 0))) g0 R R (fun _ => R) R <| K.nil <| At.next <| G.cond R (fun h12 => ?_) (fun h12 => ?_)
     ·
      replace H0 := bif_t H0 h12
      refine G.rg <| K.mv R R <| K.mv R R <| K.bin (V := .int .i64 (w64 (x7.size + 1))) g0 R R (fun _ => R) R <| K.bin (V := .int .i64 (w64 (x13.1 + (w64 (x7.size + 1))))) g0 R R (fun _ => R) R <| K.as R R <| K.nil <| At.ns <| G.rd mixed <| K.mv R R <| K.loadS Y _ g0 R R t32 R R R <| K.as R R <| K.store Y _ g0 R R R t32 R R R R R <| K.nil <| And.intro (by kernel_rfl) <| At.next <| G.ret <| At.done Y [(.tmp 10, .c _), (.cell 11 32, .agg [_, _, _])] R ⟨.tmp R, .st R R t32 R R, trivial⟩ (to' := [(0, _), (1, _)]) ⟨R, R, trivial⟩ ?_ ?_ R R R (.inl R)
      · cases H0; rfl
      · cases H0; rfl
     ·
      replace H0 := bif_f H0 h12
      refine G.skip <| At.ns <| G.rd mixed <| K.mv R R <| K.loadS Y _ g0 R R t32 R R R <| K.as R R <| K.store Y _ g0 R R R t32 R R R R R <| K.nil <| And.intro (by kernel_rfl) <| At.next <| G.ret <| At.done Y [(.tmp 10, .c _), (.cell 11 32, .agg [_, _, _])] R ⟨.tmp R, .st R R t32 R R, trivial⟩ (to' := [(0, _), (1, _)]) ⟨R, R, trivial⟩ ?_ ?_ R R R (.inl R)
      · cases H0; rfl
      · cases H0; rfl
theorem Tree_firstE_con {k n : Nat} {g4 : FuncId} {fn4 : TTide → TTide → Option Bool} (cg4 : fnB Try.prog g4 = true) (hm4 : ∀ {z0 : TTide} {z1 : TTide} {y : Bool}, fn4 z0 z1 = some y → SCon Try.prog g4 [.a (.agg ((eTTide z0).map .v)), .a (.agg ((eTTide z1).map .v))] [] (SV.b y) [] []) {p1 : Pool (TNode TL07Elem TTide)} {a1 : TRef} {a2 : Int} {a3 : TTide} {ri0 rg0 : Int} {r : Int × TTide}  (H0 : Tree_first.r opsE k n p1 a1 a2 a3 fn4 = some r) (m0 m1 : Nat) : Tree_firstE_st g4 p1 a1 a2 a3 ri0 rg0 r m0 m1 :=
 SCon.ren (rn [(0, m0), (1, m1)]) (Tree_firstE_con0 (k := k) cg4 hm4  H0) ⟨(blk_ren R R), (pl_ren R), trivial⟩ ⟨(blk_ren R R), (pl_ren R), trivial⟩ (by simp) (by simp)
abbrev Tree_FirstE_st (g2 : FuncId) (p1 : Pool (TNode TL07Elem TTide)) (rt0 : TRef) (a1 : Int) (r : Int) (m0 : Nat) (m1 : Nat) : Prop := SCon Try.prog 30 [SV.p m0 0, .a (.c (.v (.int .i64 a1))), SV.raw (.func (.func g2) #[] #[])] [(m0, blk m0 [.p m1 0, .i rt0.index, .i rt0.gen] 101), (m1, plE m1 p1)] (.a (.c (.v (.int .i64 r)))) [(m0, blk m0 [.p m1 0, .i rt0.index, .i rt0.gen] 101), (m1, plE m1 p1)] []
theorem Tree_FirstE_con0 {k : Nat} {g2 : FuncId} {fn2 : TTide → TTide → Option Bool} (cg2 : fnB Try.prog g2 = true) (hm2 : ∀ {z0 : TTide} {z1 : TTide} {y : Bool}, fn2 z0 z1 = some y → SCon Try.prog g2 [.a (.agg ((eTTide z0).map .v)), .a (.agg ((eTTide z1).map .v))] [] (SV.b y) [] []) {p1 : Pool (TNode TL07Elem TTide)} {rt0 : TRef} {a1 : Int} {r : Int}  (H0 : Tree_First.f opsE k p1 rt0 a1 fn2 = some r) : Tree_FirstE_st g2 p1 rt0 a1 r 0 1 := by
 rw [Tree_First.f] at H0
 refine spec_of [(0, _), (1, _), (2, _)] [(0, _), (1, _)] 27 Try.func30 R Try.ntmps30 R R R R (fun β W F => ?_)
 refine G.seq <| G.rg <| K.as R R <| K.nil <| At.nr <| K.alloc Y 100 _ g0 t32 R R R R R <| K.nil <| At.ns ?_
 obtain ⟨x1, hx1, H0⟩ := bnd H0
 obtain ⟨x2, hx2, H0⟩ := bnd H0
 exact G.rd mixed <| K.mv R R <| K.mv R R <| K.nilCheck g0 R R <| K.fieldAddr Y g0 R t101 R R <| K.loadS Y _ g0 R R t99 R R R <| K.mv R R <| K.bi2 (V := .int .i64 (gmax a1 0)) g0 R R (fun _ _ => R) R <| K.mv R R <| K.cR (cf 20 R) (Tree_LenE_con hx1 0 1) g0 R R R R <| K.bi2 (V := .int .i64 (gmin (gmax a1 0) x1)) g0 R R (fun _ _ => R) R <| K.loadS Y _ g0 R R t32 R R R <| K.mv R R <| K.cR (cf 68 R) (Tree_firstE_con cg2 hm2 hx2 0 1) g0 R R R R <| K.mv R R <| K.extract g0 R R R <| K.extract g0 R R R <| K.alloc Y 101 _ g0 t32 R R R R R <| K.as R R <| K.store Y _ g0 R R R t32 R R R R R <| K.nil <| And.intro (by kernel_rfl) <| At.nr <| K.mv R R <| K.as R R <| K.nil <| At.next <| G.ret <| At.dr Y [6] R R (by cases H0; rfl) (by cases H0; rfl) R R R
theorem Tree_FirstE_con {k : Nat} {g2 : FuncId} {fn2 : TTide → TTide → Option Bool} (cg2 : fnB Try.prog g2 = true) (hm2 : ∀ {z0 : TTide} {z1 : TTide} {y : Bool}, fn2 z0 z1 = some y → SCon Try.prog g2 [.a (.agg ((eTTide z0).map .v)), .a (.agg ((eTTide z1).map .v))] [] (SV.b y) [] []) {p1 : Pool (TNode TL07Elem TTide)} {rt0 : TRef} {a1 : Int} {r : Int}  (H0 : Tree_First.f opsE k p1 rt0 a1 fn2 = some r) (m0 m1 : Nat) : Tree_FirstE_st g2 p1 rt0 a1 r m0 m1 :=
 SCon.ren (rn [(0, m0), (1, m1)]) (Tree_FirstE_con0 (k := k) cg2 hm2  H0) ⟨(blk_ren R R), (pl_ren R), trivial⟩ ⟨(blk_ren R R), (pl_ren R), trivial⟩ (by simp) (by simp)
abbrev Tree_RankE_st (p1 : Pool (TNode TL07Elem TTide)) (rt0 : TRef) (a1 : TL07Elem) (r : Int) (m0 : Nat) (m1 : Nat) : Prop := SCon Try.prog 26 [SV.p m0 0, .a (.agg ((eTL07Elem a1).map .v))] [(m0, blk m0 [.p m1 0, .i rt0.index, .i rt0.gen] 101), (m1, plE m1 p1)] (.a (.c (.v (.int .i64 r)))) [(m0, blk m0 [.p m1 0, .i rt0.index, .i rt0.gen] 101), (m1, plE m1 p1)] []
theorem Tree_RankE_con0 {k : Nat}  {p1 : Pool (TNode TL07Elem TTide)} {rt0 : TRef} {a1 : TL07Elem} {r : Int}  (H0 : Tree_Rank.f opsE k p1 rt0 a1 = some r) : Tree_RankE_st p1 rt0 a1 r 0 1 := by
 rw [Tree_Rank.f] at H0
 refine spec_of [(0, _), (1, _)] [(0, _), (1, _)] 36 Try.func26 R Try.ntmps26 R R R R (fun β W F => ?_)
 refine G.seq <| G.rg <| K.box Y 100 _ g0 R R R R R R <| K.as R R <| K.nil <| At.nr <| K.as R R <| K.nil <| At.next ?_
 obtain ⟨x1, H1, H0⟩ := bnd H0
 refine G.sJ (σ := { v : Int // x1 = v }) (fun q => [(5, .a (.c (.v (.int .i64 q.1))))]) (fun q => [(1, plE 1 p1), (0, blk 0 [.p 1 0, .v (.int .i64 rt0.index), .v (.int .i64 rt0.gen)] 101)]) ?_ ?_
 ·
  refine G.seq <| G.rg <| K.mv R R <| K.nilCheck g0 R R <| K.fieldAddr Y g0 R t101 R R <| K.loadS Y _ g0 R R t99 R R R <| K.alloc Y 101 _ g0 t99 R R R R R <| K.store Y _ g0 R R R t99 R R R R R <| K.nil <| At.next <| G.block <| G.lp (σ := { q : Nat × (Int × TRef) // Tree_Rank.l0 opsE k p1 a1 q.1 q.2 = some x1 }) (fun q => [(0, .a (.c (.p 0 0))), (3, .a (.c (.p 106 0))), (5, .a (.c (.v (.int .i64 q.1.2.1)))), (6, .a (.c (.p 107 0)))]) (fun q => [(1, plE 1 p1), (0, blk 0 [.p 1 0, .v (.int .i64 rt0.index), .v (.int .i64 rt0.gen)] 101), (106, blk 106 [.v (.int .i64 a1.k), .v (.int .i64 a1.w)] 35), (107, blk 107 [.v (.int .i64 q.1.2.2.index), .v (.int .i64 q.1.2.2.gen)] 99)]) (fun q => q.1.1) ⟨(k, (0, rt0)), H1⟩ ?_ ?_
  · exact At.into [(106, 100), (107, 101)] [_, _, _, _] R ⟨R, R, R, R, trivial⟩ ⟨R, (pl_ren R), R, (blk_ren R R), R, (blk_ren R R), R, (blk_ren R R), trivial⟩ R
  ·
   rintro ⟨⟨n0, v1, v2⟩, H1⟩
   show G _ _ [(0, .a (.c (.p 0 0))), (3, .a (.c (.p 106 0))), (5, .a (.c (.v (.int .i64 v1)))), (6, .a (.c (.p 107 0)))] [(1, some (plE 1 p1)), (0, some (blk 0 [.p 1 0, .v (.int .i64 rt0.index), .v (.int .i64 rt0.gen)] 101)), (106, some (blk 106 [.v (.int .i64 a1.k), .v (.int .i64 a1.w)] 35)), (107, some (blk 107 [.v (.int .i64 v2.index), .v (.int .i64 v2.gen)] 99))] _ _
   cases n0 with
   | zero => exact absurd H1 (by simp [Tree_Rank.l0])
   | succ n0 =>
    have HL0 := H1
    rw [Tree_Rank.l0] at H1
    refine G.seq <| G.seq <| G.rg <| K.fieldAddr Y g0 R t99 R R <| K.load1 Y g0 R R t3 R R <| K.bin (V := .bool (v2.gen != 0)) g0 R R (fun _ => R) R <| K.nil <| At.next <| G.cond R (fun h1 => ?_) (fun h1 => ?_)
    ·
     replace H1 := bif_t H1 h1
     refine G.skip <| At.ns <| G.block <| G.seq ?_
     obtain ⟨x2, hx2, H1⟩ := bnd H1
     refine G.rg <| K.mv R R <| K.loadS Y _ g0 R R t99 R R R <| K.cR (cf 62 R) (Tree_getE_con hx2 0 1) g0 R R R R <| K.alloc Y 108 _ g0 t104 R R R R R <| K.store Y _ g0 R R R t104 R R R R R <| K.nil <| At.ns <| G.seq ?_
     obtain ⟨x3, hx3, H1⟩ := bnd H1
     refine G.rg <| K.loadS Y _ g0 R R t35 R R R <| K.mkIface Y g0 R (mkI Try.underlying35 R) R <| K.fieldAddr Y g0 R t104 R R <| K.loadS Y _ g0 R R t35 R R R <| K.callR [((.tmp 19), _), ((.tmp 21), _)] (Lw07_elem_Compare_con (k := k) hx3) (toFn_invoke (cf 131 R) (me35_131) R) g0 ⟨R, R, trivial⟩ trivial R R R <| K.bin (V := .bool (decide (x3 ≤ 0))) g0 R R (fun _ => R) R <| K.nil <| At.next <| G.cond R (fun h2 => ?_) (fun h2 => ?_)
     ·
      replace H1 := bif_t H1 h2
      exact G.seq <| G.rg <| K.fieldAddr Y g0 R t104 R R <| K.loadS Y _ g0 R R t99 R R R <| K.store Y _ g0 R R R t99 R R R R R <| K.nil <| At.next <| G.exit <| At.over_exit <| At.block_hit <| At.nr <| K.loadS Y _ g0 R R t99 R R R <| K.nil <| At.next <| G.rg <| K.alloc Y 109 _ g0 t99 R R R R R <| K.store Y _ g0 R R R t99 R R R R R <| K.nil <| At.ag ⟨(n0, (v1, x2.left)), H1⟩ [(107, 109)] [_, _, _, _] (Nat.lt_succ_self _) R ⟨R, R, R, R, trivial⟩ ⟨R, (pl_ren R), R, (blk_ren R R), R, (blk_ren R R), R, (blk_ren R R), trivial⟩ R
     ·
      replace H1 := bif_f H1 h2
      refine G.skip <| At.ns ?_
      obtain ⟨x4, hx4, H1⟩ := bnd H1
      exact G.rg <| K.mv R R <| K.mv R R <| K.fieldAddr Y g0 R t104 R R <| K.loadS Y _ g0 R R t99 R R R <| K.cR (cf 67 R) (Tree_weightE_con hx4 0 1) g0 R R R R <| K.bin (V := .int .i64 (w64 (v1 + x4))) g0 R R (fun _ => R) R <| K.as R R <| K.nil <| At.next <| G.rg <| K.fieldAddr Y g0 R t104 R R <| K.loadS Y _ g0 R R t99 R R R <| K.store Y _ g0 R R R t99 R R R R R <| K.nil <| At.block_normal <| At.nr <| K.loadS Y _ g0 R R t99 R R R <| K.nil <| At.next <| G.rg <| K.alloc Y 110 _ g0 t99 R R R R R <| K.store Y _ g0 R R R t99 R R R R R <| K.nil <| At.ag ⟨(n0, ((w64 (v1 + x4)), x2.right)), H1⟩ [(107, 110)] [_, _, _, _] (Nat.lt_succ_self _) R ⟨R, R, R, R, trivial⟩ ⟨R, (pl_ren R), R, (blk_ren R R), R, (blk_ren R R), R, (blk_ren R R), trivial⟩ R
    ·
     replace H1 := bif_f H1 h1
     exact G.exit <| At.over_exit <| At.over_exit <| At.block_hit <| At.jd ⟨v1, oi H1⟩ [] [_, _] R ⟨R, trivial⟩ ⟨R, (pl_ren R), R, (blk_ren R R), trivial⟩ R
 ·
  rintro ⟨_, rfl⟩
  show G _ _ [(5, .a (.c (.v (.int .i64 x1))))] [(1, some (plE 1 p1)), (0, some (blk 0 [.p 1 0, .v (.int .i64 rt0.index), .v (.int .i64 rt0.gen)] 101))] _ _
  exact G.seq <| G.rg <| K.mv R R <| K.as R R <| K.nil <| At.next <| G.ret <| At.dr Y [4] R R (by cases H0; rfl) (by cases H0; rfl) R R R
theorem Tree_RankE_con {k : Nat}  {p1 : Pool (TNode TL07Elem TTide)} {rt0 : TRef} {a1 : TL07Elem} {r : Int}  (H0 : Tree_Rank.f opsE k p1 rt0 a1 = some r) (m0 m1 : Nat) : Tree_RankE_st p1 rt0 a1 r m0 m1 :=
 SCon.ren (rn [(0, m0), (1, m1)]) (Tree_RankE_con0 (k := k)   H0) ⟨(blk_ren R R), (pl_ren R), trivial⟩ ⟨(blk_ren R R), (pl_ren R), trivial⟩ (by simp) (by simp)
abbrev Tree_betweenE_st (p1 : Pool (TNode TL07Elem TTide)) (a1 : TRef) (a2 : Int) (a3 : Int) (ri0 : Int) (rg0 : Int) (r : TTide) (m0 : Nat) (m1 : Nat) : Prop := SCon Try.prog 60 [SV.p m0 0, .a (.agg ((eTRef a1).map .v)), .a (.c (.v (.int .i64 a2))), .a (.c (.v (.int .i64 a3)))] [(m0, blk m0 [.p m1 0, .i ri0, .i rg0] 101), (m1, plE m1 p1)] (.a (.agg ((eTTide r).map .v))) [(m0, blk m0 [.p m1 0, .i ri0, .i rg0] 101), (m1, plE m1 p1)] []
set_option maxHeartbeats 4000000 in
theorem Tree_betweenE_con0 {k : Nat}  : ∀ {n : Nat} {p1 : Pool (TNode TL07Elem TTide)} {a1 : TRef} {a2 : Int} {a3 : Int} {ri0 rg0 : Int} {r : TTide}  (H0 : Tree_between.r opsE k n p1 a1 a2 a3 = some r), Tree_betweenE_st p1 a1 a2 a3 ri0 rg0 r 0 1 := by
 intro n
 induction n with
 | zero => intro p1 a1 a2 a3 ri0 rg0 r H0; exact absurd H0 (by simp [Tree_between.r])
 | succ n ih =>
  intro p1 a1 a2 a3 ri0 rg0 r H0
  rw [Tree_between.r] at H0
  refine spec_of [(0, _), (1, _), (2, _), (3, _)] [(0, _), (1, _)] 85 Try.func60 R Try.ntmps60 R R R R (fun β W F => ?_)
  refine G.seq <| G.rg <| K.box Y 100 _ g0 R R R R R R <| K.alloc Y 101 _ g0 t32 R R R R R <| K.nil <| At.ns ?_
  obtain ⟨x1, hx1, H0⟩ := bnd H0
  refine G.rg <| K.mv R R <| K.loadS Y _ g0 R R t99 R R R <| K.cR (cf 62 R) (Tree_getE_con hx1 0 1) g0 R R R R <| K.alloc Y 102 _ g0 t104 R R R R R <| K.store Y _ g0 R R R t104 R R R R R <| K.nil <| At.nr <| K.alloc Y 103 _ g0 t32 R R R R R <| K.nil <| At.next ?_
  obtain ⟨x2, H1, H0⟩ := bnd H0
  refine G.sJ (σ := { v : Unit // x2 = Sum.inr v }) (fun q => [(0, .a (.c (.p 0 0))), (2, .a (.c (.v (.int .i64 a2)))), (3, .a (.c (.v (.int .i64 a3)))), (8, .a (.c (.p 104 0))), (9, .a (.c (.p 105 0))), (10, .a (.c (.p 106 0)))]) (fun q => [(1, plE 1 p1), (0, blk 0 [.p 1 0, .v (.int .i64 ri0), .v (.int .i64 rg0)] 101), (104, blk 104 [.v (.int .i64 0), .v (.int .i64 0), .v (.int .i64 0)] 32), (105, blk 105 [.v (.int .i64 x1.e.k), .v (.int .i64 x1.e.w), .v (.int .i64 x1.left.index), .v (.int .i64 x1.left.gen), .v (.int .i64 x1.right.index), .v (.int .i64 x1.right.gen), .v (.int .i64 x1.size), .v (.int .i64 x1.sum.n), .v (.int .i64 x1.sum.sum), .v (.int .i64 x1.sum.low)] 104), (106, blk 106 [.v (.int .i64 0), .v (.int .i64 0), .v (.int .i64 0)] 32)]) ?_ ?_
  ·
   refine G.seq ?_
   rcases Bool.eq_false_or_eq_true (decide (a2 ≥ a3)) with h1 | h1
   ·
    replace H1 := bif_t H1 h1
    refine G.rg <| K.mv R R <| K.mv R R <| K.bin (V := .bool (decide (a2 ≥ a3))) g0 R R (fun _ => R) R <| K.mv R R <| K.sk R R h1 R <| K.sk R R h1 R <| K.sk R R h1 R <| K.sk R R h1 R <| K.pickT g0 R (h1) R R <| K.mv R R <| K.sk R R R R <| K.sk R R R R <| K.pickT g0 R (R) R R <| K.mv R R <| K.sk R R R R <| K.sk R R R R <| K.sk R R R R <| K.pickT g0 R (R) R R <| K.nil <| At.next <| G.cond R (fun h2 => ?_) (fun h2 => ?_)
    ·
     refine G.seq <| G.rg <| K.loadS Y _ g0 R R t32 R R R <| K.store Y _ g0 R R R t32 R R R R R <| K.nil <| At.next <| G.ret <| At.over_ret ?_
     cases H1
     replace H0 := sum_l H0
     refine At.done Y [(.cell 8 32, .agg [_, _, _])] R ⟨.st R R t32 R R, trivial⟩ (to' := [(0, _), (1, _)]) ⟨R, R, trivial⟩ ?_ ?_ R R R (.inl R)
     · cases H0; rfl
     · cases H0; rfl
    · cases h2
   ·
    replace H1 := bif_f H1 h1
    rcases Bool.eq_false_or_eq_true (decide (a2 ≥ x1.size)) with h3 | h3
    ·
     replace H1 := bif_t H1 h3
     refine G.rg <| K.mv R R <| K.mv R R <| K.bin (V := .bool (decide (a2 ≥ a3))) g0 R R (fun _ => R) R <| K.mv R R <| K.move (.inl R) (g1 R R h1) R R <| K.fieldAddr Y (g1 R R h1) R t104 R R <| K.load1 Y (g1 R R h1) R R t3 R R <| K.bin (V := .bool (decide (a2 ≥ x1.size))) (g1 R R h1) R R (fun _ => R) R <| K.pickF g0 R (h1) R R <| K.mv R R <| K.sk R R h3 R <| K.sk R R h3 R <| K.pickT g0 R (h3) R R <| K.mv R R <| K.sk R R R R <| K.sk R R R R <| K.sk R R R R <| K.pickT g0 R (R) R R <| K.nil <| At.next <| G.cond R (fun h4 => ?_) (fun h4 => ?_)
     ·
      refine G.seq <| G.rg <| K.loadS Y _ g0 R R t32 R R R <| K.store Y _ g0 R R R t32 R R R R R <| K.nil <| At.next <| G.ret <| At.over_ret ?_
      cases H1
      replace H0 := sum_l H0
      refine At.done Y [(.cell 8 32, .agg [_, _, _])] R ⟨.st R R t32 R R, trivial⟩ (to' := [(0, _), (1, _)]) ⟨R, R, trivial⟩ ?_ ?_ R R R (.inl R)
      · cases H0; rfl
      · cases H0; rfl
     · cases h4
    ·
     replace H1 := bif_f H1 h3
     rcases Bool.eq_false_or_eq_true (decide (a3 ≤ 0)) with h5 | h5
     ·
      replace H1 := bif_t H1 h5
      refine G.rg <| K.mv R R <| K.mv R R <| K.bin (V := .bool (decide (a2 ≥ a3))) g0 R R (fun _ => R) R <| K.mv R R <| K.move (.inl R) (g1 R R h1) R R <| K.fieldAddr Y (g1 R R h1) R t104 R R <| K.load1 Y (g1 R R h1) R R t3 R R <| K.bin (V := .bool (decide (a2 ≥ x1.size))) (g1 R R h1) R R (fun _ => R) R <| K.pickF g0 R (h1) R R <| K.mv R R <| K.move (.inl R) (g1 R R h3) R R <| K.bin (V := .bool (decide (a3 ≤ 0))) (g1 R R h3) R R (fun _ => R) R <| K.pickF g0 R (h3) R R <| K.mv R R <| K.sk R R h5 R <| K.sk R R h5 R <| K.sk R R h5 R <| K.pickT g0 R (h5) R R <| K.nil <| At.next <| G.cond R (fun h6 => ?_) (fun h6 => ?_)
      ·
       refine G.seq <| G.rg <| K.loadS Y _ g0 R R t32 R R R <| K.store Y _ g0 R R R t32 R R R R R <| K.nil <| At.next <| G.ret <| At.over_ret ?_
       cases H1
       replace H0 := sum_l H0
       refine At.done Y [(.cell 8 32, .agg [_, _, _])] R ⟨.st R R t32 R R, trivial⟩ (to' := [(0, _), (1, _)]) ⟨R, R, trivial⟩ ?_ ?_ R R R (.inl R)
       · cases H0; rfl
       · cases H0; rfl
      · cases h6
     ·
      replace H1 := bif_f H1 h5
      refine G.rg <| K.mv R R <| K.mv R R <| K.bin (V := .bool (decide (a2 ≥ a3))) g0 R R (fun _ => R) R <| K.mv R R <| K.move (.inl R) (g1 R R h1) R R <| K.fieldAddr Y (g1 R R h1) R t104 R R <| K.load1 Y (g1 R R h1) R R t3 R R <| K.bin (V := .bool (decide (a2 ≥ x1.size))) (g1 R R h1) R R (fun _ => R) R <| K.pickF g0 R (h1) R R <| K.mv R R <| K.move (.inl R) (g1 R R h3) R R <| K.bin (V := .bool (decide (a3 ≤ 0))) (g1 R R h3) R R (fun _ => R) R <| K.pickF g0 R (h3) R R <| K.mv R R <| K.fieldAddr Y (g1 R R h5) R t104 R R <| K.load1 Y (g1 R R h5) R R t3 R R <| K.bin (V := .bool (x1.size == 0)) (g1 R R h5) R R (fun _ => R) R <| K.pickF g0 R (h5) R R <| K.nil <| At.next <| G.cond R (fun h7 => ?_) (fun h7 => ?_)
      ·
       replace H1 := bif_t H1 h7
       refine G.seq <| G.rg <| K.loadS Y _ g0 R R t32 R R R <| K.store Y _ g0 R R R t32 R R R R R <| K.nil <| At.next <| G.ret <| At.over_ret ?_
       cases H1
       replace H0 := sum_l H0
       refine At.done Y [(.cell 8 32, .agg [_, _, _])] R ⟨.st R R t32 R R, trivial⟩ (to' := [(0, _), (1, _)]) ⟨R, R, trivial⟩ ?_ ?_ R R R (.inl R)
       · cases H0; rfl
       · cases H0; rfl
      ·
       replace H1 := bif_f H1 h7
       exact G.skip <| At.jd ⟨(), oi H1⟩ [(104, 101), (105, 102), (106, 103)] [_, _, _, _, _] R ⟨R, R, R, R, R, R, trivial⟩ ⟨R, (pl_ren R), R, (blk_ren R R), R, (blk_ren R R), R, (blk_ren R R), R, (blk_ren R R), trivial⟩ R
  ·
   rintro ⟨w2, rfl⟩
   replace H0 := sum_r H0
   show G _ _ [(0, .a (.c (.p 0 0))), (2, .a (.c (.v (.int .i64 a2)))), (3, .a (.c (.v (.int .i64 a3)))), (8, .a (.c (.p 104 0))), (9, .a (.c (.p 105 0))), (10, .a (.c (.p 106 0)))] [(1, some (plE 1 p1)), (0, some (blk 0 [.p 1 0, .v (.int .i64 ri0), .v (.int .i64 rg0)] 101)), (104, some (blk 104 [.v (.int .i64 0), .v (.int .i64 0), .v (.int .i64 0)] 32)), (105, some (blk 105 [.v (.int .i64 x1.e.k), .v (.int .i64 x1.e.w), .v (.int .i64 x1.left.index), .v (.int .i64 x1.left.gen), .v (.int .i64 x1.right.index), .v (.int .i64 x1.right.gen), .v (.int .i64 x1.size), .v (.int .i64 x1.sum.n), .v (.int .i64 x1.sum.sum), .v (.int .i64 x1.sum.low)] 104)), (106, some (blk 106 [.v (.int .i64 0), .v (.int .i64 0), .v (.int .i64 0)] 32))] _ _
   obtain ⟨x3, H1, H0⟩ := bnd H0
   refine G.sJ (σ := { v : Unit // x3 = Sum.inr v }) (fun q => [(0, .a (.c (.p 0 0))), (2, .a (.c (.v (.int .i64 a2)))), (3, .a (.c (.v (.int .i64 a3)))), (8, .a (.c (.p 107 0))), (9, .a (.c (.p 108 0))), (10, .a (.c (.p 109 0)))]) (fun q => [(1, plE 1 p1), (0, blk 0 [.p 1 0, .v (.int .i64 ri0), .v (.int .i64 rg0)] 101), (107, blk 107 [.v (.int .i64 0), .v (.int .i64 0), .v (.int .i64 0)] 32), (108, blk 108 [.v (.int .i64 x1.e.k), .v (.int .i64 x1.e.w), .v (.int .i64 x1.left.index), .v (.int .i64 x1.left.gen), .v (.int .i64 x1.right.index), .v (.int .i64 x1.right.gen), .v (.int .i64 x1.size), .v (.int .i64 x1.sum.n), .v (.int .i64 x1.sum.sum), .v (.int .i64 x1.sum.low)] 104), (109, blk 109 [.v (.int .i64 0), .v (.int .i64 0), .v (.int .i64 0)] 32)]) ?_ ?_
   ·
    refine G.seq ?_
    rcases Bool.eq_false_or_eq_true (decide (a2 ≤ 0)) with h8 | h8
    ·
     replace H1 := bif_t H1 h8
     refine G.rg <| K.mv R R <| K.bin (V := .bool (decide (a2 ≤ 0))) g0 R R (fun _ => R) R <| K.mv R R <| K.move (.inl R) (g1 R R h8) R R <| K.fieldAddr Y (g1 R R h8) R t104 R R <| K.load1 Y (g1 R R h8) R R t3 R R <| K.bin (V := .bool (decide (a3 ≥ x1.size))) (g1 R R h8) R R (fun _ => R) R <| K.pickT g0 R (h8) R R <| K.nil <| At.next <| G.cond R (fun h9 => ?_) (fun h9 => ?_)
     ·
      replace H1 := bif_t H1 h9
      refine G.seq <| G.rg <| K.fieldAddr Y g0 R t104 R R <| K.loadS Y _ g0 R R t32 R R R <| K.store Y _ g0 R R R t32 R R R R R <| K.nil <| At.next <| G.ret <| At.over_ret ?_
      cases H1
      replace H0 := sum_l H0
      refine At.done Y [(.cell 8 32, .agg [_, _, _])] R ⟨.st R R t32 R R, trivial⟩ (to' := [(0, _), (1, _)]) ⟨R, R, trivial⟩ ?_ ?_ R R R (.inl R)
      · cases H0; rfl
      · cases H0; rfl
     ·
      replace H1 := bif_f H1 h9
      exact G.skip <| At.jd ⟨(), oi H1⟩ [(107, 104), (108, 105), (109, 106)] [_, _, _, _, _] R ⟨R, R, R, R, R, R, trivial⟩ ⟨R, (pl_ren R), R, (blk_ren R R), R, (blk_ren R R), R, (blk_ren R R), R, (blk_ren R R), trivial⟩ R
    ·
     replace H1 := bif_f H1 h8
     refine G.rg <| K.mv R R <| K.bin (V := .bool (decide (a2 ≤ 0))) g0 R R (fun _ => R) R <| K.mv R R <| K.sk R R h8 R <| K.sk R R h8 R <| K.sk R R h8 R <| K.sk R R h8 R <| K.pickF g0 R (h8) R R <| K.nil <| At.next <| G.cond R (fun h10 => ?_) (fun h10 => ?_)
     · cases h10
     ·
      exact G.skip <| At.jd ⟨(), oi H1⟩ [(107, 104), (108, 105), (109, 106)] [_, _, _, _, _] R ⟨R, R, R, R, R, R, trivial⟩ ⟨R, (pl_ren R), R, (blk_ren R R), R, (blk_ren R R), R, (blk_ren R R), R, (blk_ren R R), trivial⟩ R
   ·
    rintro ⟨w3, rfl⟩
    replace H0 := sum_r H0
    show G _ _ [(0, .a (.c (.p 0 0))), (2, .a (.c (.v (.int .i64 a2)))), (3, .a (.c (.v (.int .i64 a3)))), (8, .a (.c (.p 107 0))), (9, .a (.c (.p 108 0))), (10, .a (.c (.p 109 0)))] [(1, some (plE 1 p1)), (0, some (blk 0 [.p 1 0, .v (.int .i64 ri0), .v (.int .i64 rg0)] 101)), (107, some (blk 107 [.v (.int .i64 0), .v (.int .i64 0), .v (.int .i64 0)] 32)), (108, some (blk 108 [.v (.int .i64 x1.e.k), .v (.int .i64 x1.e.w), .v (.int .i64 x1.left.index), .v (.int .i64 x1.left.gen), .v (.int .i64 x1.right.index), .v (.int .i64 x1.right.gen), .v (.int .i64 x1.size), .v (.int .i64 x1.sum.n), .v (.int .i64 x1.sum.sum), .v (.int .i64 x1.sum.low)] 104)), (109, some (blk 109 [.v (.int .i64 0), .v (.int .i64 0), .v (.int .i64 0)] 32))] _ _
    refine G.seq ?_
    obtain ⟨x4, hx4, H0⟩ := bnd H0
    refine G.rg <| K.mv R R <| K.fieldAddr Y g0 R t104 R R <| K.loadS Y _ g0 R R t99 R R R <| K.cR (cf 62 R) (Tree_getE_con hx4 0 1) g0 R R R R <| K.field1 Y g0 R t104 R t3 R R <| K.as R R <| K.nil <| At.ns ?_
    obtain ⟨x5, hx5, H0⟩ := bnd H0
    refine G.rg <| K.mv R R <| K.fieldAddr Y g0 R t104 R R <| K.loadS Y _ g0 R R t99 R R R <| K.mv R R <| K.mv R R <| K.cR (cf 60 R) (ih hx5) g0 R R R R <| K.store Y _ g0 R R R t32 R R R R R <| K.nil <| At.next ?_
    obtain ⟨x6, H1, H0⟩ := bnd H0
    refine G.sJ (σ := { v : TTide // x6 = v }) (fun q => [(0, .a (.c (.p 0 0))), (2, .a (.c (.v (.int .i64 a2)))), (3, .a (.c (.v (.int .i64 a3)))), (8, .a (.c (.p 110 0))), (9, .a (.c (.p 111 0))), (10, .a (.c (.p 112 0))), (11, .a (.c (.v (.int .i64 x4.size))))]) (fun q => [(1, plE 1 p1), (0, blk 0 [.p 1 0, .v (.int .i64 ri0), .v (.int .i64 rg0)] 101), (110, blk 110 [.v (.int .i64 0), .v (.int .i64 0), .v (.int .i64 0)] 32), (111, blk 111 [.v (.int .i64 x1.e.k), .v (.int .i64 x1.e.w), .v (.int .i64 x1.left.index), .v (.int .i64 x1.left.gen), .v (.int .i64 x1.right.index), .v (.int .i64 x1.right.gen), .v (.int .i64 x1.size), .v (.int .i64 x1.sum.n), .v (.int .i64 x1.sum.sum), .v (.int .i64 x1.sum.low)] 104), (112, blk 112 [.v (.int .i64 q.1.n), .v (.int .i64 q.1.sum), .v (.int .i64 q.1.low)] 32)]) ?_ ?_
    ·
     refine G.seq ?_
     rcases Bool.eq_false_or_eq_true (decide (a2 ≤ x4.size)) with h11 | h11
     ·
      replace H1 := bif_t H1 h11
      refine G.rg <| K.mv R R <| K.mv R R <| K.bin (V := .bool (decide (a2 ≤ x4.size))) g0 R R (fun _ => R) R <| K.mv R R <| K.move (.inl R) (g1 R R h11) R R <| K.move (.inl R) (g1 R R h11) R R <| K.bin (V := .bool (decide (a3 > x4.size))) (g1 R R h11) R R (fun _ => R) R <| K.pickT g0 R (h11) R R <| K.nil <| At.next <| G.cond R (fun h12 => ?_) (fun h12 => ?_)
      ·
       replace H1 := bif_t H1 h12
       obtain ⟨x7, hx7, H1⟩ := bnd H1
       obtain ⟨x8, hx8, H1⟩ := bnd H1
       exact G.rd mixed <| K.loadS Y _ g0 R R t32 R R R <| K.mkIface Y g0 R (mkI Try.underlying32 R) R <| K.fieldAddr Y g0 R t104 R R <| K.loadS Y _ g0 R R t35 R R R <| K.mkIface Y g0 R (mkI Try.underlying35 R) R <| K.callR [((.tmp 67), _)] (Lw07_elem_Sum_con (k := k) hx7) (toFn_invoke (cf 132 R) (me35_132) R) g0 ⟨R, trivial⟩ trivial R R R <| K.callR [((.tmp 64), _), ((.tmp 68), _)] (tide_Tide_Plus_con (k := k) hx8) (toFn_invoke (cf 130 R) (me32_130) R) g0 ⟨R, R, trivial⟩ trivial R R R <| K.store Y _ g0 R R R t32 R R R R R <| K.nil <| And.intro (by kernel_rfl) <| At.jd ⟨x8, oi H1⟩ [(110, 107), (111, 108), (112, 109)] [_, _, _, _, _] R ⟨R, R, R, R, R, R, R, trivial⟩ ⟨R, (pl_ren R), R, (blk_ren R R), R, (blk_ren R R), R, (blk_ren R R), R, (blk_ren R R), trivial⟩ R
      ·
       replace H1 := bif_f H1 h12
       exact G.skip <| At.jd ⟨x5, oi H1⟩ [(110, 107), (111, 108), (112, 109)] [_, _, _, _, _] R ⟨R, R, R, R, R, R, R, trivial⟩ ⟨R, (pl_ren R), R, (blk_ren R R), R, (blk_ren R R), R, (blk_ren R R), R, (blk_ren R R), trivial⟩ R
     ·
      replace H1 := bif_f H1 h11
      refine G.rg <| K.mv R R <| K.mv R R <| K.bin (V := .bool (decide (a2 ≤ x4.size))) g0 R R (fun _ => R) R <| K.mv R R <| K.sk R R h11 R <| K.sk R R h11 R <| K.sk R R h11 R <| K.pickF g0 R (h11) R R <| K.nil <| At.next <| G.cond R (fun h13 => ?_) (fun h13 => ?_)
      · cases h13
      ·
       exact G.skip <| At.jd ⟨x5, oi H1⟩ [(110, 107), (111, 108), (112, 109)] [_, _, _, _, _] R ⟨R, R, R, R, R, R, R, trivial⟩ ⟨R, (pl_ren R), R, (blk_ren R R), R, (blk_ren R R), R, (blk_ren R R), R, (blk_ren R R), trivial⟩ R
    ·
     rintro ⟨_, rfl⟩
     show G _ _ [(0, .a (.c (.p 0 0))), (2, .a (.c (.v (.int .i64 a2)))), (3, .a (.c (.v (.int .i64 a3)))), (8, .a (.c (.p 110 0))), (9, .a (.c (.p 111 0))), (10, .a (.c (.p 112 0))), (11, .a (.c (.v (.int .i64 x4.size))))] [(1, some (plE 1 p1)), (0, some (blk 0 [.p 1 0, .v (.int .i64 ri0), .v (.int .i64 rg0)] 101)), (110, some (blk 110 [.v (.int .i64 0), .v (.int .i64 0), .v (.int .i64 0)] 32)), (111, some (blk 111 [.v (.int .i64 x1.e.k), .v (.int .i64 x1.e.w), .v (.int .i64 x1.left.index), .v (.int .i64 x1.left.gen), .v (.int .i64 x1.right.index), .v (.int .i64 x1.right.gen), .v (.int .i64 x1.size), .v (.int .i64 x1.sum.n), .v (.int .i64 x1.sum.sum), .v (.int .i64 x1.sum.low)] 104)), (112, some (blk 112 [.v (.int .i64 x6.n), .v (.int .i64 x6.sum), .v (.int .i64 x6.low)] 32))] _ _
     refine G.seq ?_
     obtain ⟨x9, hx9, H0⟩ := bnd H0
     obtain ⟨x10, hx10, H0⟩ := bnd H0
     refine G.rd mixed <| K.loadS Y _ g0 R R t32 R R R <| K.mkIface Y g0 R (mkI Try.underlying32 R) R <| K.mv R R <| K.fieldAddr Y g0 R t104 R R <| K.loadS Y _ g0 R R t99 R R R <| K.mv R R <| K.mv R R <| K.bin (V := .int .i64 (w64 (a2 - x4.size))) g0 R R (fun _ => R) R <| K.bin (V := .int .i64 (w64 ((w64 (a2 - x4.size)) - 1))) g0 R R (fun _ => R) R <| K.mv R R <| K.mv R R <| K.bin (V := .int .i64 (w64 (a3 - x4.size))) g0 R R (fun _ => R) R <| K.bin (V := .int .i64 (w64 ((w64 (a3 - x4.size)) - 1))) g0 R R (fun _ => R) R <| K.cR (cf 60 R) (ih hx9) g0 R R R R <| K.callR [((.tmp 71), _), ((.tmp 83), _)] (tide_Tide_Plus_con (k := k) hx10) (toFn_invoke (cf 130 R) (me32_130) R) g0 ⟨R, R, trivial⟩ trivial R R R <| K.store Y _ g0 R R R t32 R R R R R <| K.nil <| And.intro (by kernel_rfl) <| At.next <| G.ret <| At.done Y [(.cell 8 32, .agg [_, _, _])] R ⟨.st R R t32 R R, trivial⟩ (to' := [(0, _), (1, _)]) ⟨R, R, trivial⟩ ?_ ?_ R R R (.inl R)
     · cases H0; rfl
     · cases H0; rfl
theorem Tree_betweenE_con {k n : Nat}  {p1 : Pool (TNode TL07Elem TTide)} {a1 : TRef} {a2 : Int} {a3 : Int} {ri0 rg0 : Int} {r : TTide}  (H0 : Tree_between.r opsE k n p1 a1 a2 a3 = some r) (m0 m1 : Nat) : Tree_betweenE_st p1 a1 a2 a3 ri0 rg0 r m0 m1 :=
 SCon.ren (rn [(0, m0), (1, m1)]) (Tree_betweenE_con0 (k := k)   H0) ⟨(blk_ren R R), (pl_ren R), trivial⟩ ⟨(blk_ren R R), (pl_ren R), trivial⟩ (by simp) (by simp)
abbrev Tree_BetweenE_st (p1 : Pool (TNode TL07Elem TTide)) (rt0 : TRef) (a1 : Int) (a2 : Int) (r : TTide) (m0 : Nat) (m1 : Nat) : Prop := SCon Try.prog 15 [SV.p m0 0, .a (.c (.v (.int .i64 a1))), .a (.c (.v (.int .i64 a2)))] [(m0, blk m0 [.p m1 0, .i rt0.index, .i rt0.gen] 101), (m1, plE m1 p1)] (.a (.agg ((eTTide r).map .v))) [(m0, blk m0 [.p m1 0, .i rt0.index, .i rt0.gen] 101), (m1, plE m1 p1)] []
theorem Tree_BetweenE_con0 {k : Nat}  {p1 : Pool (TNode TL07Elem TTide)} {rt0 : TRef} {a1 : Int} {a2 : Int} {r : TTide}  (H0 : Tree_Between.f opsE k p1 rt0 a1 a2 = some r) : Tree_BetweenE_st p1 rt0 a1 a2 r 0 1 := by
 rw [Tree_Between.f] at H0
 refine spec_of [(0, _), (1, _), (2, _)] [(0, _), (1, _)] 24 Try.func15 R Try.ntmps15 R R R R (fun β W F => ?_)
 refine G.seq <| G.rg <| K.alloc Y 100 _ g0 t32 R R R R R <| K.nil <| At.ns ?_
 obtain ⟨x1, hx1, H0⟩ := bnd H0
 refine G.rg <| K.mv R R <| K.cR (cf 20 R) (Tree_LenE_con hx1 0 1) g0 R R R R <| K.as R R <| K.nil <| At.ns ?_
 obtain ⟨x2, hx2, H0⟩ := bnd H0
 refine G.rg <| K.mv R R <| K.mv R R <| K.nilCheck g0 R R <| K.fieldAddr Y g0 R t101 R R <| K.loadS Y _ g0 R R t99 R R R <| K.mv R R <| K.bi2 (V := .int .i64 (gmax a1 0)) g0 R R (fun _ _ => R) R <| K.mv R R <| K.bi2 (V := .int .i64 (gmin (gmax a1 0) x1)) g0 R R (fun _ _ => R) R <| K.mv R R <| K.bi2 (V := .int .i64 (gmax a2 0)) g0 R R (fun _ _ => R) R <| K.mv R R <| K.bi2 (V := .int .i64 (gmin (gmax a2 0) x1)) g0 R R (fun _ _ => R) R <| K.cR (cf 60 R) (Tree_betweenE_con hx2 0 1) g0 R R R R <| K.store Y _ g0 R R R t32 R R R R R <| K.nil <| At.next <| G.ret <| At.done Y [(.cell 6 32, .agg [_, _, _])] R ⟨.st R R t32 R R, trivial⟩ (to' := [(0, _), (1, _)]) ⟨R, R, trivial⟩ ?_ ?_ R R R (.inl R)
 · cases H0; rfl
 · cases H0; rfl
theorem Tree_BetweenE_con {k : Nat}  {p1 : Pool (TNode TL07Elem TTide)} {rt0 : TRef} {a1 : Int} {a2 : Int} {r : TTide}  (H0 : Tree_Between.f opsE k p1 rt0 a1 a2 = some r) (m0 m1 : Nat) : Tree_BetweenE_st p1 rt0 a1 a2 r m0 m1 :=
 SCon.ren (rn [(0, m0), (1, m1)]) (Tree_BetweenE_con0 (k := k)   H0) ⟨(blk_ren R R), (pl_ren R), trivial⟩ ⟨(blk_ren R R), (pl_ren R), trivial⟩ (by simp) (by simp)
abbrev Tree_lastE_st (p1 : Pool (TNode TL07Elem TTide)) (a1 : TRef) (ri0 : Int) (rg0 : Int) (r : TRef × TRef × Pool (TNode TL07Elem TTide)) (m0 : Nat) (m1 : Nat) : Prop := SCon Try.prog 89 [SV.p m0 0, .a (.agg ((eTRef a1).map .v))] [(m0, blk m0 [.p m1 0, .i ri0, .i rg0] 101), (m1, plE m1 p1)] (.tup [.agg ((eTRef r.1).map .v), .agg ((eTRef r.2.1).map .v)]) [(m0, blk m0 [.p m1 0, .i ri0, .i rg0] 101), (m1, plE m1 r.2.2)] []
theorem Tree_lastE_con0 {k : Nat}  : ∀ {n : Nat} {p1 : Pool (TNode TL07Elem TTide)} {a1 : TRef} {ri0 rg0 : Int} {r : TRef × TRef × Pool (TNode TL07Elem TTide)}  (H0 : Tree_last.r opsE k n p1 a1 = some r), Tree_lastE_st p1 a1 ri0 rg0 r 0 1 := by
 intro n
 induction n with
 | zero => intro p1 a1 ri0 rg0 r H0; exact absurd H0 (by simp [Tree_last.r])
 | succ n ih =>
  intro p1 a1 ri0 rg0 r H0
  rw [Tree_last.r] at H0
  refine spec_of [(0, _), (1, _)] [(0, _), (1, _)] 33 Try.func89 R Try.ntmps89 R R R R (fun β W F => ?_)
  refine G.seq <| G.rg <| K.box Y 100 _ g0 R R R R R R <| K.alloc Y 101 _ g0 t99 R R R R R <| K.alloc Y 102 _ g0 t99 R R R R R <| K.nil <| At.ns ?_
  obtain ⟨x1, hx1, H0⟩ := bnd H0
  refine G.rg <| K.mv R R <| K.loadS Y _ g0 R R t99 R R R <| K.cR (cf 62 R) (Tree_getE_con hx1 0 1) g0 R R R R <| K.alloc Y 103 _ g0 t104 R R R R R <| K.store Y _ g0 R R R t104 R R R R R <| K.nil <| At.ns <| G.seq <| G.rg <| K.fieldAddr Y g0 R t104 R R <| K.fieldAddr Y g0 R t99 R R <| K.load1 Y g0 R R t3 R R <| K.bin (V := .bool (x1.right.gen == 0)) g0 R R (fun _ => R) R <| K.nil <| At.next <| G.cond R (fun h1 => ?_) (fun h1 => ?_)
  ·
   replace H0 := bif_t H0 h1
   refine G.seq <| G.rd mixed <| K.fieldAddr Y g0 R t104 R R <| K.loadS Y _ g0 R R t99 R R R <| K.loadS Y _ g0 R R t99 R R R <| K.store Y _ g0 R R R t99 R R R R R <| K.store Y _ g0 R R R t99 R R R R R <| K.nil <| And.intro (by kernel_rfl) <| At.next <| G.ret <| At.over_ret <| At.done Y [(.cell 4 99, .agg [_, _]), (.cell 5 99, .agg [_, _])] R ⟨.st R R t99 R R, .st R R t99 R R, trivial⟩ (to' := [(0, _), (1, _)]) ⟨R, R, trivial⟩ ?_ ?_ R R R (.inl R)
   · cases H0; rfl
   · cases H0; rfl
  ·
   replace H0 := bif_f H0 h1
   refine G.skip <| At.ns ?_
   obtain ⟨x2, hx2, H0⟩ := bnd H0
   refine G.rg <| K.mv R R <| K.fieldAddr Y g0 R t104 R R <| K.loadS Y _ g0 R R t99 R R R <| K.c0 (cf 89 R) (ih hx2) g0 R R R R <| K.mv R R <| K.extract g0 R R R <| K.extract g0 R R R <| K.alloc Y 104 _ g0 t99 R R R R R <| K.alloc Y 105 _ g0 t99 R R R R R <| K.store Y _ g0 R R R t99 R R R R R <| K.store Y _ g0 R R R t99 R R R R R <| K.nil <| At.ns ?_
   obtain ⟨x3, hx3, H0⟩ := bnd H0
   refine G.rd mixed <| K.mv R R <| K.fieldAddr Y g0 R t104 R R <| K.loadS Y _ g0 R R t99 R R R <| K.loadS Y _ g0 R R t99 R R R <| K.loadS Y _ g0 R R t99 R R R <| K.c0 (cf 84 R) (Tree_linkE_con hx3 0 1) g0 R R R R <| K.loadS Y _ g0 R R t99 R R R <| K.store Y _ g0 R R R t99 R R R R R <| K.store Y _ g0 R R R t99 R R R R R <| K.nil <| And.intro (by kernel_rfl) <| At.next <| G.ret <| At.done Y [(.cell 4 99, .agg [_, _]), (.cell 5 99, .agg [_, _])] R ⟨.st R R t99 R R, .st R R t99 R R, trivial⟩ (to' := [(0, _), (1, _)]) ⟨R, R, trivial⟩ ?_ ?_ R R R (.inl R)
   · cases H0; rfl
   · cases H0; rfl
theorem Tree_lastE_con {k n : Nat}  {p1 : Pool (TNode TL07Elem TTide)} {a1 : TRef} {ri0 rg0 : Int} {r : TRef × TRef × Pool (TNode TL07Elem TTide)}  (H0 : Tree_last.r opsE k n p1 a1 = some r) (m0 m1 : Nat) : Tree_lastE_st p1 a1 ri0 rg0 r m0 m1 :=
 SCon.ren (rn [(0, m0), (1, m1)]) (Tree_lastE_con0 (k := k)   H0) ⟨(blk_ren R R), (pl_ren R), trivial⟩ ⟨(blk_ren R R), (pl_ren R), trivial⟩ (by simp) (by simp)
abbrev Tree_mergeE_st (p1 : Pool (TNode TL07Elem TTide)) (a1 : TRef) (a2 : TRef) (ri0 : Int) (rg0 : Int) (r : TRef × Pool (TNode TL07Elem TTide)) (m0 : Nat) (m1 : Nat) : Prop := SCon Try.prog 73 [SV.p m0 0, .a (.agg ((eTRef a1).map .v)), .a (.agg ((eTRef a2).map .v))] [(m0, blk m0 [.p m1 0, .i ri0, .i rg0] 101), (m1, plE m1 p1)] (.a (.agg ((eTRef r.1).map .v))) [(m0, blk m0 [.p m1 0, .i ri0, .i rg0] 101), (m1, plE m1 r.2)] []
theorem Tree_mergeE_con0 {k : Nat}  {p1 : Pool (TNode TL07Elem TTide)} {a1 : TRef} {a2 : TRef} {ri0 rg0 : Int} {r : TRef × Pool (TNode TL07Elem TTide)}  (H0 : Tree_merge.f opsE k p1 a1 a2 = some r) : Tree_mergeE_st p1 a1 a2 ri0 rg0 r 0 1 := by
 rw [Tree_merge.f] at H0
 refine spec_of [(0, _), (1, _), (2, _)] [(0, _), (1, _)] 30 Try.func73 R Try.ntmps73 R R R R (fun β W F => ?_)
 refine G.seq <| G.rg <| K.box Y 100 _ g0 R R R R R R <| K.box Y 101 _ g0 R R R R R R <| K.alloc Y 102 _ g0 t99 R R R R R <| K.nil <| At.ns <| G.block <| G.seq <| G.rg <| K.fieldAddr Y g0 R t99 R R <| K.load1 Y g0 R R t3 R R <| K.bin (V := .bool (a1.gen == 0)) g0 R R (fun _ => R) R <| K.as R R <| K.nil <| At.next <| G.cond R (fun h1 => ?_) (fun h1 => ?_)
 ·
  replace H0 := bif_t H0 h1
  refine G.seq <| G.rg <| K.loadS Y _ g0 R R t99 R R R <| K.store Y _ g0 R R R t99 R R R R R <| K.nil <| At.next <| G.ret <| At.block_ret <| At.over_ret <| At.done Y [(.cell 6 99, .agg [_, _])] R ⟨.st R R t99 R R, trivial⟩ (to' := [(0, _), (1, _)]) ⟨R, R, trivial⟩ ?_ ?_ R R R (.inl R)
  · cases H0; rfl
  · cases H0; rfl
 ·
  replace H0 := bif_f H0 h1
  refine G.seq <| G.rg <| K.fieldAddr Y g0 R t99 R R <| K.load1 Y g0 R R t3 R R <| K.bin (V := .bool (a2.gen == 0)) g0 R R (fun _ => R) R <| K.as R R <| K.nil <| At.next <| G.cond R (fun h2 => ?_) (fun h2 => ?_)
  ·
   replace H0 := bif_t H0 h2
   refine G.seq <| G.rg <| K.loadS Y _ g0 R R t99 R R R <| K.store Y _ g0 R R R t99 R R R R R <| K.nil <| At.next <| G.ret <| At.block_ret <| At.over_ret <| At.done Y [(.cell 6 99, .agg [_, _])] R ⟨.st R R t99 R R, trivial⟩ (to' := [(0, _), (1, _)]) ⟨R, R, trivial⟩ ?_ ?_ R R R (.inl R)
   · cases H0; rfl
   · cases H0; rfl
  ·
   replace H0 := bif_f H0 h2
   refine G.skip <| At.block_normal <| At.ns ?_
   obtain ⟨x1, hx1, H0⟩ := bnd H0
   refine G.rg <| K.mv R R <| K.loadS Y _ g0 R R t99 R R R <| K.c0 (cf 89 R) (Tree_lastE_con hx1 0 1) g0 R R R R <| K.mv R R <| K.extract g0 R R R <| K.extract g0 R R R <| K.alloc Y 103 _ g0 t99 R R R R R <| K.alloc Y 104 _ g0 t99 R R R R R <| K.store Y _ g0 R R R t99 R R R R R <| K.store Y _ g0 R R R t99 R R R R R <| K.nil <| At.ns ?_
   obtain ⟨x2, hx2, H0⟩ := bnd H0
   refine G.rg <| K.mv R R <| K.loadS Y _ g0 R R t99 R R R <| K.loadS Y _ g0 R R t99 R R R <| K.loadS Y _ g0 R R t99 R R R <| K.c0 (cf 84 R) (Tree_linkE_con hx2 0 1) g0 R R R R <| K.store Y _ g0 R R R t99 R R R R R <| K.nil <| At.next <| G.ret <| At.done Y [(.cell 6 99, .agg [_, _])] R ⟨.st R R t99 R R, trivial⟩ (to' := [(0, _), (1, _)]) ⟨R, R, trivial⟩ ?_ ?_ R R R (.inl R)
   · cases H0; rfl
   · cases H0; rfl
theorem Tree_mergeE_con {k : Nat}  {p1 : Pool (TNode TL07Elem TTide)} {a1 : TRef} {a2 : TRef} {ri0 rg0 : Int} {r : TRef × Pool (TNode TL07Elem TTide)}  (H0 : Tree_merge.f opsE k p1 a1 a2 = some r) (m0 m1 : Nat) : Tree_mergeE_st p1 a1 a2 ri0 rg0 r m0 m1 :=
 SCon.ren (rn [(0, m0), (1, m1)]) (Tree_mergeE_con0 (k := k)   H0) ⟨(blk_ren R R), (pl_ren R), trivial⟩ ⟨(blk_ren R R), (pl_ren R), trivial⟩ (by simp) (by simp)
abbrev Tree_dropE_st (p1 : Pool (TNode TL07Elem TTide)) (a1 : TRef) (a2 : TL07Elem) (ri0 : Int) (rg0 : Int) (r : TRef × TL07Elem × Bool × Pool (TNode TL07Elem TTide)) (m0 : Nat) (m1 : Nat) : Prop := SCon Try.prog 64 [SV.p m0 0, .a (.agg ((eTRef a1).map .v)), .a (.agg ((eTL07Elem a2).map .v))] [(m0, blk m0 [.p m1 0, .i ri0, .i rg0] 101), (m1, plE m1 p1)] (.tup [.agg ((eTRef r.1).map .v), .agg ((eTL07Elem r.2.1).map .v), .c (.v (.bool r.2.2.1))]) [(m0, blk m0 [.p m1 0, .i ri0, .i rg0] 101), (m1, plE m1 r.2.2.2)] []
set_option maxHeartbeats 4000000 in
theorem Tree_dropE_con0 {k : Nat}  : ∀ {n : Nat} {p1 : Pool (TNode TL07Elem TTide)} {a1 : TRef} {a2 : TL07Elem} {ri0 rg0 : Int} {r : TRef × TL07Elem × Bool × Pool (TNode TL07Elem TTide)}  (H0 : Tree_drop.r opsE k n p1 a1 a2 = some r), Tree_dropE_st p1 a1 a2 ri0 rg0 r 0 1 := by
 intro n
 induction n with
 | zero => intro p1 a1 a2 ri0 rg0 r H0; exact absurd H0 (by simp [Tree_drop.r])
 | succ n ih =>
  intro p1 a1 a2 ri0 rg0 r H0
  rw [Tree_drop.r] at H0
  refine spec_of [(0, _), (1, _), (2, _)] [(0, _), (1, _)] 91 Try.func64 R Try.ntmps64 R R R R (fun β W F => ?_)
  refine G.seq <| G.rg <| K.box Y 100 _ g0 R R R R R R <| K.box Y 101 _ g0 R R R R R R <| K.alloc Y 102 _ g0 t99 R R R R R <| K.alloc Y 103 _ g0 t35 R R R R R <| K.as R R <| K.nil <| At.ns <| G.seq <| G.rg <| K.fieldAddr Y g0 R t99 R R <| K.load1 Y g0 R R t3 R R <| K.bin (V := .bool (a1.gen == 0)) g0 R R (fun _ => R) R <| K.nil <| At.next <| G.cond R (fun h1 => ?_) (fun h1 => ?_)
  ·
   replace H0 := bif_t H0 h1
   refine G.seq <| G.rg <| K.alloc Y 104 _ g0 t35 R R R R R <| K.nil <| At.ns <| G.rd mixed <| K.loadS Y _ g0 R R t99 R R R <| K.loadS Y _ g0 R R t35 R R R <| K.store Y _ g0 R R R t99 R R R R R <| K.store Y _ g0 R R R t35 R R R R R <| K.as R R <| K.nil <| And.intro (by kernel_rfl) <| At.next <| G.ret <| At.over_ret <| At.done Y [(.cell 6 99, .agg [_, _]), (.cell 7 35, .agg [_, _]), (.tmp 8, .c _)] R ⟨.st R R t99 R R, .st R R t35 R R, .tmp R, trivial⟩ (to' := [(0, _), (1, _)]) ⟨R, R, trivial⟩ ?_ ?_ R R R (.inl R)
   · cases H0; rfl
   · cases H0; rfl
  ·
   replace H0 := bif_f H0 h1
   refine G.skip <| At.ns ?_
   obtain ⟨x1, hx1, H0⟩ := bnd H0
   refine G.rg <| K.mv R R <| K.loadS Y _ g0 R R t99 R R R <| K.cR (cf 62 R) (Tree_getE_con hx1 0 1) g0 R R R R <| K.alloc Y 105 _ g0 t104 R R R R R <| K.store Y _ g0 R R R t104 R R R R R <| K.nil <| At.ns ?_
   obtain ⟨x2, hx2, H0⟩ := bnd H0
   refine G.rg <| K.loadS Y _ g0 R R t35 R R R <| K.mkIface Y g0 R (mkI Try.underlying35 R) R <| K.fieldAddr Y g0 R t104 R R <| K.loadS Y _ g0 R R t35 R R R <| K.callR [((.tmp 27), _), ((.tmp 29), _)] (Lw07_elem_Compare_con (k := k) hx2) (toFn_invoke (cf 131 R) (me35_131) R) g0 ⟨R, R, trivial⟩ trivial R R R <| K.as R R <| K.nil <| At.ns <| G.block <| G.seq <| G.rg <| K.mv R R <| K.bin (V := .bool (decide (x2 < 0))) g0 R R (fun _ => R) R <| K.as R R <| K.nil <| At.next <| G.cond R (fun h2 => ?_) (fun h2 => ?_)
   ·
    replace H0 := bif_t H0 h2
    refine G.seq ?_
    obtain ⟨x3, hx3, H0⟩ := bnd H0
    refine G.rg <| K.mv R R <| K.fieldAddr Y g0 R t104 R R <| K.loadS Y _ g0 R R t99 R R R <| K.loadS Y _ g0 R R t35 R R R <| K.c0 (cf 64 R) (ih hx3) g0 R R R R <| K.mv R R <| K.extract g0 R R R <| K.extract g0 R R R <| K.extract g0 R R R <| K.alloc Y 106 _ g0 t99 R R R R R <| K.alloc Y 107 _ g0 t35 R R R R R <| K.store Y _ g0 R R R t99 R R R R R <| K.store Y _ g0 R R R t35 R R R R R <| K.as R R <| K.nil <| At.ns <| G.seq <| G.rg <| K.mv R R <| K.un (V := .bool (!x3.2.2.1)) g0 R (fun _ => R) R <| K.nil <| At.next <| G.cond R (fun h3 => ?_) (fun h3 => ?_)
    ·
     replace H0 := bif_t H0 h3
     refine G.seq <| G.rd mixed <| K.loadS Y _ g0 R R t99 R R R <| K.loadS Y _ g0 R R t35 R R R <| K.store Y _ g0 R R R t99 R R R R R <| K.store Y _ g0 R R R t35 R R R R R <| K.as R R <| K.nil <| And.intro (by kernel_rfl) <| At.next <| G.ret <| At.over_ret <| At.block_ret <| At.over_ret <| At.done Y [(.cell 6 99, .agg [_, _]), (.cell 7 35, .agg [_, _]), (.tmp 8, .c _)] R ⟨.st R R t99 R R, .st R R t35 R R, .tmp R, trivial⟩ (to' := [(0, _), (1, _)]) ⟨R, R, trivial⟩ ?_ ?_ R R R (.inl R)
     · cases H0; rfl
     · cases H0; rfl
    ·
     replace H0 := bif_f H0 h3
     refine G.skip <| At.ns ?_
     obtain ⟨x4, hx4, H0⟩ := bnd H0
     refine G.rd mixed <| K.mv R R <| K.loadS Y _ g0 R R t99 R R R <| K.loadS Y _ g0 R R t99 R R R <| K.fieldAddr Y g0 R t104 R R <| K.loadS Y _ g0 R R t99 R R R <| K.c0 (cf 84 R) (Tree_linkE_con hx4 0 1) g0 R R R R <| K.loadS Y _ g0 R R t35 R R R <| K.store Y _ g0 R R R t99 R R R R R <| K.store Y _ g0 R R R t35 R R R R R <| K.as R R <| K.nil <| And.intro (by kernel_rfl) <| At.next <| G.ret <| At.block_ret <| At.over_ret <| At.done Y [(.cell 6 99, .agg [_, _]), (.cell 7 35, .agg [_, _]), (.tmp 8, .c _)] R ⟨.st R R t99 R R, .st R R t35 R R, .tmp R, trivial⟩ (to' := [(0, _), (1, _)]) ⟨R, R, trivial⟩ ?_ ?_ R R R (.inl R)
     · cases H0; rfl
     · cases H0; rfl
   ·
    replace H0 := bif_f H0 h2
    refine G.seq <| G.rg <| K.mv R R <| K.bin (V := .bool (decide (x2 > 0))) g0 R R (fun _ => R) R <| K.as R R <| K.nil <| At.next <| G.cond R (fun h4 => ?_) (fun h4 => ?_)
    ·
     replace H0 := bif_t H0 h4
     refine G.seq ?_
     obtain ⟨x5, hx5, H0⟩ := bnd H0
     refine G.rg <| K.mv R R <| K.fieldAddr Y g0 R t104 R R <| K.loadS Y _ g0 R R t99 R R R <| K.loadS Y _ g0 R R t35 R R R <| K.c0 (cf 64 R) (ih hx5) g0 R R R R <| K.mv R R <| K.extract g0 R R R <| K.extract g0 R R R <| K.extract g0 R R R <| K.alloc Y 108 _ g0 t99 R R R R R <| K.alloc Y 109 _ g0 t35 R R R R R <| K.store Y _ g0 R R R t99 R R R R R <| K.store Y _ g0 R R R t35 R R R R R <| K.as R R <| K.nil <| At.ns <| G.seq <| G.rg <| K.mv R R <| K.un (V := .bool (!x5.2.2.1)) g0 R (fun _ => R) R <| K.nil <| At.next <| G.cond R (fun h5 => ?_) (fun h5 => ?_)
     ·
      replace H0 := bif_t H0 h5
      refine G.seq <| G.rd mixed <| K.loadS Y _ g0 R R t99 R R R <| K.loadS Y _ g0 R R t35 R R R <| K.store Y _ g0 R R R t99 R R R R R <| K.store Y _ g0 R R R t35 R R R R R <| K.as R R <| K.nil <| And.intro (by kernel_rfl) <| At.next <| G.ret <| At.over_ret <| At.block_ret <| At.over_ret <| At.done Y [(.cell 6 99, .agg [_, _]), (.cell 7 35, .agg [_, _]), (.tmp 8, .c _)] R ⟨.st R R t99 R R, .st R R t35 R R, .tmp R, trivial⟩ (to' := [(0, _), (1, _)]) ⟨R, R, trivial⟩ ?_ ?_ R R R (.inl R)
      · cases H0; rfl
      · cases H0; rfl
     ·
      replace H0 := bif_f H0 h5
      refine G.skip <| At.ns ?_
      obtain ⟨x6, hx6, H0⟩ := bnd H0
      refine G.rd mixed <| K.mv R R <| K.fieldAddr Y g0 R t104 R R <| K.loadS Y _ g0 R R t99 R R R <| K.loadS Y _ g0 R R t99 R R R <| K.loadS Y _ g0 R R t99 R R R <| K.c0 (cf 84 R) (Tree_linkE_con hx6 0 1) g0 R R R R <| K.loadS Y _ g0 R R t35 R R R <| K.store Y _ g0 R R R t99 R R R R R <| K.store Y _ g0 R R R t35 R R R R R <| K.as R R <| K.nil <| And.intro (by kernel_rfl) <| At.next <| G.ret <| At.block_ret <| At.over_ret <| At.done Y [(.cell 6 99, .agg [_, _]), (.cell 7 35, .agg [_, _]), (.tmp 8, .c _)] R ⟨.st R R t99 R R, .st R R t35 R R, .tmp R, trivial⟩ (to' := [(0, _), (1, _)]) ⟨R, R, trivial⟩ ?_ ?_ R R R (.inl R)
      · cases H0; rfl
      · cases H0; rfl
    ·
     replace H0 := bif_f H0 h4
     refine G.skip <| At.block_normal <| At.ns ?_
     obtain ⟨x7, hx7, H0⟩ := bnd H0
     refine G.rd mixed <| K.mv R R <| K.nilCheck g0 R R <| K.fieldAddr Y g0 R t101 R R <| K.load1 Y g0 R R t97 R R <| K.loadS Y _ g0 R R t99 R R R <| K.call0 [(.func 85, _), ((.tmp 80), _), ((.tmp 81), _)] (pldropE hx7 1) (toFn_func (cf 85 R) R) g0 ⟨R, R, R, trivial⟩ ⟨R, trivial⟩ R R R R R R <| K.nil <| And.intro (by kernel_rfl) <| At.ns ?_
     obtain ⟨x8, hx8, H0⟩ := bnd H0
     refine G.rd mixed <| K.mv R R <| K.fieldAddr Y g0 R t104 R R <| K.loadS Y _ g0 R R t99 R R R <| K.fieldAddr Y g0 R t104 R R <| K.loadS Y _ g0 R R t99 R R R <| K.c0 (cf 73 R) (Tree_mergeE_con hx8 0 1) g0 R R R R <| K.fieldAddr Y g0 R t104 R R <| K.loadS Y _ g0 R R t35 R R R <| K.store Y _ g0 R R R t99 R R R R R <| K.store Y _ g0 R R R t35 R R R R R <| K.as R R <| K.nil <| And.intro (by kernel_rfl) <| At.next <| G.ret <| At.done Y [(.cell 6 99, .agg [_, _]), (.cell 7 35, .agg [_, _]), (.tmp 8, .c _)] R ⟨.st R R t99 R R, .st R R t35 R R, .tmp R, trivial⟩ (to' := [(0, _), (1, _)]) ⟨R, R, trivial⟩ ?_ ?_ R R R (.inl R)
     · cases H0; rfl
     · cases H0; rfl
theorem Tree_dropE_con {k n : Nat}  {p1 : Pool (TNode TL07Elem TTide)} {a1 : TRef} {a2 : TL07Elem} {ri0 rg0 : Int} {r : TRef × TL07Elem × Bool × Pool (TNode TL07Elem TTide)}  (H0 : Tree_drop.r opsE k n p1 a1 a2 = some r) (m0 m1 : Nat) : Tree_dropE_st p1 a1 a2 ri0 rg0 r m0 m1 :=
 SCon.ren (rn [(0, m0), (1, m1)]) (Tree_dropE_con0 (k := k)   H0) ⟨(blk_ren R R), (pl_ren R), trivial⟩ ⟨(blk_ren R R), (pl_ren R), trivial⟩ (by simp) (by simp)
abbrev Tree_DropE_st (p1 : Pool (TNode TL07Elem TTide)) (rt0 : TRef) (a1 : TL07Elem) (r : TL07Elem × Bool × TRef × Pool (TNode TL07Elem TTide)) (m0 : Nat) (m1 : Nat) : Prop := SCon Try.prog 22 [SV.p m0 0, .a (.agg ((eTL07Elem a1).map .v))] [(m0, blk m0 [.p m1 0, .i rt0.index, .i rt0.gen] 101), (m1, plE m1 p1)] (.tup [.agg ((eTL07Elem r.1).map .v), .c (.v (.bool r.2.1))]) [(m0, blk m0 [.p m1 0, .i r.2.2.1.index, .i r.2.2.1.gen] 101), (m1, plE m1 r.2.2.2)] []
theorem Tree_DropE_con0 {k : Nat}  {p1 : Pool (TNode TL07Elem TTide)} {rt0 : TRef} {a1 : TL07Elem} {r : TL07Elem × Bool × TRef × Pool (TNode TL07Elem TTide)}  (H0 : Tree_Drop.f opsE k p1 rt0 a1 = some r) : Tree_DropE_st p1 rt0 a1 r 0 1 := by
 rw [Tree_Drop.f] at H0
 refine spec_of [(0, _), (1, _)] [(0, _), (1, _)] 26 Try.func22 R Try.ntmps22 R R R R (fun β W F => ?_)
 refine G.seq <| G.rg <| K.box Y 100 _ g0 R R R R R R <| K.alloc Y 101 _ g0 t35 R R R R R <| K.as R R <| K.nil <| At.ns ?_
 obtain ⟨x1, hx1, H0⟩ := bnd H0
 refine G.rd mixed <| K.mv R R <| K.mv R R <| K.nilCheck g0 R R <| K.fieldAddr Y g0 R t101 R R <| K.loadS Y _ g0 R R t99 R R R <| K.loadS Y _ g0 R R t35 R R R <| K.c0 (cf 64 R) (Tree_dropE_con hx1 0 1) g0 R R R R <| K.mv R R <| K.extract g0 R R R <| K.extract g0 R R R <| K.extract g0 R R R <| K.alloc Y 102 _ g0 t99 R R R R R <| K.alloc Y 103 _ g0 t35 R R R R R <| K.store Y _ g0 R R R t99 R R R R R <| K.store Y _ g0 R R R t35 R R R R R <| K.as R R <| K.nil <| And.intro (by kernel_rfl) <| At.nr <| K.mv R R <| K.loadS Y _ g0 R R t99 R R R <| K.nilCheck g0 R R <| K.fieldAddr Y g0 R t101 R R <| K.store Y _ g0 R R R t99 R R R R R <| K.nil <| At.nr <| K.loadS Y _ g0 R R t35 R R R <| K.mv R R <| K.store Y _ g0 R R R t35 R R R R R <| K.as R R <| K.nil <| At.next <| G.ret <| At.done Y [(.cell 4 35, .agg [_, _]), (.tmp 5, .c _)] R ⟨.st R R t35 R R, .tmp R, trivial⟩ (to' := [(0, _), (1, _)]) ⟨R, R, trivial⟩ ?_ ?_ R R R (.inl R)
 · cases H0; rfl
 · cases H0; rfl
theorem Tree_DropE_con {k : Nat}  {p1 : Pool (TNode TL07Elem TTide)} {rt0 : TRef} {a1 : TL07Elem} {r : TL07Elem × Bool × TRef × Pool (TNode TL07Elem TTide)}  (H0 : Tree_Drop.f opsE k p1 rt0 a1 = some r) (m0 m1 : Nat) : Tree_DropE_st p1 rt0 a1 r m0 m1 :=
 SCon.ren (rn [(0, m0), (1, m1)]) (Tree_DropE_con0 (k := k)   H0) ⟨(blk_ren R R), (pl_ren R), trivial⟩ ⟨(blk_ren R R), (pl_ren R), trivial⟩ (by simp) (by simp)
abbrev Tree_allE_o2_st (p1 : Pool (TNode TL07Elem TTide)) (a1 : TRef) (l2 : List TL07Elem) (ri0 : Int) (rg0 : Int) (r : List TL07Elem) (m0 : Nat) (m1 : Nat) (m2 : Nat) (m30 : Nat) : Prop := SCon Try.prog 71 [SV.p m0 0, .a (.agg ((eTRef a1).map .v)), .a (.c (.nv m2))] [(m0, blk m0 [.p m1 0, .i ri0, .i rg0] 101), (m1, plE m1 p1), (m2, lrow m2 35 eTL07Elem 2 l2)] (.a (.c (.nv m30))) [(m0, blk m0 [.p m1 0, .i ri0, .i rg0] 101), (m1, plE m1 p1), (m30, lrow m30 35 eTL07Elem 2 r)] [m30]
theorem Tree_allE_o2_con0 {k : Nat}  : ∀ {n : Nat} {p1 : Pool (TNode TL07Elem TTide)} {a1 : TRef} {l2 : List TL07Elem} {ri0 rg0 : Int} {r : List TL07Elem}  (H0 : Tree_all.r opsE k n p1 a1 l2 = some r), Tree_allE_o2_st p1 a1 l2 ri0 rg0 r 0 1 2 30 := by
 intro n
 induction n with
 | zero => intro p1 a1 l2 ri0 rg0 r H0; exact absurd H0 (by simp [Tree_all.r])
 | succ n ih =>
  intro p1 a1 l2 ri0 rg0 r H0
  rw [Tree_all.r] at H0
  refine spec_of [(0, _), (1, _), (2, _)] [(0, _), (1, _), (2, _)] 28 Try.func71 R Try.ntmps71 R R R R (fun β W F => ?_)
  refine G.seq <| G.rg <| K.box Y 100 _ g0 R R R R R R <| K.nilRow 101 35 eTL07Elem 2 (.inl R) g0 R R R <| K.nil <| At.ns <| G.seq <| G.rg <| K.fieldAddr Y g0 R t99 R R <| K.load1 Y g0 R R t3 R R <| K.bin (V := .bool (a1.gen == 0)) g0 R R (fun _ => R) R <| K.nil <| At.next <| G.cond R (fun h1 => ?_) (fun h1 => ?_)
  ·
   replace H0 := bif_t H0 h1
   exact G.seq <| G.rg <| K.mv R R <| K.as R R <| K.nil <| At.next <| G.ret <| At.over_ret <| At.ren (fs' := [(6, .a (.c (.nv 30)))]) (tl := [(0, blk 0 [.p 1 0, .v (.int .i64 ri0), .v (.int .i64 rg0)] 101), (1, plE 1 p1), (30, lrow 30 35 eTL07Elem 2 l2)]) [(30, 2)] [_, _, _] R ⟨R, trivial⟩ ⟨R, (blk_ren R R), R, (pl_ren R), R, (lrow_ren R), trivial⟩ R <| At.dr Y [6] R R (by cases H0; rfl) (by cases H0; rfl) R R R
  ·
   replace H0 := bif_f H0 h1
   refine G.skip <| At.ns ?_
   obtain ⟨x1, hx1, H0⟩ := bnd H0
   refine G.rg <| K.mv R R <| K.loadS Y _ g0 R R t99 R R R <| K.cR (cf 62 R) (Tree_getE_con hx1 0 1) g0 R R R R <| K.alloc Y 102 _ g0 t104 R R R R R <| K.store Y _ g0 R R R t104 R R R R R <| K.nil <| At.ns ?_
   obtain ⟨x2, hx2, H0⟩ := bnd H0
   obtain ⟨h2, H0⟩ := grd H0
   obtain ⟨x3, hx3, H0⟩ := bnd H0
   exact G.rd mixed <| K.mv R R <| K.fieldAddr Y g0 R t104 R R <| K.loadS Y _ g0 R R t99 R R R <| K.mv R R <| K.fieldAddr Y g0 R t104 R R <| K.loadS Y _ g0 R R t99 R R R <| K.mv R R <| K.cC (cf 71 R) [] (fun β w S2 h => SCon.rd0 (SCon.ren (ti' := [(0, _), (1, _), (2, _)]) (to' := [(0, _), (1, _), (103, _)]) (rn [(0, 0), (1, 1), (2, 2), (30, 103)]) (ih  hx2) ⟨(blk_ren R R), (pl_ren R), (lrow_ren R), trivial⟩ ⟨(blk_ren R R), (pl_ren R), (lrow_ren R), trivial⟩ (rn_nd (hd_ [0, 1, 2, 103] R) R R) (rn_ks (hd_ [0, 1, 2, 103] R) R R R)) S2 w h) g0 (fun _ => R) R R R <| K.fieldAddr Y g0 R t104 R R <| K.loadS Y _ g0 R R t35 R R R <| K.buildL Y 104 ([x1.e] : List TL07Elem) [(0, _)] [((.tmp 24), _)] eTL07Elem_len g0 (AllE.spec ⟨R, trivial⟩) R R Try.underlying61 t35 R R R R R R R R <| K.appendL 105 (lrowV 104 35 eTL07Elem 2 ([x1.e] : List TL07Elem)) _ el61 (lrowV_is eTL07Elem_len (by decide)) eTL07Elem_one g0 R R R R R (ap_m h2) (ap_b h2 (by decide)) R R R R R R <| K.cC (cf 71 R) [] (fun β w S2 h => SCon.rd0 (SCon.ren (ti' := [(0, _), (1, _), (105, _)]) (to' := [(0, _), (1, _), (106, _)]) (rn [(0, 0), (1, 1), (2, 105), (30, 106)]) (ih  hx3) ⟨(blk_ren R R), (pl_ren R), (lrow_ren R), trivial⟩ ⟨(blk_ren R R), (pl_ren R), (lrow_ren R), trivial⟩ (rn_nd (hd_ [0, 1, 105, 106] R) R R) (rn_ks (hd_ [0, 1, 105, 106] R) R R R)) S2 w h) g0 (fun _ => R) R R R <| K.as R R <| K.nil <| And.intro (by kernel_rfl) <| At.next <| G.ret <| At.ren (fs' := [(6, .a (.c (.nv 30)))]) (tl := [(0, blk 0 [.p 1 0, .v (.int .i64 ri0), .v (.int .i64 rg0)] 101), (1, plE 1 p1), (30, lrow 30 35 eTL07Elem 2 x3)]) [(30, 106)] [_, _, _] R ⟨R, trivial⟩ ⟨R, (blk_ren R R), R, (pl_ren R), R, (lrow_ren R), trivial⟩ R <| At.dr Y [6] R R (by cases H0; rfl) (by cases H0; rfl) R R R
theorem Tree_allE_o2_con {k n : Nat}  {p1 : Pool (TNode TL07Elem TTide)} {a1 : TRef} {l2 : List TL07Elem} {ri0 rg0 : Int} {r : List TL07Elem}  (H0 : Tree_all.r opsE k n p1 a1 l2 = some r) (m0 m1 m2 m30 : Nat) (hd : ndB [m0, m1, m2, m30] = true) : Tree_allE_o2_st p1 a1 l2 ri0 rg0 r m0 m1 m2 m30 :=
 SCon.ren (rn [(0, m0), (1, m1), (2, m2), (30, m30)]) (Tree_allE_o2_con0 (k := k)   H0) ⟨(blk_ren R R), (pl_ren R), (lrow_ren R), trivial⟩ ⟨(blk_ren R R), (pl_ren R), (lrow_ren R), trivial⟩ (rn_nd hd R R) (rn_ks hd R R R)
abbrev Tree_allE_n2_st (p1 : Pool (TNode TL07Elem TTide)) (a1 : TRef) (ri0 : Int) (rg0 : Int) (r : List TL07Elem) (m0 : Nat) (m1 : Nat) (m30 : Nat) : Prop := SCon Try.prog 71 [SV.p m0 0, .a (.agg ((eTRef a1).map .v)), SV.raw (.slice none 0 0)] [(m0, blk m0 [.p m1 0, .i ri0, .i rg0] 101), (m1, plE m1 p1)] (.a (.c (.nv m30))) [(m0, blk m0 [.p m1 0, .i ri0, .i rg0] 101), (m1, plE m1 p1), (m30, lrow m30 35 eTL07Elem 2 r)] [m30]
theorem Tree_allE_n2_con0 {k : Nat}  : ∀ {n : Nat} {p1 : Pool (TNode TL07Elem TTide)} {a1 : TRef} {ri0 rg0 : Int} {r : List TL07Elem}  (H0 : Tree_all.r opsE k n p1 a1 ([] : List TL07Elem) = some r), Tree_allE_n2_st p1 a1 ri0 rg0 r 0 1 30 := by
 intro n
 cases n with
 | zero => intro p1 a1 ri0 rg0 r H0; exact absurd H0 (by simp [Tree_all.r])
 | succ n =>
  intro p1 a1 ri0 rg0 r H0
  rw [Tree_all.r] at H0
  refine spec_of [(0, _), (1, _), (2, _)] [(0, _), (1, _)] 28 Try.func71 R Try.ntmps71 R R R R (fun β W F => ?_)
  refine G.seq <| G.rg <| K.box Y 100 _ g0 R R R R R R <| K.nilRow 101 35 eTL07Elem 2 (.inl R) g0 R R R <| K.nil <| At.ns <| G.seq <| G.rg <| K.fieldAddr Y g0 R t99 R R <| K.load1 Y g0 R R t3 R R <| K.bin (V := .bool (a1.gen == 0)) g0 R R (fun _ => R) R <| K.nil <| At.next <| G.cond R (fun h1 => ?_) (fun h1 => ?_)
  ·
   replace H0 := bif_t H0 h1
   exact G.seq <| G.rg <| K.nilRowS 102 35 eTL07Elem 2 (.inr R) g0 R R R R <| K.as R R <| K.nil <| At.next <| G.ret <| At.over_ret <| At.ren (fs' := [(6, .a (.c (.nv 30)))]) (tl := [(0, blk 0 [.p 1 0, .v (.int .i64 ri0), .v (.int .i64 rg0)] 101), (1, plE 1 p1), (30, lrow 30 35 eTL07Elem 2 ([] : List TL07Elem))]) [(30, 102)] [_, _, _] R ⟨R, trivial⟩ ⟨R, (blk_ren R R), R, (pl_ren R), R, (lrow_ren R), trivial⟩ R <| At.dr Y [6] R R (by cases H0; rfl) (by cases H0; rfl) R R R
  ·
   replace H0 := bif_f H0 h1
   refine G.skip <| At.ns ?_
   obtain ⟨x1, hx1, H0⟩ := bnd H0
   refine G.rg <| K.mv R R <| K.loadS Y _ g0 R R t99 R R R <| K.cR (cf 62 R) (Tree_getE_con hx1 0 1) g0 R R R R <| K.alloc Y 103 _ g0 t104 R R R R R <| K.store Y _ g0 R R R t104 R R R R R <| K.nil <| At.ns ?_
   obtain ⟨x2, hx2, H0⟩ := bnd H0
   obtain ⟨h2, H0⟩ := grd H0
   obtain ⟨x3, hx3, H0⟩ := bnd H0
   exact G.rd mixed <| K.mv R R <| K.fieldAddr Y g0 R t104 R R <| K.loadS Y _ g0 R R t99 R R R <| K.mv R R <| K.fieldAddr Y g0 R t104 R R <| K.loadS Y _ g0 R R t99 R R R <| K.nilRowS 104 35 eTL07Elem 2 (.inr R) g0 R R R R <| K.cC (cf 71 R) [] (fun β w S2 h => SCon.rd0 (Tree_allE_o2_con hx2 0 1 104 105 R) S2 w h) g0 (fun _ => R) R R R <| K.fieldAddr Y g0 R t104 R R <| K.loadS Y _ g0 R R t35 R R R <| K.buildL Y 106 ([x1.e] : List TL07Elem) [(0, _)] [((.tmp 24), _)] eTL07Elem_len g0 (AllE.spec ⟨R, trivial⟩) R R Try.underlying61 t35 R R R R R R R R <| K.appendL 107 (lrowV 106 35 eTL07Elem 2 ([x1.e] : List TL07Elem)) _ el61 (lrowV_is eTL07Elem_len (by decide)) eTL07Elem_one g0 R R R R R (ap_m h2) (ap_b h2 (by decide)) R R R R R R <| K.cC (cf 71 R) [] (fun β w S2 h => SCon.rd0 (Tree_allE_o2_con hx3 0 1 107 108 R) S2 w h) g0 (fun _ => R) R R R <| K.as R R <| K.nil <| And.intro (by kernel_rfl) <| At.next <| G.ret <| At.ren (fs' := [(6, .a (.c (.nv 30)))]) (tl := [(0, blk 0 [.p 1 0, .v (.int .i64 ri0), .v (.int .i64 rg0)] 101), (1, plE 1 p1), (30, lrow 30 35 eTL07Elem 2 x3)]) [(30, 108)] [_, _, _] R ⟨R, trivial⟩ ⟨R, (blk_ren R R), R, (pl_ren R), R, (lrow_ren R), trivial⟩ R <| At.dr Y [6] R R (by cases H0; rfl) (by cases H0; rfl) R R R
theorem Tree_allE_n2_con {k n : Nat}  {p1 : Pool (TNode TL07Elem TTide)} {a1 : TRef} {ri0 rg0 : Int} {r : List TL07Elem}  (H0 : Tree_all.r opsE k n p1 a1 ([] : List TL07Elem) = some r) (m0 m1 m30 : Nat) (hd : ndB [m0, m1, m30] = true) : Tree_allE_n2_st p1 a1 ri0 rg0 r m0 m1 m30 :=
 SCon.ren (rn [(0, m0), (1, m1), (30, m30)]) (Tree_allE_n2_con0 (k := k)   H0) ⟨(blk_ren R R), (pl_ren R), trivial⟩ ⟨(blk_ren R R), (pl_ren R), (lrow_ren R), trivial⟩ (rn_nd hd R R) (rn_ks hd R R R)
abbrev Tree_AllE_st (p1 : Pool (TNode TL07Elem TTide)) (rt0 : TRef) (r : List TL07Elem) (m0 : Nat) (m1 : Nat) (m30 : Nat) : Prop := SCon Try.prog 37 [SV.p m0 0] [(m0, blk m0 [.p m1 0, .i rt0.index, .i rt0.gen] 101), (m1, plE m1 p1)] (.a (.c (.nv m30))) [(m0, blk m0 [.p m1 0, .i rt0.index, .i rt0.gen] 101), (m1, plE m1 p1), (m30, lrow m30 35 eTL07Elem 2 r)] [m30]
theorem Tree_AllE_con0 {k : Nat}  {p1 : Pool (TNode TL07Elem TTide)} {rt0 : TRef} {r : List TL07Elem}  (H0 : Tree_All.f opsE k p1 rt0 = some r) : Tree_AllE_st p1 rt0 r 0 1 30 := by
 rw [Tree_All.f] at H0
 refine spec_of [(0, _)] [(0, _), (1, _)] 9 Try.func37 R Try.ntmps37 R R R R (fun β W F => ?_)
 refine G.seq <| G.rg <| K.nilRow 100 35 eTL07Elem 2 (.inl R) g0 R R R <| K.nil <| At.ns ?_
 obtain ⟨x1, hx1, H0⟩ := bnd H0
 exact G.rg <| K.mv R R <| K.mv R R <| K.nilCheck g0 R R <| K.fieldAddr Y g0 R t101 R R <| K.loadS Y _ g0 R R t99 R R R <| K.c0 (cf 71 R) (Tree_allE_n2_con hx1 0 1 101 R) g0 R R R R <| K.as R R <| K.nil <| At.next <| G.ret <| At.ren (fs' := [(2, .a (.c (.nv 30)))]) (tl := [(0, blk 0 [.p 1 0, .v (.int .i64 rt0.index), .v (.int .i64 rt0.gen)] 101), (1, plE 1 p1), (30, lrow 30 35 eTL07Elem 2 x1)]) [(30, 101)] [_, _, _] R ⟨R, trivial⟩ ⟨R, (blk_ren R R), R, (pl_ren R), R, (lrow_ren R), trivial⟩ R <| At.dr Y [2] R R (by cases H0; rfl) (by cases H0; rfl) R R R
theorem Tree_AllE_con {k : Nat}  {p1 : Pool (TNode TL07Elem TTide)} {rt0 : TRef} {r : List TL07Elem}  (H0 : Tree_All.f opsE k p1 rt0 = some r) (m0 m1 m30 : Nat) (hd : ndB [m0, m1, m30] = true) : Tree_AllE_st p1 rt0 r m0 m1 m30 :=
 SCon.ren (rn [(0, m0), (1, m1), (30, m30)]) (Tree_AllE_con0 (k := k)   H0) ⟨(blk_ren R R), (pl_ren R), trivial⟩ ⟨(blk_ren R R), (pl_ren R), (lrow_ren R), trivial⟩ (rn_nd hd R R) (rn_ks hd R R R)
abbrev Tree_AtE_st (p1 : Pool (TNode TL07Elem TTide)) (rt0 : TRef) (a1 : Int) (r : TL07Elem × Bool) (m0 : Nat) (m1 : Nat) : Prop := SCon Try.prog 35 [SV.p m0 0, .a (.c (.v (.int .i64 a1)))] [(m0, blk m0 [.p m1 0, .i rt0.index, .i rt0.gen] 101), (m1, plE m1 p1)] (.tup [.agg ((eTL07Elem r.1).map .v), .c (.v (.bool r.2))]) [(m0, blk m0 [.p m1 0, .i rt0.index, .i rt0.gen] 101), (m1, plE m1 p1)] []
theorem Tree_AtE_con0 {k : Nat}  {p1 : Pool (TNode TL07Elem TTide)} {rt0 : TRef} {a1 : Int} {r : TL07Elem × Bool}  (H0 : Tree_At.f opsE k p1 rt0 a1 = some r) : Tree_AtE_st p1 rt0 a1 r 0 1 := by
 rw [Tree_At.f] at H0
 refine spec_of [(0, _), (1, _)] [(0, _), (1, _)] 48 Try.func35 R Try.ntmps35 R R R R (fun β W F => ?_)
 refine G.seq <| G.rg <| K.alloc Y 100 _ g0 t35 R R R R R <| K.as R R <| K.nil <| At.nr <| K.alloc Y 101 _ g0 t35 R R R R R <| K.nil <| At.ns <| G.seq <| G.rg <| K.mv R R <| K.bin (V := .bool (decide (a1 < 0))) g0 R R (fun _ => R) R <| K.nil <| At.next <| G.cond R (fun h1 => ?_) (fun h1 => ?_)
 ·
  replace H0 := bif_t H0 h1
  refine G.seq <| G.rg <| K.loadS Y _ g0 R R t35 R R R <| K.store Y _ g0 R R R t35 R R R R R <| K.as R R <| K.nil <| At.next <| G.ret <| At.over_ret <| At.done Y [(.cell 4 35, .agg [_, _]), (.tmp 5, .c _)] R ⟨.st R R t35 R R, .tmp R, trivial⟩ (to' := [(0, _), (1, _)]) ⟨R, R, trivial⟩ ?_ ?_ R R R (.inl R)
  · cases H0; rfl
  · cases H0; rfl
 ·
  replace H0 := bif_f H0 h1
  refine G.skip <| At.next ?_
  obtain ⟨x1, H1, H0⟩ := bnd H0
  refine G.sJ (σ := { v : Unit // x1 = Sum.inr v }) (fun q => [(4, .a (.c (.p 102 0))), (6, .a (.c (.p 103 0)))]) (fun q => [(102, blk 102 [.v (.int .i64 0), .v (.int .i64 0)] 35), (103, blk 103 [.v (.int .i64 0), .v (.int .i64 0)] 35), (1, plE 1 p1), (0, blk 0 [.p 1 0, .v (.int .i64 rt0.index), .v (.int .i64 rt0.gen)] 101)]) ?_ ?_
  ·
   refine G.seq <| G.rg <| K.mv R R <| K.nilCheck g0 R R <| K.fieldAddr Y g0 R t101 R R <| K.loadS Y _ g0 R R t99 R R R <| K.alloc Y 104 _ g0 t99 R R R R R <| K.store Y _ g0 R R R t99 R R R R R <| K.nil <| At.next <| G.block <| G.lp (σ := { q : Nat × (Int × TRef) // Tree_At.l0 opsE k p1 q.1 q.2 = some x1 }) (fun q => [(0, .a (.c (.p 0 0))), (1, .a (.c (.v (.int .i64 q.1.2.1)))), (4, .a (.c (.p 111 0))), (6, .a (.c (.p 112 0))), (7, .a (.c (.p 113 0)))]) (fun q => [(1, plE 1 p1), (0, blk 0 [.p 1 0, .v (.int .i64 rt0.index), .v (.int .i64 rt0.gen)] 101), (111, blk 111 [.v (.int .i64 0), .v (.int .i64 0)] 35), (112, blk 112 [.v (.int .i64 0), .v (.int .i64 0)] 35), (113, blk 113 [.v (.int .i64 q.1.2.2.index), .v (.int .i64 q.1.2.2.gen)] 99)]) (fun q => q.1.1) ⟨(k, (a1, rt0)), H1⟩ ?_ ?_
   · exact At.into [(111, 100), (112, 101), (113, 104)] [_, _, _, _, _] R ⟨R, R, R, R, R, trivial⟩ ⟨R, (pl_ren R), R, (blk_ren R R), R, (blk_ren R R), R, (blk_ren R R), R, (blk_ren R R), trivial⟩ R
   ·
    rintro ⟨⟨n0, v1, v2⟩, H1⟩
    show G _ _ [(0, .a (.c (.p 0 0))), (1, .a (.c (.v (.int .i64 v1)))), (4, .a (.c (.p 111 0))), (6, .a (.c (.p 112 0))), (7, .a (.c (.p 113 0)))] [(1, some (plE 1 p1)), (0, some (blk 0 [.p 1 0, .v (.int .i64 rt0.index), .v (.int .i64 rt0.gen)] 101)), (111, some (blk 111 [.v (.int .i64 0), .v (.int .i64 0)] 35)), (112, some (blk 112 [.v (.int .i64 0), .v (.int .i64 0)] 35)), (113, some (blk 113 [.v (.int .i64 v2.index), .v (.int .i64 v2.gen)] 99))] _ _
    cases n0 with
    | zero => exact absurd H1 (by simp [Tree_At.l0])
    | succ n0 =>
     have HL0 := H1
     rw [Tree_At.l0] at H1
     refine G.seq <| G.seq <| G.rg <| K.fieldAddr Y g0 R t99 R R <| K.load1 Y g0 R R t3 R R <| K.bin (V := .bool (v2.gen != 0)) g0 R R (fun _ => R) R <| K.nil <| At.next <| G.cond R (fun h2 => ?_) (fun h2 => ?_)
     ·
      replace H1 := bif_t H1 h2
      refine G.skip <| At.ns <| G.block <| G.seq ?_
      obtain ⟨x2, hx2, H1⟩ := bnd H1
      refine G.rg <| K.mv R R <| K.loadS Y _ g0 R R t99 R R R <| K.cR (cf 62 R) (Tree_getE_con hx2 0 1) g0 R R R R <| K.alloc Y 114 _ g0 t104 R R R R R <| K.store Y _ g0 R R R t104 R R R R R <| K.nil <| At.ns ?_
      obtain ⟨x3, hx3, H1⟩ := bnd H1
      refine G.rg <| K.mv R R <| K.fieldAddr Y g0 R t104 R R <| K.loadS Y _ g0 R R t99 R R R <| K.cR (cf 62 R) (Tree_getE_con hx3 0 1) g0 R R R R <| K.field1 Y g0 R t104 R t3 R R <| K.as R R <| K.nil <| At.next <| G.block <| G.seq <| G.rg <| K.mv R R <| K.mv R R <| K.bin (V := .bool (v1 == x3.size)) g0 R R (fun _ => R) R <| K.as R R <| K.nil <| At.next <| G.cond R (fun h3 => ?_) (fun h3 => ?_)
      ·
       replace H1 := bif_t H1 h3
       refine G.seq <| G.rg <| K.fieldAddr Y g0 R t104 R R <| K.loadS Y _ g0 R R t35 R R R <| K.store Y _ g0 R R R t35 R R R R R <| K.as R R <| K.nil <| At.next <| G.ret <| At.block_ret <| At.block_ret <| At.over_ret <| At.over_ret <| At.block_ret <| At.over_ret ?_
       cases H1
       replace H0 := sum_l H0
       refine At.done Y [(.cell 4 35, .agg [_, _]), (.tmp 5, .c _)] R ⟨.st R R t35 R R, .tmp R, trivial⟩ (to' := [(0, _), (1, _)]) ⟨R, R, trivial⟩ ?_ ?_ R R R (.inl R)
       · cases H0; rfl
       · cases H0; rfl
      ·
       replace H1 := bif_f H1 h3
       refine G.seq <| G.rg <| K.mv R R <| K.mv R R <| K.bin (V := .bool (decide (v1 < x3.size))) g0 R R (fun _ => R) R <| K.as R R <| K.nil <| At.next <| G.cond R (fun h4 => ?_) (fun h4 => ?_)
       ·
        replace H1 := bif_t H1 h4
        exact G.rg <| K.fieldAddr Y g0 R t104 R R <| K.loadS Y _ g0 R R t99 R R R <| K.store Y _ g0 R R R t99 R R R R R <| K.nil <| At.block_normal <| At.block_normal <| At.nr <| K.loadS Y _ g0 R R t99 R R R <| K.nil <| At.next <| G.rg <| K.alloc Y 115 _ g0 t99 R R R R R <| K.store Y _ g0 R R R t99 R R R R R <| K.nil <| At.ag ⟨(n0, (v1, x2.left)), H1⟩ [(113, 115)] [_, _, _, _, _] (Nat.lt_succ_self _) R ⟨R, R, R, R, R, trivial⟩ ⟨R, (pl_ren R), R, (blk_ren R R), R, (blk_ren R R), R, (blk_ren R R), R, (blk_ren R R), trivial⟩ R
       ·
        replace H1 := bif_f H1 h4
        exact G.seq <| G.rg <| K.mv R R <| K.mv R R <| K.bin (V := .int .i64 (w64 (x3.size + 1))) g0 R R (fun _ => R) R <| K.bin (V := .int .i64 (w64 (v1 - (w64 (x3.size + 1))))) g0 R R (fun _ => R) R <| K.as R R <| K.nil <| At.next <| G.rg <| K.fieldAddr Y g0 R t104 R R <| K.loadS Y _ g0 R R t99 R R R <| K.store Y _ g0 R R R t99 R R R R R <| K.nil <| At.block_normal <| At.block_normal <| At.nr <| K.loadS Y _ g0 R R t99 R R R <| K.nil <| At.next <| G.rg <| K.alloc Y 116 _ g0 t99 R R R R R <| K.store Y _ g0 R R R t99 R R R R R <| K.nil <| At.ag ⟨(n0, ((w64 (v1 - (w64 (x3.size + 1)))), x2.right)), H1⟩ [(113, 116)] [_, _, _, _, _] (Nat.lt_succ_self _) R ⟨R, R, R, R, R, trivial⟩ ⟨R, (pl_ren R), R, (blk_ren R R), R, (blk_ren R R), R, (blk_ren R R), R, (blk_ren R R), trivial⟩ R
     ·
      replace H1 := bif_f H1 h2
      exact G.exit <| At.over_exit <| At.over_exit <| At.block_hit <| At.jd ⟨(), oi H1⟩ [(102, 111), (103, 112)] [_, _, _, _] R ⟨R, R, trivial⟩ ⟨R, (blk_ren R R), R, (blk_ren R R), R, (pl_ren R), R, (blk_ren R R), trivial⟩ R
  ·
   rintro ⟨w1, rfl⟩
   replace H0 := sum_r H0
   show G _ _ [(4, .a (.c (.p 102 0))), (6, .a (.c (.p 103 0)))] [(102, some (blk 102 [.v (.int .i64 0), .v (.int .i64 0)] 35)), (103, some (blk 103 [.v (.int .i64 0), .v (.int .i64 0)] 35)), (1, some (plE 1 p1)), (0, some (blk 0 [.p 1 0, .v (.int .i64 rt0.index), .v (.int .i64 rt0.gen)] 101))] _ _
   refine G.seq <| G.rg <| K.loadS Y _ g0 R R t35 R R R <| K.store Y _ g0 R R R t35 R R R R R <| K.as R R <| K.nil <| At.next <| G.ret <| At.done Y [(.cell 4 35, .agg [_, _]), (.tmp 5, .c _)] R ⟨.st R R t35 R R, .tmp R, trivial⟩ (to' := [(0, _), (1, _)]) ⟨R, R, trivial⟩ ?_ ?_ R R R (.inl R)
   · cases H0; rfl
   · cases H0; rfl
theorem Tree_AtE_con {k : Nat}  {p1 : Pool (TNode TL07Elem TTide)} {rt0 : TRef} {a1 : Int} {r : TL07Elem × Bool}  (H0 : Tree_At.f opsE k p1 rt0 a1 = some r) (m0 m1 : Nat) : Tree_AtE_st p1 rt0 a1 r m0 m1 :=
 SCon.ren (rn [(0, m0), (1, m1)]) (Tree_AtE_con0 (k := k)   H0) ⟨(blk_ren R R), (pl_ren R), trivial⟩ ⟨(blk_ren R R), (pl_ren R), trivial⟩ (by simp) (by simp)
abbrev Tree_splitE_st (p1 : Pool (TNode TL07Elem TTide)) (a1 : TRef) (a2 : TL07Elem) (ri0 : Int) (rg0 : Int) (r : TRef × TRef × Pool (TNode TL07Elem TTide)) (m0 : Nat) (m1 : Nat) : Prop := SCon Try.prog 72 [SV.p m0 0, .a (.agg ((eTRef a1).map .v)), .a (.agg ((eTL07Elem a2).map .v))] [(m0, blk m0 [.p m1 0, .i ri0, .i rg0] 101), (m1, plE m1 p1)] (.tup [.agg ((eTRef r.1).map .v), .agg ((eTRef r.2.1).map .v)]) [(m0, blk m0 [.p m1 0, .i ri0, .i rg0] 101), (m1, plE m1 r.2.2)] []
theorem Tree_splitE_con0 {k : Nat}  : ∀ {n : Nat} {p1 : Pool (TNode TL07Elem TTide)} {a1 : TRef} {a2 : TL07Elem} {ri0 rg0 : Int} {r : TRef × TRef × Pool (TNode TL07Elem TTide)}  (H0 : Tree_split.r opsE k n p1 a1 a2 = some r), Tree_splitE_st p1 a1 a2 ri0 rg0 r 0 1 := by
 intro n
 induction n with
 | zero => intro p1 a1 a2 ri0 rg0 r H0; exact absurd H0 (by simp [Tree_split.r])
 | succ n ih =>
  intro p1 a1 a2 ri0 rg0 r H0
  rw [Tree_split.r] at H0
  refine spec_of [(0, _), (1, _), (2, _)] [(0, _), (1, _)] 57 Try.func72 R Try.ntmps72 R R R R (fun β W F => ?_)
  refine G.seq <| G.rg <| K.box Y 100 _ g0 R R R R R R <| K.box Y 101 _ g0 R R R R R R <| K.alloc Y 102 _ g0 t99 R R R R R <| K.alloc Y 103 _ g0 t99 R R R R R <| K.nil <| At.ns <| G.seq <| G.rg <| K.fieldAddr Y g0 R t99 R R <| K.load1 Y g0 R R t3 R R <| K.bin (V := .bool (a1.gen == 0)) g0 R R (fun _ => R) R <| K.nil <| At.next <| G.cond R (fun h1 => ?_) (fun h1 => ?_)
  ·
   replace H0 := bif_t H0 h1
   refine G.seq <| G.rd mixed <| K.loadS Y _ g0 R R t99 R R R <| K.loadS Y _ g0 R R t99 R R R <| K.store Y _ g0 R R R t99 R R R R R <| K.store Y _ g0 R R R t99 R R R R R <| K.nil <| And.intro (by kernel_rfl) <| At.next <| G.ret <| At.over_ret <| At.done Y [(.cell 6 99, .agg [_, _]), (.cell 7 99, .agg [_, _])] R ⟨.st R R t99 R R, .st R R t99 R R, trivial⟩ (to' := [(0, _), (1, _)]) ⟨R, R, trivial⟩ ?_ ?_ R R R (.inl R)
   · cases H0; rfl
   · cases H0; rfl
  ·
   replace H0 := bif_f H0 h1
   refine G.skip <| At.ns ?_
   obtain ⟨x1, hx1, H0⟩ := bnd H0
   refine G.rg <| K.mv R R <| K.loadS Y _ g0 R R t99 R R R <| K.cR (cf 62 R) (Tree_getE_con hx1 0 1) g0 R R R R <| K.alloc Y 104 _ g0 t104 R R R R R <| K.store Y _ g0 R R R t104 R R R R R <| K.nil <| At.ns <| G.seq ?_
   obtain ⟨x2, hx2, H0⟩ := bnd H0
   refine G.rg <| K.fieldAddr Y g0 R t104 R R <| K.loadS Y _ g0 R R t35 R R R <| K.mkIface Y g0 R (mkI Try.underlying35 R) R <| K.loadS Y _ g0 R R t35 R R R <| K.callR [((.tmp 23), _), ((.tmp 24), _)] (Lw07_elem_Compare_con (k := k) hx2) (toFn_invoke (cf 131 R) (me35_131) R) g0 ⟨R, R, trivial⟩ trivial R R R <| K.bin (V := .bool (decide (x2 < 0))) g0 R R (fun _ => R) R <| K.nil <| At.next <| G.cond R (fun h2 => ?_) (fun h2 => ?_)
   ·
    replace H0 := bif_t H0 h2
    refine G.seq ?_
    obtain ⟨x3, hx3, H0⟩ := bnd H0
    refine G.rg <| K.mv R R <| K.fieldAddr Y g0 R t104 R R <| K.loadS Y _ g0 R R t99 R R R <| K.loadS Y _ g0 R R t35 R R R <| K.c0 (cf 72 R) (ih hx3) g0 R R R R <| K.mv R R <| K.extract g0 R R R <| K.extract g0 R R R <| K.alloc Y 105 _ g0 t99 R R R R R <| K.alloc Y 106 _ g0 t99 R R R R R <| K.store Y _ g0 R R R t99 R R R R R <| K.store Y _ g0 R R R t99 R R R R R <| K.nil <| At.ns ?_
    obtain ⟨x4, hx4, H0⟩ := bnd H0
    refine G.rd mixed <| K.mv R R <| K.fieldAddr Y g0 R t104 R R <| K.loadS Y _ g0 R R t99 R R R <| K.loadS Y _ g0 R R t99 R R R <| K.loadS Y _ g0 R R t99 R R R <| K.c0 (cf 84 R) (Tree_linkE_con hx4 0 1) g0 R R R R <| K.loadS Y _ g0 R R t99 R R R <| K.store Y _ g0 R R R t99 R R R R R <| K.store Y _ g0 R R R t99 R R R R R <| K.nil <| And.intro (by kernel_rfl) <| At.next <| G.ret <| At.over_ret <| At.done Y [(.cell 6 99, .agg [_, _]), (.cell 7 99, .agg [_, _])] R ⟨.st R R t99 R R, .st R R t99 R R, trivial⟩ (to' := [(0, _), (1, _)]) ⟨R, R, trivial⟩ ?_ ?_ R R R (.inl R)
    · cases H0; rfl
    · cases H0; rfl
   ·
    replace H0 := bif_f H0 h2
    refine G.skip <| At.ns ?_
    obtain ⟨x5, hx5, H0⟩ := bnd H0
    refine G.rg <| K.mv R R <| K.fieldAddr Y g0 R t104 R R <| K.loadS Y _ g0 R R t99 R R R <| K.loadS Y _ g0 R R t35 R R R <| K.c0 (cf 72 R) (ih hx5) g0 R R R R <| K.mv R R <| K.extract g0 R R R <| K.extract g0 R R R <| K.alloc Y 107 _ g0 t99 R R R R R <| K.alloc Y 108 _ g0 t99 R R R R R <| K.store Y _ g0 R R R t99 R R R R R <| K.store Y _ g0 R R R t99 R R R R R <| K.nil <| At.ns ?_
    obtain ⟨x6, hx6, H0⟩ := bnd H0
    refine G.rd mixed <| K.loadS Y _ g0 R R t99 R R R <| K.mv R R <| K.loadS Y _ g0 R R t99 R R R <| K.loadS Y _ g0 R R t99 R R R <| K.fieldAddr Y g0 R t104 R R <| K.loadS Y _ g0 R R t99 R R R <| K.c0 (cf 84 R) (Tree_linkE_con hx6 0 1) g0 R R R R <| K.store Y _ g0 R R R t99 R R R R R <| K.store Y _ g0 R R R t99 R R R R R <| K.nil <| And.intro (by kernel_rfl) <| At.next <| G.ret <| At.done Y [(.cell 6 99, .agg [_, _]), (.cell 7 99, .agg [_, _])] R ⟨.st R R t99 R R, .st R R t99 R R, trivial⟩ (to' := [(0, _), (1, _)]) ⟨R, R, trivial⟩ ?_ ?_ R R R (.inl R)
    · cases H0; rfl
    · cases H0; rfl
theorem Tree_splitE_con {k n : Nat}  {p1 : Pool (TNode TL07Elem TTide)} {a1 : TRef} {a2 : TL07Elem} {ri0 rg0 : Int} {r : TRef × TRef × Pool (TNode TL07Elem TTide)}  (H0 : Tree_split.r opsE k n p1 a1 a2 = some r) (m0 m1 : Nat) : Tree_splitE_st p1 a1 a2 ri0 rg0 r m0 m1 :=
 SCon.ren (rn [(0, m0), (1, m1)]) (Tree_splitE_con0 (k := k)   H0) ⟨(blk_ren R R), (pl_ren R), trivial⟩ ⟨(blk_ren R R), (pl_ren R), trivial⟩ (by simp) (by simp)
abbrev Tree_SplitE_st (p1 : Pool (TNode TL07Elem TTide)) (rt0 : TRef) (a1 : TL07Elem) (r : TRef × TRef × Pool (TNode TL07Elem TTide)) (m0 : Nat) (m1 : Nat) (m40 : Nat) : Prop := SCon Try.prog 38 [SV.p m0 0, .a (.agg ((eTL07Elem a1).map .v))] [(m0, blk m0 [.p m1 0, .i rt0.index, .i rt0.gen] 101), (m1, plE m1 p1)] (.a (.c (.p m40 0))) [(m0, blk m0 [.p m1 0, .i r.2.1.index, .i r.2.1.gen] 101), (m1, plE m1 r.2.2), (m40, blk m40 [.p m1 0, .i r.1.index, .i r.1.gen] 101)] [m40]
theorem Tree_SplitE_con0 {k : Nat}  {p1 : Pool (TNode TL07Elem TTide)} {rt0 : TRef} {a1 : TL07Elem} {r : TRef × TRef × Pool (TNode TL07Elem TTide)}  (H0 : Tree_Split.f opsE k p1 rt0 a1 = some r) : Tree_SplitE_st p1 rt0 a1 r 0 1 40 := by
 rw [Tree_Split.f] at H0
 refine spec_of [(0, _), (1, _)] [(0, _), (1, _)] 28 Try.func38 R Try.ntmps38 R R R R (fun β W F => ?_)
 refine G.seq <| G.rg <| K.box Y 100 _ g0 R R R R R R <| K.as R R <| K.nil <| At.ns ?_
 obtain ⟨x1, hx1, H0⟩ := bnd H0
 exact G.rd mixed <| K.mv R R <| K.mv R R <| K.nilCheck g0 R R <| K.fieldAddr Y g0 R t101 R R <| K.loadS Y _ g0 R R t99 R R R <| K.loadS Y _ g0 R R t35 R R R <| K.c0 (cf 72 R) (Tree_splitE_con hx1 0 1) g0 R R R R <| K.mv R R <| K.extract g0 R R R <| K.extract g0 R R R <| K.alloc Y 101 _ g0 t99 R R R R R <| K.alloc Y 102 _ g0 t99 R R R R R <| K.store Y _ g0 R R R t99 R R R R R <| K.store Y _ g0 R R R t99 R R R R R <| K.nil <| And.intro (by kernel_rfl) <| At.nr <| K.mv R R <| K.loadS Y _ g0 R R t99 R R R <| K.nilCheck g0 R R <| K.fieldAddr Y g0 R t101 R R <| K.store Y _ g0 R R R t99 R R R R R <| K.nil <| At.ns <| G.rd mixed <| K.mv R R <| K.nilCheck g0 R R <| K.fieldAddr Y g0 R t101 R R <| K.load1 Y g0 R R t97 R R <| K.loadS Y _ g0 R R t99 R R R <| K.build Y [(0, _), (1, _)] [_, _, _] [((.tmp 24), _), ((.tmp 25), _)] g0 (AllE.spec ⟨R, R, trivial⟩) R R t101 R R <| K.box Y 103 _ g0 R R R R R R <| K.as R R <| K.nil <| And.intro (by kernel_rfl) <| At.next <| G.ret <| At.ren (fs' := [(4, .a (.c (.p 40 0)))]) (tl := [(0, blk 0 [.p 1 0, .v (.int .i64 x1.1.index), .v (.int .i64 x1.1.gen)] 101), (1, plE 1 x1.2.2), (40, blk 40 [.p 1 0, .v (.int .i64 x1.2.1.index), .v (.int .i64 x1.2.1.gen)] 101)]) [(40, 103)] [_, _, _] R ⟨R, trivial⟩ ⟨R, (blk_ren R R), R, (pl_ren R), R, (blk_ren R R), trivial⟩ R <| At.dr Y [4] R R (by cases H0; rfl) (by cases H0; rfl) R R R
theorem Tree_SplitE_con {k : Nat}  {p1 : Pool (TNode TL07Elem TTide)} {rt0 : TRef} {a1 : TL07Elem} {r : TRef × TRef × Pool (TNode TL07Elem TTide)}  (H0 : Tree_Split.f opsE k p1 rt0 a1 = some r) (m0 m1 m40 : Nat) (hd : ndB [m0, m1, m40] = true) : Tree_SplitE_st p1 rt0 a1 r m0 m1 m40 :=
 SCon.ren (rn [(0, m0), (1, m1), (40, m40)]) (Tree_SplitE_con0 (k := k)   H0) ⟨(blk_ren R R), (pl_ren R), trivial⟩ ⟨(blk_ren R R), (pl_ren R), (blk_ren R R), trivial⟩ (rn_nd hd R R) (rn_ks hd R R R)
abbrev Tree_Join_tE_t1_st (p1 : Pool (TNode TL07Elem TTide)) (ri0 : Int) (rg0 : Int) (r : Bool) (m0 : Nat) (m1 : Nat) : Prop := SCon Try.prog 39 [SV.p m0 0, SV.p m0 0] [(m0, blk m0 [.p m1 0, .i ri0, .i rg0] 101), (m1, plE m1 p1)] (.a (.c (.v (.bool r)))) [(m0, blk m0 [.p m1 0, .i ri0, .i rg0] 101), (m1, plE m1 p1)] []
theorem Tree_Join_tE_t1_con0 {k : Nat}  {p1 : Pool (TNode TL07Elem TTide)} {ri0 rg0 : Int} {r : Bool}  (H0 : Tree_Join_t.f opsE k p1 = some r) : Tree_Join_tE_t1_st p1 ri0 rg0 r 0 1 := by
 rw [Tree_Join_t.f] at H0
 refine spec_of [(0, _), (1, _)] [(0, _), (1, _)] 68 Try.func39 R Try.ntmps39 R R R R (fun β W F => ?_)
 refine G.seq <| G.rg <| K.as R R <| K.nil <| At.ns <| G.seq <| G.rd mixed <| K.mv R R <| K.eqnil (V := false) g0 R R (pn_eql_some Try.underlying25) R <| K.mv R R <| K.move (.inl R) (g1 R R R) R R <| K.move (.inl R) (g1 R R R) R R <| K.binA (V := .bool true) (g1 R R R) R R (fun _ w => pz_eql Try.underlying25 (te := 101) (by kernel_rfl) _ w) R <| K.pickF g0 R (R) R R <| K.mv R R <| K.sk R R R R <| K.sk R R R R <| K.sk R R R R <| K.sk R R R R <| K.sk R R R R <| K.sk R R R R <| K.sk R R R R <| K.sk R R R R <| K.sk R R R R <| K.pickT g0 R (R) R R <| K.nil <| And.intro (by kernel_rfl) <| At.next <| G.cond R (fun h1 => ?_) (fun h1 => ?_)
 ·
  exact G.seq <| G.rg <| K.as R R <| K.nil <| At.next <| G.ret <| At.over_ret <| At.dr Y [4] R R (by cases H0; rfl) (by cases H0; rfl) R R R
 · cases h1
theorem Tree_Join_tE_t1_con {k : Nat}  {p1 : Pool (TNode TL07Elem TTide)} {ri0 rg0 : Int} {r : Bool}  (H0 : Tree_Join_t.f opsE k p1 = some r) (m0 m1 : Nat) : Tree_Join_tE_t1_st p1 ri0 rg0 r m0 m1 :=
 SCon.ren (rn [(0, m0), (1, m1)]) (Tree_Join_tE_t1_con0 (k := k)   H0) ⟨(blk_ren R R), (pl_ren R), trivial⟩ ⟨(blk_ren R R), (pl_ren R), trivial⟩ (by simp) (by simp)
abbrev Tree_Join_zE_z1_st (p1 : Pool (TNode TL07Elem TTide)) (ri0 : Int) (rg0 : Int) (r : Bool) (m0 : Nat) (m1 : Nat) : Prop := SCon Try.prog 39 [SV.p m0 0, SV.raw (.pointer none)] [(m0, blk m0 [.p m1 0, .i ri0, .i rg0] 101), (m1, plE m1 p1)] (.a (.c (.v (.bool r)))) [(m0, blk m0 [.p m1 0, .i ri0, .i rg0] 101), (m1, plE m1 p1)] []
theorem Tree_Join_zE_z1_con0 {k : Nat}  {p1 : Pool (TNode TL07Elem TTide)} {ri0 rg0 : Int} {r : Bool}  (H0 : Tree_Join_z.f opsE k p1 = some r) : Tree_Join_zE_z1_st p1 ri0 rg0 r 0 1 := by
 rw [Tree_Join_z.f] at H0
 refine spec_of [(0, _), (1, _)] [(0, _), (1, _)] 68 Try.func39 R Try.ntmps39 R R R R (fun β W F => ?_)
 refine G.seq <| G.rg <| K.as R R <| K.nil <| At.ns <| G.seq <| G.rd mixed <| K.mv R R <| K.bin (V := .bool true) g0 R R (pn_eql_none Try.underlying25) R <| K.mv R R <| K.sk R R R R <| K.sk R R R R <| K.sk R R R R <| K.pickT g0 R (R) R R <| K.mv R R <| K.sk R R R R <| K.sk R R R R <| K.sk R R R R <| K.sk R R R R <| K.sk R R R R <| K.sk R R R R <| K.sk R R R R <| K.sk R R R R <| K.sk R R R R <| K.pickT g0 R (R) R R <| K.nil <| And.intro (by kernel_rfl) <| At.next <| G.cond R (fun h1 => ?_) (fun h1 => ?_)
 ·
  exact G.seq <| G.rg <| K.as R R <| K.nil <| At.next <| G.ret <| At.over_ret <| At.dr Y [4] R R (by cases H0; rfl) (by cases H0; rfl) R R R
 · cases h1
theorem Tree_Join_zE_z1_con {k : Nat}  {p1 : Pool (TNode TL07Elem TTide)} {ri0 rg0 : Int} {r : Bool}  (H0 : Tree_Join_z.f opsE k p1 = some r) (m0 m1 : Nat) : Tree_Join_zE_z1_st p1 ri0 rg0 r m0 m1 :=
 SCon.ren (rn [(0, m0), (1, m1)]) (Tree_Join_zE_z1_con0 (k := k)   H0) ⟨(blk_ren R R), (pl_ren R), trivial⟩ ⟨(blk_ren R R), (pl_ren R), trivial⟩ (by simp) (by simp)
abbrev Tree_Join_pE_p1_st (p1 : Pool (TNode TL07Elem TTide)) (p3 : Pool (TNode TL07Elem TTide)) (ri0 : Int) (rg0 : Int) (ri1 : Int) (rg1 : Int) (r : Bool) (m0 : Nat) (m1 : Nat) (m2 : Nat) (m3 : Nat) : Prop := SCon Try.prog 39 [SV.p m0 0, SV.p m2 0] [(m0, blk m0 [.p m1 0, .i ri0, .i rg0] 101), (m1, plE m1 p1), (m2, blk m2 [.p m3 0, .i ri1, .i rg1] 101), (m3, plE m3 p3)] (.a (.c (.v (.bool r)))) [(m0, blk m0 [.p m1 0, .i ri0, .i rg0] 101), (m1, plE m1 p1), (m2, blk m2 [.p m3 0, .i ri1, .i rg1] 101), (m3, plE m3 p3)] []
theorem Tree_Join_pE_p1_con0 {k : Nat}  {p1 : Pool (TNode TL07Elem TTide)} {p3 : Pool (TNode TL07Elem TTide)} {ri0 rg0 : Int} {ri1 rg1 : Int} {r : Bool}  (H0 : Tree_Join_p.f opsE k p1 p3 = some r) : Tree_Join_pE_p1_st p1 p3 ri0 rg0 ri1 rg1 r 0 1 2 3 := by
 rw [Tree_Join_p.f] at H0
 refine spec_of [(0, _), (1, _)] [(0, _), (1, _), (2, _), (3, _)] 68 Try.func39 R Try.ntmps39 R R R R (fun β W F => ?_)
 refine G.seq <| G.rg <| K.as R R <| K.nil <| At.ns <| G.seq <| G.rd mixed <| K.mv R R <| K.eqnil (V := false) g0 R R (pn_eql_some Try.underlying25) R <| K.mv R R <| K.move (.inl R) (g1 R R R) R R <| K.move (.inl R) (g1 R R R) R R <| K.eqpp (V := false) (blk_has _ _ _) (blk_has _ _ _) R (g1 R R R) R R R R (pq_eql Try.underlying25 (te := 101) (by kernel_rfl)) R <| K.pickF g0 R (R) R R <| K.mv R R <| K.move (.inl R) (g1 R R R) R R <| K.nilCheck (g1 R R R) R R <| K.fieldAddr Y (g1 R R R) R t101 R R <| K.load1 Y (g1 R R R) R R t97 R R <| K.move (.inl R) (g1 R R R) R R <| K.nilCheck (g1 R R R) R R <| K.fieldAddr Y (g1 R R R) R t101 R R <| K.load1 Y (g1 R R R) R R t97 R R <| K.eqpp (V := true) (pl_has _ _ _ _ _ _ _) (pl_has _ _ _ _ _ _ _) R (g1 R R R) R R R R (pq_neq Try.underlying97 (te := 137) (by kernel_rfl)) R <| K.pickF g0 R (R) R R <| K.nil <| And.intro (by kernel_rfl) <| At.next <| G.cond R (fun h1 => ?_) (fun h1 => ?_)
 ·
  exact G.seq <| G.rg <| K.as R R <| K.nil <| At.next <| G.ret <| At.over_ret <| At.dr Y [4] R R (by cases H0; rfl) (by cases H0; rfl) R R R
 · cases h1
theorem Tree_Join_pE_p1_con {k : Nat}  {p1 : Pool (TNode TL07Elem TTide)} {p3 : Pool (TNode TL07Elem TTide)} {ri0 rg0 : Int} {ri1 rg1 : Int} {r : Bool}  (H0 : Tree_Join_p.f opsE k p1 p3 = some r) (m0 m1 m2 m3 : Nat) : Tree_Join_pE_p1_st p1 p3 ri0 rg0 ri1 rg1 r m0 m1 m2 m3 :=
 SCon.ren (rn [(0, m0), (1, m1), (2, m2), (3, m3)]) (Tree_Join_pE_p1_con0 (k := k)   H0) ⟨(blk_ren R R), (pl_ren R), (blk_ren R R), (pl_ren R), trivial⟩ ⟨(blk_ren R R), (pl_ren R), (blk_ren R R), (pl_ren R), trivial⟩ (by simp) (by simp)
abbrev Tree_JoinE_st (p1 : Pool (TNode TL07Elem TTide)) (rt0 : TRef) (rt1 : TRef) (r : Bool × TRef × TRef × Pool (TNode TL07Elem TTide)) (m0 : Nat) (m1 : Nat) (m2 : Nat) : Prop := SCon Try.prog 39 [SV.p m0 0, SV.p m2 0] [(m0, blk m0 [.p m1 0, .i rt0.index, .i rt0.gen] 101), (m1, plE m1 p1), (m2, blk m2 [.p m1 0, .i rt1.index, .i rt1.gen] 101)] (.a (.c (.v (.bool r.1)))) [(m0, blk m0 [.p m1 0, .i r.2.1.index, .i r.2.1.gen] 101), (m1, plE m1 r.2.2.2), (m2, blk m2 [.p m1 0, .i r.2.2.1.index, .i r.2.2.1.gen] 101)] []
theorem Tree_JoinE_con0 {k : Nat}  {p1 : Pool (TNode TL07Elem TTide)} {rt0 : TRef} {rt1 : TRef} {r : Bool × TRef × TRef × Pool (TNode TL07Elem TTide)}  (H0 : Tree_Join.f opsE k p1 rt0 rt1 = some r) : Tree_JoinE_st p1 rt0 rt1 r 0 1 2 := by
 rw [Tree_Join.f] at H0
 refine spec_of [(0, _), (1, _)] [(0, _), (1, _), (2, _)] 68 Try.func39 R Try.ntmps39 R R R R (fun β W F => ?_)
 refine G.seq <| G.rg <| K.as R R <| K.nil <| At.next ?_
 obtain ⟨x1, H1, H0⟩ := bnd H0
 refine G.sJ (σ := { v : Unit // x1 = Sum.inr v }) (fun q => [(0, .a (.c (.p 0 0))), (1, .a (.c (.p 2 0)))]) (fun q => [(1, plE 1 p1), (0, blk 0 [.p 1 0, .v (.int .i64 rt0.index), .v (.int .i64 rt0.gen)] 101), (2, blk 2 [.p 1 0, .v (.int .i64 rt1.index), .v (.int .i64 rt1.gen)] 101)]) ?_ ?_
 ·
  refine G.seq <| G.rd mixed <| K.mv R R <| K.eqnil (V := false) g0 R R (pn_eql_some Try.underlying25) R <| K.mv R R <| K.move (.inl R) (g1 R R R) R R <| K.move (.inl R) (g1 R R R) R R <| K.eqpp (V := false) (blk_has _ _ _) (blk_has _ _ _) R (g1 R R R) R R R R (pq_eql Try.underlying25 (te := 101) (by kernel_rfl)) R <| K.pickF g0 R (R) R R <| K.mv R R <| K.move (.inl R) (g1 R R R) R R <| K.nilCheck (g1 R R R) R R <| K.fieldAddr Y (g1 R R R) R t101 R R <| K.load1 Y (g1 R R R) R R t97 R R <| K.move (.inl R) (g1 R R R) R R <| K.nilCheck (g1 R R R) R R <| K.fieldAddr Y (g1 R R R) R t101 R R <| K.load1 Y (g1 R R R) R R t97 R R <| K.binA (V := .bool false) (g1 R R R) R R (fun _ w => pz_neq Try.underlying97 (te := 137) (by kernel_rfl) _ w) R <| K.pickF g0 R (R) R R <| K.nil <| And.intro (by kernel_rfl) <| At.next <| G.cond R (fun h1 => ?_) (fun h1 => ?_)
  · cases h1
  ·
   exact G.skip <| At.jd ⟨(), oi H1⟩ [] [_, _, _] R ⟨R, R, trivial⟩ ⟨R, (pl_ren R), R, (blk_ren R R), R, (blk_ren R R), trivial⟩ R
 ·
  rintro ⟨w1, rfl⟩
  replace H0 := sum_r H0
  show G _ _ [(0, .a (.c (.p 0 0))), (1, .a (.c (.p 2 0)))] [(1, some (plE 1 p1)), (0, some (blk 0 [.p 1 0, .v (.int .i64 rt0.index), .v (.int .i64 rt0.gen)] 101)), (2, some (blk 2 [.p 1 0, .v (.int .i64 rt1.index), .v (.int .i64 rt1.gen)] 101))] _ _
  refine G.seq ?_
  obtain ⟨x2, hx2, H0⟩ := bnd H0
  obtain ⟨x3, hx3, H0⟩ := bnd H0
  refine G.rg <| K.mv R R <| K.mv R R <| K.cR (cf 20 R) (Tree_LenE_con hx2 0 1) g0 R R R R <| K.bin (V := .int .i64 (w64 (x2 - 1))) g0 R R (fun _ => R) R <| K.cR (cf 35 R) (Tree_AtE_con hx3 0 1) g0 R R R R <| K.mv R R <| K.extract g0 R R R <| K.extract g0 R R R <| K.alloc Y 100 _ g0 t35 R R R R R <| K.store Y _ g0 R R R t35 R R R R R <| K.as R R <| K.nil <| At.ns ?_
  obtain ⟨x4, hx4, H0⟩ := bnd H0
  refine G.rg <| K.mv R R <| K.cR (cf 35 R) (Tree_AtE_con hx4 2 1) g0 R R R R <| K.mv R R <| K.extract g0 R R R <| K.extract g0 R R R <| K.alloc Y 101 _ g0 t35 R R R R R <| K.store Y _ g0 R R R t35 R R R R R <| K.as R R <| K.nil <| At.next ?_
  obtain ⟨x5, H1, H0⟩ := bnd H0
  refine G.sJ (σ := { v : Unit // x5 = Sum.inr v }) (fun q => [(0, .a (.c (.p 0 0))), (1, .a (.c (.p 2 0)))]) (fun q => [(1, plE 1 p1), (0, blk 0 [.p 1 0, .v (.int .i64 rt0.index), .v (.int .i64 rt0.gen)] 101), (2, blk 2 [.p 1 0, .v (.int .i64 rt1.index), .v (.int .i64 rt1.gen)] 101)]) ?_ ?_
  ·
   refine G.seq ?_
   rcases Bool.eq_false_or_eq_true x3.2 with h2 | h2
   ·
    replace H1 := bif_t H1 h2
    rcases Bool.eq_false_or_eq_true x4.2 with h3 | h3
    ·
     replace H1 := bif_t H1 h3
     obtain ⟨x6, hx6, H1⟩ := bnd H1
     refine G.rg <| K.mv R R <| K.mv R R <| K.move (.inl R) (g1 R R h2) R R <| K.pickT g0 R (h2) R R <| K.mv R R <| K.loadS Y _ (g1 R R h3) R R t35 R R R <| K.mkIface Y (g1 R R h3) R (mkI Try.underlying35 R) R <| K.loadS Y _ (g1 R R h3) R R t35 R R R <| K.callR [((.tmp 46), _), ((.tmp 47), _)] (Lw07_elem_Compare_con (k := k) hx6) (toFn_invoke (cf 131 R) (me35_131) R) (g1 R R h3) ⟨R, R, trivial⟩ trivial R R R <| K.bin (V := .bool (decide (x6 ≥ 0))) (g1 R R h3) R R (fun _ => R) R <| K.pickT g0 R (h3) R R <| K.nil <| At.next <| G.cond R (fun h4 => ?_) (fun h4 => ?_)
     ·
      replace H1 := bif_t H1 h4
      refine G.seq <| G.rg <| K.as R R <| K.nil <| At.next <| G.ret <| At.over_ret ?_
      cases H1
      replace H0 := sum_l H0
      exact At.dr Y [4] R R (by cases H0; rfl) (by cases H0; rfl) R R R
     ·
      replace H1 := bif_f H1 h4
      exact G.skip <| At.jd ⟨(), oi H1⟩ [] [_, _, _] R ⟨R, R, trivial⟩ ⟨R, (pl_ren R), R, (blk_ren R R), R, (blk_ren R R), trivial⟩ R
    ·
     replace H1 := bif_f H1 h3
     refine G.rg <| K.mv R R <| K.mv R R <| K.move (.inl R) (g1 R R h2) R R <| K.pickT g0 R (h2) R R <| K.mv R R <| K.sk R R h3 R <| K.sk R R h3 R <| K.sk R R h3 R <| K.sk R R h3 R <| K.sk R R h3 R <| K.pickF g0 R (h3) R R <| K.nil <| At.next <| G.cond R (fun h5 => ?_) (fun h5 => ?_)
     · cases h5
     ·
      exact G.skip <| At.jd ⟨(), oi H1⟩ [] [_, _, _] R ⟨R, R, trivial⟩ ⟨R, (pl_ren R), R, (blk_ren R R), R, (blk_ren R R), trivial⟩ R
   ·
    replace H1 := bif_f H1 h2
    refine G.rg <| K.mv R R <| K.mv R R <| K.sk R R h2 R <| K.pickF g0 R (h2) R R <| K.mv R R <| K.sk R R R R <| K.sk R R R R <| K.sk R R R R <| K.sk R R R R <| K.sk R R R R <| K.pickF g0 R (R) R R <| K.nil <| At.next <| G.cond R (fun h6 => ?_) (fun h6 => ?_)
    · cases h6
    ·
     exact G.skip <| At.jd ⟨(), oi H1⟩ [] [_, _, _] R ⟨R, R, trivial⟩ ⟨R, (pl_ren R), R, (blk_ren R R), R, (blk_ren R R), trivial⟩ R
  ·
   rintro ⟨w5, rfl⟩
   replace H0 := sum_r H0
   show G _ _ [(0, .a (.c (.p 0 0))), (1, .a (.c (.p 2 0)))] [(1, some (plE 1 p1)), (0, some (blk 0 [.p 1 0, .v (.int .i64 rt0.index), .v (.int .i64 rt0.gen)] 101)), (2, some (blk 2 [.p 1 0, .v (.int .i64 rt1.index), .v (.int .i64 rt1.gen)] 101))] _ _
   refine G.seq ?_
   obtain ⟨x7, hx7, H0⟩ := bnd H0
   exact G.rd mixed <| K.mv R R <| K.mv R R <| K.mv R R <| K.mv R R <| K.nilCheck g0 R R <| K.fieldAddr Y g0 R t101 R R <| K.loadS Y _ g0 R R t99 R R R <| K.mv R R <| K.nilCheck g0 R R <| K.fieldAddr Y g0 R t101 R R <| K.loadS Y _ g0 R R t99 R R R <| K.c0 (cf 73 R) (Tree_mergeE_con hx7 0 1) g0 R R R R <| K.build Y [] [_, _] [] g0 (AllE.spec trivial) R R t99 R R <| K.nilCheck g0 R R <| K.fieldAddr Y g0 R t101 R R <| K.store Y _ g0 R R R t99 R R R R R <| K.nilCheck g0 R R <| K.fieldAddr Y g0 R t101 R R <| K.store Y _ g0 R R R t99 R R R R R <| K.nil <| And.intro (by kernel_rfl) <| At.nr <| K.as R R <| K.nil <| At.next <| G.ret <| At.dr Y [4] R R (by cases H0; rfl) (by cases H0; rfl) R R R
theorem Tree_JoinE_con {k : Nat}  {p1 : Pool (TNode TL07Elem TTide)} {rt0 : TRef} {rt1 : TRef} {r : Bool × TRef × TRef × Pool (TNode TL07Elem TTide)}  (H0 : Tree_Join.f opsE k p1 rt0 rt1 = some r) (m0 m1 m2 : Nat) : Tree_JoinE_st p1 rt0 rt1 r m0 m1 m2 :=
 SCon.ren (rn [(0, m0), (1, m1), (2, m2)]) (Tree_JoinE_con0 (k := k)   H0) ⟨(blk_ren R R), (pl_ren R), (blk_ren R R), trivial⟩ ⟨(blk_ren R R), (pl_ren R), (blk_ren R R), trivial⟩ (by simp) (by simp)
end Go.Proofs.Ytjokolmijhhinaa
namespace Go.Proofs.Ytjokolmijhhinaa
open Go Go.Proofs.Ytjokolmijhhinaa.Sx
abbrev Lw07_awake_1_st (a0 : TTide) (a1 : TTide) (r : Bool) : Prop := SCon Try.prog 59 [.a (.agg ((eTTide a0).map .v)), .a (.agg ((eTTide a1).map .v))] [] (.a (.c (.v (.bool r)))) [] []
theorem Lw07_awake_1_con0 {k : Nat}  {a0 : TTide} {a1 : TTide} {r : Bool}  (H0 : Lw07_awake_1.f k a0 a1 = some r) : Lw07_awake_1_st a0 a1 r := by
 rw [Lw07_awake_1.f] at H0
 refine spec_of [(0, _), (1, _)] [] 11 Try.func59 R Try.ntmps59 R R R R (fun β W F => ?_)
 exact G.seq <| G.rg <| K.box Y 100 _ g0 R R R R R R <| K.box Y 101 _ g0 R R R R R R <| K.as R R <| K.nil <| At.nr <| K.fieldAddr Y g0 R t32 R R <| K.load1 Y g0 R R t3 R R <| K.fieldAddr Y g0 R t32 R R <| K.load1 Y g0 R R t3 R R <| K.bin (V := .int .i64 (w64 (a0.sum + a1.sum))) g0 R R (fun _ => R) R <| K.bin (V := .bool (decide ((w64 (a0.sum + a1.sum)) > 6))) g0 R R (fun _ => R) R <| K.as R R <| K.nil <| At.next <| G.ret <| At.dr Y [4] R R (by cases H0; rfl) (by cases H0; rfl) R R R
theorem Lw07_awake_1_con {k : Nat}  {a0 : TTide} {a1 : TTide} {r : Bool}  (H0 : Lw07_awake_1.f k a0 a1 = some r) : Lw07_awake_1_st a0 a1 r :=
 SCon.ren (rn []) (Lw07_awake_1_con0 (k := k)   H0) trivial trivial (by simp) (by simp)
abbrev Lw07_awake_st (r : Bool) : Prop := SCon Try.prog 11 [] [] (.a (.c (.v (.bool r)))) [] []
theorem Lw07_awake_con0 {k : Nat}  {r : Bool}  (H0 : Lw07_awake.f k = some r) : Lw07_awake_st r := by
 rw [Lw07_awake.f] at H0
 refine spec_of [] [] 40 Try.func11 R Try.ntmps11 R R R R (fun β W F => ?_)
 refine G.seq <| G.rg <| K.as R R <| K.nil <| At.ns ?_
 obtain ⟨x1, hx1, H0⟩ := bnd H0
 refine G.rg <| K.c0 (cf 18 R) (Tree_NewE_con hx1 100 101 R) g0 R R R R <| K.as R R <| K.nil <| At.next ?_
 obtain ⟨x2, H1, H0⟩ := bnd H0
 refine G.sJ (σ := { v : Pool (TNode TL07Elem TTide) × Int × Int // x2 = Sum.inr v }) (fun q => [(1, .a (.c (.p 102 0)))]) (fun q => [(103, plE 103 q.1.1), (102, blk 102 [.p 103 0, .v (.int .i64 q.1.2.1), .v (.int .i64 q.1.2.2)] 101)]) ?_ ?_
 ·
  refine G.seq ?_
  obtain ⟨x3, hx3, H1⟩ := bnd H1
  rcases Bool.eq_false_or_eq_true (!x3.1) with h1 | h1
  ·
   replace H1 := bif_t H1 h1
   refine G.rg <| K.mv R R <| K.eqnil (V := false) g0 R R (pn_eql_some Try.underlying25) R <| K.mv R R <| K.move (.inl R) (g1 R R R) R R <| K.build Y [(0, _), (1, _)] [_, _] [(_, _), (_, _)] (g1 R R R) (AllE.spec ⟨R, R, trivial⟩) R R t35 R R <| K.c0 (cf 23 R) (Tree_PutE_con hx3 100 101) (g1 R R R) R R R R <| K.un (V := .bool (!x3.1)) (g1 R R R) R (fun _ => R) R <| K.pickF g0 R (R) R R <| K.mv R R <| K.sk R R h1 R <| K.sk R R h1 R <| K.sk R R h1 R <| K.sk R R h1 R <| K.pickT g0 R (h1) R R <| K.mv R R <| K.sk R R R R <| K.sk R R R R <| K.sk R R R R <| K.sk R R R R <| K.pickT g0 R (R) R R <| K.nil <| At.next <| G.cond R (fun h2 => ?_) (fun h2 => ?_)
   ·
    refine G.seq <| G.rg <| K.as R R <| K.nil <| At.next <| G.ret <| At.over_ret ?_
    cases H1
    replace H0 := sum_l H0
    exact At.dr Y [0] R R (by cases H0; rfl) (by cases H0; rfl) R R R
   · cases h2
  ·
   replace H1 := bif_f H1 h1
   obtain ⟨x4, hx4, H1⟩ := bnd H1
   rcases Bool.eq_false_or_eq_true (!x4.1) with h3 | h3
   ·
    replace H1 := bif_t H1 h3
    refine G.rg <| K.mv R R <| K.eqnil (V := false) g0 R R (pn_eql_some Try.underlying25) R <| K.mv R R <| K.move (.inl R) (g1 R R R) R R <| K.build Y [(0, _), (1, _)] [_, _] [(_, _), (_, _)] (g1 R R R) (AllE.spec ⟨R, R, trivial⟩) R R t35 R R <| K.c0 (cf 23 R) (Tree_PutE_con hx3 100 101) (g1 R R R) R R R R <| K.un (V := .bool (!x3.1)) (g1 R R R) R (fun _ => R) R <| K.pickF g0 R (R) R R <| K.mv R R <| K.move (.inl R) (g1 R R h1) R R <| K.build Y [(0, _), (1, _)] [_, _] [(_, _), (_, _)] (g1 R R h1) (AllE.spec ⟨R, R, trivial⟩) R R t35 R R <| K.c0 (cf 23 R) (Tree_PutE_con hx4 100 101) (g1 R R h1) R R R R <| K.un (V := .bool (!x4.1)) (g1 R R h1) R (fun _ => R) R <| K.pickF g0 R (h1) R R <| K.mv R R <| K.sk R R h3 R <| K.sk R R h3 R <| K.sk R R h3 R <| K.sk R R h3 R <| K.pickT g0 R (h3) R R <| K.nil <| At.next <| G.cond R (fun h4 => ?_) (fun h4 => ?_)
    ·
     refine G.seq <| G.rg <| K.as R R <| K.nil <| At.next <| G.ret <| At.over_ret ?_
     cases H1
     replace H0 := sum_l H0
     exact At.dr Y [0] R R (by cases H0; rfl) (by cases H0; rfl) R R R
    · cases h4
   ·
    replace H1 := bif_f H1 h3
    obtain ⟨x5, hx5, H1⟩ := bnd H1
    refine G.rg <| K.mv R R <| K.eqnil (V := false) g0 R R (pn_eql_some Try.underlying25) R <| K.mv R R <| K.move (.inl R) (g1 R R R) R R <| K.build Y [(0, _), (1, _)] [_, _] [(_, _), (_, _)] (g1 R R R) (AllE.spec ⟨R, R, trivial⟩) R R t35 R R <| K.c0 (cf 23 R) (Tree_PutE_con hx3 100 101) (g1 R R R) R R R R <| K.un (V := .bool (!x3.1)) (g1 R R R) R (fun _ => R) R <| K.pickF g0 R (R) R R <| K.mv R R <| K.move (.inl R) (g1 R R h1) R R <| K.build Y [(0, _), (1, _)] [_, _] [(_, _), (_, _)] (g1 R R h1) (AllE.spec ⟨R, R, trivial⟩) R R t35 R R <| K.c0 (cf 23 R) (Tree_PutE_con hx4 100 101) (g1 R R h1) R R R R <| K.un (V := .bool (!x4.1)) (g1 R R h1) R (fun _ => R) R <| K.pickF g0 R (h1) R R <| K.mv R R <| K.move (.inl R) (g1 R R h3) R R <| K.build Y [(0, _), (1, _)] [_, _] [(_, _), (_, _)] (g1 R R h3) (AllE.spec ⟨R, R, trivial⟩) R R t35 R R <| K.c0 (cf 23 R) (Tree_PutE_con hx5 100 101) (g1 R R h3) R R R R <| K.un (V := .bool (!x5.1)) (g1 R R h3) R (fun _ => R) R <| K.pickF g0 R (h3) R R <| K.nil <| At.next <| G.cond R (fun h5 => ?_) (fun h5 => ?_)
    ·
     replace H1 := bif_t H1 h5
     refine G.seq <| G.rg <| K.as R R <| K.nil <| At.next <| G.ret <| At.over_ret ?_
     cases H1
     replace H0 := sum_l H0
     exact At.dr Y [0] R R (by cases H0; rfl) (by cases H0; rfl) R R R
    ·
     replace H1 := bif_f H1 h5
     exact G.skip <| At.jd ⟨(x5.2.2, x5.2.1.index, x5.2.1.gen), oi H1⟩ [(102, 100), (103, 101)] [_, _] R ⟨R, trivial⟩ ⟨R, (pl_ren R), R, (blk_ren R R), trivial⟩ R
 ·
  rintro ⟨w2, rfl⟩
  replace H0 := sum_r H0
  show G _ _ [(1, .a (.c (.p 102 0)))] [(103, some (plE 103 w2.1)), (102, some (blk 102 [.p 103 0, .v (.int .i64 w2.2.1), .v (.int .i64 w2.2.2)] 101))] _ _
  refine G.seq ?_
  obtain ⟨x6, hx6, H0⟩ := bnd H0
  refine G.rg <| K.mv R R <| K.cR (cf 30 R) (Tree_FirstE_con (cf 59 R) (fun h => Lw07_awake_1_con h) hx6 102 103) g0 R R R R <| K.as R R <| K.nil <| At.ns ?_
  obtain ⟨x7, hx7, H0⟩ := bnd H0
  rcases Bool.eq_false_or_eq_true (x7 == 2) with h6 | h6
  ·
   replace H0 := bif_t H0 h6
   obtain ⟨x8, hx8, H0⟩ := bnd H0
   rcases Bool.eq_false_or_eq_true (x8.sum == 14) with h7 | h7
   ·
    replace H0 := bif_t H0 h7
    exact G.rg <| K.mv R R <| K.build Y [(0, _)] [_, _] [(_, _)] g0 (AllE.spec ⟨R, trivial⟩) R R t35 R R <| K.cR (cf 26 R) (Tree_RankE_con hx7 102 103) g0 R R R R <| K.bin (V := .bool (x7 == 2)) g0 R R (fun _ => R) R <| K.mv R R <| K.move (.inl R) (g1 R R h6) R R <| K.cR (cf 15 R) (Tree_BetweenE_con hx8 102 103) (g1 R R h6) R R R R <| K.field1 Y (g1 R R h6) R t32 R t3 R R <| K.bin (V := .bool (x8.sum == 14)) (g1 R R h6) R R (fun _ => R) R <| K.pickT g0 R (h6) R R <| K.mv R R <| K.move (.inl R) (g1 R R h7) R R <| K.bin (V := .bool (x6 == 1)) (g1 R R h7) R R (fun _ => R) R <| K.pickT g0 R (h7) R R <| K.as R R <| K.nil <| At.next <| G.ret <| At.dr Y [0] R R (by cases H0; rfl) (by cases H0; rfl) R R R
   ·
    replace H0 := bif_f H0 h7
    exact G.rg <| K.mv R R <| K.build Y [(0, _)] [_, _] [(_, _)] g0 (AllE.spec ⟨R, trivial⟩) R R t35 R R <| K.cR (cf 26 R) (Tree_RankE_con hx7 102 103) g0 R R R R <| K.bin (V := .bool (x7 == 2)) g0 R R (fun _ => R) R <| K.mv R R <| K.move (.inl R) (g1 R R h6) R R <| K.cR (cf 15 R) (Tree_BetweenE_con hx8 102 103) (g1 R R h6) R R R R <| K.field1 Y (g1 R R h6) R t32 R t3 R R <| K.bin (V := .bool (x8.sum == 14)) (g1 R R h6) R R (fun _ => R) R <| K.pickT g0 R (h6) R R <| K.mv R R <| K.sk R R h7 R <| K.sk R R h7 R <| K.pickF g0 R (h7) R R <| K.as R R <| K.nil <| At.next <| G.ret <| At.dr Y [0] R R (by cases H0; rfl) (by cases H0; rfl) R R R
  ·
   replace H0 := bif_f H0 h6
   exact G.rg <| K.mv R R <| K.build Y [(0, _)] [_, _] [(_, _)] g0 (AllE.spec ⟨R, trivial⟩) R R t35 R R <| K.cR (cf 26 R) (Tree_RankE_con hx7 102 103) g0 R R R R <| K.bin (V := .bool (x7 == 2)) g0 R R (fun _ => R) R <| K.mv R R <| K.sk R R h6 R <| K.sk R R h6 R <| K.sk R R h6 R <| K.sk R R h6 R <| K.pickF g0 R (h6) R R <| K.mv R R <| K.sk R R R R <| K.sk R R R R <| K.pickF g0 R (R) R R <| K.as R R <| K.nil <| At.next <| G.ret <| At.dr Y [0] R R (by cases H0; rfl) (by cases H0; rfl) R R R
theorem Lw07_awake_con {k : Nat}  {r : Bool}  (H0 : Lw07_awake.f k = some r) : Lw07_awake_st r :=
 SCon.ren (rn []) (Lw07_awake_con0 (k := k)   H0) trivial trivial (by simp) (by simp)
abbrev Lw07_small_st (S : Foot) (W0 : World) (s0 : Value) (a1 : Int) (r : Bool) : Prop := SCon Try.prog 12 [SV.raw s0, .a (.c (.v (.int .i64 a1)))] [(0, rd S W0)] (.a (.c (.v (.bool r)))) [(0, rd S W0)] []
theorem Lw07_small_con0 {k : Nat}  {S : Foot} {W0 : World} {s0 : Value} {l0 : List TL07Act} {a1 : Int} {r : Bool} (hL0 : LArg S W0 s0 eTL07Act 3 l0) (H0 : Lw07_small.f k l0 a1 = some r) : Lw07_small_st S W0 s0 a1 r := by
 rw [Lw07_small.f] at H0
 obtain ⟨b0, o0, hI0⟩ := hL0
 refine spec_of [(0, _), (1, _)] [(0, _)] 30 Try.func12 R Try.ntmps12 R R R R (fun β W F => ?_)
 refine G.seq <| G.rg <| K.as R R <| K.nil <| At.ns <| G.seq <| G.rg <| K.mv R R <| K.lenL (rV 0 S W0 s0 b0 o0 eTL07Act 3 l0) (hI0.is 0) g0 R R Try.underlying22 R <| K.mv R R <| K.bin (V := .bool (decide ((l0.length : Int) > a1))) g0 R R (fun _ => R) R <| K.nil <| At.next <| G.cond R (fun h1 => ?_) (fun h1 => ?_)
 ·
  replace H0 := bif_t H0 h1
  exact G.seq <| G.rg <| K.as R R <| K.nil <| At.next <| G.ret <| At.over_ret <| At.dr Y [4] R R (by cases H0; rfl) (by cases H0; rfl) R R R
 ·
  replace H0 := bif_f H0 h1
  refine G.skip <| At.next ?_
  obtain ⟨x1, H1, H0⟩ := bnd H0
  refine G.sJ (σ := { v : Unit // x1 = Sum.inr v }) (fun q => []) (fun q => [(0, rd S W0)]) ?_ ?_
  ·
   refine G.seq <| G.rg <| K.as R R <| K.nil <| At.next <| G.block <| G.lp (σ := { q : Nat × (Int) // Lw07_small.l0 k l0 q.1 q.2 = some x1 }) (fun q => [(0, SV.raw s0), (5, .a (.c (.v (.int .i64 q.1.2))))]) (fun q => [(0, rd S W0)]) (fun q => q.1.1) ⟨(k, 0), H1⟩ ?_ ?_
   · exact At.into [] [_] R ⟨R, R, trivial⟩ ⟨R, (fun _ => R), trivial⟩ R
   ·
    rintro ⟨⟨n0, v1⟩, H1⟩
    show G _ _ [(0, SV.raw s0), (5, .a (.c (.v (.int .i64 v1))))] [(0, some (rd S W0))] _ _
    cases n0 with
    | zero => exact absurd H1 (by simp [Lw07_small.l0])
    | succ n0 =>
     have HL0 := H1
     rw [Lw07_small.l0] at H1
     refine G.seq <| G.seq <| G.rg <| K.mv R R <| K.mv R R <| K.lenL (rV 0 S W0 s0 b0 o0 eTL07Act 3 l0) (hI0.is 0) g0 R R Try.underlying22 R <| K.bin (V := .bool (decide (v1 < (l0.length : Int)))) g0 R R (fun _ => R) R <| K.nil <| At.next <| G.cond R (fun h2 => ?_) (fun h2 => ?_)
     ·
      replace H1 := bif_t H1 h2
      refine G.skip <| At.ns <| G.block <| G.seq ?_
      obtain ⟨x2, hx2, H1⟩ := bnd H1
      rcases Bool.eq_false_or_eq_true (decide (x2.w < (-1000000))) with h3 | h3
      ·
       replace H1 := bif_t H1 h3
       refine G.rg <| K.mv R R <| K.mv R R <| K.idxL (rV 0 S W0 s0 b0 o0 eTL07Act 3 l0) ((v1).toNat) (hI0.is 0) (atL_get hx2) (atL_nn hx2) g0 R R R Try.underlying22 el22.size_run R <| K.fieldL Y (rV 0 S W0 s0 b0 o0 eTL07Act 3 l0) ((v1).toNat) 0 2 (hI0.is 0) (atL_get hx2) g0 R R t41 R R R R <| K.load1L Y (rV 0 S W0 s0 b0 o0 eTL07Act 3 l0) ((v1).toNat) 2 (hI0.is 0) (atL_get hx2) g0 R R t3 R R <| K.bin (V := .bool (decide (x2.w < (-1000000)))) g0 R R (fun _ => R) R <| K.mv R R <| K.sk R R h3 R <| K.sk R R h3 R <| K.sk R R h3 R <| K.sk R R h3 R <| K.sk R R h3 R <| K.sk R R h3 R <| K.pickT g0 R (h3) R R <| K.nil <| At.next <| G.cond R (fun h4 => ?_) (fun h4 => ?_)
       ·
        refine G.seq <| G.rg <| K.as R R <| K.nil <| At.next <| G.ret <| At.block_ret <| At.over_ret <| At.over_ret <| At.block_ret <| At.over_ret ?_
        cases H1
        replace H0 := sum_l H0
        exact At.dr Y [4] R R (by cases H0; rfl) (by cases H0; rfl) R R R
       · cases h4
      ·
       replace H1 := bif_f H1 h3
       refine G.rg <| K.mv R R <| K.mv R R <| K.idxL (rV 0 S W0 s0 b0 o0 eTL07Act 3 l0) ((v1).toNat) (hI0.is 0) (atL_get hx2) (atL_nn hx2) g0 R R R Try.underlying22 el22.size_run R <| K.fieldL Y (rV 0 S W0 s0 b0 o0 eTL07Act 3 l0) ((v1).toNat) 0 2 (hI0.is 0) (atL_get hx2) g0 R R t41 R R R R <| K.load1L Y (rV 0 S W0 s0 b0 o0 eTL07Act 3 l0) ((v1).toNat) 2 (hI0.is 0) (atL_get hx2) g0 R R t3 R R <| K.bin (V := .bool (decide (x2.w < (-1000000)))) g0 R R (fun _ => R) R <| K.mv R R <| K.move (.inl R) (g1 R R h3) R R <| K.move (.inl R) (g1 R R h3) R R <| K.idxL (rV 0 S W0 s0 b0 o0 eTL07Act 3 l0) ((v1).toNat) (hI0.is 0) (atL_get hx2) (atL_nn hx2) (g1 R R h3) R R R Try.underlying22 el22.size_run R <| K.fieldL Y (rV 0 S W0 s0 b0 o0 eTL07Act 3 l0) ((v1).toNat) 0 2 (hI0.is 0) (atL_get hx2) (g1 R R h3) R R t41 R R R R <| K.load1L Y (rV 0 S W0 s0 b0 o0 eTL07Act 3 l0) ((v1).toNat) 2 (hI0.is 0) (atL_get hx2) (g1 R R h3) R R t3 R R <| K.bin (V := .bool (decide (x2.w > 1000000))) (g1 R R h3) R R (fun _ => R) R <| K.pickF g0 R (h3) R R <| K.nil <| At.next <| G.cond R (fun h5 => ?_) (fun h5 => ?_)
       ·
        replace H1 := bif_t H1 h5
        refine G.seq <| G.rg <| K.as R R <| K.nil <| At.next <| G.ret <| At.block_ret <| At.over_ret <| At.over_ret <| At.block_ret <| At.over_ret ?_
        cases H1
        replace H0 := sum_l H0
        exact At.dr Y [4] R R (by cases H0; rfl) (by cases H0; rfl) R R R
       ·
        replace H1 := bif_f H1 h5
        exact G.skip <| At.block_normal <| At.next <| G.rg <| K.mv R R <| K.bin (V := .int .i64 (w64 (v1 + 1))) g0 R R (fun _ => R) R <| K.as R R <| K.nil <| At.ag ⟨(n0, (w64 (v1 + 1))), H1⟩ [] [_] (Nat.lt_succ_self _) R ⟨R, R, trivial⟩ ⟨R, (fun _ => R), trivial⟩ R
     ·
      replace H1 := bif_f H1 h2
      exact G.exit <| At.over_exit <| At.over_exit <| At.block_hit <| At.jd ⟨(), oi H1⟩ [] [_] R trivial ⟨R, (fun _ => R), trivial⟩ R
  ·
   rintro ⟨w1, rfl⟩
   replace H0 := sum_r H0
   show G _ _ [] [(0, some (rd S W0))] _ _
   exact G.seq <| G.rg <| K.as R R <| K.nil <| At.next <| G.ret <| At.dr Y [4] R R (by cases H0; rfl) (by cases H0; rfl) R R R
theorem Lw07_small_con {k : Nat}  {S : Foot} {W0 : World} {s0 : Value} {l0 : List TL07Act} {a1 : Int} {r : Bool} (hL0 : LArg S W0 s0 eTL07Act 3 l0) (H0 : Lw07_small.f k l0 a1 = some r) : Lw07_small_st S W0 s0 a1 r :=
 SCon.ren (rn []) (Lw07_small_con0 (k := k)  hL0 H0) ⟨(fun _ => R), trivial⟩ ⟨(fun _ => R), trivial⟩ (by simp) (by simp)
abbrev R07_Rank_st (S : Foot) (W0 : World) (s0 : Value) (a1 : Int) (r : Int) : Prop := SCon Try.prog 34 [SV.raw s0, .a (.c (.v (.int .i64 a1)))] [(0, rd S W0)] (.a (.c (.v (.int .i64 r)))) [(0, rd S W0)] []
theorem R07_Rank_con0 {k : Nat}  {S : Foot} {W0 : World} {s0 : Value} {l0 : List TR07Elem} {a1 : Int} {r : Int} (hL0 : LArg S W0 s0 eTR07Elem 2 l0) (H0 : R07_Rank.f k l0 a1 = some r) : R07_Rank_st S W0 s0 a1 r := by
 rw [R07_Rank.f] at H0
 obtain ⟨b0, o0, hI0⟩ := hL0
 refine spec_of [(0, _), (1, _)] [(0, _)] 22 Try.func34 R Try.ntmps34 R R R R (fun β W F => ?_)
 refine G.seq <| G.rg <| K.as R R <| K.nil <| At.nr <| K.as R R <| K.nil <| At.next ?_
 obtain ⟨x1, H1, H0⟩ := bnd H0
 refine G.sJ (σ := { v : Int // x1 = v }) (fun q => [(5, .a (.c (.v (.int .i64 q.1))))]) (fun q => [(0, rd S W0)]) ?_ ?_
 ·
  refine G.block <| G.lp (σ := { q : Nat × (Int) // R07_Rank.l0 k l0 a1 q.1 q.2 = some x1 }) (fun q => [(0, SV.raw s0), (1, .a (.c (.v (.int .i64 a1)))), (5, .a (.c (.v (.int .i64 q.1.2))))]) (fun q => [(0, rd S W0)]) (fun q => q.1.1) ⟨(k, 0), H1⟩ ?_ ?_
  · exact At.into [] [_] R ⟨R, R, R, trivial⟩ ⟨R, (fun _ => R), trivial⟩ R
  ·
   rintro ⟨⟨n0, v1⟩, H1⟩
   show G _ _ [(0, SV.raw s0), (1, .a (.c (.v (.int .i64 a1)))), (5, .a (.c (.v (.int .i64 v1))))] [(0, some (rd S W0))] _ _
   cases n0 with
   | zero => exact absurd H1 (by simp [R07_Rank.l0])
   | succ n0 =>
    have HL0 := H1
    rw [R07_Rank.l0] at H1
    refine G.seq <| G.seq ?_
    rcases Bool.eq_false_or_eq_true (decide (v1 < (l0.length : Int))) with h1 | h1
    ·
     replace H1 := bif_t H1 h1
     obtain ⟨x2, hx2, H1⟩ := bnd H1
     refine G.rg <| K.mv R R <| K.mv R R <| K.lenL (rV 0 S W0 s0 b0 o0 eTR07Elem 2 l0) (hI0.is 0) g0 R R Try.underlying26 R <| K.bin (V := .bool (decide (v1 < (l0.length : Int)))) g0 R R (fun _ => R) R <| K.mv R R <| K.move (.inl R) (g1 R R h1) R R <| K.move (.inl R) (g1 R R h1) R R <| K.idxL (rV 0 S W0 s0 b0 o0 eTR07Elem 2 l0) ((v1).toNat) (hI0.is 0) (atL_get hx2) (atL_nn hx2) (g1 R R h1) R R R Try.underlying26 el26.size_run R <| K.fieldL Y (rV 0 S W0 s0 b0 o0 eTR07Elem 2 l0) ((v1).toNat) 0 0 (hI0.is 0) (atL_get hx2) (g1 R R h1) R R t54 R R R R <| K.load1L Y (rV 0 S W0 s0 b0 o0 eTR07Elem 2 l0) ((v1).toNat) 0 (hI0.is 0) (atL_get hx2) (g1 R R h1) R R t3 R R <| K.move (.inl R) (g1 R R h1) R R <| K.bin (V := .bool (decide (x2.k < a1))) (g1 R R h1) R R (fun _ => R) R <| K.pickT g0 R (h1) R R <| K.nil <| At.next <| G.cond R (fun h2 => ?_) (fun h2 => ?_)
     ·
      replace H1 := bif_t H1 h2
      exact G.skip <| At.next <| G.block <| G.rg <| K.mv R R <| K.bin (V := .int .i64 (w64 (v1 + 1))) g0 R R (fun _ => R) R <| K.as R R <| K.nil <| At.block_normal <| At.ag ⟨(n0, (w64 (v1 + 1))), H1⟩ [] [_] (Nat.lt_succ_self _) R ⟨R, R, R, trivial⟩ ⟨R, (fun _ => R), trivial⟩ R
     ·
      replace H1 := bif_f H1 h2
      exact G.exit <| At.over_exit <| At.over_exit <| At.block_hit <| At.jd ⟨v1, oi H1⟩ [] [_] R ⟨R, trivial⟩ ⟨R, (fun _ => R), trivial⟩ R
    ·
     replace H1 := bif_f H1 h1
     refine G.rg <| K.mv R R <| K.mv R R <| K.lenL (rV 0 S W0 s0 b0 o0 eTR07Elem 2 l0) (hI0.is 0) g0 R R Try.underlying26 R <| K.bin (V := .bool (decide (v1 < (l0.length : Int)))) g0 R R (fun _ => R) R <| K.mv R R <| K.sk R R h1 R <| K.sk R R h1 R <| K.sk R R h1 R <| K.sk R R h1 R <| K.sk R R h1 R <| K.sk R R h1 R <| K.sk R R h1 R <| K.pickF g0 R (h1) R R <| K.nil <| At.next <| G.cond R (fun h3 => ?_) (fun h3 => ?_)
     · cases h3
     ·
      exact G.exit <| At.over_exit <| At.over_exit <| At.block_hit <| At.jd ⟨v1, oi H1⟩ [] [_] R ⟨R, trivial⟩ ⟨R, (fun _ => R), trivial⟩ R
 ·
  rintro ⟨_, rfl⟩
  show G _ _ [(5, .a (.c (.v (.int .i64 x1))))] [(0, some (rd S W0))] _ _
  exact G.seq <| G.rg <| K.mv R R <| K.as R R <| K.nil <| At.next <| G.ret <| At.dr Y [4] R R (by cases H0; rfl) (by cases H0; rfl) R R R
theorem R07_Rank_con {k : Nat}  {S : Foot} {W0 : World} {s0 : Value} {l0 : List TR07Elem} {a1 : Int} {r : Int} (hL0 : LArg S W0 s0 eTR07Elem 2 l0) (H0 : R07_Rank.f k l0 a1 = some r) : R07_Rank_st S W0 s0 a1 r :=
 SCon.ren (rn []) (R07_Rank_con0 (k := k)  hL0 H0) ⟨(fun _ => R), trivial⟩ ⟨(fun _ => R), trivial⟩ (by simp) (by simp)
abbrev R07_Drop_o0_st (l0 : List TR07Elem) (a1 : Int) (r : List TR07Elem × TR07Elem × Bool) (m0 : Nat) (m30 : Nat) : Prop := SCon Try.prog 33 [.a (.c (.nv m0)), .a (.c (.v (.int .i64 a1)))] [(m0, lrow m0 54 eTR07Elem 2 l0)] (.tup [.c (.nv m30), .agg ((eTR07Elem r.2.1).map .v), .c (.v (.bool r.2.2))]) [(m30, lrow m30 54 eTR07Elem 2 r.1)] [m30]
theorem R07_Drop_o0_con0 {k : Nat}  {l0 : List TR07Elem} {a1 : Int} {r : List TR07Elem × TR07Elem × Bool}  (H0 : R07_Drop.f k l0 a1 = some r) : R07_Drop_o0_st l0 a1 r 0 30 := by
 rw [R07_Drop.f] at H0
 refine spec_of [(0, _), (1, _)] [(0, _)] 42 Try.func33 R Try.ntmps33 R R R R (fun β W F => ?_)
 refine G.seq <| G.rg <| K.nilRow 100 54 eTR07Elem 2 (.inl R) g0 R R R <| K.alloc Y 101 _ g0 t54 R R R R R <| K.as R R <| K.nil <| At.ns ?_
 obtain ⟨x1, hx1, H0⟩ := bnd H0
 refine G.rg <| K.mv R R <| K.mv R R <| K.cV (cf 34 R) [0] (fun β w S2 h => R07_Rank_con (la 0 R eTR07Elem_len R h) hx1) g0 (fun _ => R) R R R <| K.as R R <| K.nil <| At.next ?_
 obtain ⟨x2, H1, H0⟩ := bnd H0
 refine G.sJ (σ := { v : Unit // x2 = Sum.inr v }) (fun q => [(0, .a (.c (.nv 0))), (5, .a (.c (.p 102 0))), (7, .a (.c (.v (.int .i64 x1))))]) (fun q => [(0, lrow 0 54 eTR07Elem 2 l0), (102, blk 102 [.v (.int .i64 0), .v (.int .i64 0)] 54)]) ?_ ?_
 ·
  refine G.seq ?_
  rcases Bool.eq_false_or_eq_true (x1 == (l0.length : Int)) with h1 | h1
  ·
   replace H1 := bif_t H1 h1
   refine G.rg <| K.mv R R <| K.mv R R <| K.lenL (lrowV 0 54 eTR07Elem 2 l0) (lrowV_is eTR07Elem_len (by decide)) g0 R R Try.underlying26 R <| K.bin (V := .bool (x1 == (l0.length : Int))) g0 R R (fun _ => R) R <| K.mv R R <| K.sk R R h1 R <| K.sk R R h1 R <| K.sk R R h1 R <| K.sk R R h1 R <| K.sk R R h1 R <| K.sk R R h1 R <| K.sk R R h1 R <| K.pickT g0 R (h1) R R <| K.nil <| At.next <| G.cond R (fun h2 => ?_) (fun h2 => ?_)
   ·
    refine G.seq <| G.rg <| K.mv R R <| K.build Y [] [_, _] [] g0 (AllE.spec trivial) R R t54 R R <| K.as R R <| K.store Y _ g0 R R R t54 R R R R R <| K.as R R <| K.nil <| At.next <| G.ret <| At.over_ret ?_
    cases H1
    replace H0 := sum_l H0
    refine At.ren (fs' := [(4, .a (.c (.nv 30))), (5, .a (.c (.p 101 0))), (6, .a (.c (.v (.bool false))))]) (tl := [(30, lrow 30 54 eTR07Elem 2 l0), (101, blk 101 [.v (.int .i64 0), .v (.int .i64 0)] 54)]) [(30, 0)] [_, _] R ⟨R, R, R, trivial⟩ ⟨R, (lrow_ren R), R, (blk_ren R R), trivial⟩ R <| At.done Y [(.tmp 4, .c _), (.cell 5 54, .agg [_, _]), (.tmp 6, .c _)] R ⟨.tmp R, .st R R t54 R R, .tmp R, trivial⟩ (to' := [(30, _)]) ⟨R, trivial⟩ ?_ ?_ R R R (.inl R)
    · cases H0; rfl
    · cases H0; rfl
   · cases h2
  ·
   replace H1 := bif_f H1 h1
   obtain ⟨x3, hx3, H1⟩ := bnd H1
   refine G.rg <| K.mv R R <| K.mv R R <| K.lenL (lrowV 0 54 eTR07Elem 2 l0) (lrowV_is eTR07Elem_len (by decide)) g0 R R Try.underlying26 R <| K.bin (V := .bool (x1 == (l0.length : Int))) g0 R R (fun _ => R) R <| K.mv R R <| K.move (.inl R) (g1 R R h1) R R <| K.move (.inl R) (g1 R R h1) R R <| K.idxL (lrowV 0 54 eTR07Elem 2 l0) ((x1).toNat) (lrowV_is eTR07Elem_len (by decide)) (atL_get hx3) (atL_nn hx3) (g1 R R h1) R R R Try.underlying26 el26.size_run R <| K.fieldL Y (lrowV 0 54 eTR07Elem 2 l0) ((x1).toNat) 0 0 (lrowV_is eTR07Elem_len (by decide)) (atL_get hx3) (g1 R R h1) R R t54 R R R R <| K.load1L Y (lrowV 0 54 eTR07Elem 2 l0) ((x1).toNat) 0 (lrowV_is eTR07Elem_len (by decide)) (atL_get hx3) (g1 R R h1) R R t3 R R <| K.move (.inl R) (g1 R R h1) R R <| K.bin (V := .bool (x3.k != a1)) (g1 R R h1) R R (fun _ => R) R <| K.pickF g0 R (h1) R R <| K.nil <| At.next <| G.cond R (fun h3 => ?_) (fun h3 => ?_)
   ·
    replace H1 := bif_t H1 h3
    refine G.seq <| G.rg <| K.mv R R <| K.build Y [] [_, _] [] g0 (AllE.spec trivial) R R t54 R R <| K.as R R <| K.store Y _ g0 R R R t54 R R R R R <| K.as R R <| K.nil <| At.next <| G.ret <| At.over_ret ?_
    cases H1
    replace H0 := sum_l H0
    refine At.ren (fs' := [(4, .a (.c (.nv 30))), (5, .a (.c (.p 101 0))), (6, .a (.c (.v (.bool false))))]) (tl := [(30, lrow 30 54 eTR07Elem 2 l0), (101, blk 101 [.v (.int .i64 0), .v (.int .i64 0)] 54)]) [(30, 0)] [_, _] R ⟨R, R, R, trivial⟩ ⟨R, (lrow_ren R), R, (blk_ren R R), trivial⟩ R <| At.done Y [(.tmp 4, .c _), (.cell 5 54, .agg [_, _]), (.tmp 6, .c _)] R ⟨.tmp R, .st R R t54 R R, .tmp R, trivial⟩ (to' := [(30, _)]) ⟨R, trivial⟩ ?_ ?_ R R R (.inl R)
    · cases H0; rfl
    · cases H0; rfl
   ·
    replace H1 := bif_f H1 h3
    exact G.skip <| At.jd ⟨(), oi H1⟩ [(102, 101)] [_, _] R ⟨R, R, R, trivial⟩ ⟨R, (lrow_ren R), R, (blk_ren R R), trivial⟩ R
 ·
  rintro ⟨w2, rfl⟩
  replace H0 := sum_r H0
  show G _ _ [(0, .a (.c (.nv 0))), (5, .a (.c (.p 102 0))), (7, .a (.c (.v (.int .i64 x1))))] [(0, some (lrow 0 54 eTR07Elem 2 l0)), (102, some (blk 102 [.v (.int .i64 0), .v (.int .i64 0)] 54))] _ _
  refine G.seq <| G.rg <| K.nilRow 103 54 eTR07Elem 2 (.inl R) g0 R R R <| K.nil <| At.ns ?_
  obtain ⟨h4, H0⟩ := grd H0
  obtain ⟨h6, H0⟩ := grd H0
  refine G.rg <| K.mv R R <| K.mv R R <| K.mv R R <| K.partL 0 ((x1).toNat) g0 R .no (.at_ R h4.1 R) R Try.underlying26 el26.size_run (Nat.zero_le _) (tn_len h4.2) R <| K.appendL 104 (lsubV 0 54 eTR07Elem 2 l0 0 ((x1).toNat)) _ el26 (lsubV_is eTR07Elem_len (by decide) (Nat.zero_le _) (tn_len h4.2)) eTR07Elem_one g0 R R R R R (ap_m h6) (ap_b h6 (by decide)) R R R R R R <| K.as R R <| K.nil <| At.ns ?_
  obtain ⟨h7, H0⟩ := grd H0
  obtain ⟨h9, H0⟩ := grd H0
  obtain ⟨x4, hx4, H0⟩ := bnd H0
  refine G.rd mixed <| K.mv R R <| K.mv R R <| K.mv R R <| K.bin (V := .int .i64 (w64 (x1 + 1))) g0 R R (fun _ => R) R <| K.partL (((w64 (x1 + 1))).toNat) l0.length g0 R (.at_ R h7.1 R) .no R Try.underlying26 el26.size_run (tn_len h7.2) (Nat.le_refl _) R <| K.appendL 105 (lsubV 0 54 eTR07Elem 2 l0 (((w64 (x1 + 1))).toNat) l0.length) _ el26 (lsubV_is eTR07Elem_len (by decide) (tn_len h7.2) (Nat.le_refl _)) eTR07Elem_one g0 R R R R R (ap_m h9) (ap_b h9 (by decide)) R R R R R R <| K.mv R R <| K.mv R R <| K.idxL (lrowV 0 54 eTR07Elem 2 l0) ((x1).toNat) (lrowV_is eTR07Elem_len (by decide)) (atL_get hx4) (atL_nn hx4) g0 R R R Try.underlying26 el26.size_run R <| K.loadSL Y (lrowV 0 54 eTR07Elem 2 l0) ((x1).toNat) 0 [_, _] [_, _] (lrowV_is eTR07Elem_len (by decide)) (atL_get hx4) g0 R R t54 R R R R R <| K.as R R <| K.store Y _ g0 R R R t54 R R R R R <| K.as R R <| K.nil <| And.intro (by kernel_rfl) <| At.next <| G.ret <| At.ren (fs' := [(4, .a (.c (.nv 30))), (5, .a (.c (.p 102 0))), (6, .a (.c (.v (.bool true))))]) (tl := [(30, lrow 30 54 eTR07Elem 2 ((([] : List TR07Elem) ++ ((l0.drop 0).take (((x1).toNat) - 0))) ++ ((l0.drop (((w64 (x1 + 1))).toNat)).take (l0.length - (((w64 (x1 + 1))).toNat))))), (102, blk 102 [.v (.int .i64 x4.k), .v (.int .i64 x4.w)] 54)]) [(30, 105)] [_, _] R ⟨R, R, R, trivial⟩ ⟨R, (lrow_ren R), R, (blk_ren R R), trivial⟩ R <| At.done Y [(.tmp 4, .c _), (.cell 5 54, .agg [_, _]), (.tmp 6, .c _)] R ⟨.tmp R, .st R R t54 R R, .tmp R, trivial⟩ (to' := [(30, _)]) ⟨R, trivial⟩ ?_ ?_ R R R (.inl R)
  · cases H0; rfl
  · cases H0; rfl
theorem R07_Drop_o0_con {k : Nat}  {l0 : List TR07Elem} {a1 : Int} {r : List TR07Elem × TR07Elem × Bool}  (H0 : R07_Drop.f k l0 a1 = some r) (m0 m30 : Nat) (hd : ndB [m0, m30] = true) : R07_Drop_o0_st l0 a1 r m0 m30 :=
 SCon.ren (rn [(0, m0), (30, m30)]) (R07_Drop_o0_con0 (k := k)   H0) ⟨(lrow_ren R), trivial⟩ ⟨(lrow_ren R), trivial⟩ (rn_nd hd R R) (rn_ks hd R R R)
abbrev R07_Put_o0_st (l0 : List TR07Elem) (a1 : TR07Elem) (a2 : Int) (r : List TR07Elem × Bool) (m0 : Nat) (m30 : Nat) : Prop := SCon Try.prog 32 [.a (.c (.nv m0)), .a (.agg ((eTR07Elem a1).map .v)), .a (.c (.v (.int .i64 a2)))] [(m0, lrow m0 54 eTR07Elem 2 l0)] (.tup [.c (.nv m30), .c (.v (.bool r.2))]) [(m30, lrow m30 54 eTR07Elem 2 r.1)] [m30]
theorem R07_Put_o0_con0 {k : Nat}  {l0 : List TR07Elem} {a1 : TR07Elem} {a2 : Int} {r : List TR07Elem × Bool}  (H0 : R07_Put.f k l0 a1 a2 = some r) : R07_Put_o0_st l0 a1 a2 r 0 30 := by
 rw [R07_Put.f] at H0
 refine spec_of [(0, _), (1, _), (2, _)] [(0, _)] 57 Try.func32 R Try.ntmps32 R R R R (fun β W F => ?_)
 refine G.seq <| G.rg <| K.box Y 100 _ g0 R R R R R R <| K.nilRow 101 54 eTR07Elem 2 (.inl R) g0 R R R <| K.as R R <| K.nil <| At.ns ?_
 obtain ⟨x1, hx1, H0⟩ := bnd H0
 refine G.rg <| K.mv R R <| K.fieldAddr Y g0 R t54 R R <| K.load1 Y g0 R R t3 R R <| K.cV (cf 34 R) [0] (fun β w S2 h => R07_Rank_con (la 0 R eTR07Elem_len R h) hx1) g0 (fun _ => R) R R R <| K.as R R <| K.nil <| At.nr <| K.nilRow 102 54 eTR07Elem 2 (.inl R) g0 R R R <| K.nil <| At.ns ?_
 obtain ⟨h1, H0⟩ := grd H0
 obtain ⟨h3, H0⟩ := grd H0
 refine G.rg <| K.mv R R <| K.mv R R <| K.mv R R <| K.partL 0 ((x1).toNat) g0 R .no (.at_ R h1.1 R) R Try.underlying26 el26.size_run (Nat.zero_le _) (tn_len h1.2) R <| K.appendL 103 (lsubV 0 54 eTR07Elem 2 l0 0 ((x1).toNat)) _ el26 (lsubV_is eTR07Elem_len (by decide) (Nat.zero_le _) (tn_len h1.2)) eTR07Elem_one g0 R R R R R (ap_m h3) (ap_b h3 (by decide)) R R R R R R <| K.as R R <| K.nil <| At.next ?_
 obtain ⟨x2, H1, H0⟩ := bnd H0
 refine G.sJ (σ := { v : Unit // x2 = Sum.inr v }) (fun q => [(0, .a (.c (.nv 0))), (2, .a (.c (.v (.int .i64 a2)))), (4, .a (.c (.p 104 0))), (8, .a (.c (.v (.int .i64 x1)))), (9, .a (.c (.nv 105)))]) (fun q => [(0, lrow 0 54 eTR07Elem 2 l0), (104, blk 104 [.v (.int .i64 a1.k), .v (.int .i64 a1.w)] 54), (105, lrow 105 54 eTR07Elem 2 (([] : List TR07Elem) ++ ((l0.drop 0).take (((x1).toNat) - 0))))]) ?_ ?_
 ·
  refine G.seq ?_
  rcases Bool.eq_false_or_eq_true (decide (x1 < (l0.length : Int))) with h4 | h4
  ·
   replace H1 := bif_t H1 h4
   obtain ⟨x3, hx3, H1⟩ := bnd H1
   refine G.rd mixed <| K.mv R R <| K.mv R R <| K.lenL (lrowV 0 54 eTR07Elem 2 l0) (lrowV_is eTR07Elem_len (by decide)) g0 R R Try.underlying26 R <| K.bin (V := .bool (decide (x1 < (l0.length : Int)))) g0 R R (fun _ => R) R <| K.mv R R <| K.move (.inl R) (g1 R R h4) R R <| K.move (.inl R) (g1 R R h4) R R <| K.idxL (lrowV 0 54 eTR07Elem 2 l0) ((x1).toNat) (lrowV_is eTR07Elem_len (by decide)) (atL_get hx3) (atL_nn hx3) (g1 R R h4) R R R Try.underlying26 el26.size_run R <| K.fieldL Y (lrowV 0 54 eTR07Elem 2 l0) ((x1).toNat) 0 0 (lrowV_is eTR07Elem_len (by decide)) (atL_get hx3) (g1 R R h4) R R t54 R R R R <| K.load1L Y (lrowV 0 54 eTR07Elem 2 l0) ((x1).toNat) 0 (lrowV_is eTR07Elem_len (by decide)) (atL_get hx3) (g1 R R h4) R R t3 R R <| K.fieldAddr Y (g1 R R h4) R t54 R R <| K.load1 Y (g1 R R h4) R R t3 R R <| K.bin (V := .bool (x3.k == a1.k)) (g1 R R h4) R R (fun _ => R) R <| K.pickT g0 R (h4) R R <| K.nil <| And.intro (by kernel_rfl) <| At.next <| G.cond R (fun h5 => ?_) (fun h5 => ?_)
   ·
    replace H1 := bif_t H1 h5
    refine G.seq ?_
    obtain ⟨h6, H1⟩ := grd H1
    refine G.rg <| K.mv R R <| K.loadS Y _ g0 R R t54 R R R <| K.buildL Y 106 ([a1] : List TR07Elem) [(0, _)] [((.tmp 34), _)] eTR07Elem_len g0 (AllE.spec ⟨R, trivial⟩) R R Try.underlying26 t54 R R R R R R R R <| K.appendL 107 (lrowV 106 54 eTR07Elem 2 ([a1] : List TR07Elem)) _ el26 (lrowV_is eTR07Elem_len (by decide)) eTR07Elem_one g0 R R R R R (ap_m h6) (ap_b h6 (by decide)) R R R R R R <| K.as R R <| K.nil <| At.ns ?_
    obtain ⟨h7, H1⟩ := grd H1
    obtain ⟨h9, H1⟩ := grd H1
    refine G.rg <| K.mv R R <| K.mv R R <| K.mv R R <| K.bin (V := .int .i64 (w64 (x1 + 1))) g0 R R (fun _ => R) R <| K.partL (((w64 (x1 + 1))).toNat) l0.length g0 R (.at_ R h7.1 R) .no R Try.underlying26 el26.size_run (tn_len h7.2) (Nat.le_refl _) R <| K.appendL 108 (lsubV 0 54 eTR07Elem 2 l0 (((w64 (x1 + 1))).toNat) l0.length) _ el26 (lsubV_is eTR07Elem_len (by decide) (tn_len h7.2) (Nat.le_refl _)) eTR07Elem_one g0 R R R R R (ap_m h9) (ap_b h9 (by decide)) R R R R R R <| K.as R R <| K.as R R <| K.nil <| At.next <| G.ret <| At.over_ret ?_
    cases H1
    replace H0 := sum_l H0
    exact At.ren (fs' := [(6, .a (.c (.nv 30))), (7, .a (.c (.v (.bool true))))]) (tl := [(30, lrow 30 54 eTR07Elem 2 (((([] : List TR07Elem) ++ ((l0.drop 0).take (((x1).toNat) - 0))) ++ ([a1] : List TR07Elem)) ++ ((l0.drop (((w64 (x1 + 1))).toNat)).take (l0.length - (((w64 (x1 + 1))).toNat)))))]) [(30, 108)] [_] R ⟨R, R, trivial⟩ ⟨R, (lrow_ren R), trivial⟩ R <| At.dr Y [6, 7] R R (by cases H0; rfl) (by cases H0; rfl) R R R
   ·
    replace H1 := bif_f H1 h5
    exact G.skip <| At.jd ⟨(), oi H1⟩ [(104, 100), (105, 103)] [_, _, _] R ⟨R, R, R, R, R, trivial⟩ ⟨R, (lrow_ren R), R, (blk_ren R R), R, (lrow_ren R), trivial⟩ R
  ·
   replace H1 := bif_f H1 h4
   refine G.rd mixed <| K.mv R R <| K.mv R R <| K.lenL (lrowV 0 54 eTR07Elem 2 l0) (lrowV_is eTR07Elem_len (by decide)) g0 R R Try.underlying26 R <| K.bin (V := .bool (decide (x1 < (l0.length : Int)))) g0 R R (fun _ => R) R <| K.mv R R <| K.sk R R h4 R <| K.sk R R h4 R <| K.sk R R h4 R <| K.sk R R h4 R <| K.sk R R h4 R <| K.sk R R h4 R <| K.sk R R h4 R <| K.sk R R h4 R <| K.pickF g0 R (h4) R R <| K.nil <| And.intro (by kernel_rfl) <| At.next <| G.cond R (fun h10 => ?_) (fun h10 => ?_)
   · cases h10
   ·
    exact G.skip <| At.jd ⟨(), oi H1⟩ [(104, 100), (105, 103)] [_, _, _] R ⟨R, R, R, R, R, trivial⟩ ⟨R, (lrow_ren R), R, (blk_ren R R), R, (lrow_ren R), trivial⟩ R
 ·
  rintro ⟨w2, rfl⟩
  replace H0 := sum_r H0
  show G _ _ [(0, .a (.c (.nv 0))), (2, .a (.c (.v (.int .i64 a2)))), (4, .a (.c (.p 104 0))), (8, .a (.c (.v (.int .i64 x1)))), (9, .a (.c (.nv 105)))] [(0, some (lrow 0 54 eTR07Elem 2 l0)), (104, some (blk 104 [.v (.int .i64 a1.k), .v (.int .i64 a1.w)] 54)), (105, some (lrow 105 54 eTR07Elem 2 (([] : List TR07Elem) ++ ((l0.drop 0).take (((x1).toNat) - 0)))))] _ _
  refine G.seq <| G.seq <| G.rg <| K.mv R R <| K.lenL (lrowV 0 54 eTR07Elem 2 l0) (lrowV_is eTR07Elem_len (by decide)) g0 R R Try.underlying26 R <| K.mv R R <| K.bin (V := .bool (decide ((l0.length : Int) ≥ a2))) g0 R R (fun _ => R) R <| K.nil <| At.next <| G.cond R (fun h11 => ?_) (fun h11 => ?_)
  ·
   replace H0 := bif_t H0 h11
   exact G.seq <| G.rg <| K.mv R R <| K.as R R <| K.as R R <| K.nil <| At.next <| G.ret <| At.over_ret <| At.ren (fs' := [(6, .a (.c (.nv 30))), (7, .a (.c (.v (.bool false))))]) (tl := [(30, lrow 30 54 eTR07Elem 2 l0)]) [(30, 0)] [_] R ⟨R, R, trivial⟩ ⟨R, (lrow_ren R), trivial⟩ R <| At.dr Y [6, 7] R R (by cases H0; rfl) (by cases H0; rfl) R R R
  ·
   replace H0 := bif_f H0 h11
   refine G.skip <| At.ns ?_
   obtain ⟨h12, H0⟩ := grd H0
   refine G.rg <| K.mv R R <| K.loadS Y _ g0 R R t54 R R R <| K.buildL Y 109 ([a1] : List TR07Elem) [(0, _)] [((.tmp 49), _)] eTR07Elem_len g0 (AllE.spec ⟨R, trivial⟩) R R Try.underlying26 t54 R R R R R R R R <| K.appendL 110 (lrowV 109 54 eTR07Elem 2 ([a1] : List TR07Elem)) _ el26 (lrowV_is eTR07Elem_len (by decide)) eTR07Elem_one g0 R R R R R (ap_m h12) (ap_b h12 (by decide)) R R R R R R <| K.as R R <| K.nil <| At.ns ?_
   obtain ⟨h13, H0⟩ := grd H0
   obtain ⟨h15, H0⟩ := grd H0
   exact G.rg <| K.mv R R <| K.mv R R <| K.mv R R <| K.partL ((x1).toNat) l0.length g0 R (.at_ R h13.1 R) .no R Try.underlying26 el26.size_run (tn_len h13.2) (Nat.le_refl _) R <| K.appendL 111 (lsubV 0 54 eTR07Elem 2 l0 ((x1).toNat) l0.length) _ el26 (lsubV_is eTR07Elem_len (by decide) (tn_len h13.2) (Nat.le_refl _)) eTR07Elem_one g0 R R R R R (ap_m h15) (ap_b h15 (by decide)) R R R R R R <| K.as R R <| K.as R R <| K.nil <| At.next <| G.ret <| At.ren (fs' := [(6, .a (.c (.nv 30))), (7, .a (.c (.v (.bool true))))]) (tl := [(30, lrow 30 54 eTR07Elem 2 (((([] : List TR07Elem) ++ ((l0.drop 0).take (((x1).toNat) - 0))) ++ ([a1] : List TR07Elem)) ++ ((l0.drop ((x1).toNat)).take (l0.length - ((x1).toNat)))))]) [(30, 111)] [_] R ⟨R, R, trivial⟩ ⟨R, (lrow_ren R), trivial⟩ R <| At.dr Y [6, 7] R R (by cases H0; rfl) (by cases H0; rfl) R R R
theorem R07_Put_o0_con {k : Nat}  {l0 : List TR07Elem} {a1 : TR07Elem} {a2 : Int} {r : List TR07Elem × Bool}  (H0 : R07_Put.f k l0 a1 a2 = some r) (m0 m30 : Nat) (hd : ndB [m0, m30] = true) : R07_Put_o0_st l0 a1 a2 r m0 m30 :=
 SCon.ren (rn [(0, m0), (30, m30)]) (R07_Put_o0_con0 (k := k)   H0) ⟨(lrow_ren R), trivial⟩ ⟨(lrow_ren R), trivial⟩ (rn_nd hd R R) (rn_ks hd R R R)
abbrev R07_Same_st (S : Foot) (W0 : World) (s0 : Value) (s1 : Value) (r : Bool) : Prop := SCon Try.prog 70 [SV.raw s0, SV.raw s1] [(0, rd S W0)] (.a (.c (.v (.bool r)))) [(0, rd S W0)] []
theorem R07_Same_con0 {k : Nat}  {S : Foot} {W0 : World} {s0 : Value} {s1 : Value} {l0 : List TR07Elem} {l1 : List TR07Elem} {r : Bool} (hL0 : LArg S W0 s0 eTR07Elem 2 l0) (hL1 : LArg S W0 s1 eTR07Elem 2 l1) (H0 : R07_Same.f k l0 l1 = some r) : R07_Same_st S W0 s0 s1 r := by
 rw [R07_Same.f] at H0
 obtain ⟨b0, o0, hI0⟩ := hL0
 obtain ⟨b1, o1, hI1⟩ := hL1
 refine spec_of [(0, _), (1, _)] [(0, _)] 26 Try.func70 R Try.ntmps70 R R R R (fun β W F => ?_)
 refine G.seq <| G.rg <| K.as R R <| K.nil <| At.ns <| G.seq <| G.rg <| K.mv R R <| K.lenL (rV 0 S W0 s0 b0 o0 eTR07Elem 2 l0) (hI0.is 0) g0 R R Try.underlying26 R <| K.mv R R <| K.lenL (rV 0 S W0 s1 b1 o1 eTR07Elem 2 l1) (hI1.is 0) g0 R R Try.underlying26 R <| K.bin (V := .bool ((l0.length : Int) != (l1.length : Int))) g0 R R (fun _ => R) R <| K.nil <| At.next <| G.cond R (fun h1 => ?_) (fun h1 => ?_)
 ·
  replace H0 := bif_t H0 h1
  exact G.seq <| G.rg <| K.as R R <| K.nil <| At.next <| G.ret <| At.over_ret <| At.dr Y [4] R R (by cases H0; rfl) (by cases H0; rfl) R R R
 ·
  replace H0 := bif_f H0 h1
  refine G.skip <| At.next ?_
  obtain ⟨x1, H1, H0⟩ := bnd H0
  refine G.sJ (σ := { v : Unit // x1 = Sum.inr v }) (fun q => []) (fun q => [(0, rd S W0)]) ?_ ?_
  ·
   refine G.seq <| G.rg <| K.as R R <| K.nil <| At.next <| G.block <| G.lp (σ := { q : Nat × (Int) // R07_Same.l0 k l0 l1 q.1 q.2 = some x1 }) (fun q => [(0, SV.raw s0), (1, SV.raw s1), (5, .a (.c (.v (.int .i64 q.1.2))))]) (fun q => [(0, rd S W0)]) (fun q => q.1.1) ⟨(k, 0), H1⟩ ?_ ?_
   · exact At.into [] [_] R ⟨R, R, R, trivial⟩ ⟨R, (fun _ => R), trivial⟩ R
   ·
    rintro ⟨⟨n0, v1⟩, H1⟩
    show G _ _ [(0, SV.raw s0), (1, SV.raw s1), (5, .a (.c (.v (.int .i64 v1))))] [(0, some (rd S W0))] _ _
    cases n0 with
    | zero => exact absurd H1 (by simp [R07_Same.l0])
    | succ n0 =>
     have HL0 := H1
     rw [R07_Same.l0] at H1
     refine G.seq <| G.seq <| G.rg <| K.mv R R <| K.mv R R <| K.lenL (rV 0 S W0 s0 b0 o0 eTR07Elem 2 l0) (hI0.is 0) g0 R R Try.underlying26 R <| K.bin (V := .bool (decide (v1 < (l0.length : Int)))) g0 R R (fun _ => R) R <| K.nil <| At.next <| G.cond R (fun h2 => ?_) (fun h2 => ?_)
     ·
      replace H1 := bif_t H1 h2
      refine G.skip <| At.ns <| G.block <| G.seq ?_
      obtain ⟨x2, hx2, H1⟩ := bnd H1
      obtain ⟨x3, hx3, H1⟩ := bnd H1
      refine G.rd mixed <| K.mv R R <| K.mv R R <| K.idxL (rV 0 S W0 s0 b0 o0 eTR07Elem 2 l0) ((v1).toNat) (hI0.is 0) (atL_get hx2) (atL_nn hx2) g0 R R R Try.underlying26 el26.size_run R <| K.loadSL Y (rV 0 S W0 s0 b0 o0 eTR07Elem 2 l0) ((v1).toNat) 0 [_, _] [_, _] (hI0.is 0) (atL_get hx2) g0 R R t54 R R R R R <| K.mv R R <| K.mv R R <| K.idxL (rV 0 S W0 s1 b1 o1 eTR07Elem 2 l1) ((v1).toNat) (hI1.is 0) (atL_get hx3) (atL_nn hx3) g0 R R R Try.underlying26 el26.size_run R <| K.loadSL Y (rV 0 S W0 s1 b1 o1 eTR07Elem 2 l1) ((v1).toNat) 0 [_, _] [_, _] (hI1.is 0) (atL_get hx3) g0 R R t54 R R R R R <| K.eqS [_, _] [_, _] g0 R R cmp54 R (.inr R) (!((x2.k == x3.k) && ((x2.w == x3.w) && true))) R R <| K.nil <| And.intro (by kernel_rfl) <| At.next <| G.cond R (fun h3 => ?_) (fun h3 => ?_)
      ·
       replace H1 := bif_t H1 h3
       refine G.seq <| G.rg <| K.as R R <| K.nil <| At.next <| G.ret <| At.block_ret <| At.over_ret <| At.over_ret <| At.block_ret <| At.over_ret ?_
       cases H1
       replace H0 := sum_l H0
       exact At.dr Y [4] R R (by cases H0; rfl) (by cases H0; rfl) R R R
      ·
       replace H1 := bif_f H1 h3
       exact G.skip <| At.block_normal <| At.next <| G.rg <| K.mv R R <| K.bin (V := .int .i64 (w64 (v1 + 1))) g0 R R (fun _ => R) R <| K.as R R <| K.nil <| At.ag ⟨(n0, (w64 (v1 + 1))), H1⟩ [] [_] (Nat.lt_succ_self _) R ⟨R, R, R, trivial⟩ ⟨R, (fun _ => R), trivial⟩ R
     ·
      replace H1 := bif_f H1 h2
      exact G.exit <| At.over_exit <| At.over_exit <| At.block_hit <| At.jd ⟨(), oi H1⟩ [] [_] R trivial ⟨R, (fun _ => R), trivial⟩ R
  ·
   rintro ⟨w1, rfl⟩
   replace H0 := sum_r H0
   show G _ _ [] [(0, some (rd S W0))] _ _
   exact G.seq <| G.rg <| K.as R R <| K.nil <| At.next <| G.ret <| At.dr Y [4] R R (by cases H0; rfl) (by cases H0; rfl) R R R
theorem R07_Same_con {k : Nat}  {S : Foot} {W0 : World} {s0 : Value} {s1 : Value} {l0 : List TR07Elem} {l1 : List TR07Elem} {r : Bool} (hL0 : LArg S W0 s0 eTR07Elem 2 l0) (hL1 : LArg S W0 s1 eTR07Elem 2 l1) (H0 : R07_Same.f k l0 l1 = some r) : R07_Same_st S W0 s0 s1 r :=
 SCon.ren (rn []) (R07_Same_con0 (k := k)  hL0 hL1 H0) ⟨(fun _ => R), trivial⟩ ⟨(fun _ => R), trivial⟩ (by simp) (by simp)
abbrev Lw07_alike_st (S : Foot) (W0 : World) (s1 : Value) (p2 : Pool (TNode TL07Elem TTide)) (rt0 : TRef) (r : Bool) (m1 : Nat) (m2 : Nat) : Prop := SCon Try.prog 36 [SV.p m1 0, SV.raw s1] [(0, rd S W0), (m1, blk m1 [.p m2 0, .i rt0.index, .i rt0.gen] 101), (m2, plE m2 p2)] (.a (.c (.v (.bool r)))) [(0, rd S W0), (m1, blk m1 [.p m2 0, .i rt0.index, .i rt0.gen] 101), (m2, plE m2 p2)] []
theorem Lw07_alike_con0 {k : Nat}  {S : Foot} {W0 : World} {s1 : Value} {p2 : Pool (TNode TL07Elem TTide)} {rt0 : TRef} {l1 : List TR07Elem} {r : Bool} (hL1 : LArg S W0 s1 eTR07Elem 2 l1) (H0 : Lw07_alike.f k p2 rt0 l1 = some r) : Lw07_alike_st S W0 s1 p2 rt0 r 1 2 := by
 rw [Lw07_alike.f] at H0
 obtain ⟨b1, o1, hI1⟩ := hL1
 refine spec_of [(0, _), (1, _)] [(0, _), (1, _), (2, _)] 40 Try.func36 R Try.ntmps36 R R R R (fun β W F => ?_)
 refine G.seq <| G.rg <| K.as R R <| K.nil <| At.nr <| K.nilRow 100 54 eTR07Elem 2 (.inl R) g0 R R R <| K.nil <| At.ns ?_
 obtain ⟨x1, hx1, H0⟩ := bnd H0
 refine G.rg <| K.mv R R <| K.c0 (cf 37 R) (Tree_AllE_con hx1 1 2 101 R) g0 R R R R <| K.as R R <| K.nil <| At.next ?_
 obtain ⟨x2, H1, H0⟩ := bnd H0
 refine G.sJ (σ := { v : List TR07Elem // x2 = v }) (fun q => [(0, .a (.c (.p 1 0))), (1, SV.raw s1), (5, .a (.c (.nv 102)))]) (fun q => [(0, rd S W0), (2, plE 2 p2), (1, blk 1 [.p 2 0, .v (.int .i64 rt0.index), .v (.int .i64 rt0.gen)] 101), (102, lrow 102 54 eTR07Elem 2 q.1)]) ?_ ?_
 ·
  refine G.seq <| G.rg <| K.as R R <| K.nil <| At.next <| G.block <| G.lp (σ := { q : Nat × (List TR07Elem × Int) // Lw07_alike.l0 k x1 q.1 q.2 = some x2 }) (fun q => [(0, .a (.c (.p 1 0))), (1, SV.raw s1), (5, .a (.c (.nv 107))), (6, .a (.c (.nv 108))), (7, .a (.c (.v (.int .i64 q.1.2.2))))]) (fun q => [(0, rd S W0), (2, plE 2 p2), (1, blk 1 [.p 2 0, .v (.int .i64 rt0.index), .v (.int .i64 rt0.gen)] 101), (107, lrow 107 54 eTR07Elem 2 q.1.2.1), (108, lrow 108 35 eTL07Elem 2 x1)]) (fun q => q.1.1) ⟨(k, (([] : List TR07Elem), 0)), H1⟩ ?_ ?_
  · exact At.into [(107, 100), (108, 101)] [_, _, _, _, _] R ⟨R, R, R, R, R, trivial⟩ ⟨R, (fun _ => R), R, (pl_ren R), R, (blk_ren R R), R, (lrow_ren R), R, (lrow_ren R), trivial⟩ R
  ·
   rintro ⟨⟨n0, v1, v2⟩, H1⟩
   show G _ _ [(0, .a (.c (.p 1 0))), (1, SV.raw s1), (5, .a (.c (.nv 107))), (6, .a (.c (.nv 108))), (7, .a (.c (.v (.int .i64 v2))))] [(0, some (rd S W0)), (2, some (plE 2 p2)), (1, some (blk 1 [.p 2 0, .v (.int .i64 rt0.index), .v (.int .i64 rt0.gen)] 101)), (107, some (lrow 107 54 eTR07Elem 2 v1)), (108, some (lrow 108 35 eTL07Elem 2 x1))] _ _
   cases n0 with
   | zero => exact absurd H1 (by simp [Lw07_alike.l0])
   | succ n0 =>
    have HL0 := H1
    rw [Lw07_alike.l0] at H1
    refine G.seq <| G.seq <| G.rg <| K.mv R R <| K.mv R R <| K.lenL (lrowV 108 35 eTL07Elem 2 x1) (lrowV_is eTL07Elem_len (by decide)) g0 R R Try.underlying61 R <| K.bin (V := .bool (decide (v2 < (x1.length : Int)))) g0 R R (fun _ => R) R <| K.nil <| At.next <| G.cond R (fun h1 => ?_) (fun h1 => ?_)
    ·
     replace H1 := bif_t H1 h1
     refine G.skip <| At.ns <| G.block ?_
     obtain ⟨x3, hx3, H1⟩ := bnd H1
     obtain ⟨h2, H1⟩ := grd H1
     exact G.rd mixed <| K.mv R R <| K.mv R R <| K.mv R R <| K.idxL (lrowV 108 35 eTL07Elem 2 x1) ((v2).toNat) (lrowV_is eTL07Elem_len (by decide)) (atL_get hx3) (atL_nn hx3) g0 R R R Try.underlying61 el61.size_run R <| K.fieldL Y (lrowV 108 35 eTL07Elem 2 x1) ((v2).toNat) 0 0 (lrowV_is eTL07Elem_len (by decide)) (atL_get hx3) g0 R R t35 R R R R <| K.load1L Y (lrowV 108 35 eTL07Elem 2 x1) ((v2).toNat) 0 (lrowV_is eTL07Elem_len (by decide)) (atL_get hx3) g0 R R t3 R R <| K.mv R R <| K.mv R R <| K.idxL (lrowV 108 35 eTL07Elem 2 x1) ((v2).toNat) (lrowV_is eTL07Elem_len (by decide)) (atL_get hx3) (atL_nn hx3) g0 R R R Try.underlying61 el61.size_run R <| K.fieldL Y (lrowV 108 35 eTL07Elem 2 x1) ((v2).toNat) 0 1 (lrowV_is eTL07Elem_len (by decide)) (atL_get hx3) g0 R R t35 R R R R <| K.load1L Y (lrowV 108 35 eTL07Elem 2 x1) ((v2).toNat) 1 (lrowV_is eTL07Elem_len (by decide)) (atL_get hx3) g0 R R t3 R R <| K.build Y [(0, _), (1, _)] [_, _] [((.tmp 21), _), ((.tmp 26), _)] g0 (AllE.spec ⟨R, R, trivial⟩) R R t54 R R <| K.buildL Y 109 ([(TR07Elem.mk x3.k x3.w)] : List TR07Elem) [(0, _)] [((.tmp 27), _)] eTR07Elem_len g0 (AllE.spec ⟨R, trivial⟩) R R Try.underlying26 t54 R R R R R R R R <| K.appendL 110 (lrowV 109 54 eTR07Elem 2 ([(TR07Elem.mk x3.k x3.w)] : List TR07Elem)) _ el26 (lrowV_is eTR07Elem_len (by decide)) eTR07Elem_one g0 R R R R R (ap_m h2) (ap_b h2 (by decide)) R R R R R R <| K.as R R <| K.nil <| And.intro (by kernel_rfl) <| At.block_normal <| At.next <| G.rg <| K.mv R R <| K.bin (V := .int .i64 (w64 (v2 + 1))) g0 R R (fun _ => R) R <| K.as R R <| K.nil <| At.ag ⟨(n0, ((v1 ++ ([(TR07Elem.mk x3.k x3.w)] : List TR07Elem)), (w64 (v2 + 1)))), H1⟩ [(107, 110)] [_, _, _, _, _] (Nat.lt_succ_self _) R ⟨R, R, R, R, R, trivial⟩ ⟨R, (fun _ => R), R, (pl_ren R), R, (blk_ren R R), R, (lrow_ren R), R, (lrow_ren R), trivial⟩ R
    ·
     replace H1 := bif_f H1 h1
     exact G.exit <| At.over_exit <| At.over_exit <| At.block_hit <| At.jd ⟨v1, oi H1⟩ [(102, 107)] [_, _, _, _] R ⟨R, R, R, trivial⟩ ⟨R, (fun _ => R), R, (pl_ren R), R, (blk_ren R R), R, (lrow_ren R), trivial⟩ R
 ·
  rintro ⟨_, rfl⟩
  show G _ _ [(0, .a (.c (.p 1 0))), (1, SV.raw s1), (5, .a (.c (.nv 102)))] [(0, some (rd S W0)), (2, some (plE 2 p2)), (1, some (blk 1 [.p 2 0, .v (.int .i64 rt0.index), .v (.int .i64 rt0.gen)] 101)), (102, some (lrow 102 54 eTR07Elem 2 x2))] _ _
  refine G.seq ?_
  obtain ⟨x4, hx4, H0⟩ := bnd H0
  rcases Bool.eq_false_or_eq_true (x4 == (l1.length : Int)) with h3 | h3
  ·
   replace H0 := bif_t H0 h3
   obtain ⟨x5, hx5, H0⟩ := bnd H0
   exact G.rg <| K.mv R R <| K.cR (cf 20 R) (Tree_LenE_con hx4 1 2) g0 R R R R <| K.mv R R <| K.lenL (rV 0 S W0 s1 b1 o1 eTR07Elem 2 l1) (hI1.is 0) g0 R R Try.underlying26 R <| K.bin (V := .bool (x4 == (l1.length : Int))) g0 R R (fun _ => R) R <| K.mv R R <| K.move (.inl R) (g1 R R h3) R R <| K.move (.inl R) (g1 R R h3) R R <| K.cV (cf 70 R) [102, 0] (fun β w S2 h => R07_Same_con (la 0 R eTR07Elem_len R h) ((hI1.isC 0).larg ⟨_, (List.mem_cons_of_mem _ List.mem_cons_self)⟩ h) hx5) (g1 R R h3) (fun _ => R) R R R <| K.pickT g0 R (h3) R R <| K.as R R <| K.nil <| At.next <| G.ret <| At.dr Y [4] R R (by cases H0; rfl) (by cases H0; rfl) R R R
  ·
   replace H0 := bif_f H0 h3
   exact G.rg <| K.mv R R <| K.cR (cf 20 R) (Tree_LenE_con hx4 1 2) g0 R R R R <| K.mv R R <| K.lenL (rV 0 S W0 s1 b1 o1 eTR07Elem 2 l1) (hI1.is 0) g0 R R Try.underlying26 R <| K.bin (V := .bool (x4 == (l1.length : Int))) g0 R R (fun _ => R) R <| K.mv R R <| K.sk R R h3 R <| K.sk R R h3 R <| K.sk R R h3 R <| K.pickF g0 R (h3) R R <| K.as R R <| K.nil <| At.next <| G.ret <| At.dr Y [4] R R (by cases H0; rfl) (by cases H0; rfl) R R R
theorem Lw07_alike_con {k : Nat}  {S : Foot} {W0 : World} {s1 : Value} {p2 : Pool (TNode TL07Elem TTide)} {rt0 : TRef} {l1 : List TR07Elem} {r : Bool} (hL1 : LArg S W0 s1 eTR07Elem 2 l1) (H0 : Lw07_alike.f k p2 rt0 l1 = some r) (m1 m2 : Nat) : Lw07_alike_st S W0 s1 p2 rt0 r m1 m2 :=
 SCon.ren (rn [(1, m1), (2, m2)]) (Lw07_alike_con0 (k := k)  hL1 H0) ⟨(fun _ => R), (blk_ren R R), (pl_ren R), trivial⟩ ⟨(fun _ => R), (blk_ren R R), (pl_ren R), trivial⟩ (by simp) (by simp)
abbrev Lw07_made_st (S : Foot) (W0 : World) (s0 : Value) (a1 : Int) (r : TRef × Pool (TNode TL07Elem TTide) × List TR07Elem × Bool) (m40 : Nat) (m41 : Nat) (m31 : Nat) : Prop := SCon Try.prog 13 [SV.raw s0, .a (.c (.v (.int .i64 a1)))] [(0, rd S W0)] (.tup [.c (.p m40 0), .c (.nv m31), .c (.v (.bool r.2.2.2))]) [(0, rd S W0), (m40, blk m40 [.p m41 0, .i r.1.index, .i r.1.gen] 101), (m41, plE m41 r.2.1), (m31, lrow m31 54 eTR07Elem 2 r.2.2.1)] [m40, m41, m31]
theorem Lw07_made_con0 {k : Nat}  {S : Foot} {W0 : World} {s0 : Value} {l0 : List TL07Act} {a1 : Int} {r : TRef × Pool (TNode TL07Elem TTide) × List TR07Elem × Bool} (hL0 : LArg S W0 s0 eTL07Act 3 l0) (H0 : Lw07_made.f k l0 a1 = some r) : Lw07_made_st S W0 s0 a1 r 40 41 31 := by
 rw [Lw07_made.f] at H0
 obtain ⟨b0, o0, hI0⟩ := hL0
 refine spec_of [(0, _), (1, _)] [(0, _)] 72 Try.func13 R Try.ntmps13 R R R R (fun β W F => ?_)
 refine G.seq <| G.rg <| K.as R R <| K.nilRow 100 54 eTR07Elem 2 (.inl R) g0 R R R <| K.as R R <| K.nil <| At.ns ?_
 obtain ⟨x1, hx1, H0⟩ := bnd H0
 refine G.rg <| K.mv R R <| K.c0 (cf 18 R) (Tree_NewE_con hx1 101 102 R) g0 R R R R <| K.as R R <| K.nil <| At.nr <| K.nilRow 103 54 eTR07Elem 2 (.inl R) g0 R R R <| K.nil <| At.next ?_
 obtain ⟨x2, H1, H0⟩ := bnd H0
 refine G.sJ (σ := { v : Pool (TNode TL07Elem TTide) × Int × Int × List TR07Elem // x2 = Sum.inr v }) (fun q => [(7, .a (.c (.p 104 0))), (8, .a (.c (.nv 106)))]) (fun q => [(0, rd S W0), (105, plE 105 q.1.1), (104, blk 104 [.p 105 0, .v (.int .i64 q.1.2.1), .v (.int .i64 q.1.2.2.1)] 101), (106, lrow 106 54 eTR07Elem 2 q.1.2.2.2)]) ?_ ?_
 ·
  refine G.seq <| G.rg <| K.as R R <| K.nil <| At.next <| G.block <| G.lp (σ := { q : Nat × (Pool (TNode TL07Elem TTide) × Int × Int × List TR07Elem × Int) // Lw07_made.l0 k l0 a1 q.1 q.2 = some x2 }) (fun q => [(0, SV.raw s0), (1, .a (.c (.v (.int .i64 a1)))), (7, .a (.c (.p 113 0))), (8, .a (.c (.nv 115))), (9, .a (.c (.v (.int .i64 q.1.2.2.2.2.2))))]) (fun q => [(0, rd S W0), (114, plE 114 q.1.2.1), (113, blk 113 [.p 114 0, .v (.int .i64 q.1.2.2.1), .v (.int .i64 q.1.2.2.2.1)] 101), (115, lrow 115 54 eTR07Elem 2 q.1.2.2.2.2.1)]) (fun q => q.1.1) ⟨(k, (x1.2, x1.1.index, x1.1.gen, ([] : List TR07Elem), 0)), H1⟩ ?_ ?_
  · exact At.into [(113, 101), (114, 102), (115, 103)] [_, _, _, _] R ⟨R, R, R, R, R, trivial⟩ ⟨R, (fun _ => R), R, (pl_ren R), R, (blk_ren R R), R, (lrow_ren R), trivial⟩ R
  ·
   rintro ⟨⟨n0, v1, v2, v3, v4, v5⟩, H1⟩
   show G _ _ [(0, SV.raw s0), (1, .a (.c (.v (.int .i64 a1)))), (7, .a (.c (.p 113 0))), (8, .a (.c (.nv 115))), (9, .a (.c (.v (.int .i64 v5))))] [(0, some (rd S W0)), (114, some (plE 114 v1)), (113, some (blk 113 [.p 114 0, .v (.int .i64 v2), .v (.int .i64 v3)] 101)), (115, some (lrow 115 54 eTR07Elem 2 v4))] _ _
   cases n0 with
   | zero => exact absurd H1 (by simp [Lw07_made.l0])
   | succ n0 =>
    have HL0 := H1
    rw [Lw07_made.l0] at H1
    refine G.seq <| G.seq <| G.rg <| K.mv R R <| K.mv R R <| K.lenL (rV 0 S W0 s0 b0 o0 eTL07Act 3 l0) (hI0.is 0) g0 R R Try.underlying22 R <| K.bin (V := .bool (decide (v5 < (l0.length : Int)))) g0 R R (fun _ => R) R <| K.nil <| At.next <| G.cond R (fun h1 => ?_) (fun h1 => ?_)
    ·
     replace H1 := bif_t H1 h1
     refine G.skip <| At.ns <| G.block <| G.seq ?_
     obtain ⟨x3, hx3, H1⟩ := bnd H1
     refine G.rg <| K.mv R R <| K.mv R R <| K.idxL (rV 0 S W0 s0 b0 o0 eTL07Act 3 l0) ((v5).toNat) (hI0.is 0) (atL_get hx3) (atL_nn hx3) g0 R R R Try.underlying22 el22.size_run R <| K.loadSL Y (rV 0 S W0 s0 b0 o0 eTL07Act 3 l0) ((v5).toNat) 0 [_, _, _] [_, _, _] (hI0.is 0) (atL_get hx3) g0 R R t41 R R R R R <| K.alloc Y 116 _ g0 t41 R R R R R <| K.store Y _ g0 R R R t41 R R R R R <| K.nil <| At.nr <| K.fieldAddr Y g0 R t41 R R <| K.load1 Y g0 R R t3 R R <| K.bin (V := .int .i64 (x3.kind.tmod 3)) g0 R R (rem_run (by decide)) R <| K.bin (V := .bool ((x3.kind.tmod 3) == 1)) g0 R R (fun _ => R) R <| K.nil <| At.next <| G.cond R (fun h2 => ?_) (fun h2 => ?_)
     ·
      replace H1 := bif_t H1 h2
      refine G.seq ?_
      obtain ⟨x4, hx4, H1⟩ := bnd H1
      refine G.rg <| K.mv R R <| K.fieldAddr Y g0 R t41 R R <| K.load1 Y g0 R R t3 R R <| K.build Y [(0, _)] [_, _] [((.tmp 32), _)] g0 (AllE.spec ⟨R, trivial⟩) R R t35 R R <| K.c0 (cf 22 R) (Tree_DropE_con hx4 113 114) g0 R R R R <| K.nil <| At.next ?_
      obtain ⟨x5, hx5, H1⟩ := bnd H1
      exact G.rg <| K.mv R R <| K.fieldAddr Y g0 R t41 R R <| K.load1 Y g0 R R t3 R R <| K.cC (cf 33 R) [] (fun β w S2 h => SCon.rd0 (R07_Drop_o0_con hx5 115 117 R) S2 w h) g0 (fun _ => R) R R R <| K.mv R R <| K.extract g0 R R R <| K.extract g0 R R R <| K.extract g0 R R R <| K.as R R <| K.nil <| At.block_normal <| At.next <| G.rg <| K.mv R R <| K.bin (V := .int .i64 (w64 (v5 + 1))) g0 R R (fun _ => R) R <| K.as R R <| K.nil <| At.ag ⟨(n0, (x4.2.2.2, x4.2.2.1.index, x4.2.2.1.gen, x5.1, (w64 (v5 + 1)))), H1⟩ [(115, 117)] [_, _, _, _] (Nat.lt_succ_self _) R ⟨R, R, R, R, R, trivial⟩ ⟨R, (fun _ => R), R, (pl_ren R), R, (blk_ren R R), R, (lrow_ren R), trivial⟩ R
     ·
      replace H1 := bif_f H1 h2
      refine G.seq ?_
      obtain ⟨x6, hx6, H1⟩ := bnd H1
      refine G.rg <| K.mv R R <| K.fieldAddr Y g0 R t41 R R <| K.load1 Y g0 R R t3 R R <| K.fieldAddr Y g0 R t41 R R <| K.load1 Y g0 R R t3 R R <| K.build Y [(0, _), (1, _)] [_, _] [((.tmp 45), _), ((.tmp 47), _)] g0 (AllE.spec ⟨R, R, trivial⟩) R R t35 R R <| K.c0 (cf 23 R) (Tree_PutE_con hx6 113 114) g0 R R R R <| K.as R R <| K.nil <| At.ns ?_
      obtain ⟨x7, hx7, H1⟩ := bnd H1
      refine G.rg <| K.mv R R <| K.fieldAddr Y g0 R t41 R R <| K.load1 Y g0 R R t3 R R <| K.fieldAddr Y g0 R t41 R R <| K.load1 Y g0 R R t3 R R <| K.build Y [(0, _), (1, _)] [_, _] [((.tmp 53), _), ((.tmp 55), _)] g0 (AllE.spec ⟨R, R, trivial⟩) R R t54 R R <| K.mv R R <| K.cC (cf 32 R) [] (fun β w S2 h => SCon.rd0 (R07_Put_o0_con hx7 115 118 R) S2 w h) g0 (fun _ => R) R R R <| K.mv R R <| K.extract g0 R R R <| K.extract g0 R R R <| K.as R R <| K.as R R <| K.nil <| At.ns <| G.seq <| G.rg <| K.mv R R <| K.mv R R <| K.bin (V := .bool (!(x6.1 == x7.2))) g0 R R (bq_neq Try.underlying4 _ _) R <| K.nil <| At.next <| G.cond R (fun h3 => ?_) (fun h3 => ?_)
      ·
       replace H1 := bif_t H1 h3
       refine G.seq <| G.rg <| K.mv R R <| K.mv R R <| K.as R R <| K.as R R <| K.as R R <| K.nil <| At.next <| G.ret <| At.over_ret <| At.block_ret <| At.over_ret <| At.over_ret <| At.block_ret <| At.over_ret ?_
       cases H1
      ·
       replace H1 := bif_f H1 h3
       exact G.skip <| At.next <| G.rg <| K.mv R R <| K.as R R <| K.nil <| At.block_normal <| At.next <| G.rg <| K.mv R R <| K.bin (V := .int .i64 (w64 (v5 + 1))) g0 R R (fun _ => R) R <| K.as R R <| K.nil <| At.ag ⟨(n0, (x6.2.2, x6.2.1.index, x6.2.1.gen, x7.1, (w64 (v5 + 1)))), H1⟩ [(115, 118)] [_, _, _, _] (Nat.lt_succ_self _) R ⟨R, R, R, R, R, trivial⟩ ⟨R, (fun _ => R), R, (pl_ren R), R, (blk_ren R R), R, (lrow_ren R), trivial⟩ R
    ·
     replace H1 := bif_f H1 h1
     exact G.exit <| At.over_exit <| At.over_exit <| At.block_hit <| At.jd ⟨(v1, v2, v3, v4), oi H1⟩ [(104, 113), (105, 114), (106, 115)] [_, _, _, _] R ⟨R, R, trivial⟩ ⟨R, (fun _ => R), R, (pl_ren R), R, (blk_ren R R), R, (lrow_ren R), trivial⟩ R
 ·
  rintro ⟨w2, rfl⟩
  replace H0 := sum_r H0
  show G _ _ [(7, .a (.c (.p 104 0))), (8, .a (.c (.nv 106)))] [(0, some (rd S W0)), (105, some (plE 105 w2.1)), (104, some (blk 104 [.p 105 0, .v (.int .i64 w2.2.1), .v (.int .i64 w2.2.2.1)] 101)), (106, some (lrow 106 54 eTR07Elem 2 w2.2.2.2))] _ _
  refine G.seq ?_
  obtain ⟨x8, hx8, H0⟩ := bnd H0
  exact G.rg <| K.mv R R <| K.mv R R <| K.mv R R <| K.mv R R <| K.cV (cf 36 R) [106] (fun β w S2 h => Lw07_alike_con (la 0 R eTR07Elem_len R h) hx8 104 105) g0 (fun _ => R) R R R <| K.as R R <| K.as R R <| K.as R R <| K.nil <| At.next <| G.ret <| At.ren (fs' := [(4, .a (.c (.p 40 0))), (5, .a (.c (.nv 31))), (6, .a (.c (.v (.bool x8))))]) (tl := [(0, rd S W0), (40, blk 40 [.p 41 0, .v (.int .i64 w2.2.1), .v (.int .i64 w2.2.2.1)] 101), (41, plE 41 w2.1), (31, lrow 31 54 eTR07Elem 2 w2.2.2.2)]) [(40, 104), (41, 105), (31, 106)] [_, _, _, _] R ⟨R, R, R, trivial⟩ ⟨R, (fun _ => R), R, (blk_ren R R), R, (pl_ren R), R, (lrow_ren R), trivial⟩ R <| At.dr Y [4, 5, 6] R R (by cases H0; rfl) (by cases H0; rfl) R R R
theorem Lw07_made_con {k : Nat}  {S : Foot} {W0 : World} {s0 : Value} {l0 : List TL07Act} {a1 : Int} {r : TRef × Pool (TNode TL07Elem TTide) × List TR07Elem × Bool} (hL0 : LArg S W0 s0 eTL07Act 3 l0) (H0 : Lw07_made.f k l0 a1 = some r) (m40 m41 m31 : Nat) (hd : ndB [m40, m41, m31] = true) : Lw07_made_st S W0 s0 a1 r m40 m41 m31 :=
 SCon.ren (rn [(40, m40), (41, m41), (31, m31)]) (Lw07_made_con0 (k := k)  hL0 H0) ⟨(fun _ => R), trivial⟩ ⟨(fun _ => R), (blk_ren R R), (pl_ren R), (lrow_ren R), trivial⟩ (rn_nd hd R R) (rn_ks hd R R R)
abbrev R07_Ws_st (S : Foot) (W0 : World) (s0 : Value) (a1 : Int) (a2 : Int) (r : List Int) (m30 : Nat) : Prop := SCon Try.prog 14 [SV.raw s0, .a (.c (.v (.int .i64 a1))), .a (.c (.v (.int .i64 a2)))] [(0, rd S W0)] (.a (.c (.nv m30))) [(0, rd S W0), (m30, lrow m30 3 intE 1 r)] [m30]
theorem R07_Ws_con0 {k : Nat}  {S : Foot} {W0 : World} {s0 : Value} {l0 : List TR07Elem} {a1 : Int} {a2 : Int} {r : List Int} (hL0 : LArg S W0 s0 eTR07Elem 2 l0) (H0 : R07_Ws.f k l0 a1 a2 = some r) : R07_Ws_st S W0 s0 a1 a2 r 30 := by
 rw [R07_Ws.f] at H0
 obtain ⟨b0, o0, hI0⟩ := hL0
 refine spec_of [(0, _), (1, _), (2, _)] [(0, _)] 31 Try.func14 R Try.ntmps14 R R R R (fun β W F => ?_)
 refine G.seq <| G.rg <| K.nilRow 100 3 intE 1 (.inl R) g0 R R R <| K.nil <| At.nr <| K.nilRow 101 3 intE 1 (.inl R) g0 R R R <| K.nil <| At.next ?_
 obtain ⟨x1, H1, H0⟩ := bnd H0
 refine G.sJ (σ := { v : List Int // x1 = v }) (fun q => [(7, .a (.c (.nv 102)))]) (fun q => [(0, rd S W0), (102, lrow 102 3 intE 1 q.1)]) ?_ ?_
 ·
  refine G.seq <| G.rg <| K.mv R R <| K.bi2 (V := .int .i64 (gmax a1 0)) g0 R R (fun _ _ => R) R <| K.as R R <| K.nil <| At.next <| G.block <| G.lp (σ := { q : Nat × (List Int × Int) // R07_Ws.l0 k l0 a2 q.1 q.2 = some x1 }) (fun q => [(0, SV.raw s0), (2, .a (.c (.v (.int .i64 a2)))), (7, .a (.c (.nv 105))), (8, .a (.c (.v (.int .i64 q.1.2.2))))]) (fun q => [(0, rd S W0), (105, lrow 105 3 intE 1 q.1.2.1)]) (fun q => q.1.1) ⟨(k, (([] : List Int), (gmax a1 0))), H1⟩ ?_ ?_
  · exact At.into [(105, 101)] [_, _] R ⟨R, R, R, R, trivial⟩ ⟨R, (fun _ => R), R, (lrow_ren R), trivial⟩ R
  ·
   rintro ⟨⟨n0, v1, v2⟩, H1⟩
   show G _ _ [(0, SV.raw s0), (2, .a (.c (.v (.int .i64 a2)))), (7, .a (.c (.nv 105))), (8, .a (.c (.v (.int .i64 v2))))] [(0, some (rd S W0)), (105, some (lrow 105 3 intE 1 v1))] _ _
   cases n0 with
   | zero => exact absurd H1 (by simp [R07_Ws.l0])
   | succ n0 =>
    have HL0 := H1
    rw [R07_Ws.l0] at H1
    refine G.seq <| G.seq ?_
    rcases Bool.eq_false_or_eq_true (decide (v2 < (l0.length : Int))) with h1 | h1
    ·
     replace H1 := bif_t H1 h1
     refine G.rg <| K.mv R R <| K.mv R R <| K.lenL (rV 0 S W0 s0 b0 o0 eTR07Elem 2 l0) (hI0.is 0) g0 R R Try.underlying26 R <| K.bin (V := .bool (decide (v2 < (l0.length : Int)))) g0 R R (fun _ => R) R <| K.mv R R <| K.move (.inl R) (g1 R R h1) R R <| K.move (.inl R) (g1 R R h1) R R <| K.bin (V := .bool (decide (v2 < a2))) (g1 R R h1) R R (fun _ => R) R <| K.pickT g0 R (h1) R R <| K.nil <| At.next <| G.cond R (fun h2 => ?_) (fun h2 => ?_)
     ·
      replace H1 := bif_t H1 h2
      refine G.skip <| At.ns <| G.block ?_
      obtain ⟨x2, hx2, H1⟩ := bnd H1
      obtain ⟨h3, H1⟩ := grd H1
      exact G.rg <| K.mv R R <| K.mv R R <| K.mv R R <| K.idxL (rV 0 S W0 s0 b0 o0 eTR07Elem 2 l0) ((v2).toNat) (hI0.is 0) (atL_get hx2) (atL_nn hx2) g0 R R R Try.underlying26 el26.size_run R <| K.fieldL Y (rV 0 S W0 s0 b0 o0 eTR07Elem 2 l0) ((v2).toNat) 0 1 (hI0.is 0) (atL_get hx2) g0 R R t54 R R R R <| K.load1L Y (rV 0 S W0 s0 b0 o0 eTR07Elem 2 l0) ((v2).toNat) 1 (hI0.is 0) (atL_get hx2) g0 R R t3 R R <| K.buildL Y 106 ([x2.w] : List Int) [(0, _)] [((.tmp 27), _)] intE_len g0 (AllE.spec ⟨R, trivial⟩) R R Try.underlying29 t3 R R R R R R R R <| K.appendL 107 (lrowV 106 3 intE 1 ([x2.w] : List Int)) _ el29 (lrowV_is intE_len (by decide)) intE_one g0 R R R R R (ap_m h3) (ap_b h3 (by decide)) R R R R R R <| K.as R R <| K.nil <| At.block_normal <| At.next <| G.rg <| K.mv R R <| K.bin (V := .int .i64 (w64 (v2 + 1))) g0 R R (fun _ => R) R <| K.as R R <| K.nil <| At.ag ⟨(n0, ((v1 ++ ([x2.w] : List Int)), (w64 (v2 + 1)))), H1⟩ [(105, 107)] [_, _] (Nat.lt_succ_self _) R ⟨R, R, R, R, trivial⟩ ⟨R, (fun _ => R), R, (lrow_ren R), trivial⟩ R
     ·
      replace H1 := bif_f H1 h2
      exact G.exit <| At.over_exit <| At.over_exit <| At.block_hit <| At.jd ⟨v1, oi H1⟩ [(102, 105)] [_, _] R ⟨R, trivial⟩ ⟨R, (fun _ => R), R, (lrow_ren R), trivial⟩ R
    ·
     replace H1 := bif_f H1 h1
     refine G.rg <| K.mv R R <| K.mv R R <| K.lenL (rV 0 S W0 s0 b0 o0 eTR07Elem 2 l0) (hI0.is 0) g0 R R Try.underlying26 R <| K.bin (V := .bool (decide (v2 < (l0.length : Int)))) g0 R R (fun _ => R) R <| K.mv R R <| K.sk R R h1 R <| K.sk R R h1 R <| K.sk R R h1 R <| K.pickF g0 R (h1) R R <| K.nil <| At.next <| G.cond R (fun h4 => ?_) (fun h4 => ?_)
     · cases h4
     ·
      exact G.exit <| At.over_exit <| At.over_exit <| At.block_hit <| At.jd ⟨v1, oi H1⟩ [(102, 105)] [_, _] R ⟨R, trivial⟩ ⟨R, (fun _ => R), R, (lrow_ren R), trivial⟩ R
 ·
  rintro ⟨_, rfl⟩
  show G _ _ [(7, .a (.c (.nv 102)))] [(0, some (rd S W0)), (102, some (lrow 102 3 intE 1 x1))] _ _
  exact G.seq <| G.rg <| K.mv R R <| K.as R R <| K.nil <| At.next <| G.ret <| At.ren (fs' := [(6, .a (.c (.nv 30)))]) (tl := [(0, rd S W0), (30, lrow 30 3 intE 1 x1)]) [(30, 102)] [_, _] R ⟨R, trivial⟩ ⟨R, (fun _ => R), R, (lrow_ren R), trivial⟩ R <| At.dr Y [6] R R (by cases H0; rfl) (by cases H0; rfl) R R R
theorem R07_Ws_con {k : Nat}  {S : Foot} {W0 : World} {s0 : Value} {l0 : List TR07Elem} {a1 : Int} {a2 : Int} {r : List Int} (hL0 : LArg S W0 s0 eTR07Elem 2 l0) (H0 : R07_Ws.f k l0 a1 a2 = some r) (m30 : Nat) (hd : ndB [m30] = true) : R07_Ws_st S W0 s0 a1 a2 r m30 :=
 SCon.ren (rn [(30, m30)]) (R07_Ws_con0 (k := k)  hL0 H0) ⟨(fun _ => R), trivial⟩ ⟨(fun _ => R), (lrow_ren R), trivial⟩ (rn_nd hd R R) (rn_ks hd R R R)
abbrev R06_Sum_st (S : Foot) (W0 : World) (s0 : Value) (a1 : Int) (r : Int) : Prop := SCon Try.prog 16 [SV.raw s0, .a (.c (.v (.int .i64 a1)))] [(0, rd S W0)] (.a (.c (.v (.int .i64 r)))) [(0, rd S W0)] []
theorem R06_Sum_con0 {k : Nat}  {S : Foot} {W0 : World} {s0 : Value} {l0 : List Int} {a1 : Int} {r : Int} (hL0 : LArg S W0 s0 intE 1 l0) (H0 : R06_Sum.f k l0 a1 = some r) : R06_Sum_st S W0 s0 a1 r := by
 rw [R06_Sum.f] at H0
 obtain ⟨b0, o0, hI0⟩ := hL0
 refine spec_of [(0, _), (1, _)] [(0, _)] 19 Try.func16 R Try.ntmps16 R R R R (fun β W F => ?_)
 refine G.seq <| G.rg <| K.as R R <| K.nil <| At.nr <| K.as R R <| K.nil <| At.next ?_
 obtain ⟨x1, H1, H0⟩ := bnd H0
 refine G.sJ (σ := { v : Int // x1 = v }) (fun q => [(5, .a (.c (.v (.int .i64 q.1))))]) (fun q => [(0, rd S W0)]) ?_ ?_
 ·
  refine G.seq <| G.rg <| K.as R R <| K.nil <| At.next <| G.block <| G.lp (σ := { q : Nat × (Int × Int) // R06_Sum.l0 k l0 a1 q.1 q.2 = some x1 }) (fun q => [(0, SV.raw s0), (1, .a (.c (.v (.int .i64 a1)))), (5, .a (.c (.v (.int .i64 q.1.2.1)))), (6, .a (.c (.v (.int .i64 q.1.2.2))))]) (fun q => [(0, rd S W0)]) (fun q => q.1.1) ⟨(k, (0, 0)), H1⟩ ?_ ?_
  · exact At.into [] [_] R ⟨R, R, R, R, trivial⟩ ⟨R, (fun _ => R), trivial⟩ R
  ·
   rintro ⟨⟨n0, v1, v2⟩, H1⟩
   show G _ _ [(0, SV.raw s0), (1, .a (.c (.v (.int .i64 a1)))), (5, .a (.c (.v (.int .i64 v1)))), (6, .a (.c (.v (.int .i64 v2))))] [(0, some (rd S W0))] _ _
   cases n0 with
   | zero => exact absurd H1 (by simp [R06_Sum.l0])
   | succ n0 =>
    have HL0 := H1
    rw [R06_Sum.l0] at H1
    refine G.seq <| G.seq <| G.rg <| K.mv R R <| K.mv R R <| K.bin (V := .bool (decide (v2 < a1))) g0 R R (fun _ => R) R <| K.nil <| At.next <| G.cond R (fun h1 => ?_) (fun h1 => ?_)
    ·
     replace H1 := bif_t H1 h1
     refine G.skip <| At.ns <| G.block ?_
     obtain ⟨x2, hx2, H1⟩ := bnd H1
     exact G.rg <| K.mv R R <| K.mv R R <| K.mv R R <| K.idxL (rV 0 S W0 s0 b0 o0 intE 1 l0) ((v2).toNat) (hI0.is 0) (atL_get hx2) (atL_nn hx2) g0 R R R Try.underlying29 el29.size_run R <| K.load1L Y (rV 0 S W0 s0 b0 o0 intE 1 l0) ((v2).toNat) 0 (hI0.is 0) (atL_get hx2) g0 R R t3 R R <| K.bin (V := .int .i64 (w64 (v1 + x2))) g0 R R (fun _ => R) R <| K.as R R <| K.nil <| At.block_normal <| At.next <| G.rg <| K.mv R R <| K.bin (V := .int .i64 (w64 (v2 + 1))) g0 R R (fun _ => R) R <| K.as R R <| K.nil <| At.ag ⟨(n0, ((w64 (v1 + x2)), (w64 (v2 + 1)))), H1⟩ [] [_] (Nat.lt_succ_self _) R ⟨R, R, R, R, trivial⟩ ⟨R, (fun _ => R), trivial⟩ R
    ·
     replace H1 := bif_f H1 h1
     exact G.exit <| At.over_exit <| At.over_exit <| At.block_hit <| At.jd ⟨v1, oi H1⟩ [] [_] R ⟨R, trivial⟩ ⟨R, (fun _ => R), trivial⟩ R
 ·
  rintro ⟨_, rfl⟩
  show G _ _ [(5, .a (.c (.v (.int .i64 x1))))] [(0, some (rd S W0))] _ _
  exact G.seq <| G.rg <| K.mv R R <| K.as R R <| K.nil <| At.next <| G.ret <| At.dr Y [4] R R (by cases H0; rfl) (by cases H0; rfl) R R R
theorem R06_Sum_con {k : Nat}  {S : Foot} {W0 : World} {s0 : Value} {l0 : List Int} {a1 : Int} {r : Int} (hL0 : LArg S W0 s0 intE 1 l0) (H0 : R06_Sum.f k l0 a1 = some r) : R06_Sum_st S W0 s0 a1 r :=
 SCon.ren (rn []) (R06_Sum_con0 (k := k)  hL0 H0) ⟨(fun _ => R), trivial⟩ ⟨(fun _ => R), trivial⟩ (by simp) (by simp)
abbrev R07_Put_d_d0_st (S : Foot) (W0 : World) (s0 : Value) (a1 : TR07Elem) (a2 : Int) (r : List TR07Elem × Bool) (m30 : Nat) : Prop := SCon Try.prog 32 [SV.raw s0, .a (.agg ((eTR07Elem a1).map .v)), .a (.c (.v (.int .i64 a2)))] [(0, rd S W0)] (.tup [.c (.nv m30), .c (.v (.bool r.2))]) [(0, rd S W0), (m30, lrow m30 54 eTR07Elem 2 r.1)] [m30]
theorem R07_Put_d_d0_con0 {k : Nat}  {S : Foot} {W0 : World} {s0 : Value} {l0 : List TR07Elem} {a1 : TR07Elem} {a2 : Int} {r : List TR07Elem × Bool} (hL0 : LArg S W0 s0 eTR07Elem 2 l0) (H0 : R07_Put_d.f k l0 a1 a2 = some r) : R07_Put_d_d0_st S W0 s0 a1 a2 r 30 := by
 rw [R07_Put_d.f] at H0
 obtain ⟨b0, o0, hI0⟩ := hL0
 refine spec_of [(0, _), (1, _), (2, _)] [(0, _)] 57 Try.func32 R Try.ntmps32 R R R R (fun β W F => ?_)
 refine G.seq <| G.rg <| K.box Y 100 _ g0 R R R R R R <| K.nilRow 101 54 eTR07Elem 2 (.inl R) g0 R R R <| K.as R R <| K.nil <| At.ns ?_
 obtain ⟨x1, hx1, H0⟩ := bnd H0
 refine G.rg <| K.mv R R <| K.fieldAddr Y g0 R t54 R R <| K.load1 Y g0 R R t3 R R <| K.cV (cf 34 R) [0] (fun β w S2 h => R07_Rank_con ((hI0.isC 0).larg ⟨_, List.mem_cons_self⟩ h) hx1) g0 (fun _ => R) R R R <| K.as R R <| K.nil <| At.nr <| K.nilRow 102 54 eTR07Elem 2 (.inl R) g0 R R R <| K.nil <| At.ns ?_
 obtain ⟨h1, H0⟩ := grd H0
 obtain ⟨h3, H0⟩ := grd H0
 refine G.rg <| K.mv R R <| K.mv R R <| K.mv R R <| K.partR 0 ((x1).toNat) hI0 g0 R .no (.at_ R h1.1 R) Try.underlying26 el26.size_run (Nat.zero_le _) (tn_len h1.2) R <| K.appendL 103 (rV 0 S W0 (partOf 0 ((x1).toNat) 2 s0) _ _ eTR07Elem 2 ((l0.drop 0).take (((x1).toNat) - 0))) _ el26 ((hI0.part (Nat.zero_le _) (tn_len h1.2)).is 0) eTR07Elem_one g0 R R R R R (ap_m h3) (ap_b h3 (by decide)) R R R R R R <| K.as R R <| K.nil <| At.next ?_
 obtain ⟨x2, H1, H0⟩ := bnd H0
 refine G.sJ (σ := { v : Unit // x2 = Sum.inr v }) (fun q => [(0, SV.raw s0), (2, .a (.c (.v (.int .i64 a2)))), (4, .a (.c (.p 104 0))), (8, .a (.c (.v (.int .i64 x1)))), (9, .a (.c (.nv 105)))]) (fun q => [(0, rd S W0), (104, blk 104 [.v (.int .i64 a1.k), .v (.int .i64 a1.w)] 54), (105, lrow 105 54 eTR07Elem 2 (([] : List TR07Elem) ++ ((l0.drop 0).take (((x1).toNat) - 0))))]) ?_ ?_
 ·
  refine G.seq ?_
  rcases Bool.eq_false_or_eq_true (decide (x1 < (l0.length : Int))) with h4 | h4
  ·
   replace H1 := bif_t H1 h4
   obtain ⟨x3, hx3, H1⟩ := bnd H1
   refine G.rd mixed <| K.mv R R <| K.mv R R <| K.lenL (rV 0 S W0 s0 b0 o0 eTR07Elem 2 l0) (hI0.is 0) g0 R R Try.underlying26 R <| K.bin (V := .bool (decide (x1 < (l0.length : Int)))) g0 R R (fun _ => R) R <| K.mv R R <| K.move (.inl R) (g1 R R h4) R R <| K.move (.inl R) (g1 R R h4) R R <| K.idxL (rV 0 S W0 s0 b0 o0 eTR07Elem 2 l0) ((x1).toNat) (hI0.is 0) (atL_get hx3) (atL_nn hx3) (g1 R R h4) R R R Try.underlying26 el26.size_run R <| K.fieldL Y (rV 0 S W0 s0 b0 o0 eTR07Elem 2 l0) ((x1).toNat) 0 0 (hI0.is 0) (atL_get hx3) (g1 R R h4) R R t54 R R R R <| K.load1L Y (rV 0 S W0 s0 b0 o0 eTR07Elem 2 l0) ((x1).toNat) 0 (hI0.is 0) (atL_get hx3) (g1 R R h4) R R t3 R R <| K.fieldAddr Y (g1 R R h4) R t54 R R <| K.load1 Y (g1 R R h4) R R t3 R R <| K.bin (V := .bool (x3.k == a1.k)) (g1 R R h4) R R (fun _ => R) R <| K.pickT g0 R (h4) R R <| K.nil <| And.intro (by kernel_rfl) <| At.next <| G.cond R (fun h5 => ?_) (fun h5 => ?_)
   ·
    replace H1 := bif_t H1 h5
    refine G.seq ?_
    obtain ⟨h6, H1⟩ := grd H1
    refine G.rg <| K.mv R R <| K.loadS Y _ g0 R R t54 R R R <| K.buildL Y 106 ([a1] : List TR07Elem) [(0, _)] [((.tmp 34), _)] eTR07Elem_len g0 (AllE.spec ⟨R, trivial⟩) R R Try.underlying26 t54 R R R R R R R R <| K.appendL 107 (lrowV 106 54 eTR07Elem 2 ([a1] : List TR07Elem)) _ el26 (lrowV_is eTR07Elem_len (by decide)) eTR07Elem_one g0 R R R R R (ap_m h6) (ap_b h6 (by decide)) R R R R R R <| K.as R R <| K.nil <| At.ns ?_
    obtain ⟨h7, H1⟩ := grd H1
    obtain ⟨h9, H1⟩ := grd H1
    refine G.rg <| K.mv R R <| K.mv R R <| K.mv R R <| K.bin (V := .int .i64 (w64 (x1 + 1))) g0 R R (fun _ => R) R <| K.partR (((w64 (x1 + 1))).toNat) l0.length hI0 g0 R (.at_ R h7.1 R) .no Try.underlying26 el26.size_run (tn_len h7.2) (Nat.le_refl _) R <| K.appendL 108 (rV 0 S W0 (partOf (((w64 (x1 + 1))).toNat) l0.length 2 s0) _ _ eTR07Elem 2 ((l0.drop (((w64 (x1 + 1))).toNat)).take (l0.length - (((w64 (x1 + 1))).toNat)))) _ el26 ((hI0.part (tn_len h7.2) (Nat.le_refl _)).is 0) eTR07Elem_one g0 R R R R R (ap_m h9) (ap_b h9 (by decide)) R R R R R R <| K.as R R <| K.as R R <| K.nil <| At.next <| G.ret <| At.over_ret ?_
    cases H1
    replace H0 := sum_l H0
    exact At.ren (fs' := [(6, .a (.c (.nv 30))), (7, .a (.c (.v (.bool true))))]) (tl := [(0, rd S W0), (30, lrow 30 54 eTR07Elem 2 (((([] : List TR07Elem) ++ ((l0.drop 0).take (((x1).toNat) - 0))) ++ ([a1] : List TR07Elem)) ++ ((l0.drop (((w64 (x1 + 1))).toNat)).take (l0.length - (((w64 (x1 + 1))).toNat)))))]) [(30, 108)] [_, _] R ⟨R, R, trivial⟩ ⟨R, (fun _ => R), R, (lrow_ren R), trivial⟩ R <| At.dr Y [6, 7] R R (by cases H0; rfl) (by cases H0; rfl) R R R
   ·
    replace H1 := bif_f H1 h5
    exact G.skip <| At.jd ⟨(), oi H1⟩ [(104, 100), (105, 103)] [_, _, _] R ⟨R, R, R, R, R, trivial⟩ ⟨R, (fun _ => R), R, (blk_ren R R), R, (lrow_ren R), trivial⟩ R
  ·
   replace H1 := bif_f H1 h4
   refine G.rd mixed <| K.mv R R <| K.mv R R <| K.lenL (rV 0 S W0 s0 b0 o0 eTR07Elem 2 l0) (hI0.is 0) g0 R R Try.underlying26 R <| K.bin (V := .bool (decide (x1 < (l0.length : Int)))) g0 R R (fun _ => R) R <| K.mv R R <| K.sk R R h4 R <| K.sk R R h4 R <| K.sk R R h4 R <| K.sk R R h4 R <| K.sk R R h4 R <| K.sk R R h4 R <| K.sk R R h4 R <| K.sk R R h4 R <| K.pickF g0 R (h4) R R <| K.nil <| And.intro (by kernel_rfl) <| At.next <| G.cond R (fun h10 => ?_) (fun h10 => ?_)
   · cases h10
   ·
    exact G.skip <| At.jd ⟨(), oi H1⟩ [(104, 100), (105, 103)] [_, _, _] R ⟨R, R, R, R, R, trivial⟩ ⟨R, (fun _ => R), R, (blk_ren R R), R, (lrow_ren R), trivial⟩ R
 ·
  rintro ⟨w2, rfl⟩
  replace H0 := sum_r H0
  show G _ _ [(0, SV.raw s0), (2, .a (.c (.v (.int .i64 a2)))), (4, .a (.c (.p 104 0))), (8, .a (.c (.v (.int .i64 x1)))), (9, .a (.c (.nv 105)))] [(0, some (rd S W0)), (104, some (blk 104 [.v (.int .i64 a1.k), .v (.int .i64 a1.w)] 54)), (105, some (lrow 105 54 eTR07Elem 2 (([] : List TR07Elem) ++ ((l0.drop 0).take (((x1).toNat) - 0)))))] _ _
  refine G.seq <| G.seq <| G.rg <| K.mv R R <| K.lenL (rV 0 S W0 s0 b0 o0 eTR07Elem 2 l0) (hI0.is 0) g0 R R Try.underlying26 R <| K.mv R R <| K.bin (V := .bool (decide ((l0.length : Int) ≥ a2))) g0 R R (fun _ => R) R <| K.nil <| At.next <| G.cond R (fun h11 => ?_) (fun h11 => ?_)
  ·
   replace H0 := bif_t H0 h11
   refine G.seq <| G.rg <| K.mv R R <| K.as R R <| K.as R R <| K.nil <| At.next <| G.ret <| At.over_ret ?_
   cases H0
  ·
   replace H0 := bif_f H0 h11
   refine G.skip <| At.ns ?_
   obtain ⟨h12, H0⟩ := grd H0
   refine G.rg <| K.mv R R <| K.loadS Y _ g0 R R t54 R R R <| K.buildL Y 109 ([a1] : List TR07Elem) [(0, _)] [((.tmp 49), _)] eTR07Elem_len g0 (AllE.spec ⟨R, trivial⟩) R R Try.underlying26 t54 R R R R R R R R <| K.appendL 110 (lrowV 109 54 eTR07Elem 2 ([a1] : List TR07Elem)) _ el26 (lrowV_is eTR07Elem_len (by decide)) eTR07Elem_one g0 R R R R R (ap_m h12) (ap_b h12 (by decide)) R R R R R R <| K.as R R <| K.nil <| At.ns ?_
   obtain ⟨h13, H0⟩ := grd H0
   obtain ⟨h15, H0⟩ := grd H0
   exact G.rg <| K.mv R R <| K.mv R R <| K.mv R R <| K.partR ((x1).toNat) l0.length hI0 g0 R (.at_ R h13.1 R) .no Try.underlying26 el26.size_run (tn_len h13.2) (Nat.le_refl _) R <| K.appendL 111 (rV 0 S W0 (partOf ((x1).toNat) l0.length 2 s0) _ _ eTR07Elem 2 ((l0.drop ((x1).toNat)).take (l0.length - ((x1).toNat)))) _ el26 ((hI0.part (tn_len h13.2) (Nat.le_refl _)).is 0) eTR07Elem_one g0 R R R R R (ap_m h15) (ap_b h15 (by decide)) R R R R R R <| K.as R R <| K.as R R <| K.nil <| At.next <| G.ret <| At.ren (fs' := [(6, .a (.c (.nv 30))), (7, .a (.c (.v (.bool true))))]) (tl := [(0, rd S W0), (30, lrow 30 54 eTR07Elem 2 (((([] : List TR07Elem) ++ ((l0.drop 0).take (((x1).toNat) - 0))) ++ ([a1] : List TR07Elem)) ++ ((l0.drop ((x1).toNat)).take (l0.length - ((x1).toNat)))))]) [(30, 111)] [_, _] R ⟨R, R, trivial⟩ ⟨R, (fun _ => R), R, (lrow_ren R), trivial⟩ R <| At.dr Y [6, 7] R R (by cases H0; rfl) (by cases H0; rfl) R R R
theorem R07_Put_d_d0_con {k : Nat}  {S : Foot} {W0 : World} {s0 : Value} {l0 : List TR07Elem} {a1 : TR07Elem} {a2 : Int} {r : List TR07Elem × Bool} (hL0 : LArg S W0 s0 eTR07Elem 2 l0) (H0 : R07_Put_d.f k l0 a1 a2 = some r) (m30 : Nat) (hd : ndB [m30] = true) : R07_Put_d_d0_st S W0 s0 a1 a2 r m30 :=
 SCon.ren (rn [(30, m30)]) (R07_Put_d_d0_con0 (k := k)  hL0 H0) ⟨(fun _ => R), trivial⟩ ⟨(fun _ => R), (lrow_ren R), trivial⟩ (rn_nd hd R R) (rn_ks hd R R R)
end Go.Proofs.Ytjokolmijhhinaa
namespace Go.Proofs.Ytjokolmijhhinaa.Sx
open Go
def starRes (L : List Res) : Res where
  holds := Star L
  loc hw h := h.loc hw
  lt h hb := h.lt hb
def adEnv (a : Nat → Nat) : Env := fun k => ⟨a k, undef⟩
def eltRes (l : List (Nat × Tok)) (a : Nat → Nat) : Res := starRes (l.map fun p => p.2.r (adEnv a))
section
variable {σ : Type}
def hpL (toks : σ → List (Nat × Tok)) (A : List (Nat → Nat)) (Q : List σ) : List Res := List.zipWith (fun a q => eltRes (toks q) a) A Q
def hp (k : Nat) (toks : σ → List (Nat × Tok)) (A : List (Nat → Nat)) (Q : List σ) : Tok where
  ks := []
  r _ := starRes (hpL toks A Q)
  sup _ := rfl
end
end Go.Proofs.Ytjokolmijhhinaa.Sx
namespace Go.Proofs.Ytjokolmijhhinaa.Sx
open Go
section
variable {P : Program} {n : Nat} {ops : Array Oper} {rest : List Oper} {fs fs' : FL} {L L' : TL} {ss : List Step}
end
section
variable {P : Program} {n : Nat} {ops : Array Oper} {rest : List Oper} {fs : FL} {L : TL} {K : List Step → FL → TL → Prop} {d : Nat} {az : Array Operand} {ats : Array TypeId} {ty : TypeId} {pos : String} {after : Array Edge} {g : Option (Nat × Bool)} {gr : FL} {f : FuncId} {args : List SV} {ti to : List (Nat × Tok)} {fr : List Nat} {args' : Env → List SV}
end
theorem At.freeze {C : Ctx} {fs : FL} {L : TL} {R : Act → World → Prop} {α : Type} {e : α → List Value} {s : Nat} {l : List α} {T : TypeId} (t k : Nat) (ht : lk fs t = some (.a (.c (.nv k)))) (hL : lkT L k = some (lrow k T e s l)) (hf : ∀ c, (e c).length = s) (hs : Nat.blt 0 s = true)
    (h : ∀ (S : Foot) (W0 : World) (v : Value), LArg S W0 v e s l → At C ((t, SV.raw v) :: fs) ((k, some (rd S W0)) :: L) R) : At C fs L R := by
  intro a w hh
  obtain ⟨β, F, hβ, hfs, hlt, hsz, hd, hst, hF, hM⟩ := hh
  obtain ⟨F1, F2, e1, dj, h1, h2⟩ := hst.take hL
  have hla : LArg F1 w ((lrowV k T e s l).s.den β) e s l := la (tr := [(k, lrow k T e s l)]) 0 rfl hf hs (Star_one.2 h1)
  refine h F1 w _ hla a w ⟨β, F, hβ, ?_, ?_, hsz, hd, ?_, hF, hM⟩
  · intro u x hx
    rw [lk_cons] at hx
    simp only [upd] at hx
    by_cases eu : u = t
    · subst eu
      rw [if_pos rfl] at hx; cases hx
      rw [hfs u _ ht]; rfl
    · rw [if_neg eu] at hx; exact hfs u x hx
  · intro u hu
    rw [lk_cons] at hu
    simp only [upd] at hu
    by_cases eu : u = t
    · subst eu; exact hlt u (by rw [ht]; rfl)
    · rw [if_neg eu] at hu; exact hlt u hu
  · have h4 := h2.put (k := k) (t := rd F1 w) (F1 := F1) (F := F) (by simp [upd]) ⟨fun b => Iff.rfl, fun b hb => ⟨(lrow k T e s l |>.r β).lt h1 hb, rfl⟩⟩ dj e1
    exact h4.congr (fun j => by rw [lkT_cons]; unfold upd; split <;> rfl)
theorem LAt.to {α : Type} {e : α → List Value} {s : Nat} {l : List α} {S S' : Foot} {W W' : World} {v : Value} {b o : Nat} (h : LAt S W v b o e s l) (hS : ∀ b, S b → S' b) (hW : ∀ b, S b → W'.heap[b]? = W.heap[b]?) : LAt S' W' v b o e s l := by
  refine ⟨h.len, h.pos, h.sl, fun h0 => hS _ (h.inn h0), fun j u hu => ?_⟩
  have h0 : 0 < l.length := by
    cases l with
    | nil => simp at hu
    | cons => simp
  have := h.cells j u hu
  unfold World.cell? at *
  rwa [show (W'.heap[b]?) = W.heap[b]? from hW b (h.inn h0)]
theorem At.melt {C : Ctx} {fs : FL} {L : TL} {R : Act → World → Prop} (k1 k2 : Nat) {S1 S2 : Foot} {W1 W2 : World} (h1 : lkT L k1 = some (rd S1 W1)) (h2 : lkT L k2 = some (rd S2 W2)) (hne : Nat.beq k1 k2 = false)
    (h : ∀ (S : Foot) (W : World), (∀ {α : Type} {e : α → List Value} {s : Nat} {l : List α} {v : Value}, LArg S1 W1 v e s l → LArg S W v e s l) → (∀ {α : Type} {e : α → List Value} {s : Nat} {l : List α} {v : Value}, LArg S2 W2 v e s l → LArg S W v e s l) →
      At C fs ((k2, none) :: (k1, some (rd S W)) :: L) R) : At C fs L R := by
  intro a w hh
  obtain ⟨β, F, hβ, hfs, hlt, hsz, hd, hst, hF, hM⟩ := hh
  have hne' : k1 ≠ k2 := fun e => by subst e; simp at hne
  obtain ⟨F1, F2, e1, dj, g1, g2⟩ := hst.take h1
  have h2' : upd (lkT L) k1 none k2 = some (rd S2 W2) := by simp [upd, hne'.symm, h2]
  obtain ⟨F3, F4, e2, dj2, g3, g4⟩ := g2.take h2'
  have d13 : ∀ b, F1 b → ¬ F3 b := fun b hb hb' => dj b hb ((e2 b).2 (.inl hb'))
  have hsz1 : ∀ b, F1 b → b < w.heap.size := fun b hb => (g1.2 b ((g1.1 b).1 hb)).1
  have hsz3 : ∀ b, F3 b → b < w.heap.size := fun b hb => (g3.2 b ((g3.1 b).1 hb)).1
  refine h (fun b => F1 b ∨ F3 b) w (fun {α e s l v} hl => ?_) (fun {α e s l v} hl => ?_) a w ⟨β, F, hβ, hfs, hlt, hsz, hd, ?_, hF, hM⟩
  · obtain ⟨b, o, hl⟩ := hl
    exact ⟨b, o, hl.to (fun b hb => .inl ((g1.1 b).2 hb)) (fun b hb => (g1.2 b hb).2)⟩
  · obtain ⟨b, o, hl⟩ := hl
    exact ⟨b, o, hl.to (fun b hb => .inr ((g3.1 b).2 hb)) (fun b hb => (g3.2 b hb).2)⟩
  · have h4 := g4.put (k := k1) (t := rd (fun b => F1 b ∨ F3 b) w) (F1 := fun b => F1 b ∨ F3 b) (F := F) (by simp [upd, hne']) ⟨fun b => Iff.rfl, fun b hb => ⟨hb.elim (hsz1 b) (hsz3 b), rfl⟩⟩
      (fun b hb hb' => hb.elim (fun hb => dj b hb ((e2 b).2 (.inr hb'))) (fun hb => dj2 b hb hb'))
      (fun b => by rw [e1 b, e2 b, or_assoc])
    refine h4.congr (fun j => ?_)
    rw [lkT_cons, lkT_cons]
    unfold upd
    by_cases ej : j = k2
    · subst ej; simp [hne'.symm]
    · by_cases ej1 : j = k1
      · subst ej1; simp [hne']
      · simp [ej, ej1]
theorem At.rdE {C : Ctx} {fs : FL} {L : TL} {R : Act → World → Prop} (k : Nat) (hL : lkT L k = none) (h : ∀ (S : Foot) (W : World), At C fs ((k, some (rd S W)) :: L) R) : At C fs L R := by
  intro a w hh
  obtain ⟨β, F, hβ, hfs, hlt, hsz, hd, hst, hF, hM⟩ := hh
  refine h (fun _ => False) w a w ⟨β, F, hβ, hfs, hlt, hsz, hd, ?_, hF, hM⟩
  have h4 := hst.put (k := k) (t := rd (fun _ => False) w) (F1 := fun _ => False) (F := F) hL ⟨fun b => Iff.rfl, fun b hb => hb.elim⟩ (fun b hb => hb.elim) (fun b => by simp)
  exact h4.congr (fun j => by rw [lkT_cons])
end Go.Proofs.Ytjokolmijhhinaa.Sx
namespace Go.Proofs.Ytjokolmijhhinaa
open Go Go.Proofs.Ytjokolmijhhinaa.Sx
abbrev Lw07_GroveParts_st (S : Foot) (W0 : World) (s0 : Value) (s2 : Value) (a1 : Int) (r : Bool) : Prop := SCon Try.prog 8 [SV.raw s0, .a (.c (.v (.int .i64 a1))), SV.raw s2] [(0, rd S W0)] (.a (.c (.v (.bool r)))) [(0, rd S W0)] []
set_option maxHeartbeats 4000000 in
theorem Lw07_GroveParts_con0 {k : Nat}  {S : Foot} {W0 : World} {s0 : Value} {s2 : Value} {l0 : List TL07Act} {a1 : Int} {l2 : List TL07Act} {r : Bool} (hL0 : LArg S W0 s0 eTL07Act 3 l0) (hL2 : LArg S W0 s2 eTL07Act 3 l2) (H0 : Lw07_GroveParts.f k l0 a1 l2 = some r) : Lw07_GroveParts_st S W0 s0 s2 a1 r := by
 rw [Lw07_GroveParts.f] at H0
 obtain ⟨b0, o0, hI0⟩ := hL0
 obtain ⟨b2, o2, hI2⟩ := hL2
 refine spec_of [(0, _), (1, _), (2, _)] [(0, _)] 186 Try.func8 R Try.ntmps8 R R R R (fun β W F => ?_)
 refine G.seq <| G.rg <| K.as R R <| K.nil <| At.rdE 18 R (fun S8 W8 => ?_)
 refine At.next ?_
 obtain ⟨x1, H1, H0⟩ := bnd H0
 refine G.sJ (σ := { v : Unit // x1 = Sum.inr v }) (fun q => [(0, SV.raw s0), (1, .a (.c (.v (.int .i64 a1)))), (2, SV.raw s2)]) (fun q => [(0, rd S W0), (18, rd S8 W8)]) ?_ ?_
 ·
  refine G.seq ?_
  obtain ⟨x2, hx2, H1⟩ := bnd H1
  rcases Bool.eq_false_or_eq_true (!x2) with h1 | h1
  ·
   replace H1 := bif_t H1 h1
   refine G.rg <| K.cR (cf 11 R) (Lw07_awake_con hx2) g0 R R R R <| K.un (V := .bool (!x2)) g0 R (fun _ => R) R <| K.mv R R <| K.sk R R h1 R <| K.sk R R h1 R <| K.sk R R h1 R <| K.pickT g0 R (h1) R R <| K.mv R R <| K.sk R R R R <| K.sk R R R R <| K.sk R R R R <| K.pickT g0 R (R) R R <| K.nil <| At.next <| G.cond R (fun h2 => ?_) (fun h2 => ?_)
   ·
    refine G.seq ?_
    obtain ⟨x3, hx3, H1⟩ := bnd H1
    refine G.rg <| K.cR (cf 11 R) (Lw07_awake_con hx3) g0 R R R R <| K.as R R <| K.nil <| At.next <| G.ret <| At.over_ret ?_
    cases H1
    replace H0 := sum_l H0
    exact At.dr Y [6] R R (by cases H0; rfl) (by cases H0; rfl) R R R
   · cases h2
  ·
   replace H1 := bif_f H1 h1
   obtain ⟨x4, hx4, H1⟩ := bnd H1
   rcases Bool.eq_false_or_eq_true (!x4) with h3 | h3
   ·
    replace H1 := bif_t H1 h3
    refine G.rg <| K.cR (cf 11 R) (Lw07_awake_con hx2) g0 R R R R <| K.un (V := .bool (!x2)) g0 R (fun _ => R) R <| K.mv R R <| K.move (.inl R) (g1 R R h1) R R <| K.cV (cf 12 R) [0] (fun β w S2 h => Lw07_small_con ((hI0.isC 0).larg ⟨_, List.mem_cons_self⟩ h) hx4) (g1 R R h1) (fun _ => R) R R R <| K.un (V := .bool (!x4)) (g1 R R h1) R (fun _ => R) R <| K.pickF g0 R (h1) R R <| K.mv R R <| K.sk R R h3 R <| K.sk R R h3 R <| K.sk R R h3 R <| K.pickT g0 R (h3) R R <| K.nil <| At.next <| G.cond R (fun h4 => ?_) (fun h4 => ?_)
    ·
     refine G.seq ?_
     obtain ⟨x5, hx5, H1⟩ := bnd H1
     refine G.rg <| K.cR (cf 11 R) (Lw07_awake_con hx5) g0 R R R R <| K.as R R <| K.nil <| At.next <| G.ret <| At.over_ret ?_
     cases H1
     replace H0 := sum_l H0
     exact At.dr Y [6] R R (by cases H0; rfl) (by cases H0; rfl) R R R
    · cases h4
   ·
    replace H1 := bif_f H1 h3
    obtain ⟨x6, hx6, H1⟩ := bnd H1
    refine G.rg <| K.cR (cf 11 R) (Lw07_awake_con hx2) g0 R R R R <| K.un (V := .bool (!x2)) g0 R (fun _ => R) R <| K.mv R R <| K.move (.inl R) (g1 R R h1) R R <| K.cV (cf 12 R) [0] (fun β w S2 h => Lw07_small_con ((hI0.isC 0).larg ⟨_, List.mem_cons_self⟩ h) hx4) (g1 R R h1) (fun _ => R) R R R <| K.un (V := .bool (!x4)) (g1 R R h1) R (fun _ => R) R <| K.pickF g0 R (h1) R R <| K.mv R R <| K.move (.inl R) (g1 R R h3) R R <| K.cV (cf 12 R) [0] (fun β w S2 h => Lw07_small_con ((hI2.isC 0).larg ⟨_, List.mem_cons_self⟩ h) hx6) (g1 R R h3) (fun _ => R) R R R <| K.un (V := .bool (!x6)) (g1 R R h3) R (fun _ => R) R <| K.pickF g0 R (h3) R R <| K.nil <| At.next <| G.cond R (fun h5 => ?_) (fun h5 => ?_)
    ·
     replace H1 := bif_t H1 h5
     refine G.seq ?_
     obtain ⟨x7, hx7, H1⟩ := bnd H1
     refine G.rg <| K.cR (cf 11 R) (Lw07_awake_con hx7) g0 R R R R <| K.as R R <| K.nil <| At.next <| G.ret <| At.over_ret ?_
     cases H1
     replace H0 := sum_l H0
     exact At.dr Y [6] R R (by cases H0; rfl) (by cases H0; rfl) R R R
    ·
     replace H1 := bif_f H1 h5
     exact G.skip <| At.jd ⟨(), oi H1⟩ [] [_, _] R ⟨R, R, R, trivial⟩ ⟨R, (fun _ => R), R, (fun _ => R), trivial⟩ R
 ·
  rintro ⟨w1, rfl⟩
  replace H0 := sum_r H0
  show G _ _ [(0, SV.raw s0), (1, .a (.c (.v (.int .i64 a1)))), (2, SV.raw s2)] [(0, some (rd S W0)), (18, some (rd S8 W8))] _ _
  refine G.seq ?_
  obtain ⟨x8, hx8, H0⟩ := bnd H0
  refine G.rg <| K.mv R R <| K.cV (cf 13 R) [0] (fun β w S2 h => Lw07_made_con ((hI0.isC 0).larg ⟨_, List.mem_cons_self⟩ h) hx8 100 101 102 R) g0 (fun _ => R) R R R <| K.mv R R <| K.extract g0 R R R <| K.extract g0 R R R <| K.extract g0 R R R <| K.as R R <| K.as R R <| K.as R R <| K.nil <| At.freeze 8 102 R R eTR07Elem_len R (fun S9 W9 v_h6 hf_h6 => ?_)
  refine At.melt 18 102 R R R (fun S8 W8 m1_ m2_ => ?_)
  replace hf_h6 := m2_ hf_h6
  obtain ⟨b_h6, o_h6, hf_h6⟩ := hf_h6
  obtain ⟨ao_h6, cap_h6, hq_h6, _⟩ := hf_h6.sl
  subst hq_h6
  refine At.ns <| G.seq <| G.rg <| K.mv R R <| K.un (V := .bool (!x8.2.2.2)) g0 R (fun _ => R) R <| K.nil <| At.next <| G.cond R (fun h7 => ?_) (fun h7 => ?_)
  ·
   replace H0 := bif_t H0 h7
   exact G.seq <| G.rg <| K.as R R <| K.nil <| At.next <| G.ret <| At.over_ret <| At.dr Y [6] R R (by cases H0; rfl) (by cases H0; rfl) R R R
  ·
   replace H0 := bif_f H0 h7
   refine G.skip <| At.ns ?_
   obtain ⟨x9, hx9, H0⟩ := bnd H0
   refine G.rg <| K.mv R R <| K.mv R R <| K.cV (cf 34 R) [18] (fun β w S2 h => R07_Rank_con ((hf_h6.isC 18).larg ⟨_, List.mem_cons_self⟩ h) hx9) g0 (fun _ => R) R R R <| K.as R R <| K.nil <| At.ns ?_
   obtain ⟨x10, hx10, H0⟩ := bnd H0
   refine G.rg <| K.mv R R <| K.mv R R <| K.build Y [(0, _)] [_, _] [((.tmp 42), _)] g0 (AllE.spec ⟨R, trivial⟩) R R t35 R R <| K.c0 (cf 38 R) (Tree_SplitE_con hx10 100 101 103 R) g0 R R R R <| K.as R R <| K.nil <| At.next ?_
   obtain ⟨x11, H1, H0⟩ := bnd H0
   refine G.sJ (σ := { v : Unit // x11 = Sum.inr v }) (fun q => [(1, .a (.c (.v (.int .i64 a1)))), (2, SV.raw s2), (7, .a (.c (.p 104 0))), (8, SV.raw (Value.slice ao_h6 x8.2.2.1.length cap_h6)), (10, .a (.c (.v (.int .i64 x9)))), (11, .a (.c (.p 106 0)))]) (fun q => [(0, rd S W0), (105, plE 105 x10.2.2), (104, blk 104 [.p 105 0, .v (.int .i64 x10.2.1.index), .v (.int .i64 x10.2.1.gen)] 101), (106, blk 106 [.p 105 0, .v (.int .i64 x10.1.index), .v (.int .i64 x10.1.gen)] 101), (18, rd S8 W8)]) ?_ ?_
   ·
    refine G.seq ?_
    obtain ⟨h8, H1⟩ := grd H1
    obtain ⟨x12, hx12, H1⟩ := bnd H1
    rcases Bool.eq_false_or_eq_true (!x12) with h10 | h10
    ·
     replace H1 := bif_t H1 h10
     refine G.rg <| K.mv R R <| K.eqnil (V := false) g0 R R (pn_eql_some Try.underlying25) R <| K.mv R R <| K.move (.inl R) (g1 R R R) R R <| K.move (.inl R) (g1 R R R) R R <| K.move (.inl R) (g1 R R R) R R <| K.partR 0 ((x9).toNat) hf_h6 (g1 R R R) R .no (.at_ R h8.1 R) Try.underlying26 el26.size_run (Nat.zero_le _) (tn_len h8.2) R <| K.cV (cf 36 R) [18] (fun β w S2 h => Lw07_alike_con (((hf_h6.part (Nat.zero_le _) (tn_len h8.2)).isC 18).larg ⟨_, List.mem_cons_self⟩ h) hx12 100 101) (g1 R R R) (fun _ => R) R R R <| K.un (V := .bool (!x12)) (g1 R R R) R (fun _ => R) R <| K.pickF g0 R (R) R R <| K.mv R R <| K.sk R R h10 R <| K.sk R R h10 R <| K.sk R R h10 R <| K.sk R R h10 R <| K.sk R R h10 R <| K.sk R R h10 R <| K.pickT g0 R (h10) R R <| K.mv R R <| K.sk R R R R <| K.sk R R R R <| K.sk R R R R <| K.pickT g0 R (R) R R <| K.mv R R <| K.sk R R R R <| K.sk R R R R <| K.pickT g0 R (R) R R <| K.mv R R <| K.sk R R R R <| K.sk R R R R <| K.sk R R R R <| K.pickT g0 R (R) R R <| K.nil <| At.next <| G.cond R (fun h11 => ?_) (fun h11 => ?_)
     ·
      refine G.seq <| G.rg <| K.as R R <| K.nil <| At.next <| G.ret <| At.over_ret ?_
      cases H1
      replace H0 := sum_l H0
      exact At.dr Y [6] R R (by cases H0; rfl) (by cases H0; rfl) R R R
     · cases h11
    ·
     replace H1 := bif_f H1 h10
     obtain ⟨h12, H1⟩ := grd H1
     obtain ⟨x13, hx13, H1⟩ := bnd H1
     rcases Bool.eq_false_or_eq_true (!x13) with h14 | h14
     ·
      replace H1 := bif_t H1 h14
      refine G.rg <| K.mv R R <| K.eqnil (V := false) g0 R R (pn_eql_some Try.underlying25) R <| K.mv R R <| K.move (.inl R) (g1 R R R) R R <| K.move (.inl R) (g1 R R R) R R <| K.move (.inl R) (g1 R R R) R R <| K.partR 0 ((x9).toNat) hf_h6 (g1 R R R) R .no (.at_ R h8.1 R) Try.underlying26 el26.size_run (Nat.zero_le _) (tn_len h8.2) R <| K.cV (cf 36 R) [18] (fun β w S2 h => Lw07_alike_con (((hf_h6.part (Nat.zero_le _) (tn_len h8.2)).isC 18).larg ⟨_, List.mem_cons_self⟩ h) hx12 100 101) (g1 R R R) (fun _ => R) R R R <| K.un (V := .bool (!x12)) (g1 R R R) R (fun _ => R) R <| K.pickF g0 R (R) R R <| K.mv R R <| K.move (.inl R) (g1 R R h10) R R <| K.move (.inl R) (g1 R R h10) R R <| K.move (.inl R) (g1 R R h10) R R <| K.partR ((x9).toNat) x8.2.2.1.length hf_h6 (g1 R R h10) R (.at_ R h12.1 R) .no Try.underlying26 el26.size_run (tn_len h12.2) (Nat.le_refl _) R <| K.cV (cf 36 R) [18] (fun β w S2 h => Lw07_alike_con (((hf_h6.part (tn_len h12.2) (Nat.le_refl _)).isC 18).larg ⟨_, List.mem_cons_self⟩ h) hx13 103 101) (g1 R R h10) (fun _ => R) R R R <| K.un (V := .bool (!x13)) (g1 R R h10) R (fun _ => R) R <| K.pickF g0 R (h10) R R <| K.mv R R <| K.sk R R h14 R <| K.sk R R h14 R <| K.sk R R h14 R <| K.pickT g0 R (h14) R R <| K.mv R R <| K.sk R R R R <| K.sk R R R R <| K.pickT g0 R (R) R R <| K.mv R R <| K.sk R R R R <| K.sk R R R R <| K.sk R R R R <| K.pickT g0 R (R) R R <| K.nil <| At.next <| G.cond R (fun h15 => ?_) (fun h15 => ?_)
      ·
       refine G.seq <| G.rg <| K.as R R <| K.nil <| At.next <| G.ret <| At.over_ret ?_
       cases H1
       replace H0 := sum_l H0
       exact At.dr Y [6] R R (by cases H0; rfl) (by cases H0; rfl) R R R
      · cases h15
     ·
      replace H1 := bif_f H1 h14
      obtain ⟨x14, hx14, H1⟩ := bnd H1
      rcases Bool.eq_false_or_eq_true x14 with h16 | h16
      ·
       replace H1 := bif_t H1 h16
       refine G.rg <| K.mv R R <| K.eqnil (V := false) g0 R R (pn_eql_some Try.underlying25) R <| K.mv R R <| K.move (.inl R) (g1 R R R) R R <| K.move (.inl R) (g1 R R R) R R <| K.move (.inl R) (g1 R R R) R R <| K.partR 0 ((x9).toNat) hf_h6 (g1 R R R) R .no (.at_ R h8.1 R) Try.underlying26 el26.size_run (Nat.zero_le _) (tn_len h8.2) R <| K.cV (cf 36 R) [18] (fun β w S2 h => Lw07_alike_con (((hf_h6.part (Nat.zero_le _) (tn_len h8.2)).isC 18).larg ⟨_, List.mem_cons_self⟩ h) hx12 100 101) (g1 R R R) (fun _ => R) R R R <| K.un (V := .bool (!x12)) (g1 R R R) R (fun _ => R) R <| K.pickF g0 R (R) R R <| K.mv R R <| K.move (.inl R) (g1 R R h10) R R <| K.move (.inl R) (g1 R R h10) R R <| K.move (.inl R) (g1 R R h10) R R <| K.partR ((x9).toNat) x8.2.2.1.length hf_h6 (g1 R R h10) R (.at_ R h12.1 R) .no Try.underlying26 el26.size_run (tn_len h12.2) (Nat.le_refl _) R <| K.cV (cf 36 R) [18] (fun β w S2 h => Lw07_alike_con (((hf_h6.part (tn_len h12.2) (Nat.le_refl _)).isC 18).larg ⟨_, List.mem_cons_self⟩ h) hx13 103 101) (g1 R R h10) (fun _ => R) R R R <| K.un (V := .bool (!x13)) (g1 R R h10) R (fun _ => R) R <| K.pickF g0 R (h10) R R <| K.mv R R <| K.move (.inl R) (g1 R R h14) R R <| K.move (.inl R) (g1 R R h14) R R <| K.cR (cf 39 R) (Tree_Join_tE_t1_con hx14 100 101) (g1 R R h14) R R R R <| K.pickF g0 R (h14) R R <| K.mv R R <| K.sk R R h16 R <| K.sk R R h16 R <| K.pickT g0 R (h16) R R <| K.mv R R <| K.sk R R R R <| K.sk R R R R <| K.sk R R R R <| K.pickT g0 R (R) R R <| K.nil <| At.next <| G.cond R (fun h17 => ?_) (fun h17 => ?_)
       ·
        refine G.seq <| G.rg <| K.as R R <| K.nil <| At.next <| G.ret <| At.over_ret ?_
        cases H1
        replace H0 := sum_l H0
        exact At.dr Y [6] R R (by cases H0; rfl) (by cases H0; rfl) R R R
       · cases h17
      ·
       replace H1 := bif_f H1 h16
       obtain ⟨x15, hx15, H1⟩ := bnd H1
       rcases Bool.eq_false_or_eq_true x15 with h18 | h18
       ·
        replace H1 := bif_t H1 h18
        refine G.rg <| K.mv R R <| K.eqnil (V := false) g0 R R (pn_eql_some Try.underlying25) R <| K.mv R R <| K.move (.inl R) (g1 R R R) R R <| K.move (.inl R) (g1 R R R) R R <| K.move (.inl R) (g1 R R R) R R <| K.partR 0 ((x9).toNat) hf_h6 (g1 R R R) R .no (.at_ R h8.1 R) Try.underlying26 el26.size_run (Nat.zero_le _) (tn_len h8.2) R <| K.cV (cf 36 R) [18] (fun β w S2 h => Lw07_alike_con (((hf_h6.part (Nat.zero_le _) (tn_len h8.2)).isC 18).larg ⟨_, List.mem_cons_self⟩ h) hx12 100 101) (g1 R R R) (fun _ => R) R R R <| K.un (V := .bool (!x12)) (g1 R R R) R (fun _ => R) R <| K.pickF g0 R (R) R R <| K.mv R R <| K.move (.inl R) (g1 R R h10) R R <| K.move (.inl R) (g1 R R h10) R R <| K.move (.inl R) (g1 R R h10) R R <| K.partR ((x9).toNat) x8.2.2.1.length hf_h6 (g1 R R h10) R (.at_ R h12.1 R) .no Try.underlying26 el26.size_run (tn_len h12.2) (Nat.le_refl _) R <| K.cV (cf 36 R) [18] (fun β w S2 h => Lw07_alike_con (((hf_h6.part (tn_len h12.2) (Nat.le_refl _)).isC 18).larg ⟨_, List.mem_cons_self⟩ h) hx13 103 101) (g1 R R h10) (fun _ => R) R R R <| K.un (V := .bool (!x13)) (g1 R R h10) R (fun _ => R) R <| K.pickF g0 R (h10) R R <| K.mv R R <| K.move (.inl R) (g1 R R h14) R R <| K.move (.inl R) (g1 R R h14) R R <| K.cR (cf 39 R) (Tree_Join_tE_t1_con hx14 100 101) (g1 R R h14) R R R R <| K.pickF g0 R (h14) R R <| K.mv R R <| K.move (.inl R) (g1 R R h16) R R <| K.cR (cf 39 R) (Tree_Join_zE_z1_con hx15 100 101) (g1 R R h16) R R R R <| K.pickF g0 R (h16) R R <| K.mv R R <| K.sk R R h18 R <| K.sk R R h18 R <| K.sk R R h18 R <| K.pickT g0 R (h18) R R <| K.nil <| At.next <| G.cond R (fun h19 => ?_) (fun h19 => ?_)
        ·
         refine G.seq <| G.rg <| K.as R R <| K.nil <| At.next <| G.ret <| At.over_ret ?_
         cases H1
         replace H0 := sum_l H0
         exact At.dr Y [6] R R (by cases H0; rfl) (by cases H0; rfl) R R R
        · cases h19
       ·
        replace H1 := bif_f H1 h18
        obtain ⟨x16, hx16, H1⟩ := bnd H1
        obtain ⟨x17, hx17, H1⟩ := bnd H1
        refine G.rg <| K.mv R R <| K.eqnil (V := false) g0 R R (pn_eql_some Try.underlying25) R <| K.mv R R <| K.move (.inl R) (g1 R R R) R R <| K.move (.inl R) (g1 R R R) R R <| K.move (.inl R) (g1 R R R) R R <| K.partR 0 ((x9).toNat) hf_h6 (g1 R R R) R .no (.at_ R h8.1 R) Try.underlying26 el26.size_run (Nat.zero_le _) (tn_len h8.2) R <| K.cV (cf 36 R) [18] (fun β w S2 h => Lw07_alike_con (((hf_h6.part (Nat.zero_le _) (tn_len h8.2)).isC 18).larg ⟨_, List.mem_cons_self⟩ h) hx12 100 101) (g1 R R R) (fun _ => R) R R R <| K.un (V := .bool (!x12)) (g1 R R R) R (fun _ => R) R <| K.pickF g0 R (R) R R <| K.mv R R <| K.move (.inl R) (g1 R R h10) R R <| K.move (.inl R) (g1 R R h10) R R <| K.move (.inl R) (g1 R R h10) R R <| K.partR ((x9).toNat) x8.2.2.1.length hf_h6 (g1 R R h10) R (.at_ R h12.1 R) .no Try.underlying26 el26.size_run (tn_len h12.2) (Nat.le_refl _) R <| K.cV (cf 36 R) [18] (fun β w S2 h => Lw07_alike_con (((hf_h6.part (tn_len h12.2) (Nat.le_refl _)).isC 18).larg ⟨_, List.mem_cons_self⟩ h) hx13 103 101) (g1 R R h10) (fun _ => R) R R R <| K.un (V := .bool (!x13)) (g1 R R h10) R (fun _ => R) R <| K.pickF g0 R (h10) R R <| K.mv R R <| K.move (.inl R) (g1 R R h14) R R <| K.move (.inl R) (g1 R R h14) R R <| K.cR (cf 39 R) (Tree_Join_tE_t1_con hx14 100 101) (g1 R R h14) R R R R <| K.pickF g0 R (h14) R R <| K.mv R R <| K.move (.inl R) (g1 R R h16) R R <| K.cR (cf 39 R) (Tree_Join_zE_z1_con hx15 100 101) (g1 R R h16) R R R R <| K.pickF g0 R (h16) R R <| K.mv R R <| K.move (.inl R) (g1 R R h18) R R <| K.c0 (cf 18 R) (Tree_NewE_con hx16 107 108 R) (g1 R R h18) R R R R <| K.cR (cf 39 R) (Tree_Join_pE_p1_con hx17 100 101 107 108) (g1 R R h18) R R R R <| K.pickF g0 R (h18) R R <| K.nil <| At.next <| G.cond R (fun h20 => ?_) (fun h20 => ?_)
        ·
         replace H1 := bif_t H1 h20
         refine G.seq <| G.rg <| K.as R R <| K.nil <| At.next <| G.ret <| At.over_ret ?_
         cases H1
         replace H0 := sum_l H0
         exact At.dr Y [6] R R (by cases H0; rfl) (by cases H0; rfl) R R R
        ·
         replace H1 := bif_f H1 h20
         exact G.skip <| At.jd ⟨(), oi H1⟩ [(104, 100), (105, 101), (106, 103)] [_, _, _, _, _] R ⟨R, R, R, R, R, R, trivial⟩ ⟨R, (fun _ => R), R, (pl_ren R), R, (blk_ren R R), R, (blk_ren R R), R, (fun _ => R), trivial⟩ R
   ·
    rintro ⟨w11, rfl⟩
    replace H0 := sum_r H0
    show G _ _ [(1, .a (.c (.v (.int .i64 a1)))), (2, SV.raw s2), (7, .a (.c (.p 104 0))), (8, SV.raw (Value.slice ao_h6 x8.2.2.1.length cap_h6)), (10, .a (.c (.v (.int .i64 x9)))), (11, .a (.c (.p 106 0)))] [(0, some (rd S W0)), (105, some (plE 105 x10.2.2)), (104, some (blk 104 [.p 105 0, .v (.int .i64 x10.2.1.index), .v (.int .i64 x10.2.1.gen)] 101)), (106, some (blk 106 [.p 105 0, .v (.int .i64 x10.1.index), .v (.int .i64 x10.1.gen)] 101)), (18, some (rd S8 W8))] _ _
    obtain ⟨x18, H1, H0⟩ := bnd H0
    refine G.sJ (σ := { v : Pool (TNode TL07Elem TTide) × Int × Int × Int × Int // x18 = Sum.inr v }) (fun q => [(1, .a (.c (.v (.int .i64 a1)))), (2, SV.raw s2), (7, .a (.c (.p 109 0))), (8, SV.raw (Value.slice ao_h6 x8.2.2.1.length cap_h6)), (10, .a (.c (.v (.int .i64 x9)))), (11, .a (.c (.p 111 0)))]) (fun q => [(0, rd S W0), (110, plE 110 q.1.1), (109, blk 109 [.p 110 0, .v (.int .i64 q.1.2.1), .v (.int .i64 q.1.2.2.1)] 101), (111, blk 111 [.p 110 0, .v (.int .i64 q.1.2.2.2.1), .v (.int .i64 q.1.2.2.2.2)] 101), (18, rd S8 W8)]) ?_ ?_
    ·
     refine G.seq ?_
     rcases Bool.eq_false_or_eq_true (decide (x9 > 0)) with h21 | h21
     ·
      replace H1 := bif_t H1 h21
      rcases Bool.eq_false_or_eq_true (decide (x9 < (x8.2.2.1.length : Int))) with h22 | h22
      ·
       replace H1 := bif_t H1 h22
       obtain ⟨x19, hx19, H1⟩ := bnd H1
       refine G.rg <| K.mv R R <| K.bin (V := .bool (decide (x9 > 0))) g0 R R (fun _ => R) R <| K.mv R R <| K.move (.inl R) (g1 R R h21) R R <| K.move (.inl R) (g1 R R h21) R R <| K.lenL (rV 18 S8 W8 (Value.slice ao_h6 x8.2.2.1.length cap_h6) b_h6 o_h6 eTR07Elem 2 x8.2.2.1) (hf_h6.is 18) (g1 R R h21) R R Try.underlying26 R <| K.bin (V := .bool (decide (x9 < (x8.2.2.1.length : Int)))) (g1 R R h21) R R (fun _ => R) R <| K.pickT g0 R (h21) R R <| K.mv R R <| K.move (.inl R) (g1 R R h22) R R <| K.move (.inl R) (g1 R R h22) R R <| K.c0 (cf 39 R) (Tree_JoinE_con hx19 106 105 104) (g1 R R h22) R R R R <| K.pickT g0 R (h22) R R <| K.nil <| At.next <| G.cond R (fun h23 => ?_) (fun h23 => ?_)
       ·
        replace H1 := bif_t H1 h23
        refine G.seq <| G.rg <| K.as R R <| K.nil <| At.next <| G.ret <| At.over_ret ?_
        cases H1
        replace H0 := sum_l H0
        exact At.dr Y [6] R R (by cases H0; rfl) (by cases H0; rfl) R R R
       ·
        replace H1 := bif_f H1 h23
        exact G.skip <| At.jd ⟨(x19.2.2.2, x19.2.2.1.index, x19.2.2.1.gen, x19.2.1.index, x19.2.1.gen), oi H1⟩ [(109, 104), (110, 105), (111, 106)] [_, _, _, _, _] R ⟨R, R, R, R, R, R, trivial⟩ ⟨R, (fun _ => R), R, (pl_ren R), R, (blk_ren R R), R, (blk_ren R R), R, (fun _ => R), trivial⟩ R
      ·
       replace H1 := bif_f H1 h22
       refine G.rg <| K.mv R R <| K.bin (V := .bool (decide (x9 > 0))) g0 R R (fun _ => R) R <| K.mv R R <| K.move (.inl R) (g1 R R h21) R R <| K.move (.inl R) (g1 R R h21) R R <| K.lenL (rV 18 S8 W8 (Value.slice ao_h6 x8.2.2.1.length cap_h6) b_h6 o_h6 eTR07Elem 2 x8.2.2.1) (hf_h6.is 18) (g1 R R h21) R R Try.underlying26 R <| K.bin (V := .bool (decide (x9 < (x8.2.2.1.length : Int)))) (g1 R R h21) R R (fun _ => R) R <| K.pickT g0 R (h21) R R <| K.mv R R <| K.sk R R h22 R <| K.sk R R h22 R <| K.sk R R h22 R <| K.pickF g0 R (h22) R R <| K.nil <| At.next <| G.cond R (fun h24 => ?_) (fun h24 => ?_)
       · cases h24
       ·
        exact G.skip <| At.jd ⟨(x10.2.2, x10.2.1.index, x10.2.1.gen, x10.1.index, x10.1.gen), oi H1⟩ [(109, 104), (110, 105), (111, 106)] [_, _, _, _, _] R ⟨R, R, R, R, R, R, trivial⟩ ⟨R, (fun _ => R), R, (pl_ren R), R, (blk_ren R R), R, (blk_ren R R), R, (fun _ => R), trivial⟩ R
     ·
      replace H1 := bif_f H1 h21
      refine G.rg <| K.mv R R <| K.bin (V := .bool (decide (x9 > 0))) g0 R R (fun _ => R) R <| K.mv R R <| K.sk R R h21 R <| K.sk R R h21 R <| K.sk R R h21 R <| K.sk R R h21 R <| K.pickF g0 R (h21) R R <| K.mv R R <| K.sk R R R R <| K.sk R R R R <| K.sk R R R R <| K.pickF g0 R (R) R R <| K.nil <| At.next <| G.cond R (fun h25 => ?_) (fun h25 => ?_)
      · cases h25
      ·
       exact G.skip <| At.jd ⟨(x10.2.2, x10.2.1.index, x10.2.1.gen, x10.1.index, x10.1.gen), oi H1⟩ [(109, 104), (110, 105), (111, 106)] [_, _, _, _, _] R ⟨R, R, R, R, R, R, trivial⟩ ⟨R, (fun _ => R), R, (pl_ren R), R, (blk_ren R R), R, (blk_ren R R), R, (fun _ => R), trivial⟩ R
    ·
     rintro ⟨w18, rfl⟩
     replace H0 := sum_r H0
     show G _ _ [(1, .a (.c (.v (.int .i64 a1)))), (2, SV.raw s2), (7, .a (.c (.p 109 0))), (8, SV.raw (Value.slice ao_h6 x8.2.2.1.length cap_h6)), (10, .a (.c (.v (.int .i64 x9)))), (11, .a (.c (.p 111 0)))] [(0, some (rd S W0)), (110, some (plE 110 w18.1)), (109, some (blk 109 [.p 110 0, .v (.int .i64 w18.2.1), .v (.int .i64 w18.2.2.1)] 101)), (111, some (blk 111 [.p 110 0, .v (.int .i64 w18.2.2.2.1), .v (.int .i64 w18.2.2.2.2)] 101)), (18, some (rd S8 W8))] _ _
     refine G.seq ?_
     obtain ⟨h26, H0⟩ := grd H0
     obtain ⟨h28, H0⟩ := grd H0
     refine G.rd mixed <| K.mv R R <| K.mv R R <| K.partR 0 ((x9).toNat) hf_h6 g0 R .no (.at_ R h26.1 R) Try.underlying26 el26.size_run (Nat.zero_le _) (tn_len h26.2) R <| K.mv R R <| K.mv R R <| K.partR ((x9).toNat) x8.2.2.1.length hf_h6 g0 R (.at_ R h28.1 R) .no Try.underlying26 el26.size_run (tn_len h28.2) (Nat.le_refl _) R <| K.as R R <| K.as R R <| K.nil <| And.intro (by kernel_rfl) <| At.next ?_
     obtain ⟨x20, H1, H0⟩ := bnd H0
     refine G.sJ (σ := { q : (Pool (TNode TL07Elem TTide) × Int × Int × Int × Int × List TR07Elem × List TR07Elem) × Foot × World × Value × Value // x20 = q.1 ∧ LArg q.2.1 q.2.2.1 q.2.2.2.1 eTR07Elem 2 q.1.2.2.2.2.2.1 ∧ LArg q.2.1 q.2.2.1 q.2.2.2.2 eTR07Elem 2 q.1.2.2.2.2.2.2 }) (fun q => [(7, .a (.c (.p 112 0))), (11, .a (.c (.p 114 0))), (12, SV.raw q.1.2.2.2.1), (13, SV.raw q.1.2.2.2.2)]) (fun q => [(0, rd S W0), (113, plE 113 q.1.1.1), (112, blk 112 [.p 113 0, .v (.int .i64 q.1.1.2.1), .v (.int .i64 q.1.1.2.2.1)] 101), (114, blk 114 [.p 113 0, .v (.int .i64 q.1.1.2.2.2.1), .v (.int .i64 q.1.1.2.2.2.2.1)] 101), (18, rd q.1.2.1 q.1.2.2.1)]) ?_ ?_
     ·
      refine G.seq <| G.rg <| K.as R R <| K.nil <| At.next <| G.block <| G.lp (σ := { q : Nat × (Pool (TNode TL07Elem TTide) × Int × Int × Int × Int × List TR07Elem × List TR07Elem × Int) × Foot × World × Value × Value // Lw07_GroveParts.l0 k a1 l2 q.1 q.2.1 = some x20 ∧ LArg q.2.2.1 q.2.2.2.1 q.2.2.2.2.1 eTR07Elem 2 q.2.1.2.2.2.2.2.1 ∧ LArg q.2.2.1 q.2.2.2.1 q.2.2.2.2.2 eTR07Elem 2 q.2.1.2.2.2.2.2.2.1 }) (fun q => [(1, .a (.c (.v (.int .i64 a1)))), (2, SV.raw s2), (7, .a (.c (.p 121 0))), (11, .a (.c (.p 123 0))), (12, SV.raw q.1.2.2.2.2.1), (13, SV.raw q.1.2.2.2.2.2), (14, .a (.c (.v (.int .i64 q.1.2.1.2.2.2.2.2.2.2))))]) (fun q => [(0, rd S W0), (122, plE 122 q.1.2.1.1), (121, blk 121 [.p 122 0, .v (.int .i64 q.1.2.1.2.1), .v (.int .i64 q.1.2.1.2.2.1)] 101), (123, blk 123 [.p 122 0, .v (.int .i64 q.1.2.1.2.2.2.1), .v (.int .i64 q.1.2.1.2.2.2.2.1)] 101), (18, rd q.1.2.2.1 q.1.2.2.2.1)]) (fun q => q.1.1) ⟨(k, (w18.1, w18.2.1, w18.2.2.1, w18.2.2.2.1, w18.2.2.2.2, ((x8.2.2.1.drop 0).take (((x9).toNat) - 0)), ((x8.2.2.1.drop ((x9).toNat)).take (x8.2.2.1.length - ((x9).toNat))), 0), S8, W8, (partOf 0 ((x9).toNat) 2 (Value.slice ao_h6 x8.2.2.1.length cap_h6)), (partOf ((x9).toNat) x8.2.2.1.length 2 (Value.slice ao_h6 x8.2.2.1.length cap_h6))), H1, ⟨_, _, (hf_h6.part (Nat.zero_le _) (tn_len h26.2))⟩, ⟨_, _, (hf_h6.part (tn_len h28.2) (Nat.le_refl _))⟩⟩ ?_ ?_
      · exact At.into [(121, 109), (122, 110), (123, 111)] [_, _, _, _, _] R ⟨R, R, R, R, R, R, R, trivial⟩ ⟨R, (fun _ => R), R, (pl_ren R), R, (blk_ren R R), R, (blk_ren R R), R, (fun _ => R), trivial⟩ R
      ·
       rintro ⟨⟨n0, ⟨v1, v2, v3, v4, v5, v6, v7, v8⟩, S8, W8, rv8_0, rv8_1⟩, H1, ⟨bv8_0, ov8_0, hv8_0⟩, ⟨bv8_1, ov8_1, hv8_1⟩⟩
       show G _ _ [(1, .a (.c (.v (.int .i64 a1)))), (2, SV.raw s2), (7, .a (.c (.p 121 0))), (11, .a (.c (.p 123 0))), (12, SV.raw rv8_0), (13, SV.raw rv8_1), (14, .a (.c (.v (.int .i64 v8))))] [(0, some (rd S W0)), (122, some (plE 122 v1)), (121, some (blk 121 [.p 122 0, .v (.int .i64 v2), .v (.int .i64 v3)] 101)), (123, some (blk 123 [.p 122 0, .v (.int .i64 v4), .v (.int .i64 v5)] 101)), (18, some (rd S8 W8))] _ _
       cases n0 with
       | zero => exact absurd H1 (by simp [Lw07_GroveParts.l0])
       | succ n0 =>
        have HL0 := H1
        rw [Lw07_GroveParts.l0] at H1
        refine G.seq <| G.seq <| G.rg <| K.mv R R <| K.mv R R <| K.lenL (rV 0 S W0 s2 b2 o2 eTL07Act 3 l2) (hI2.is 0) g0 R R Try.underlying22 R <| K.bin (V := .bool (decide (v8 < (l2.length : Int)))) g0 R R (fun _ => R) R <| K.nil <| At.next <| G.cond R (fun h30 => ?_) (fun h30 => ?_)
        ·
         replace H1 := bif_t H1 h30
         refine G.skip <| At.ns <| G.block <| G.seq ?_
         obtain ⟨x21, hx21, H1⟩ := bnd H1
         refine G.rd mixed <| K.mv R R <| K.mv R R <| K.idxL (rV 0 S W0 s2 b2 o2 eTL07Act 3 l2) ((v8).toNat) (hI2.is 0) (atL_get hx21) (atL_nn hx21) g0 R R R Try.underlying22 el22.size_run R <| K.fieldL Y (rV 0 S W0 s2 b2 o2 eTL07Act 3 l2) ((v8).toNat) 0 1 (hI2.is 0) (atL_get hx21) g0 R R t41 R R R R <| K.load1L Y (rV 0 S W0 s2 b2 o2 eTL07Act 3 l2) ((v8).toNat) 1 (hI2.is 0) (atL_get hx21) g0 R R t3 R R <| K.mv R R <| K.mv R R <| K.idxL (rV 0 S W0 s2 b2 o2 eTL07Act 3 l2) ((v8).toNat) (hI2.is 0) (atL_get hx21) (atL_nn hx21) g0 R R R Try.underlying22 el22.size_run R <| K.fieldL Y (rV 0 S W0 s2 b2 o2 eTL07Act 3 l2) ((v8).toNat) 0 2 (hI2.is 0) (atL_get hx21) g0 R R t41 R R R R <| K.load1L Y (rV 0 S W0 s2 b2 o2 eTL07Act 3 l2) ((v8).toNat) 2 (hI2.is 0) (atL_get hx21) g0 R R t3 R R <| K.build Y [(0, _), (1, _)] [_, _] [((.tmp 106), _), ((.tmp 111), _)] g0 (AllE.spec ⟨R, R, trivial⟩) R R t54 R R <| K.alloc Y 124 _ g0 t54 R R R R R <| K.store Y _ g0 R R R t54 R R R R R <| K.nil <| And.intro (by kernel_rfl) <| At.nr <| K.fieldAddr Y g0 R t54 R R <| K.load1 Y g0 R R t3 R R <| K.mv R R <| K.bin (V := .bool (decide (x21.k < a1))) g0 R R (fun _ => R) R <| K.nil <| At.next <| G.cond R (fun h31 => ?_) (fun h31 => ?_)
         ·
          replace H1 := bif_t H1 h31
          refine G.seq ?_
          obtain ⟨x22, hx22, H1⟩ := bnd H1
          refine G.rg <| K.mv R R <| K.fieldAddr Y g0 R t54 R R <| K.load1 Y g0 R R t3 R R <| K.fieldAddr Y g0 R t54 R R <| K.load1 Y g0 R R t3 R R <| K.build Y [(0, _), (1, _)] [_, _] [((.tmp 119), _), ((.tmp 121), _)] g0 (AllE.spec ⟨R, R, trivial⟩) R R t35 R R <| K.c0 (cf 23 R) (Tree_PutE_con hx22 121 122) g0 R R R R <| K.nil <| At.next ?_
          obtain ⟨x23, hx23, H1⟩ := bnd H1
          refine G.rg <| K.mv R R <| K.loadS Y _ g0 R R t54 R R R <| K.cV (cf 32 R) [18] (fun β w S2 h => R07_Put_d_d0_con ((hv8_0.isC 18).larg ⟨_, List.mem_cons_self⟩ h) hx23 125 R) g0 (fun _ => R) R R R <| K.mv R R <| K.extract g0 R R R <| K.extract g0 R R R <| K.as R R <| K.nil <| At.freeze 12 125 R R eTR07Elem_len R (fun S9 W9 v_h32 hf_h32 => ?_)
          refine At.melt 18 125 R R R (fun S8 W8 m1_ m2_ => ?_)
          replace hf_h32 := m2_ hf_h32
          obtain ⟨b_h32, o_h32, hf_h32⟩ := hf_h32
          obtain ⟨bq0_h32, oq0_h32, hq0_h32⟩ := m1_ ⟨_, _, hv8_0⟩
          obtain ⟨bq1_h32, oq1_h32, hq1_h32⟩ := m1_ ⟨_, _, hv8_1⟩
          obtain ⟨ao_h32, cap_h32, hq_h32, _⟩ := hf_h32.sl
          subst hq_h32
          exact At.block_normal <| At.next <| G.rg <| K.mv R R <| K.bin (V := .int .i64 (w64 (v8 + 1))) g0 R R (fun _ => R) R <| K.as R R <| K.nil <| At.ag ⟨(n0, (x22.2.2, x22.2.1.index, x22.2.1.gen, v4, v5, x23.1, v7, (w64 (v8 + 1))), S8, W8, (Value.slice ao_h32 x23.1.length cap_h32), rv8_1), H1, ⟨_, _, hf_h32⟩, ⟨_, _, hq1_h32⟩⟩ [] [_, _, _, _, _] (Nat.lt_succ_self _) R ⟨R, R, R, R, R, R, R, trivial⟩ ⟨R, (fun _ => R), R, (pl_ren R), R, (blk_ren R R), R, (blk_ren R R), R, (fun _ => R), trivial⟩ R
         ·
          replace H1 := bif_f H1 h31
          refine G.seq ?_
          obtain ⟨x24, hx24, H1⟩ := bnd H1
          refine G.rg <| K.mv R R <| K.fieldAddr Y g0 R t54 R R <| K.load1 Y g0 R R t3 R R <| K.fieldAddr Y g0 R t54 R R <| K.load1 Y g0 R R t3 R R <| K.build Y [(0, _), (1, _)] [_, _] [((.tmp 132), _), ((.tmp 134), _)] g0 (AllE.spec ⟨R, R, trivial⟩) R R t35 R R <| K.c0 (cf 23 R) (Tree_PutE_con hx24 123 122) g0 R R R R <| K.nil <| At.next ?_
          obtain ⟨x25, hx25, H1⟩ := bnd H1
          refine G.rg <| K.mv R R <| K.loadS Y _ g0 R R t54 R R R <| K.cV (cf 32 R) [18] (fun β w S2 h => R07_Put_d_d0_con ((hv8_1.isC 18).larg ⟨_, List.mem_cons_self⟩ h) hx25 126 R) g0 (fun _ => R) R R R <| K.mv R R <| K.extract g0 R R R <| K.extract g0 R R R <| K.as R R <| K.nil <| At.freeze 13 126 R R eTR07Elem_len R (fun S9 W9 v_h33 hf_h33 => ?_)
          refine At.melt 18 126 R R R (fun S8 W8 m1_ m2_ => ?_)
          replace hf_h33 := m2_ hf_h33
          obtain ⟨b_h33, o_h33, hf_h33⟩ := hf_h33
          obtain ⟨bq0_h33, oq0_h33, hq0_h33⟩ := m1_ ⟨_, _, hv8_0⟩
          obtain ⟨bq1_h33, oq1_h33, hq1_h33⟩ := m1_ ⟨_, _, hv8_1⟩
          obtain ⟨ao_h33, cap_h33, hq_h33, _⟩ := hf_h33.sl
          subst hq_h33
          exact At.block_normal <| At.next <| G.rg <| K.mv R R <| K.bin (V := .int .i64 (w64 (v8 + 1))) g0 R R (fun _ => R) R <| K.as R R <| K.nil <| At.ag ⟨(n0, (x24.2.2, v2, v3, x24.2.1.index, x24.2.1.gen, v6, x25.1, (w64 (v8 + 1))), S8, W8, rv8_0, (Value.slice ao_h33 x25.1.length cap_h33)), H1, ⟨_, _, hq0_h33⟩, ⟨_, _, hf_h33⟩⟩ [] [_, _, _, _, _] (Nat.lt_succ_self _) R ⟨R, R, R, R, R, R, R, trivial⟩ ⟨R, (fun _ => R), R, (pl_ren R), R, (blk_ren R R), R, (blk_ren R R), R, (fun _ => R), trivial⟩ R
        ·
         replace H1 := bif_f H1 h30
         exact G.exit <| At.over_exit <| At.over_exit <| At.block_hit <| At.jd ⟨((v1, v2, v3, v4, v5, v6, v7), S8, W8, rv8_0, rv8_1), oi H1, ⟨_, _, hv8_0⟩, ⟨_, _, hv8_1⟩⟩ [(112, 121), (113, 122), (114, 123)] [_, _, _, _, _] R ⟨R, R, R, R, trivial⟩ ⟨R, (fun _ => R), R, (pl_ren R), R, (blk_ren R R), R, (blk_ren R R), R, (fun _ => R), trivial⟩ R
     ·
      rintro ⟨⟨y_, S8, W8, rv8_0, rv8_1⟩, e_, ⟨bv8_0, ov8_0, hv8_0⟩, ⟨bv8_1, ov8_1, hv8_1⟩⟩
      dsimp only at e_ ⊢
      subst e_
      show G _ _ [(7, .a (.c (.p 112 0))), (11, .a (.c (.p 114 0))), (12, SV.raw rv8_0), (13, SV.raw rv8_1)] [(0, some (rd S W0)), (113, some (plE 113 x20.1)), (112, some (blk 112 [.p 113 0, .v (.int .i64 x20.2.1), .v (.int .i64 x20.2.2.1)] 101)), (114, some (blk 114 [.p 113 0, .v (.int .i64 x20.2.2.2.1), .v (.int .i64 x20.2.2.2.2.1)] 101)), (18, some (rd S8 W8))] _ _
      obtain ⟨x26, H1, H0⟩ := bnd H0
      refine G.sJ (σ := { v : Pool (TNode TL07Elem TTide) × Int × Int × Int × Int // x26 = Sum.inr v }) (fun q => [(7, .a (.c (.p 127 0))), (11, .a (.c (.p 129 0))), (12, SV.raw rv8_0), (13, SV.raw rv8_1)]) (fun q => [(0, rd S W0), (128, plE 128 q.1.1), (127, blk 127 [.p 128 0, .v (.int .i64 q.1.2.1), .v (.int .i64 q.1.2.2.1)] 101), (129, blk 129 [.p 128 0, .v (.int .i64 q.1.2.2.2.1), .v (.int .i64 q.1.2.2.2.2)] 101), (18, rd S8 W8)]) ?_ ?_
      ·
       refine G.seq ?_
       obtain ⟨x27, hx27, H1⟩ := bnd H1
       rcases Bool.eq_false_or_eq_true (!x27) with h34 | h34
       ·
        replace H1 := bif_t H1 h34
        refine G.rg <| K.mv R R <| K.mv R R <| K.cV (cf 36 R) [18] (fun β w S2 h => Lw07_alike_con ((hv8_0.isC 18).larg ⟨_, List.mem_cons_self⟩ h) hx27 112 113) g0 (fun _ => R) R R R <| K.un (V := .bool (!x27)) g0 R (fun _ => R) R <| K.mv R R <| K.sk R R h34 R <| K.sk R R h34 R <| K.sk R R h34 R <| K.sk R R h34 R <| K.pickT g0 R (h34) R R <| K.mv R R <| K.sk R R R R <| K.sk R R R R <| K.sk R R R R <| K.sk R R R R <| K.pickT g0 R (R) R R <| K.nil <| At.next <| G.cond R (fun h35 => ?_) (fun h35 => ?_)
        ·
         refine G.seq <| G.rg <| K.as R R <| K.nil <| At.next <| G.ret <| At.over_ret ?_
         cases H1
         replace H0 := sum_l H0
         exact At.dr Y [6] R R (by cases H0; rfl) (by cases H0; rfl) R R R
        · cases h35
       ·
        replace H1 := bif_f H1 h34
        obtain ⟨x28, hx28, H1⟩ := bnd H1
        rcases Bool.eq_false_or_eq_true (!x28) with h36 | h36
        ·
         replace H1 := bif_t H1 h36
         refine G.rg <| K.mv R R <| K.mv R R <| K.cV (cf 36 R) [18] (fun β w S2 h => Lw07_alike_con ((hv8_0.isC 18).larg ⟨_, List.mem_cons_self⟩ h) hx27 112 113) g0 (fun _ => R) R R R <| K.un (V := .bool (!x27)) g0 R (fun _ => R) R <| K.mv R R <| K.move (.inl R) (g1 R R h34) R R <| K.move (.inl R) (g1 R R h34) R R <| K.cV (cf 36 R) [18] (fun β w S2 h => Lw07_alike_con ((hv8_1.isC 18).larg ⟨_, List.mem_cons_self⟩ h) hx28 114 113) (g1 R R h34) (fun _ => R) R R R <| K.un (V := .bool (!x28)) (g1 R R h34) R (fun _ => R) R <| K.pickF g0 R (h34) R R <| K.mv R R <| K.sk R R h36 R <| K.sk R R h36 R <| K.sk R R h36 R <| K.sk R R h36 R <| K.pickT g0 R (h36) R R <| K.nil <| At.next <| G.cond R (fun h37 => ?_) (fun h37 => ?_)
         ·
          refine G.seq <| G.rg <| K.as R R <| K.nil <| At.next <| G.ret <| At.over_ret ?_
          cases H1
          replace H0 := sum_l H0
          exact At.dr Y [6] R R (by cases H0; rfl) (by cases H0; rfl) R R R
         · cases h37
        ·
         replace H1 := bif_f H1 h36
         obtain ⟨x29, hx29, H1⟩ := bnd H1
         refine G.rg <| K.mv R R <| K.mv R R <| K.cV (cf 36 R) [18] (fun β w S2 h => Lw07_alike_con ((hv8_0.isC 18).larg ⟨_, List.mem_cons_self⟩ h) hx27 112 113) g0 (fun _ => R) R R R <| K.un (V := .bool (!x27)) g0 R (fun _ => R) R <| K.mv R R <| K.move (.inl R) (g1 R R h34) R R <| K.move (.inl R) (g1 R R h34) R R <| K.cV (cf 36 R) [18] (fun β w S2 h => Lw07_alike_con ((hv8_1.isC 18).larg ⟨_, List.mem_cons_self⟩ h) hx28 114 113) (g1 R R h34) (fun _ => R) R R R <| K.un (V := .bool (!x28)) (g1 R R h34) R (fun _ => R) R <| K.pickF g0 R (h34) R R <| K.mv R R <| K.move (.inl R) (g1 R R h36) R R <| K.move (.inl R) (g1 R R h36) R R <| K.c0 (cf 39 R) (Tree_JoinE_con hx29 112 113 114) (g1 R R h36) R R R R <| K.un (V := .bool (!x29.1)) (g1 R R h36) R (fun _ => R) R <| K.pickF g0 R (h36) R R <| K.nil <| At.next <| G.cond R (fun h38 => ?_) (fun h38 => ?_)
         ·
          replace H1 := bif_t H1 h38
          refine G.seq <| G.rg <| K.as R R <| K.nil <| At.next <| G.ret <| At.over_ret ?_
          cases H1
          replace H0 := sum_l H0
          exact At.dr Y [6] R R (by cases H0; rfl) (by cases H0; rfl) R R R
         ·
          replace H1 := bif_f H1 h38
          exact G.skip <| At.jd ⟨(x29.2.2.2, x29.2.1.index, x29.2.1.gen, x29.2.2.1.index, x29.2.2.1.gen), oi H1⟩ [(127, 112), (128, 113), (129, 114)] [_, _, _, _, _] R ⟨R, R, R, R, trivial⟩ ⟨R, (fun _ => R), R, (pl_ren R), R, (blk_ren R R), R, (blk_ren R R), R, (fun _ => R), trivial⟩ R
      ·
       rintro ⟨w26, rfl⟩
       replace H0 := sum_r H0
       show G _ _ [(7, .a (.c (.p 127 0))), (11, .a (.c (.p 129 0))), (12, SV.raw rv8_0), (13, SV.raw rv8_1)] [(0, some (rd S W0)), (128, some (plE 128 w26.1)), (127, some (blk 127 [.p 128 0, .v (.int .i64 w26.2.1), .v (.int .i64 w26.2.2.1)] 101)), (129, some (blk 129 [.p 128 0, .v (.int .i64 w26.2.2.2.1), .v (.int .i64 w26.2.2.2.2)] 101)), (18, some (rd S8 W8))] _ _
       refine G.seq <| G.rg <| K.nilRow 130 54 eTR07Elem 2 (.inl R) g0 R R R <| K.nil <| At.ns ?_
       obtain ⟨h39, H0⟩ := grd H0
       obtain ⟨h40, H0⟩ := grd H0
       refine G.rg <| K.mv R R <| K.mv R R <| K.appendL 131 (rV 18 S8 W8 rv8_0 bv8_0 ov8_0 eTR07Elem 2 x20.2.2.2.2.2.1) _ el26 (hv8_0.is 18) eTR07Elem_one g0 R R R R R (ap_m h39) (ap_b h39 (by decide)) R R R R R R <| K.mv R R <| K.appendL 132 (rV 18 S8 W8 rv8_1 bv8_1 ov8_1 eTR07Elem 2 x20.2.2.2.2.2.2) _ el26 (hv8_1.is 18) eTR07Elem_one g0 R R R R R (ap_m h40) (ap_b h40 (by decide)) R R R R R R <| K.as R R <| K.nil <| At.ns ?_
       obtain ⟨x30, hx30, H0⟩ := bnd H0
       rcases Bool.eq_false_or_eq_true x30 with h41 | h41
       ·
        replace H0 := bif_t H0 h41
        obtain ⟨x31, hx31, H0⟩ := bnd H0
        rcases Bool.eq_false_or_eq_true x31 with h42 | h42
        ·
         replace H0 := bif_t H0 h42
         obtain ⟨x32, hx32, H0⟩ := bnd H0
         obtain ⟨x33, hx33, H0⟩ := bnd H0
         obtain ⟨x34, hx34, H0⟩ := bnd H0
         exact G.rg <| K.mv R R <| K.mv R R <| K.cV (cf 36 R) [132] (fun β w S2 h => Lw07_alike_con (la 0 R eTR07Elem_len R h) hx30 127 128) g0 (fun _ => R) R R R <| K.mv R R <| K.move (.inl R) (g1 R R h41) R R <| K.cV (cf 36 R) [] (fun β w S2 h => Lw07_alike_con (larg_nil eTR07Elem_len (by decide)) hx31 129 128) (g1 R R h41) (fun _ => R) R R R <| K.pickT g0 R (h41) R R <| K.mv R R <| K.move (.inl R) (g1 R R h42) R R <| K.move (.inl R) (g1 R R h42) R R <| K.lenL (lrowV 132 54 eTR07Elem 2 ((([] : List TR07Elem) ++ x20.2.2.2.2.2.1) ++ x20.2.2.2.2.2.2)) (lrowV_is eTR07Elem_len (by decide)) (g1 R R h42) R R Try.underlying26 R <| K.cR (cf 15 R) (Tree_BetweenE_con hx32 127 128) (g1 R R h42) R R R R <| K.field1 Y (g1 R R h42) R t32 R t3 R R <| K.move (.inl R) (g1 R R h42) R R <| K.move (.inl R) (g1 R R h42) R R <| K.lenL (lrowV 132 54 eTR07Elem 2 ((([] : List TR07Elem) ++ x20.2.2.2.2.2.1) ++ x20.2.2.2.2.2.2)) (lrowV_is eTR07Elem_len (by decide)) (g1 R R h42) R R Try.underlying26 R <| K.cV (cf 14 R) [132] (fun β w S2 h => R07_Ws_con (la 0 R eTR07Elem_len R h) hx33 133 R) (g1 R R h42) (fun _ => R) R R R <| K.move (.inl R) (g1 R R h42) R R <| K.lenL (lrowV 132 54 eTR07Elem 2 ((([] : List TR07Elem) ++ x20.2.2.2.2.2.1) ++ x20.2.2.2.2.2.2)) (lrowV_is eTR07Elem_len (by decide)) (g1 R R h42) R R Try.underlying26 R <| K.cV (cf 16 R) [133] (fun β w S2 h => R06_Sum_con (la 0 R intE_len R h) hx34) (g1 R R h42) (fun _ => R) R R R <| K.bin (V := .bool (x32.sum == x34)) (g1 R R h42) R R (fun _ => R) R <| K.pickT g0 R (h42) R R <| K.as R R <| K.nil <| At.next <| G.ret <| At.dr Y [6] R R (by cases H0; rfl) (by cases H0; rfl) R R R
        ·
         replace H0 := bif_f H0 h42
         exact G.rg <| K.mv R R <| K.mv R R <| K.cV (cf 36 R) [132] (fun β w S2 h => Lw07_alike_con (la 0 R eTR07Elem_len R h) hx30 127 128) g0 (fun _ => R) R R R <| K.mv R R <| K.move (.inl R) (g1 R R h41) R R <| K.cV (cf 36 R) [] (fun β w S2 h => Lw07_alike_con (larg_nil eTR07Elem_len (by decide)) hx31 129 128) (g1 R R h41) (fun _ => R) R R R <| K.pickT g0 R (h41) R R <| K.mv R R <| K.sk R R h42 R <| K.sk R R h42 R <| K.sk R R h42 R <| K.sk R R h42 R <| K.sk R R h42 R <| K.sk R R h42 R <| K.sk R R h42 R <| K.sk R R h42 R <| K.sk R R h42 R <| K.sk R R h42 R <| K.sk R R h42 R <| K.sk R R h42 R <| K.sk R R h42 R <| K.pickF g0 R (h42) R R <| K.as R R <| K.nil <| At.next <| G.ret <| At.dr Y [6] R R (by cases H0; rfl) (by cases H0; rfl) R R R
       ·
        replace H0 := bif_f H0 h41
        exact G.rg <| K.mv R R <| K.mv R R <| K.cV (cf 36 R) [132] (fun β w S2 h => Lw07_alike_con (la 0 R eTR07Elem_len R h) hx30 127 128) g0 (fun _ => R) R R R <| K.mv R R <| K.sk R R h41 R <| K.sk R R h41 R <| K.pickF g0 R (h41) R R <| K.mv R R <| K.sk R R R R <| K.sk R R R R <| K.sk R R R R <| K.sk R R R R <| K.sk R R R R <| K.sk R R R R <| K.sk R R R R <| K.sk R R R R <| K.sk R R R R <| K.sk R R R R <| K.sk R R R R <| K.sk R R R R <| K.sk R R R R <| K.pickF g0 R (R) R R <| K.as R R <| K.nil <| At.next <| G.ret <| At.dr Y [6] R R (by cases H0; rfl) (by cases H0; rfl) R R R
end Go.Proofs.Ytjokolmijhhinaa
namespace Go.Proofs.Ytjokolmijhhinaa
open Go Go.Proofs.Ytjokolmijhhinaa.Sx
theorem w64_id {x : Int} (h0 : -9223372036854775808 ≤ x) (h1 : x < 9223372036854775808) : w64 x = x := by simp only [w64, IntKind.wrap_i64]; omega
theorem w64_succ {i : Nat} (h : i < 4611686018427387904) : w64 ((i : Int) + 1) = ((i + 1 : Nat) : Int) := by rw [w64_id (by omega) (by omega)]; omega
theorem atL_nat {α : Type} {l : List α} {i : Nat} {x : α} (h : l[i]? = some x) : atL l (i : Int) = some x := by
  unfold atL
  have : ¬ ((i : Int) < 0) := by omega
  simp [this, h]
theorem drop_cons {α : Type} {l : List α} {i : Nat} (h : i < l.length) : ∃ x, l[i]? = some x ∧ l.drop i = x :: l.drop (i + 1) :=
  ⟨l[i], List.getElem?_eq_getElem h, List.drop_eq_getElem_cons h⟩
theorem dec_lt {i n : Nat} (h : i < n) : decide ((i : Int) < (n : Int)) = true := by simp; omega
theorem dec_nlt {i n : Nat} (h : n ≤ i) : decide ((i : Int) < (n : Int)) = false := by simp; omega
end Go.Proofs.Ytjokolmijhhinaa

/- Walks of trees. Printed by a program of mine. -/
import Derived.KernelRfl
import Derived.Test.YtjokolmijhhinaaMa
import Derived.Test.YtjokolmijhhinaaArE
namespace Go.Proofs.Ytjokolmijhhinaa
open Go Go.Proofs.Ytjokolmijhhinaa.Sx
set_option linter.unusedVariables false
set_option linter.unusedSimpArgs false
abbrev plE (k : Nat) (p : Pool (TNode TL07Elem TTide)) : Tok := pl k 137 154 3 12 fCE p
theorem plgetE {p : Pool (TNode TL07Elem TTide)} {i g : Int} {x : (TNode TL07Elem TTide) × Bool} (h : pGet zNodeE p i g = some x) (k : Nat) : SCon Try.prog 83 [SV.p k 0, SV.agg [.i i, .i g]] [(k, plE k p)] (.tup [avE x.1, .c (.b x.2)]) [(k, plE k p)] [] := by
  obtain ⟨hp, hx⟩ := grd h
  cases hx
  refine SCon.hide fun v => ?_
  obtain ⟨h1, v', h2⟩ := get_vis (p := p) (z := zNodeE) v i g
  refine ⟨v', ?_⟩
  have := getE' { p with vis := v } i g (hp.ok v) (by decide) k
  rw [h1, h2] at this
  exact this
theorem plsetE {p : Pool (TNode TL07Elem TTide)} {i g : Int} {y : (TNode TL07Elem TTide)} {x : Bool × Pool (TNode TL07Elem TTide)} (h : pSet p i g y = some x) (k : Nat) : SCon Try.prog 87 [SV.p k 0, SV.agg [.i i, .i g], .a (avE y)] [(k, plE k p)] (SV.b x.1) [(k, plE k x.2)] [] := by
  obtain ⟨hp, hx⟩ := grd h
  cases hx
  refine SCon.hide fun v => ?_
  obtain ⟨h1, v', h2⟩ := set_vis (p := p) v i g y
  refine ⟨v', ?_⟩
  have := setE' { p with vis := v } i g y (hp.ok v) (by decide) k
  rw [h1, h2] at this
  exact this
theorem plputE {p : Pool (TNode TL07Elem TTide)} {y : (TNode TL07Elem TTide)} {x : ((Int × Int) × Bool) × Pool (TNode TL07Elem TTide)} (h : pPut zNodeE p y = some x) (k : Nat) : SCon Try.prog 86 [SV.p k 0, .a (avE y)] [(k, plE k p)] (.tup [.agg [.i x.1.1.1, .i x.1.1.2], .c (.b x.1.2)]) [(k, plE k x.2)] [] := by
  obtain ⟨hp, hx⟩ := grd h
  cases hx
  refine SCon.hide fun v => ?_
  obtain ⟨h1, v', h2⟩ := put_vis (p := p) (z := zNodeE) v y
  refine ⟨v', ?_⟩
  have := putE { p with vis := v } y (hp.ok v) (by decide) k
  rw [h1, h2] at this
  exact this
theorem pldropE {p : Pool (TNode TL07Elem TTide)} {i g : Int} {x : ((TNode TL07Elem TTide) × Bool) × Pool (TNode TL07Elem TTide)} (h : pDrop zNodeE p i g = some x) (k : Nat) : SCon Try.prog 85 [SV.p k 0, SV.agg [.i i, .i g]] [(k, plE k p)] (.tup [avE x.1.1, .c (.b x.1.2)]) [(k, plE k x.2)] [] := by
  obtain ⟨hp, hx⟩ := grd h
  cases hx
  refine SCon.hide fun v => ?_
  obtain ⟨h1, v', h2⟩ := drop_vis (p := p) (z := zNodeE) v i g
  refine ⟨v', ?_⟩
  have := dropE' { p with vis := v } i g (hp.ok v) (by decide) k
  rw [h1, h2] at this
  exact this
theorem plnewE (c : Int) (k : Nat) : SCon Try.prog 61 [SV.i c] [] (SV.p k 0) [(k, plE k ⟨[], [], capOf c, 0, 0⟩)] [k] := SCon.hideNew (newE c k)
theorem Tree_NewE_con0 {k : Nat}  {a0 : Int} {r : TRef × Pool (TNode TL07Elem TTide)}  (H0 : Tree_New.f opsE k a0 = some r) : SCon Try.prog 18 [.a (.c (.v (.int .i64 a0)))] [] (.a (.c (.p 40 0))) [(40, blk 40 [.p 41 0, .i r.1.index, .i r.1.gen] 101), (41, plE 41 r.2)] [40, 41] := by
  rw [Tree_New.f] at H0
  refine spec_of [(0, _)] [] 7 Try.func18 rfl Try.ntmps18 rfl rfl rfl rfl (fun β W F => ?_)
  refine G.seq ?_
  refine G.rg ?_
  refine K.move (.inr rfl) (gd0 rfl) rfl rfl ?_
  refine K.nil ?_
  refine At.next ?_
  refine G.seq ?_
  refine G.rg ?_
  refine K.move (.inl rfl) (gd0 rfl) rfl rfl ?_
  refine K.call0 [(.func 61, _), ((.tmp 3), _)] (plnewE a0 100) (toFn_func (cf 61 rfl) rfl) (gd0 rfl) ⟨rfl, rfl, trivial⟩ trivial rfl rfl rfl rfl rfl rfl ?_
  refine K.build Y [(0, _)] [_, _, _] [((.tmp 4), _)] (gd0 rfl) (AllE.spec ⟨rfl, trivial⟩) rfl rfl t101 rfl rfl ?_
  refine K.box Y 101 [_, _, _] (gd0 rfl) rfl rfl rfl rfl rfl rfl ?_
  refine K.move (.inr rfl) (gd0 rfl) rfl rfl ?_
  refine K.nil ?_
  refine At.next ?_
  refine G.ret ?_
  refine At.ren (fs' := [(2, .a (.c (.p 40 0)))]) (tl := [(40, blk 40 [.p 41 0, .v (.int .i64 0), .v (.int .i64 0)] 101), (41, plE 41 (⟨[], [], capOf a0, 0, 0⟩ : Pool (TNode TL07Elem TTide)))]) [(40, 101), (41, 100)] [_, _] rfl ⟨rfl, trivial⟩ ⟨rfl, (blk_ren rfl rfl), rfl, (pl_ren rfl), trivial⟩ rfl ?_
  refine At.done Y [(.tmp 2, .c _)] rfl ⟨.tmp rfl, trivial⟩ (to' := [(40, _), (41, _)]) ⟨rfl, rfl, trivial⟩ ?_ ?_ rfl rfl rfl (.inl rfl)
  · cases H0; rfl
  · cases H0; rfl
theorem Tree_NewE_con {k : Nat}  {a0 : Int} {r : TRef × Pool (TNode TL07Elem TTide)}  (H0 : Tree_New.f opsE k a0 = some r) (m40 m41 : Nat) (hd : ndB [m40, m41] = true) : SCon Try.prog 18 [.a (.c (.v (.int .i64 a0)))] [] (.a (.c (.p m40 0))) [(m40, blk m40 [.p m41 0, .i r.1.index, .i r.1.gen] 101), (m41, plE m41 r.2)] [m40, m41] :=
  SCon.ren (rn [(40, m40), (41, m41)]) (Tree_NewE_con0 (k := k)   H0) trivial ⟨(blk_ren rfl rfl), (pl_ren rfl), trivial⟩ (rn_nd hd rfl rfl) (rn_ks hd rfl rfl rfl)
theorem Tree_getE_con0 {k : Nat}  {p1 : Pool (TNode TL07Elem TTide)} {a1 : TRef} {ri0 rg0 : Int} {r : TNode TL07Elem TTide}  (H0 : Tree_get.f opsE k p1 a1 = some r) : SCon Try.prog 62 [SV.p 0 0, .a (.agg ((eTRef a1).map .v))] [(0, blk 0 [.p 1 0, .i ri0, .i rg0] 101), (1, plE 1 p1)] (.a (.agg ((eTNode_TL07Elem_TTide r).map .v))) [(0, blk 0 [.p 1 0, .i ri0, .i rg0] 101), (1, plE 1 p1)] [] := by
  rw [Tree_get.f] at H0
  refine spec_of [(0, _), (1, _)] [(0, _), (1, _)] 21 Try.func62 rfl Try.ntmps62 rfl rfl rfl rfl (fun β W F => ?_)
  refine G.seq ?_
  refine G.rg ?_
  refine K.box Y 100 [_, _] (gd0 rfl) rfl rfl rfl rfl rfl rfl ?_
  refine K.alloc Y 101 [_, _, _, _, _, _, _, _, _, _] (gd0 rfl) t104 rfl rfl rfl rfl rfl ?_
  refine K.nil ?_
  refine At.next ?_
  refine G.seq ?_
  refine G.seq ?_
  refine G.rg ?_
  refine K.fieldAddr Y (gd0 rfl) rfl t99 rfl rfl ?_
  refine K.load1 Y (gd0 rfl) rfl rfl t3 rfl rfl ?_
  refine K.bin (V := .bool (a1.gen == 0)) (gd0 rfl) rfl rfl (fun _ => rfl) rfl ?_
  refine K.nil ?_
  refine At.next ?_
  refine G.cond rfl (fun h1 => ?_) (fun h1 => ?_)
  ·
    replace H0 := bif_t H0 h1
    refine G.seq ?_
    refine G.rg ?_
    refine K.build Y [] [_, _, _, _, _, _, _, _, _, _] [] (gd0 rfl) (AllE.spec trivial) rfl rfl t104 rfl rfl ?_
    refine K.store Y [_, _, _, _, _, _, _, _, _, _] (gd0 rfl) rfl rfl rfl t104 rfl rfl rfl rfl rfl ?_
    refine K.nil ?_
    refine At.next ?_
    refine G.ret ?_
    refine At.over_ret ?_
    refine At.done Y [(.cell 4 104, .agg [_, _, _, _, _, _, _, _, _, _])] rfl ⟨.st rfl rfl t104 rfl rfl, trivial⟩ (to' := [(0, _), (1, _)]) ⟨rfl, rfl, trivial⟩ ?_ ?_ rfl rfl rfl (.inl rfl)
    · cases H0; rfl
    · cases H0; rfl
  ·
    replace H0 := bif_f H0 h1
    refine G.skip ?_
    refine At.next ?_
    refine G.seq ?_
    obtain ⟨x1, hx1, H0⟩ := bnd H0
    refine G.rd mixed ?_
    refine K.move (.inl rfl) (gd0 rfl) rfl rfl ?_
    refine K.nilCheck (gd0 rfl) rfl rfl ?_
    refine K.fieldAddr Y (gd0 rfl) rfl t101 rfl rfl ?_
    refine K.load1 Y (gd0 rfl) rfl rfl t97 rfl rfl ?_
    refine K.loadS Y [_, _] (gd0 rfl) rfl rfl t99 rfl rfl rfl ?_
    refine K.callR [(.func 83, _), ((.tmp 15), _), ((.tmp 16), _)] (plgetE hx1 1) (toFn_func (cf 83 rfl) rfl) (gd0 rfl) ⟨rfl, rfl, rfl, trivial⟩ ⟨rfl, trivial⟩ rfl rfl rfl ?_
    refine K.move (.inl rfl) (gd0 rfl) rfl rfl ?_
    refine K.extract (gd0 rfl) rfl rfl rfl ?_
    refine K.extract (gd0 rfl) rfl rfl rfl ?_
    refine K.alloc Y 102 [_, _, _, _, _, _, _, _, _, _] (gd0 rfl) t104 rfl rfl rfl rfl rfl ?_
    refine K.store Y [_, _, _, _, _, _, _, _, _, _] (gd0 rfl) rfl rfl rfl t104 rfl rfl rfl rfl rfl ?_
    refine K.move (.inr rfl) (gd0 rfl) rfl rfl ?_
    refine K.nil ?_
    refine ⟨by kernel_rfl, ?_⟩
    refine At.next ?_
    refine G.seq ?_
    refine G.rg ?_
    refine K.loadS Y [_, _, _, _, _, _, _, _, _, _] (gd0 rfl) rfl rfl t104 rfl rfl rfl ?_
    refine K.store Y [_, _, _, _, _, _, _, _, _, _] (gd0 rfl) rfl rfl rfl t104 rfl rfl rfl rfl rfl ?_
    refine K.nil ?_
    refine At.next ?_
    refine G.ret ?_
    refine At.done Y [(.cell 4 104, .agg [_, _, _, _, _, _, _, _, _, _])] rfl ⟨.st rfl rfl t104 rfl rfl, trivial⟩ (to' := [(0, _), (1, _)]) ⟨rfl, rfl, trivial⟩ ?_ ?_ rfl rfl rfl (.inl rfl)
    · cases H0; rfl
    · cases H0; rfl
theorem Tree_getE_con {k : Nat}  {p1 : Pool (TNode TL07Elem TTide)} {a1 : TRef} {ri0 rg0 : Int} {r : TNode TL07Elem TTide}  (H0 : Tree_get.f opsE k p1 a1 = some r) (m0 m1 : Nat) : SCon Try.prog 62 [SV.p m0 0, .a (.agg ((eTRef a1).map .v))] [(m0, blk m0 [.p m1 0, .i ri0, .i rg0] 101), (m1, plE m1 p1)] (.a (.agg ((eTNode_TL07Elem_TTide r).map .v))) [(m0, blk m0 [.p m1 0, .i ri0, .i rg0] 101), (m1, plE m1 p1)] [] :=
  SCon.ren (rn [(0, m0), (1, m1)]) (Tree_getE_con0 (k := k)   H0) ⟨(blk_ren rfl rfl), (pl_ren rfl), trivial⟩ ⟨(blk_ren rfl rfl), (pl_ren rfl), trivial⟩ (by simp) (by simp)
theorem Tree_weightE_con0 {k : Nat}  {p1 : Pool (TNode TL07Elem TTide)} {a1 : TRef} {ri0 rg0 : Int} {r : Int}  (H0 : Tree_weight.f opsE k p1 a1 = some r) : SCon Try.prog 67 [SV.p 0 0, .a (.agg ((eTRef a1).map .v))] [(0, blk 0 [.p 1 0, .i ri0, .i rg0] 101), (1, plE 1 p1)] (.a (.c (.v (.int .i64 r)))) [(0, blk 0 [.p 1 0, .i ri0, .i rg0] 101), (1, plE 1 p1)] [] := by
  rw [Tree_weight.f] at H0
  refine spec_of [(0, _), (1, _)] [(0, _), (1, _)] 10 Try.func67 rfl Try.ntmps67 rfl rfl rfl rfl (fun β W F => ?_)
  refine G.seq ?_
  refine G.rg ?_
  refine K.box Y 100 [_, _] (gd0 rfl) rfl rfl rfl rfl rfl rfl ?_
  refine K.move (.inr rfl) (gd0 rfl) rfl rfl ?_
  refine K.nil ?_
  refine At.next ?_
  refine G.seq ?_
  obtain ⟨x1, hx1, H0⟩ := bnd H0
  refine G.rg ?_
  refine K.move (.inl rfl) (gd0 rfl) rfl rfl ?_
  refine K.loadS Y [_, _] (gd0 rfl) rfl rfl t99 rfl rfl rfl ?_
  refine K.callR [(.func 62, _), ((.tmp 5), _), ((.tmp 6), _)] (Tree_getE_con (k := k) hx1 0 1) (toFn_func (cf 62 rfl) rfl) (gd0 rfl) ⟨rfl, rfl, rfl, trivial⟩ ⟨rfl, rfl, trivial⟩ rfl rfl rfl ?_
  refine K.field1 Y (gd0 rfl) rfl t104 rfl t3 rfl rfl ?_
  refine K.bin (V := .int .i64 (w64 (x1.size + 1))) (gd0 rfl) rfl rfl (fun _ => rfl) rfl ?_
  refine K.move (.inr rfl) (gd0 rfl) rfl rfl ?_
  refine K.nil ?_
  refine At.next ?_
  refine G.ret ?_
  refine At.done Y [(.tmp 4, .c _)] rfl ⟨.tmp rfl, trivial⟩ (to' := [(0, _), (1, _)]) ⟨rfl, rfl, trivial⟩ ?_ ?_ rfl rfl rfl (.inl rfl)
  · cases H0; rfl
  · cases H0; rfl
theorem Tree_weightE_con {k : Nat}  {p1 : Pool (TNode TL07Elem TTide)} {a1 : TRef} {ri0 rg0 : Int} {r : Int}  (H0 : Tree_weight.f opsE k p1 a1 = some r) (m0 m1 : Nat) : SCon Try.prog 67 [SV.p m0 0, .a (.agg ((eTRef a1).map .v))] [(m0, blk m0 [.p m1 0, .i ri0, .i rg0] 101), (m1, plE m1 p1)] (.a (.c (.v (.int .i64 r)))) [(m0, blk m0 [.p m1 0, .i ri0, .i rg0] 101), (m1, plE m1 p1)] [] :=
  SCon.ren (rn [(0, m0), (1, m1)]) (Tree_weightE_con0 (k := k)   H0) ⟨(blk_ren rfl rfl), (pl_ren rfl), trivial⟩ ⟨(blk_ren rfl rfl), (pl_ren rfl), trivial⟩ (by simp) (by simp)
theorem Tree_layE_con0 {k : Nat}  {p1 : Pool (TNode TL07Elem TTide)} {a1 : TRef} {a2 : TRef} {a3 : TRef} {ri0 rg0 : Int} {r : TRef × Pool (TNode TL07Elem TTide)}  (H0 : Tree_lay.f opsE k p1 a1 a2 a3 = some r) : SCon Try.prog 88 [SV.p 0 0, .a (.agg ((eTRef a1).map .v)), .a (.agg ((eTRef a2).map .v)), .a (.agg ((eTRef a3).map .v))] [(0, blk 0 [.p 1 0, .i ri0, .i rg0] 101), (1, plE 1 p1)] (.a (.agg ((eTRef r.1).map .v))) [(0, blk 0 [.p 1 0, .i ri0, .i rg0] 101), (1, plE 1 r.2)] [] := by
  rw [Tree_lay.f] at H0
  refine spec_of [(0, _), (1, _), (2, _), (3, _)] [(0, _), (1, _)] 53 Try.func88 rfl Try.ntmps88 rfl rfl rfl rfl (fun β W F => ?_)
  refine G.seq ?_
  refine G.rg ?_
  refine K.box Y 100 [_, _] (gd0 rfl) rfl rfl rfl rfl rfl rfl ?_
  refine K.box Y 101 [_, _] (gd0 rfl) rfl rfl rfl rfl rfl rfl ?_
  refine K.box Y 102 [_, _] (gd0 rfl) rfl rfl rfl rfl rfl rfl ?_
  refine K.alloc Y 103 [_, _] (gd0 rfl) t99 rfl rfl rfl rfl rfl ?_
  refine K.nil ?_
  refine At.next ?_
  refine G.seq ?_
  obtain ⟨x1, hx1, H0⟩ := bnd H0
  refine G.rg ?_
  refine K.move (.inl rfl) (gd0 rfl) rfl rfl ?_
  refine K.loadS Y [_, _] (gd0 rfl) rfl rfl t99 rfl rfl rfl ?_
  refine K.callR [(.func 62, _), ((.tmp 12), _), ((.tmp 13), _)] (Tree_getE_con (k := k) hx1 0 1) (toFn_func (cf 62 rfl) rfl) (gd0 rfl) ⟨rfl, rfl, rfl, trivial⟩ ⟨rfl, rfl, trivial⟩ rfl rfl rfl ?_
  refine K.alloc Y 104 [_, _, _, _, _, _, _, _, _, _] (gd0 rfl) t104 rfl rfl rfl rfl rfl ?_
  refine K.store Y [_, _, _, _, _, _, _, _, _, _] (gd0 rfl) rfl rfl rfl t104 rfl rfl rfl rfl rfl ?_
  refine K.nil ?_
  refine At.next ?_
  refine G.seq ?_
  obtain ⟨x2, hx2, H0⟩ := bnd H0
  obtain ⟨x3, hx3, H0⟩ := bnd H0
  refine G.rd mixed ?_
  refine K.move (.inl rfl) (gd0 rfl) rfl rfl ?_
  refine K.loadS Y [_, _] (gd0 rfl) rfl rfl t99 rfl rfl rfl ?_
  refine K.callR [(.func 62, _), ((.tmp 15), _), ((.tmp 16), _)] (Tree_getE_con (k := k) hx2 0 1) (toFn_func (cf 62 rfl) rfl) (gd0 rfl) ⟨rfl, rfl, rfl, trivial⟩ ⟨rfl, rfl, trivial⟩ rfl rfl rfl ?_
  refine K.move (.inl rfl) (gd0 rfl) rfl rfl ?_
  refine K.loadS Y [_, _] (gd0 rfl) rfl rfl t99 rfl rfl rfl ?_
  refine K.callR [(.func 62, _), ((.tmp 18), _), ((.tmp 19), _)] (Tree_getE_con (k := k) hx3 0 1) (toFn_func (cf 62 rfl) rfl) (gd0 rfl) ⟨rfl, rfl, rfl, trivial⟩ ⟨rfl, rfl, trivial⟩ rfl rfl rfl ?_
  refine K.alloc Y 105 [_, _, _, _, _, _, _, _, _, _] (gd0 rfl) t104 rfl rfl rfl rfl rfl ?_
  refine K.alloc Y 106 [_, _, _, _, _, _, _, _, _, _] (gd0 rfl) t104 rfl rfl rfl rfl rfl ?_
  refine K.store Y [_, _, _, _, _, _, _, _, _, _] (gd0 rfl) rfl rfl rfl t104 rfl rfl rfl rfl rfl ?_
  refine K.store Y [_, _, _, _, _, _, _, _, _, _] (gd0 rfl) rfl rfl rfl t104 rfl rfl rfl rfl rfl ?_
  refine K.nil ?_
  refine ⟨by kernel_rfl, ?_⟩
  refine At.next ?_
  refine G.seq ?_
  refine G.rd mixed ?_
  refine K.loadS Y [_, _] (gd0 rfl) rfl rfl t99 rfl rfl rfl ?_
  refine K.loadS Y [_, _] (gd0 rfl) rfl rfl t99 rfl rfl rfl ?_
  refine K.fieldAddr Y (gd0 rfl) rfl t104 rfl rfl ?_
  refine K.store Y [_, _, _, _, _, _, _, _, _, _] (gd0 rfl) rfl rfl rfl t99 rfl rfl rfl rfl rfl ?_
  refine K.fieldAddr Y (gd0 rfl) rfl t104 rfl rfl ?_
  refine K.store Y [_, _, _, _, _, _, _, _, _, _] (gd0 rfl) rfl rfl rfl t99 rfl rfl rfl rfl rfl ?_
  refine K.nil ?_
  refine ⟨by kernel_rfl, ?_⟩
  refine At.next ?_
  refine G.seq ?_
  refine G.rg ?_
  refine K.fieldAddr Y (gd0 rfl) rfl t104 rfl rfl ?_
  refine K.load1 Y (gd0 rfl) rfl rfl t3 rfl rfl ?_
  refine K.bin (V := .int .i64 (w64 (x2.size + 1))) (gd0 rfl) rfl rfl (fun _ => rfl) rfl ?_
  refine K.fieldAddr Y (gd0 rfl) rfl t104 rfl rfl ?_
  refine K.load1 Y (gd0 rfl) rfl rfl t3 rfl rfl ?_
  refine K.bin (V := .int .i64 (w64 ((w64 (x2.size + 1)) + x3.size))) (gd0 rfl) rfl rfl (fun _ => rfl) rfl ?_
  refine K.fieldAddr Y (gd0 rfl) rfl t104 rfl rfl ?_
  refine K.store Y [_, _, _, _, _, _, _, _, _, _] (gd0 rfl) rfl rfl rfl t3 rfl rfl rfl rfl rfl ?_
  refine K.nil ?_
  refine At.next ?_
  refine G.seq ?_
  obtain ⟨x4, hx4, H0⟩ := bnd H0
  obtain ⟨x5, hx5, H0⟩ := bnd H0
  obtain ⟨x6, hx6, H0⟩ := bnd H0
  refine G.rd mixed ?_
  refine K.fieldAddr Y (gd0 rfl) rfl t104 rfl rfl ?_
  refine K.loadS Y [_, _, _] (gd0 rfl) rfl rfl t32 rfl rfl rfl ?_
  refine K.mkIface Y (gd0 rfl) rfl (mkI Try.underlying32 rfl) rfl ?_
  refine K.fieldAddr Y (gd0 rfl) rfl t104 rfl rfl ?_
  refine K.loadS Y [_, _] (gd0 rfl) rfl rfl t35 rfl rfl rfl ?_
  refine K.mkIface Y (gd0 rfl) rfl (mkI Try.underlying35 rfl) rfl ?_
  refine K.callR [((.tmp 37), _)] (Lw07_elem_Sum_con (k := k) hx4) (toFn_invoke (cf 132 rfl) (me35_132) rfl) (gd0 rfl) ⟨rfl, trivial⟩ trivial rfl rfl rfl ?_
  refine K.callR [((.tmp 34), _), ((.tmp 38), _)] (tide_Tide_Plus_con (k := k) hx5) (toFn_invoke (cf 130 rfl) (me32_130) rfl) (gd0 rfl) ⟨rfl, rfl, trivial⟩ trivial rfl rfl rfl ?_
  refine K.mkIface Y (gd0 rfl) rfl (mkI Try.underlying32 rfl) rfl ?_
  refine K.fieldAddr Y (gd0 rfl) rfl t104 rfl rfl ?_
  refine K.loadS Y [_, _, _] (gd0 rfl) rfl rfl t32 rfl rfl rfl ?_
  refine K.callR [((.tmp 40), _), ((.tmp 42), _)] (tide_Tide_Plus_con (k := k) hx6) (toFn_invoke (cf 130 rfl) (me32_130) rfl) (gd0 rfl) ⟨rfl, rfl, trivial⟩ trivial rfl rfl rfl ?_
  refine K.fieldAddr Y (gd0 rfl) rfl t104 rfl rfl ?_
  refine K.store Y [_, _, _, _, _, _, _, _, _, _] (gd0 rfl) rfl rfl rfl t32 rfl rfl rfl rfl rfl ?_
  refine K.nil ?_
  refine ⟨by kernel_rfl, ?_⟩
  refine At.next ?_
  refine G.seq ?_
  obtain ⟨x7, hx7, H0⟩ := bnd H0
  refine G.rd mixed ?_
  refine K.move (.inl rfl) (gd0 rfl) rfl rfl ?_
  refine K.nilCheck (gd0 rfl) rfl rfl ?_
  refine K.fieldAddr Y (gd0 rfl) rfl t101 rfl rfl ?_
  refine K.load1 Y (gd0 rfl) rfl rfl t97 rfl rfl ?_
  refine K.loadS Y [_, _] (gd0 rfl) rfl rfl t99 rfl rfl rfl ?_
  refine K.loadS Y [_, _, _, _, _, _, _, _, _, _] (gd0 rfl) rfl rfl t104 rfl rfl rfl ?_
  refine K.call0 [(.func 87, _), ((.tmp 48), _), ((.tmp 49), _), ((.tmp 50), _)] (plsetE hx7 1) (toFn_func (cf 87 rfl) rfl) (gd0 rfl) ⟨rfl, rfl, rfl, rfl, trivial⟩ ⟨rfl, trivial⟩ rfl rfl rfl rfl rfl rfl ?_
  refine K.nil ?_
  refine ⟨by kernel_rfl, ?_⟩
  refine At.next ?_
  refine G.seq ?_
  refine G.rg ?_
  refine K.loadS Y [_, _] (gd0 rfl) rfl rfl t99 rfl rfl rfl ?_
  refine K.store Y [_, _] (gd0 rfl) rfl rfl rfl t99 rfl rfl rfl rfl rfl ?_
  refine K.nil ?_
  refine At.next ?_
  refine G.ret ?_
  refine At.done Y [(.cell 8 99, .agg [_, _])] rfl ⟨.st rfl rfl t99 rfl rfl, trivial⟩ (to' := [(0, _), (1, _)]) ⟨rfl, rfl, trivial⟩ ?_ ?_ rfl rfl rfl (.inl rfl)
  · cases H0; rfl
  · cases H0; rfl
theorem Tree_layE_con {k : Nat}  {p1 : Pool (TNode TL07Elem TTide)} {a1 : TRef} {a2 : TRef} {a3 : TRef} {ri0 rg0 : Int} {r : TRef × Pool (TNode TL07Elem TTide)}  (H0 : Tree_lay.f opsE k p1 a1 a2 a3 = some r) (m0 m1 : Nat) : SCon Try.prog 88 [SV.p m0 0, .a (.agg ((eTRef a1).map .v)), .a (.agg ((eTRef a2).map .v)), .a (.agg ((eTRef a3).map .v))] [(m0, blk m0 [.p m1 0, .i ri0, .i rg0] 101), (m1, plE m1 p1)] (.a (.agg ((eTRef r.1).map .v))) [(m0, blk m0 [.p m1 0, .i ri0, .i rg0] 101), (m1, plE m1 r.2)] [] :=
  SCon.ren (rn [(0, m0), (1, m1)]) (Tree_layE_con0 (k := k)   H0) ⟨(blk_ren rfl rfl), (pl_ren rfl), trivial⟩ ⟨(blk_ren rfl rfl), (pl_ren rfl), trivial⟩ (by simp) (by simp)
theorem Tree_turnRightE_con0 {k : Nat}  {p1 : Pool (TNode TL07Elem TTide)} {a1 : TRef} {ri0 rg0 : Int} {r : TRef × Pool (TNode TL07Elem TTide)}  (H0 : Tree_turnRight.f opsE k p1 a1 = some r) : SCon Try.prog 110 [SV.p 0 0, .a (.agg ((eTRef a1).map .v))] [(0, blk 0 [.p 1 0, .i ri0, .i rg0] 101), (1, plE 1 p1)] (.a (.agg ((eTRef r.1).map .v))) [(0, blk 0 [.p 1 0, .i ri0, .i rg0] 101), (1, plE 1 r.2)] [] := by
  rw [Tree_turnRight.f] at H0
  refine spec_of [(0, _), (1, _)] [(0, _), (1, _)] 28 Try.func110 rfl Try.ntmps110 rfl rfl rfl rfl (fun β W F => ?_)
  refine G.seq ?_
  refine G.rg ?_
  refine K.box Y 100 [_, _] (gd0 rfl) rfl rfl rfl rfl rfl rfl ?_
  refine K.alloc Y 101 [_, _] (gd0 rfl) t99 rfl rfl rfl rfl rfl ?_
  refine K.nil ?_
  refine At.next ?_
  refine G.seq ?_
  obtain ⟨x1, hx1, H0⟩ := bnd H0
  refine G.rg ?_
  refine K.move (.inl rfl) (gd0 rfl) rfl rfl ?_
  refine K.loadS Y [_, _] (gd0 rfl) rfl rfl t99 rfl rfl rfl ?_
  refine K.callR [(.func 62, _), ((.tmp 7), _), ((.tmp 8), _)] (Tree_getE_con (k := k) hx1 0 1) (toFn_func (cf 62 rfl) rfl) (gd0 rfl) ⟨rfl, rfl, rfl, trivial⟩ ⟨rfl, rfl, trivial⟩ rfl rfl rfl ?_
  refine K.alloc Y 102 [_, _, _, _, _, _, _, _, _, _] (gd0 rfl) t104 rfl rfl rfl rfl rfl ?_
  refine K.store Y [_, _, _, _, _, _, _, _, _, _] (gd0 rfl) rfl rfl rfl t104 rfl rfl rfl rfl rfl ?_
  refine K.nil ?_
  refine At.next ?_
  refine G.seq ?_
  obtain ⟨x2, hx2, H0⟩ := bnd H0
  refine G.rg ?_
  refine K.move (.inl rfl) (gd0 rfl) rfl rfl ?_
  refine K.fieldAddr Y (gd0 rfl) rfl t104 rfl rfl ?_
  refine K.loadS Y [_, _] (gd0 rfl) rfl rfl t99 rfl rfl rfl ?_
  refine K.callR [(.func 62, _), ((.tmp 10), _), ((.tmp 12), _)] (Tree_getE_con (k := k) hx2 0 1) (toFn_func (cf 62 rfl) rfl) (gd0 rfl) ⟨rfl, rfl, rfl, trivial⟩ ⟨rfl, rfl, trivial⟩ rfl rfl rfl ?_
  refine K.alloc Y 103 [_, _, _, _, _, _, _, _, _, _] (gd0 rfl) t104 rfl rfl rfl rfl rfl ?_
  refine K.store Y [_, _, _, _, _, _, _, _, _, _] (gd0 rfl) rfl rfl rfl t104 rfl rfl rfl rfl rfl ?_
  refine K.nil ?_
  refine At.next ?_
  refine G.seq ?_
  obtain ⟨x3, hx3, H0⟩ := bnd H0
  refine G.rg ?_
  refine K.move (.inl rfl) (gd0 rfl) rfl rfl ?_
  refine K.loadS Y [_, _] (gd0 rfl) rfl rfl t99 rfl rfl rfl ?_
  refine K.fieldAddr Y (gd0 rfl) rfl t104 rfl rfl ?_
  refine K.loadS Y [_, _] (gd0 rfl) rfl rfl t99 rfl rfl rfl ?_
  refine K.fieldAddr Y (gd0 rfl) rfl t104 rfl rfl ?_
  refine K.loadS Y [_, _] (gd0 rfl) rfl rfl t99 rfl rfl rfl ?_
  refine K.call0 [(.func 88, _), ((.tmp 14), _), ((.tmp 15), _), ((.tmp 17), _), ((.tmp 19), _)] (Tree_layE_con (k := k) hx3 0 1) (toFn_func (cf 88 rfl) rfl) (gd0 rfl) ⟨rfl, rfl, rfl, rfl, rfl, trivial⟩ ⟨rfl, rfl, trivial⟩ rfl rfl rfl rfl rfl rfl ?_
  refine K.nil ?_
  refine At.next ?_
  refine G.seq ?_
  obtain ⟨x4, hx4, H0⟩ := bnd H0
  refine G.rg ?_
  refine K.move (.inl rfl) (gd0 rfl) rfl rfl ?_
  refine K.fieldAddr Y (gd0 rfl) rfl t104 rfl rfl ?_
  refine K.loadS Y [_, _] (gd0 rfl) rfl rfl t99 rfl rfl rfl ?_
  refine K.fieldAddr Y (gd0 rfl) rfl t104 rfl rfl ?_
  refine K.loadS Y [_, _] (gd0 rfl) rfl rfl t99 rfl rfl rfl ?_
  refine K.loadS Y [_, _] (gd0 rfl) rfl rfl t99 rfl rfl rfl ?_
  refine K.call0 [(.func 88, _), ((.tmp 21), _), ((.tmp 23), _), ((.tmp 25), _), ((.tmp 26), _)] (Tree_layE_con (k := k) hx4 0 1) (toFn_func (cf 88 rfl) rfl) (gd0 rfl) ⟨rfl, rfl, rfl, rfl, rfl, trivial⟩ ⟨rfl, rfl, trivial⟩ rfl rfl rfl rfl rfl rfl ?_
  refine K.store Y [_, _] (gd0 rfl) rfl rfl rfl t99 rfl rfl rfl rfl rfl ?_
  refine K.nil ?_
  refine At.next ?_
  refine G.ret ?_
  refine At.done Y [(.cell 4 99, .agg [_, _])] rfl ⟨.st rfl rfl t99 rfl rfl, trivial⟩ (to' := [(0, _), (1, _)]) ⟨rfl, rfl, trivial⟩ ?_ ?_ rfl rfl rfl (.inl rfl)
  · cases H0; rfl
  · cases H0; rfl
theorem Tree_turnRightE_con {k : Nat}  {p1 : Pool (TNode TL07Elem TTide)} {a1 : TRef} {ri0 rg0 : Int} {r : TRef × Pool (TNode TL07Elem TTide)}  (H0 : Tree_turnRight.f opsE k p1 a1 = some r) (m0 m1 : Nat) : SCon Try.prog 110 [SV.p m0 0, .a (.agg ((eTRef a1).map .v))] [(m0, blk m0 [.p m1 0, .i ri0, .i rg0] 101), (m1, plE m1 p1)] (.a (.agg ((eTRef r.1).map .v))) [(m0, blk m0 [.p m1 0, .i ri0, .i rg0] 101), (m1, plE m1 r.2)] [] :=
  SCon.ren (rn [(0, m0), (1, m1)]) (Tree_turnRightE_con0 (k := k)   H0) ⟨(blk_ren rfl rfl), (pl_ren rfl), trivial⟩ ⟨(blk_ren rfl rfl), (pl_ren rfl), trivial⟩ (by simp) (by simp)
theorem Tree_turnLeftE_con0 {k : Nat}  {p1 : Pool (TNode TL07Elem TTide)} {a1 : TRef} {ri0 rg0 : Int} {r : TRef × Pool (TNode TL07Elem TTide)}  (H0 : Tree_turnLeft.f opsE k p1 a1 = some r) : SCon Try.prog 111 [SV.p 0 0, .a (.agg ((eTRef a1).map .v))] [(0, blk 0 [.p 1 0, .i ri0, .i rg0] 101), (1, plE 1 p1)] (.a (.agg ((eTRef r.1).map .v))) [(0, blk 0 [.p 1 0, .i ri0, .i rg0] 101), (1, plE 1 r.2)] [] := by
  rw [Tree_turnLeft.f] at H0
  refine spec_of [(0, _), (1, _)] [(0, _), (1, _)] 28 Try.func111 rfl Try.ntmps111 rfl rfl rfl rfl (fun β W F => ?_)
  refine G.seq ?_
  refine G.rg ?_
  refine K.box Y 100 [_, _] (gd0 rfl) rfl rfl rfl rfl rfl rfl ?_
  refine K.alloc Y 101 [_, _] (gd0 rfl) t99 rfl rfl rfl rfl rfl ?_
  refine K.nil ?_
  refine At.next ?_
  refine G.seq ?_
  obtain ⟨x1, hx1, H0⟩ := bnd H0
  refine G.rg ?_
  refine K.move (.inl rfl) (gd0 rfl) rfl rfl ?_
  refine K.loadS Y [_, _] (gd0 rfl) rfl rfl t99 rfl rfl rfl ?_
  refine K.callR [(.func 62, _), ((.tmp 7), _), ((.tmp 8), _)] (Tree_getE_con (k := k) hx1 0 1) (toFn_func (cf 62 rfl) rfl) (gd0 rfl) ⟨rfl, rfl, rfl, trivial⟩ ⟨rfl, rfl, trivial⟩ rfl rfl rfl ?_
  refine K.alloc Y 102 [_, _, _, _, _, _, _, _, _, _] (gd0 rfl) t104 rfl rfl rfl rfl rfl ?_
  refine K.store Y [_, _, _, _, _, _, _, _, _, _] (gd0 rfl) rfl rfl rfl t104 rfl rfl rfl rfl rfl ?_
  refine K.nil ?_
  refine At.next ?_
  refine G.seq ?_
  obtain ⟨x2, hx2, H0⟩ := bnd H0
  refine G.rg ?_
  refine K.move (.inl rfl) (gd0 rfl) rfl rfl ?_
  refine K.fieldAddr Y (gd0 rfl) rfl t104 rfl rfl ?_
  refine K.loadS Y [_, _] (gd0 rfl) rfl rfl t99 rfl rfl rfl ?_
  refine K.callR [(.func 62, _), ((.tmp 10), _), ((.tmp 12), _)] (Tree_getE_con (k := k) hx2 0 1) (toFn_func (cf 62 rfl) rfl) (gd0 rfl) ⟨rfl, rfl, rfl, trivial⟩ ⟨rfl, rfl, trivial⟩ rfl rfl rfl ?_
  refine K.alloc Y 103 [_, _, _, _, _, _, _, _, _, _] (gd0 rfl) t104 rfl rfl rfl rfl rfl ?_
  refine K.store Y [_, _, _, _, _, _, _, _, _, _] (gd0 rfl) rfl rfl rfl t104 rfl rfl rfl rfl rfl ?_
  refine K.nil ?_
  refine At.next ?_
  refine G.seq ?_
  obtain ⟨x3, hx3, H0⟩ := bnd H0
  refine G.rg ?_
  refine K.move (.inl rfl) (gd0 rfl) rfl rfl ?_
  refine K.loadS Y [_, _] (gd0 rfl) rfl rfl t99 rfl rfl rfl ?_
  refine K.fieldAddr Y (gd0 rfl) rfl t104 rfl rfl ?_
  refine K.loadS Y [_, _] (gd0 rfl) rfl rfl t99 rfl rfl rfl ?_
  refine K.fieldAddr Y (gd0 rfl) rfl t104 rfl rfl ?_
  refine K.loadS Y [_, _] (gd0 rfl) rfl rfl t99 rfl rfl rfl ?_
  refine K.call0 [(.func 88, _), ((.tmp 14), _), ((.tmp 15), _), ((.tmp 17), _), ((.tmp 19), _)] (Tree_layE_con (k := k) hx3 0 1) (toFn_func (cf 88 rfl) rfl) (gd0 rfl) ⟨rfl, rfl, rfl, rfl, rfl, trivial⟩ ⟨rfl, rfl, trivial⟩ rfl rfl rfl rfl rfl rfl ?_
  refine K.nil ?_
  refine At.next ?_
  refine G.seq ?_
  obtain ⟨x4, hx4, H0⟩ := bnd H0
  refine G.rg ?_
  refine K.move (.inl rfl) (gd0 rfl) rfl rfl ?_
  refine K.fieldAddr Y (gd0 rfl) rfl t104 rfl rfl ?_
  refine K.loadS Y [_, _] (gd0 rfl) rfl rfl t99 rfl rfl rfl ?_
  refine K.loadS Y [_, _] (gd0 rfl) rfl rfl t99 rfl rfl rfl ?_
  refine K.fieldAddr Y (gd0 rfl) rfl t104 rfl rfl ?_
  refine K.loadS Y [_, _] (gd0 rfl) rfl rfl t99 rfl rfl rfl ?_
  refine K.call0 [(.func 88, _), ((.tmp 21), _), ((.tmp 23), _), ((.tmp 24), _), ((.tmp 26), _)] (Tree_layE_con (k := k) hx4 0 1) (toFn_func (cf 88 rfl) rfl) (gd0 rfl) ⟨rfl, rfl, rfl, rfl, rfl, trivial⟩ ⟨rfl, rfl, trivial⟩ rfl rfl rfl rfl rfl rfl ?_
  refine K.store Y [_, _] (gd0 rfl) rfl rfl rfl t99 rfl rfl rfl rfl rfl ?_
  refine K.nil ?_
  refine At.next ?_
  refine G.ret ?_
  refine At.done Y [(.cell 4 99, .agg [_, _])] rfl ⟨.st rfl rfl t99 rfl rfl, trivial⟩ (to' := [(0, _), (1, _)]) ⟨rfl, rfl, trivial⟩ ?_ ?_ rfl rfl rfl (.inl rfl)
  · cases H0; rfl
  · cases H0; rfl
theorem Tree_turnLeftE_con {k : Nat}  {p1 : Pool (TNode TL07Elem TTide)} {a1 : TRef} {ri0 rg0 : Int} {r : TRef × Pool (TNode TL07Elem TTide)}  (H0 : Tree_turnLeft.f opsE k p1 a1 = some r) (m0 m1 : Nat) : SCon Try.prog 111 [SV.p m0 0, .a (.agg ((eTRef a1).map .v))] [(m0, blk m0 [.p m1 0, .i ri0, .i rg0] 101), (m1, plE m1 p1)] (.a (.agg ((eTRef r.1).map .v))) [(m0, blk m0 [.p m1 0, .i ri0, .i rg0] 101), (m1, plE m1 r.2)] [] :=
  SCon.ren (rn [(0, m0), (1, m1)]) (Tree_turnLeftE_con0 (k := k)   H0) ⟨(blk_ren rfl rfl), (pl_ren rfl), trivial⟩ ⟨(blk_ren rfl rfl), (pl_ren rfl), trivial⟩ (by simp) (by simp)
theorem Tree_balanceE_con0 {k : Nat}  {p1 : Pool (TNode TL07Elem TTide)} {a1 : TRef} {ri0 rg0 : Int} {r : TRef × Pool (TNode TL07Elem TTide)}  (H0 : Tree_balance.f opsE k p1 a1 = some r) : SCon Try.prog 103 [SV.p 0 0, .a (.agg ((eTRef a1).map .v))] [(0, blk 0 [.p 1 0, .i ri0, .i rg0] 101), (1, plE 1 p1)] (.a (.agg ((eTRef r.1).map .v))) [(0, blk 0 [.p 1 0, .i ri0, .i rg0] 101), (1, plE 1 r.2)] [] := by
  rw [Tree_balance.f] at H0
  refine spec_of [(0, _), (1, _)] [(0, _), (1, _)] 84 Try.func103 rfl Try.ntmps103 rfl rfl rfl rfl (fun β W F => ?_)
  refine G.seq ?_
  refine G.rg ?_
  refine K.box Y 100 [_, _] (gd0 rfl) rfl rfl rfl rfl rfl rfl ?_
  refine K.alloc Y 101 [_, _] (gd0 rfl) t99 rfl rfl rfl rfl rfl ?_
  refine K.nil ?_
  refine At.next ?_
  refine G.seq ?_
  obtain ⟨x1, hx1, H0⟩ := bnd H0
  refine G.rg ?_
  refine K.move (.inl rfl) (gd0 rfl) rfl rfl ?_
  refine K.loadS Y [_, _] (gd0 rfl) rfl rfl t99 rfl rfl rfl ?_
  refine K.callR [(.func 62, _), ((.tmp 10), _), ((.tmp 11), _)] (Tree_getE_con (k := k) hx1 0 1) (toFn_func (cf 62 rfl) rfl) (gd0 rfl) ⟨rfl, rfl, rfl, trivial⟩ ⟨rfl, rfl, trivial⟩ rfl rfl rfl ?_
  refine K.alloc Y 102 [_, _, _, _, _, _, _, _, _, _] (gd0 rfl) t104 rfl rfl rfl rfl rfl ?_
  refine K.store Y [_, _, _, _, _, _, _, _, _, _] (gd0 rfl) rfl rfl rfl t104 rfl rfl rfl rfl rfl ?_
  refine K.nil ?_
  refine At.next ?_
  refine G.seq ?_
  obtain ⟨x2, hx2, H0⟩ := bnd H0
  obtain ⟨x3, hx3, H0⟩ := bnd H0
  refine G.rd mixed ?_
  refine K.move (.inl rfl) (gd0 rfl) rfl rfl ?_
  refine K.fieldAddr Y (gd0 rfl) rfl t104 rfl rfl ?_
  refine K.loadS Y [_, _] (gd0 rfl) rfl rfl t99 rfl rfl rfl ?_
  refine K.callR [(.func 67, _), ((.tmp 13), _), ((.tmp 15), _)] (Tree_weightE_con (k := k) hx2 0 1) (toFn_func (cf 67 rfl) rfl) (gd0 rfl) ⟨rfl, rfl, rfl, trivial⟩ ⟨rfl, rfl, trivial⟩ rfl rfl rfl ?_
  refine K.move (.inl rfl) (gd0 rfl) rfl rfl ?_
  refine K.fieldAddr Y (gd0 rfl) rfl t104 rfl rfl ?_
  refine K.loadS Y [_, _] (gd0 rfl) rfl rfl t99 rfl rfl rfl ?_
  refine K.callR [(.func 67, _), ((.tmp 17), _), ((.tmp 19), _)] (Tree_weightE_con (k := k) hx3 0 1) (toFn_func (cf 67 rfl) rfl) (gd0 rfl) ⟨rfl, rfl, rfl, trivial⟩ ⟨rfl, rfl, trivial⟩ rfl rfl rfl ?_
  refine K.move (.inr rfl) (gd0 rfl) rfl rfl ?_
  refine K.move (.inr rfl) (gd0 rfl) rfl rfl ?_
  refine K.nil ?_
  refine ⟨by kernel_rfl, ?_⟩
  refine At.next ?_
  refine G.seq ?_
  refine G.block ?_
  refine G.seq ?_
  refine G.rg ?_
  refine K.move (.inl rfl) (gd0 rfl) rfl rfl ?_
  refine K.move (.inl rfl) (gd0 rfl) rfl rfl ?_
  refine K.bin (V := .int .i64 (w64 (3 * x2))) (gd0 rfl) rfl rfl (fun _ => rfl) rfl ?_
  refine K.bin (V := .bool (decide (x3 > (w64 (3 * x2))))) (gd0 rfl) rfl rfl (fun _ => rfl) rfl ?_
  refine K.move (.inr rfl) (gd0 rfl) rfl rfl ?_
  refine K.nil ?_
  refine At.next ?_
  refine G.cond rfl (fun h1 => ?_) (fun h1 => ?_)
  ·
    replace H0 := bif_t H0 h1
    refine G.seq ?_
    obtain ⟨x4, hx4, H0⟩ := bnd H0
    refine G.rg ?_
    refine K.move (.inl rfl) (gd0 rfl) rfl rfl ?_
    refine K.fieldAddr Y (gd0 rfl) rfl t104 rfl rfl ?_
    refine K.loadS Y [_, _] (gd0 rfl) rfl rfl t99 rfl rfl rfl ?_
    refine K.callR [(.func 62, _), ((.tmp 26), _), ((.tmp 28), _)] (Tree_getE_con (k := k) hx4 0 1) (toFn_func (cf 62 rfl) rfl) (gd0 rfl) ⟨rfl, rfl, rfl, trivial⟩ ⟨rfl, rfl, trivial⟩ rfl rfl rfl ?_
    refine K.alloc Y 103 [_, _, _, _, _, _, _, _, _, _] (gd0 rfl) t104 rfl rfl rfl rfl rfl ?_
    refine K.store Y [_, _, _, _, _, _, _, _, _, _] (gd0 rfl) rfl rfl rfl t104 rfl rfl rfl rfl rfl ?_
    refine K.nil ?_
    refine At.next ?_
    refine G.seq ?_
    refine G.seq ?_
    obtain ⟨x5, hx5, H0⟩ := bnd H0
    obtain ⟨x6, hx6, H0⟩ := bnd H0
    refine G.rd mixed ?_
    refine K.move (.inl rfl) (gd0 rfl) rfl rfl ?_
    refine K.fieldAddr Y (gd0 rfl) rfl t104 rfl rfl ?_
    refine K.loadS Y [_, _] (gd0 rfl) rfl rfl t99 rfl rfl rfl ?_
    refine K.callR [(.func 67, _), ((.tmp 30), _), ((.tmp 32), _)] (Tree_weightE_con (k := k) hx5 0 1) (toFn_func (cf 67 rfl) rfl) (gd0 rfl) ⟨rfl, rfl, rfl, trivial⟩ ⟨rfl, rfl, trivial⟩ rfl rfl rfl ?_
    refine K.move (.inl rfl) (gd0 rfl) rfl rfl ?_
    refine K.fieldAddr Y (gd0 rfl) rfl t104 rfl rfl ?_
    refine K.loadS Y [_, _] (gd0 rfl) rfl rfl t99 rfl rfl rfl ?_
    refine K.callR [(.func 67, _), ((.tmp 34), _), ((.tmp 36), _)] (Tree_weightE_con (k := k) hx6 0 1) (toFn_func (cf 67 rfl) rfl) (gd0 rfl) ⟨rfl, rfl, rfl, trivial⟩ ⟨rfl, rfl, trivial⟩ rfl rfl rfl ?_
    refine K.bin (V := .int .i64 (w64 (2 * x6))) (gd0 rfl) rfl rfl (fun _ => rfl) rfl ?_
    refine K.bin (V := .bool (decide (x5 ≥ (w64 (2 * x6))))) (gd0 rfl) rfl rfl (fun _ => rfl) rfl ?_
    refine K.nil ?_
    refine ⟨by kernel_rfl, ?_⟩
    refine At.next ?_
    refine G.cond rfl (fun h2 => ?_) (fun h2 => ?_)
    ·
      replace H0 := bif_t H0 h2
      obtain ⟨x7, hx7, H0⟩ := bnd H0
      obtain ⟨x8, hx8, H0⟩ := bnd H0
      refine G.rd mixed ?_
      refine K.move (.inl rfl) (gd0 rfl) rfl rfl ?_
      refine K.loadS Y [_, _] (gd0 rfl) rfl rfl t99 rfl rfl rfl ?_
      refine K.fieldAddr Y (gd0 rfl) rfl t104 rfl rfl ?_
      refine K.loadS Y [_, _] (gd0 rfl) rfl rfl t99 rfl rfl rfl ?_
      refine K.move (.inl rfl) (gd0 rfl) rfl rfl ?_
      refine K.fieldAddr Y (gd0 rfl) rfl t104 rfl rfl ?_
      refine K.loadS Y [_, _] (gd0 rfl) rfl rfl t99 rfl rfl rfl ?_
      refine K.call0 [(.func 110, _), ((.tmp 44), _), ((.tmp 46), _)] (Tree_turnRightE_con (k := k) hx7 0 1) (toFn_func (cf 110 rfl) rfl) (gd0 rfl) ⟨rfl, rfl, rfl, trivial⟩ ⟨rfl, rfl, trivial⟩ rfl rfl rfl rfl rfl rfl ?_
      refine K.call0 [(.func 88, _), ((.tmp 40), _), ((.tmp 41), _), ((.tmp 43), _), ((.tmp 47), _)] (Tree_layE_con (k := k) hx8 0 1) (toFn_func (cf 88 rfl) rfl) (gd0 rfl) ⟨rfl, rfl, rfl, rfl, rfl, trivial⟩ ⟨rfl, rfl, trivial⟩ rfl rfl rfl rfl rfl rfl ?_
      refine K.nil ?_
      refine ⟨by kernel_rfl, ?_⟩
      refine At.next ?_
      refine G.seq ?_
      obtain ⟨x9, hx9, H0⟩ := bnd H0
      refine G.rg ?_
      refine K.move (.inl rfl) (gd0 rfl) rfl rfl ?_
      refine K.loadS Y [_, _] (gd0 rfl) rfl rfl t99 rfl rfl rfl ?_
      refine K.call0 [(.func 111, _), ((.tmp 49), _), ((.tmp 50), _)] (Tree_turnLeftE_con (k := k) hx9 0 1) (toFn_func (cf 111 rfl) rfl) (gd0 rfl) ⟨rfl, rfl, rfl, trivial⟩ ⟨rfl, rfl, trivial⟩ rfl rfl rfl rfl rfl rfl ?_
      refine K.store Y [_, _] (gd0 rfl) rfl rfl rfl t99 rfl rfl rfl rfl rfl ?_
      refine K.nil ?_
      refine At.next ?_
      refine G.ret ?_
      refine At.block_ret ?_
      refine At.over_ret ?_
      refine At.done Y [(.cell 4 99, .agg [_, _])] rfl ⟨.st rfl rfl t99 rfl rfl, trivial⟩ (to' := [(0, _), (1, _)]) ⟨rfl, rfl, trivial⟩ ?_ ?_ rfl rfl rfl (.inl rfl)
      · cases H0; rfl
      · cases H0; rfl
    ·
      replace H0 := bif_f H0 h2
      refine G.skip ?_
      refine At.next ?_
      refine G.seq ?_
      obtain ⟨x10, hx10, H0⟩ := bnd H0
      refine G.rg ?_
      refine K.move (.inl rfl) (gd0 rfl) rfl rfl ?_
      refine K.loadS Y [_, _] (gd0 rfl) rfl rfl t99 rfl rfl rfl ?_
      refine K.call0 [(.func 111, _), ((.tmp 49), _), ((.tmp 50), _)] (Tree_turnLeftE_con (k := k) hx10 0 1) (toFn_func (cf 111 rfl) rfl) (gd0 rfl) ⟨rfl, rfl, rfl, trivial⟩ ⟨rfl, rfl, trivial⟩ rfl rfl rfl rfl rfl rfl ?_
      refine K.store Y [_, _] (gd0 rfl) rfl rfl rfl t99 rfl rfl rfl rfl rfl ?_
      refine K.nil ?_
      refine At.next ?_
      refine G.ret ?_
      refine At.block_ret ?_
      refine At.over_ret ?_
      refine At.done Y [(.cell 4 99, .agg [_, _])] rfl ⟨.st rfl rfl t99 rfl rfl, trivial⟩ (to' := [(0, _), (1, _)]) ⟨rfl, rfl, trivial⟩ ?_ ?_ rfl rfl rfl (.inl rfl)
      · cases H0; rfl
      · cases H0; rfl
  ·
    replace H0 := bif_f H0 h1
    refine G.seq ?_
    refine G.rg ?_
    refine K.move (.inl rfl) (gd0 rfl) rfl rfl ?_
    refine K.move (.inl rfl) (gd0 rfl) rfl rfl ?_
    refine K.bin (V := .int .i64 (w64 (3 * x3))) (gd0 rfl) rfl rfl (fun _ => rfl) rfl ?_
    refine K.bin (V := .bool (decide (x2 > (w64 (3 * x3))))) (gd0 rfl) rfl rfl (fun _ => rfl) rfl ?_
    refine K.move (.inr rfl) (gd0 rfl) rfl rfl ?_
    refine K.nil ?_
    refine At.next ?_
    refine G.cond rfl (fun h3 => ?_) (fun h3 => ?_)
    ·
      replace H0 := bif_t H0 h3
      refine G.seq ?_
      obtain ⟨x11, hx11, H0⟩ := bnd H0
      refine G.rg ?_
      refine K.move (.inl rfl) (gd0 rfl) rfl rfl ?_
      refine K.fieldAddr Y (gd0 rfl) rfl t104 rfl rfl ?_
      refine K.loadS Y [_, _] (gd0 rfl) rfl rfl t99 rfl rfl rfl ?_
      refine K.callR [(.func 62, _), ((.tmp 57), _), ((.tmp 59), _)] (Tree_getE_con (k := k) hx11 0 1) (toFn_func (cf 62 rfl) rfl) (gd0 rfl) ⟨rfl, rfl, rfl, trivial⟩ ⟨rfl, rfl, trivial⟩ rfl rfl rfl ?_
      refine K.alloc Y 104 [_, _, _, _, _, _, _, _, _, _] (gd0 rfl) t104 rfl rfl rfl rfl rfl ?_
      refine K.store Y [_, _, _, _, _, _, _, _, _, _] (gd0 rfl) rfl rfl rfl t104 rfl rfl rfl rfl rfl ?_
      refine K.nil ?_
      refine At.next ?_
      refine G.seq ?_
      refine G.seq ?_
      obtain ⟨x12, hx12, H0⟩ := bnd H0
      obtain ⟨x13, hx13, H0⟩ := bnd H0
      refine G.rd mixed ?_
      refine K.move (.inl rfl) (gd0 rfl) rfl rfl ?_
      refine K.fieldAddr Y (gd0 rfl) rfl t104 rfl rfl ?_
      refine K.loadS Y [_, _] (gd0 rfl) rfl rfl t99 rfl rfl rfl ?_
      refine K.callR [(.func 67, _), ((.tmp 61), _), ((.tmp 63), _)] (Tree_weightE_con (k := k) hx12 0 1) (toFn_func (cf 67 rfl) rfl) (gd0 rfl) ⟨rfl, rfl, rfl, trivial⟩ ⟨rfl, rfl, trivial⟩ rfl rfl rfl ?_
      refine K.move (.inl rfl) (gd0 rfl) rfl rfl ?_
      refine K.fieldAddr Y (gd0 rfl) rfl t104 rfl rfl ?_
      refine K.loadS Y [_, _] (gd0 rfl) rfl rfl t99 rfl rfl rfl ?_
      refine K.callR [(.func 67, _), ((.tmp 65), _), ((.tmp 67), _)] (Tree_weightE_con (k := k) hx13 0 1) (toFn_func (cf 67 rfl) rfl) (gd0 rfl) ⟨rfl, rfl, rfl, trivial⟩ ⟨rfl, rfl, trivial⟩ rfl rfl rfl ?_
      refine K.bin (V := .int .i64 (w64 (2 * x13))) (gd0 rfl) rfl rfl (fun _ => rfl) rfl ?_
      refine K.bin (V := .bool (decide (x12 ≥ (w64 (2 * x13))))) (gd0 rfl) rfl rfl (fun _ => rfl) rfl ?_
      refine K.nil ?_
      refine ⟨by kernel_rfl, ?_⟩
      refine At.next ?_
      refine G.cond rfl (fun h4 => ?_) (fun h4 => ?_)
      ·
        replace H0 := bif_t H0 h4
        obtain ⟨x14, hx14, H0⟩ := bnd H0
        obtain ⟨x15, hx15, H0⟩ := bnd H0
        refine G.rd mixed ?_
        refine K.move (.inl rfl) (gd0 rfl) rfl rfl ?_
        refine K.loadS Y [_, _] (gd0 rfl) rfl rfl t99 rfl rfl rfl ?_
        refine K.move (.inl rfl) (gd0 rfl) rfl rfl ?_
        refine K.fieldAddr Y (gd0 rfl) rfl t104 rfl rfl ?_
        refine K.loadS Y [_, _] (gd0 rfl) rfl rfl t99 rfl rfl rfl ?_
        refine K.call0 [(.func 111, _), ((.tmp 73), _), ((.tmp 75), _)] (Tree_turnLeftE_con (k := k) hx14 0 1) (toFn_func (cf 111 rfl) rfl) (gd0 rfl) ⟨rfl, rfl, rfl, trivial⟩ ⟨rfl, rfl, trivial⟩ rfl rfl rfl rfl rfl rfl ?_
        refine K.fieldAddr Y (gd0 rfl) rfl t104 rfl rfl ?_
        refine K.loadS Y [_, _] (gd0 rfl) rfl rfl t99 rfl rfl rfl ?_
        refine K.call0 [(.func 88, _), ((.tmp 71), _), ((.tmp 72), _), ((.tmp 76), _), ((.tmp 78), _)] (Tree_layE_con (k := k) hx15 0 1) (toFn_func (cf 88 rfl) rfl) (gd0 rfl) ⟨rfl, rfl, rfl, rfl, rfl, trivial⟩ ⟨rfl, rfl, trivial⟩ rfl rfl rfl rfl rfl rfl ?_
        refine K.nil ?_
        refine ⟨by kernel_rfl, ?_⟩
        refine At.next ?_
        refine G.seq ?_
        obtain ⟨x16, hx16, H0⟩ := bnd H0
        refine G.rg ?_
        refine K.move (.inl rfl) (gd0 rfl) rfl rfl ?_
        refine K.loadS Y [_, _] (gd0 rfl) rfl rfl t99 rfl rfl rfl ?_
        refine K.call0 [(.func 110, _), ((.tmp 80), _), ((.tmp 81), _)] (Tree_turnRightE_con (k := k) hx16 0 1) (toFn_func (cf 110 rfl) rfl) (gd0 rfl) ⟨rfl, rfl, rfl, trivial⟩ ⟨rfl, rfl, trivial⟩ rfl rfl rfl rfl rfl rfl ?_
        refine K.store Y [_, _] (gd0 rfl) rfl rfl rfl t99 rfl rfl rfl rfl rfl ?_
        refine K.nil ?_
        refine At.next ?_
        refine G.ret ?_
        refine At.block_ret ?_
        refine At.over_ret ?_
        refine At.done Y [(.cell 4 99, .agg [_, _])] rfl ⟨.st rfl rfl t99 rfl rfl, trivial⟩ (to' := [(0, _), (1, _)]) ⟨rfl, rfl, trivial⟩ ?_ ?_ rfl rfl rfl (.inl rfl)
        · cases H0; rfl
        · cases H0; rfl
      ·
        replace H0 := bif_f H0 h4
        refine G.skip ?_
        refine At.next ?_
        refine G.seq ?_
        obtain ⟨x17, hx17, H0⟩ := bnd H0
        refine G.rg ?_
        refine K.move (.inl rfl) (gd0 rfl) rfl rfl ?_
        refine K.loadS Y [_, _] (gd0 rfl) rfl rfl t99 rfl rfl rfl ?_
        refine K.call0 [(.func 110, _), ((.tmp 80), _), ((.tmp 81), _)] (Tree_turnRightE_con (k := k) hx17 0 1) (toFn_func (cf 110 rfl) rfl) (gd0 rfl) ⟨rfl, rfl, rfl, trivial⟩ ⟨rfl, rfl, trivial⟩ rfl rfl rfl rfl rfl rfl ?_
        refine K.store Y [_, _] (gd0 rfl) rfl rfl rfl t99 rfl rfl rfl rfl rfl ?_
        refine K.nil ?_
        refine At.next ?_
        refine G.ret ?_
        refine At.block_ret ?_
        refine At.over_ret ?_
        refine At.done Y [(.cell 4 99, .agg [_, _])] rfl ⟨.st rfl rfl t99 rfl rfl, trivial⟩ (to' := [(0, _), (1, _)]) ⟨rfl, rfl, trivial⟩ ?_ ?_ rfl rfl rfl (.inl rfl)
        · cases H0; rfl
        · cases H0; rfl
    ·
      replace H0 := bif_f H0 h3
      refine G.skip ?_
      refine At.block_normal ?_
      refine At.next ?_
      refine G.seq ?_
      refine G.rg ?_
      refine K.loadS Y [_, _] (gd0 rfl) rfl rfl t99 rfl rfl rfl ?_
      refine K.store Y [_, _] (gd0 rfl) rfl rfl rfl t99 rfl rfl rfl rfl rfl ?_
      refine K.nil ?_
      refine At.next ?_
      refine G.ret ?_
      refine At.done Y [(.cell 4 99, .agg [_, _])] rfl ⟨.st rfl rfl t99 rfl rfl, trivial⟩ (to' := [(0, _), (1, _)]) ⟨rfl, rfl, trivial⟩ ?_ ?_ rfl rfl rfl (.inl rfl)
      · cases H0; rfl
      · cases H0; rfl
theorem Tree_balanceE_con {k : Nat}  {p1 : Pool (TNode TL07Elem TTide)} {a1 : TRef} {ri0 rg0 : Int} {r : TRef × Pool (TNode TL07Elem TTide)}  (H0 : Tree_balance.f opsE k p1 a1 = some r) (m0 m1 : Nat) : SCon Try.prog 103 [SV.p m0 0, .a (.agg ((eTRef a1).map .v))] [(m0, blk m0 [.p m1 0, .i ri0, .i rg0] 101), (m1, plE m1 p1)] (.a (.agg ((eTRef r.1).map .v))) [(m0, blk m0 [.p m1 0, .i ri0, .i rg0] 101), (m1, plE m1 r.2)] [] :=
  SCon.ren (rn [(0, m0), (1, m1)]) (Tree_balanceE_con0 (k := k)   H0) ⟨(blk_ren rfl rfl), (pl_ren rfl), trivial⟩ ⟨(blk_ren rfl rfl), (pl_ren rfl), trivial⟩ (by simp) (by simp)
theorem Tree_linkE_con0 {k : Nat}  : ∀ {n : Nat} {p1 : Pool (TNode TL07Elem TTide)} {a1 : TRef} {a2 : TRef} {a3 : TRef} {ri0 rg0 : Int} {r : TRef × Pool (TNode TL07Elem TTide)}  (H0 : Tree_link.r opsE k n p1 a1 a2 a3 = some r), SCon Try.prog 84 [SV.p 0 0, .a (.agg ((eTRef a1).map .v)), .a (.agg ((eTRef a2).map .v)), .a (.agg ((eTRef a3).map .v))] [(0, blk 0 [.p 1 0, .i ri0, .i rg0] 101), (1, plE 1 p1)] (.a (.agg ((eTRef r.1).map .v))) [(0, blk 0 [.p 1 0, .i ri0, .i rg0] 101), (1, plE 1 r.2)] [] := by
  intro n
  induction n with
  | zero => intro p1 a1 a2 a3 ri0 rg0 r H0; exact absurd H0 (by simp [Tree_link.r])
  | succ n ih =>
    intro p1 a1 a2 a3 ri0 rg0 r H0
    rw [Tree_link.r] at H0
    refine spec_of [(0, _), (1, _), (2, _), (3, _)] [(0, _), (1, _)] 66 Try.func84 rfl Try.ntmps84 rfl rfl rfl rfl (fun β W F => ?_)
    refine G.seq ?_
    refine G.rg ?_
    refine K.box Y 100 [_, _] (gd0 rfl) rfl rfl rfl rfl rfl rfl ?_
    refine K.box Y 101 [_, _] (gd0 rfl) rfl rfl rfl rfl rfl rfl ?_
    refine K.box Y 102 [_, _] (gd0 rfl) rfl rfl rfl rfl rfl rfl ?_
    refine K.alloc Y 103 [_, _] (gd0 rfl) t99 rfl rfl rfl rfl rfl ?_
    refine K.nil ?_
    refine At.next ?_
    refine G.seq ?_
    obtain ⟨x1, hx1, H0⟩ := bnd H0
    obtain ⟨x2, hx2, H0⟩ := bnd H0
    refine G.rd mixed ?_
    refine K.move (.inl rfl) (gd0 rfl) rfl rfl ?_
    refine K.loadS Y [_, _] (gd0 rfl) rfl rfl t99 rfl rfl rfl ?_
    refine K.callR [(.func 67, _), ((.tmp 13), _), ((.tmp 14), _)] (Tree_weightE_con (k := k) hx1 0 1) (toFn_func (cf 67 rfl) rfl) (gd0 rfl) ⟨rfl, rfl, rfl, trivial⟩ ⟨rfl, rfl, trivial⟩ rfl rfl rfl ?_
    refine K.move (.inl rfl) (gd0 rfl) rfl rfl ?_
    refine K.loadS Y [_, _] (gd0 rfl) rfl rfl t99 rfl rfl rfl ?_
    refine K.callR [(.func 67, _), ((.tmp 16), _), ((.tmp 17), _)] (Tree_weightE_con (k := k) hx2 0 1) (toFn_func (cf 67 rfl) rfl) (gd0 rfl) ⟨rfl, rfl, rfl, trivial⟩ ⟨rfl, rfl, trivial⟩ rfl rfl rfl ?_
    refine K.move (.inr rfl) (gd0 rfl) rfl rfl ?_
    refine K.move (.inr rfl) (gd0 rfl) rfl rfl ?_
    refine K.nil ?_
    refine ⟨by kernel_rfl, ?_⟩
    refine At.next ?_
    refine G.seq ?_
    refine G.block ?_
    refine G.seq ?_
    refine G.rg ?_
    refine K.move (.inl rfl) (gd0 rfl) rfl rfl ?_
    refine K.move (.inl rfl) (gd0 rfl) rfl rfl ?_
    refine K.bin (V := .int .i64 (w64 (3 * x1))) (gd0 rfl) rfl rfl (fun _ => rfl) rfl ?_
    refine K.bin (V := .bool (decide (x2 > (w64 (3 * x1))))) (gd0 rfl) rfl rfl (fun _ => rfl) rfl ?_
    refine K.move (.inr rfl) (gd0 rfl) rfl rfl ?_
    refine K.nil ?_
    refine At.next ?_
    refine G.cond rfl (fun h1 => ?_) (fun h1 => ?_)
    ·
      replace H0 := bif_t H0 h1
      refine G.seq ?_
      obtain ⟨x3, hx3, H0⟩ := bnd H0
      refine G.rg ?_
      refine K.move (.inl rfl) (gd0 rfl) rfl rfl ?_
      refine K.loadS Y [_, _] (gd0 rfl) rfl rfl t99 rfl rfl rfl ?_
      refine K.callR [(.func 62, _), ((.tmp 24), _), ((.tmp 25), _)] (Tree_getE_con (k := k) hx3 0 1) (toFn_func (cf 62 rfl) rfl) (gd0 rfl) ⟨rfl, rfl, rfl, trivial⟩ ⟨rfl, rfl, trivial⟩ rfl rfl rfl ?_
      refine K.alloc Y 104 [_, _, _, _, _, _, _, _, _, _] (gd0 rfl) t104 rfl rfl rfl rfl rfl ?_
      refine K.store Y [_, _, _, _, _, _, _, _, _, _] (gd0 rfl) rfl rfl rfl t104 rfl rfl rfl rfl rfl ?_
      refine K.nil ?_
      refine At.next ?_
      refine G.seq ?_
      obtain ⟨x4, hx4, H0⟩ := bnd H0
      obtain ⟨x5, hx5, H0⟩ := bnd H0
      obtain ⟨x6, hx6, H0⟩ := bnd H0
      refine G.rd mixed ?_
      refine K.move (.inl rfl) (gd0 rfl) rfl rfl ?_
      refine K.move (.inl rfl) (gd0 rfl) rfl rfl ?_
      refine K.loadS Y [_, _] (gd0 rfl) rfl rfl t99 rfl rfl rfl ?_
      refine K.move (.inl rfl) (gd0 rfl) rfl rfl ?_
      refine K.loadS Y [_, _] (gd0 rfl) rfl rfl t99 rfl rfl rfl ?_
      refine K.loadS Y [_, _] (gd0 rfl) rfl rfl t99 rfl rfl rfl ?_
      refine K.fieldAddr Y (gd0 rfl) rfl t104 rfl rfl ?_
      refine K.loadS Y [_, _] (gd0 rfl) rfl rfl t99 rfl rfl rfl ?_
      refine K.call0 [(.func 84, _), ((.tmp 30), _), ((.tmp 31), _), ((.tmp 32), _), ((.tmp 34), _)] (ih hx4) (toFn_func (cf 84 rfl) rfl) (gd0 rfl) ⟨rfl, rfl, rfl, rfl, rfl, trivial⟩ ⟨rfl, rfl, trivial⟩ rfl rfl rfl rfl rfl rfl ?_
      refine K.fieldAddr Y (gd0 rfl) rfl t104 rfl rfl ?_
      refine K.loadS Y [_, _] (gd0 rfl) rfl rfl t99 rfl rfl rfl ?_
      refine K.call0 [(.func 88, _), ((.tmp 28), _), ((.tmp 29), _), ((.tmp 35), _), ((.tmp 37), _)] (Tree_layE_con (k := k) hx5 0 1) (toFn_func (cf 88 rfl) rfl) (gd0 rfl) ⟨rfl, rfl, rfl, rfl, rfl, trivial⟩ ⟨rfl, rfl, trivial⟩ rfl rfl rfl rfl rfl rfl ?_
      refine K.call0 [(.func 103, _), ((.tmp 27), _), ((.tmp 38), _)] (Tree_balanceE_con (k := k) hx6 0 1) (toFn_func (cf 103 rfl) rfl) (gd0 rfl) ⟨rfl, rfl, rfl, trivial⟩ ⟨rfl, rfl, trivial⟩ rfl rfl rfl rfl rfl rfl ?_
      refine K.store Y [_, _] (gd0 rfl) rfl rfl rfl t99 rfl rfl rfl rfl rfl ?_
      refine K.nil ?_
      refine ⟨by kernel_rfl, ?_⟩
      refine At.next ?_
      refine G.ret ?_
      refine At.block_ret ?_
      refine At.over_ret ?_
      refine At.done Y [(.cell 8 99, .agg [_, _])] rfl ⟨.st rfl rfl t99 rfl rfl, trivial⟩ (to' := [(0, _), (1, _)]) ⟨rfl, rfl, trivial⟩ ?_ ?_ rfl rfl rfl (.inl rfl)
      · cases H0; rfl
      · cases H0; rfl
    ·
      replace H0 := bif_f H0 h1
      refine G.seq ?_
      refine G.rg ?_
      refine K.move (.inl rfl) (gd0 rfl) rfl rfl ?_
      refine K.move (.inl rfl) (gd0 rfl) rfl rfl ?_
      refine K.bin (V := .int .i64 (w64 (3 * x2))) (gd0 rfl) rfl rfl (fun _ => rfl) rfl ?_
      refine K.bin (V := .bool (decide (x1 > (w64 (3 * x2))))) (gd0 rfl) rfl rfl (fun _ => rfl) rfl ?_
      refine K.move (.inr rfl) (gd0 rfl) rfl rfl ?_
      refine K.nil ?_
      refine At.next ?_
      refine G.cond rfl (fun h2 => ?_) (fun h2 => ?_)
      ·
        replace H0 := bif_t H0 h2
        refine G.seq ?_
        obtain ⟨x7, hx7, H0⟩ := bnd H0
        refine G.rg ?_
        refine K.move (.inl rfl) (gd0 rfl) rfl rfl ?_
        refine K.loadS Y [_, _] (gd0 rfl) rfl rfl t99 rfl rfl rfl ?_
        refine K.callR [(.func 62, _), ((.tmp 45), _), ((.tmp 46), _)] (Tree_getE_con (k := k) hx7 0 1) (toFn_func (cf 62 rfl) rfl) (gd0 rfl) ⟨rfl, rfl, rfl, trivial⟩ ⟨rfl, rfl, trivial⟩ rfl rfl rfl ?_
        refine K.alloc Y 105 [_, _, _, _, _, _, _, _, _, _] (gd0 rfl) t104 rfl rfl rfl rfl rfl ?_
        refine K.store Y [_, _, _, _, _, _, _, _, _, _] (gd0 rfl) rfl rfl rfl t104 rfl rfl rfl rfl rfl ?_
        refine K.nil ?_
        refine At.next ?_
        refine G.seq ?_
        obtain ⟨x8, hx8, H0⟩ := bnd H0
        obtain ⟨x9, hx9, H0⟩ := bnd H0
        obtain ⟨x10, hx10, H0⟩ := bnd H0
        refine G.rd mixed ?_
        refine K.move (.inl rfl) (gd0 rfl) rfl rfl ?_
        refine K.move (.inl rfl) (gd0 rfl) rfl rfl ?_
        refine K.loadS Y [_, _] (gd0 rfl) rfl rfl t99 rfl rfl rfl ?_
        refine K.fieldAddr Y (gd0 rfl) rfl t104 rfl rfl ?_
        refine K.loadS Y [_, _] (gd0 rfl) rfl rfl t99 rfl rfl rfl ?_
        refine K.move (.inl rfl) (gd0 rfl) rfl rfl ?_
        refine K.fieldAddr Y (gd0 rfl) rfl t104 rfl rfl ?_
        refine K.loadS Y [_, _] (gd0 rfl) rfl rfl t99 rfl rfl rfl ?_
        refine K.loadS Y [_, _] (gd0 rfl) rfl rfl t99 rfl rfl rfl ?_
        refine K.loadS Y [_, _] (gd0 rfl) rfl rfl t99 rfl rfl rfl ?_
        refine K.call0 [(.func 84, _), ((.tmp 53), _), ((.tmp 55), _), ((.tmp 56), _), ((.tmp 57), _)] (ih hx8) (toFn_func (cf 84 rfl) rfl) (gd0 rfl) ⟨rfl, rfl, rfl, rfl, rfl, trivial⟩ ⟨rfl, rfl, trivial⟩ rfl rfl rfl rfl rfl rfl ?_
        refine K.call0 [(.func 88, _), ((.tmp 49), _), ((.tmp 50), _), ((.tmp 52), _), ((.tmp 58), _)] (Tree_layE_con (k := k) hx9 0 1) (toFn_func (cf 88 rfl) rfl) (gd0 rfl) ⟨rfl, rfl, rfl, rfl, rfl, trivial⟩ ⟨rfl, rfl, trivial⟩ rfl rfl rfl rfl rfl rfl ?_
        refine K.call0 [(.func 103, _), ((.tmp 48), _), ((.tmp 59), _)] (Tree_balanceE_con (k := k) hx10 0 1) (toFn_func (cf 103 rfl) rfl) (gd0 rfl) ⟨rfl, rfl, rfl, trivial⟩ ⟨rfl, rfl, trivial⟩ rfl rfl rfl rfl rfl rfl ?_
        refine K.store Y [_, _] (gd0 rfl) rfl rfl rfl t99 rfl rfl rfl rfl rfl ?_
        refine K.nil ?_
        refine ⟨by kernel_rfl, ?_⟩
        refine At.next ?_
        refine G.ret ?_
        refine At.block_ret ?_
        refine At.over_ret ?_
        refine At.done Y [(.cell 8 99, .agg [_, _])] rfl ⟨.st rfl rfl t99 rfl rfl, trivial⟩ (to' := [(0, _), (1, _)]) ⟨rfl, rfl, trivial⟩ ?_ ?_ rfl rfl rfl (.inl rfl)
        · cases H0; rfl
        · cases H0; rfl
      ·
        replace H0 := bif_f H0 h2
        refine G.skip ?_
        refine At.block_normal ?_
        refine At.next ?_
        refine G.seq ?_
        obtain ⟨x11, hx11, H0⟩ := bnd H0
        refine G.rg ?_
        refine K.move (.inl rfl) (gd0 rfl) rfl rfl ?_
        refine K.loadS Y [_, _] (gd0 rfl) rfl rfl t99 rfl rfl rfl ?_
        refine K.loadS Y [_, _] (gd0 rfl) rfl rfl t99 rfl rfl rfl ?_
        refine K.loadS Y [_, _] (gd0 rfl) rfl rfl t99 rfl rfl rfl ?_
        refine K.call0 [(.func 88, _), ((.tmp 61), _), ((.tmp 62), _), ((.tmp 63), _), ((.tmp 64), _)] (Tree_layE_con (k := k) hx11 0 1) (toFn_func (cf 88 rfl) rfl) (gd0 rfl) ⟨rfl, rfl, rfl, rfl, rfl, trivial⟩ ⟨rfl, rfl, trivial⟩ rfl rfl rfl rfl rfl rfl ?_
        refine K.store Y [_, _] (gd0 rfl) rfl rfl rfl t99 rfl rfl rfl rfl rfl ?_
        refine K.nil ?_
        refine At.next ?_
        refine G.ret ?_
        refine At.done Y [(.cell 8 99, .agg [_, _])] rfl ⟨.st rfl rfl t99 rfl rfl, trivial⟩ (to' := [(0, _), (1, _)]) ⟨rfl, rfl, trivial⟩ ?_ ?_ rfl rfl rfl (.inl rfl)
        · cases H0; rfl
        · cases H0; rfl
theorem Tree_linkE_con {k n : Nat}  {p1 : Pool (TNode TL07Elem TTide)} {a1 : TRef} {a2 : TRef} {a3 : TRef} {ri0 rg0 : Int} {r : TRef × Pool (TNode TL07Elem TTide)}  (H0 : Tree_link.r opsE k n p1 a1 a2 a3 = some r) (m0 m1 : Nat) : SCon Try.prog 84 [SV.p m0 0, .a (.agg ((eTRef a1).map .v)), .a (.agg ((eTRef a2).map .v)), .a (.agg ((eTRef a3).map .v))] [(m0, blk m0 [.p m1 0, .i ri0, .i rg0] 101), (m1, plE m1 p1)] (.a (.agg ((eTRef r.1).map .v))) [(m0, blk m0 [.p m1 0, .i ri0, .i rg0] 101), (m1, plE m1 r.2)] [] :=
  SCon.ren (rn [(0, m0), (1, m1)]) (Tree_linkE_con0 (k := k)   H0) ⟨(blk_ren rfl rfl), (pl_ren rfl), trivial⟩ ⟨(blk_ren rfl rfl), (pl_ren rfl), trivial⟩ (by simp) (by simp)
theorem Tree_putE_con0 {k : Nat}  : ∀ {n : Nat} {p1 : Pool (TNode TL07Elem TTide)} {a1 : TRef} {a2 : TL07Elem} {ri0 rg0 : Int} {r : TRef × Bool × Pool (TNode TL07Elem TTide)}  (H0 : Tree_put.r opsE k n p1 a1 a2 = some r), SCon Try.prog 65 [SV.p 0 0, .a (.agg ((eTRef a1).map .v)), .a (.agg ((eTL07Elem a2).map .v))] [(0, blk 0 [.p 1 0, .i ri0, .i rg0] 101), (1, plE 1 p1)] (.tup [.agg ((eTRef r.1).map .v), .c (.v (.bool r.2.1))]) [(0, blk 0 [.p 1 0, .i ri0, .i rg0] 101), (1, plE 1 r.2.2)] [] := by
  intro n
  induction n with
  | zero => intro p1 a1 a2 ri0 rg0 r H0; exact absurd H0 (by simp [Tree_put.r])
  | succ n ih =>
    intro p1 a1 a2 ri0 rg0 r H0
    rw [Tree_put.r] at H0
    refine spec_of [(0, _), (1, _), (2, _)] [(0, _), (1, _)] 98 Try.func65 rfl Try.ntmps65 rfl rfl rfl rfl (fun β W F => ?_)
    refine G.seq ?_
    refine G.rg ?_
    refine K.box Y 100 [_, _] (gd0 rfl) rfl rfl rfl rfl rfl rfl ?_
    refine K.box Y 101 [_, _] (gd0 rfl) rfl rfl rfl rfl rfl rfl ?_
    refine K.alloc Y 102 [_, _] (gd0 rfl) t99 rfl rfl rfl rfl rfl ?_
    refine K.move (.inr rfl) (gd0 rfl) rfl rfl ?_
    refine K.nil ?_
    refine At.next ?_
    refine G.seq ?_
    refine G.seq ?_
    refine G.rg ?_
    refine K.fieldAddr Y (gd0 rfl) rfl t99 rfl rfl ?_
    refine K.load1 Y (gd0 rfl) rfl rfl t3 rfl rfl ?_
    refine K.bin (V := .bool (a1.gen == 0)) (gd0 rfl) rfl rfl (fun _ => rfl) rfl ?_
    refine K.nil ?_
    refine At.next ?_
    refine G.cond rfl (fun h1 => ?_) (fun h1 => ?_)
    ·
      replace H0 := bif_t H0 h1
      refine G.seq ?_
      obtain ⟨x1, hx1, H0⟩ := bnd H0
      obtain ⟨x2, hx2, H0⟩ := bnd H0
      refine G.rd mixed ?_
      refine K.move (.inl rfl) (gd0 rfl) rfl rfl ?_
      refine K.nilCheck (gd0 rfl) rfl rfl ?_
      refine K.fieldAddr Y (gd0 rfl) rfl t101 rfl rfl ?_
      refine K.load1 Y (gd0 rfl) rfl rfl t97 rfl rfl ?_
      refine K.loadS Y [_, _] (gd0 rfl) rfl rfl t35 rfl rfl rfl ?_
      refine K.loadS Y [_, _] (gd0 rfl) rfl rfl t35 rfl rfl rfl ?_
      refine K.mkIface Y (gd0 rfl) rfl (mkI Try.underlying35 rfl) rfl ?_
      refine K.callR [((.tmp 26), _)] (Lw07_elem_Sum_con (k := k) hx1) (toFn_invoke (cf 132 rfl) (me35_132) rfl) (gd0 rfl) ⟨rfl, trivial⟩ trivial rfl rfl rfl ?_
      refine K.build Y [(0, _), (3, _), (4, _)] [_, _, _, _, _, _, _, _, _, _] [((.tmp 24), _), (_, _), ((.tmp 27), _)] (gd0 rfl) (AllE.spec ⟨rfl, rfl, rfl, trivial⟩) rfl rfl t104 rfl rfl ?_
      refine K.call0 [(.func 86, _), ((.tmp 23), _), ((.tmp 28), _)] (plputE hx2 1) (toFn_func (cf 86 rfl) rfl) (gd0 rfl) ⟨rfl, rfl, rfl, trivial⟩ ⟨rfl, trivial⟩ rfl rfl rfl rfl rfl rfl ?_
      refine K.move (.inl rfl) (gd0 rfl) rfl rfl ?_
      refine K.extract (gd0 rfl) rfl rfl rfl ?_
      refine K.extract (gd0 rfl) rfl rfl rfl ?_
      refine K.alloc Y 103 [_, _] (gd0 rfl) t99 rfl rfl rfl rfl rfl ?_
      refine K.store Y [_, _] (gd0 rfl) rfl rfl rfl t99 rfl rfl rfl rfl rfl ?_
      refine K.move (.inr rfl) (gd0 rfl) rfl rfl ?_
      refine K.nil ?_
      refine ⟨by kernel_rfl, ?_⟩
      refine At.next ?_
      refine G.seq ?_
      refine G.rg ?_
      refine K.loadS Y [_, _] (gd0 rfl) rfl rfl t99 rfl rfl rfl ?_
      refine K.move (.inl rfl) (gd0 rfl) rfl rfl ?_
      refine K.store Y [_, _] (gd0 rfl) rfl rfl rfl t99 rfl rfl rfl rfl rfl ?_
      refine K.move (.inr rfl) (gd0 rfl) rfl rfl ?_
      refine K.nil ?_
      refine At.next ?_
      refine G.ret ?_
      refine At.over_ret ?_
      refine At.done Y [(.cell 6 99, .agg [_, _]), (.tmp 7, .c _)] rfl ⟨.st rfl rfl t99 rfl rfl, .tmp rfl, trivial⟩ (to' := [(0, _), (1, _)]) ⟨rfl, rfl, trivial⟩ ?_ ?_ rfl rfl rfl (.inl rfl)
      · cases H0; rfl
      · cases H0; rfl
    ·
      replace H0 := bif_f H0 h1
      refine G.skip ?_
      refine At.next ?_
      refine G.seq ?_
      obtain ⟨x3, hx3, H0⟩ := bnd H0
      refine G.rg ?_
      refine K.move (.inl rfl) (gd0 rfl) rfl rfl ?_
      refine K.loadS Y [_, _] (gd0 rfl) rfl rfl t99 rfl rfl rfl ?_
      refine K.callR [(.func 62, _), ((.tmp 34), _), ((.tmp 35), _)] (Tree_getE_con (k := k) hx3 0 1) (toFn_func (cf 62 rfl) rfl) (gd0 rfl) ⟨rfl, rfl, rfl, trivial⟩ ⟨rfl, rfl, trivial⟩ rfl rfl rfl ?_
      refine K.alloc Y 104 [_, _, _, _, _, _, _, _, _, _] (gd0 rfl) t104 rfl rfl rfl rfl rfl ?_
      refine K.store Y [_, _, _, _, _, _, _, _, _, _] (gd0 rfl) rfl rfl rfl t104 rfl rfl rfl rfl rfl ?_
      refine K.nil ?_
      refine At.next ?_
      refine G.seq ?_
      obtain ⟨x4, hx4, H0⟩ := bnd H0
      refine G.rg ?_
      refine K.loadS Y [_, _] (gd0 rfl) rfl rfl t35 rfl rfl rfl ?_
      refine K.mkIface Y (gd0 rfl) rfl (mkI Try.underlying35 rfl) rfl ?_
      refine K.fieldAddr Y (gd0 rfl) rfl t104 rfl rfl ?_
      refine K.loadS Y [_, _] (gd0 rfl) rfl rfl t35 rfl rfl rfl ?_
      refine K.callR [((.tmp 38), _), ((.tmp 40), _)] (Lw07_elem_Compare_con (k := k) hx4) (toFn_invoke (cf 131 rfl) (me35_131) rfl) (gd0 rfl) ⟨rfl, rfl, trivial⟩ trivial rfl rfl rfl ?_
      refine K.move (.inr rfl) (gd0 rfl) rfl rfl ?_
      refine K.nil ?_
      refine At.next ?_
      refine G.seq ?_
      refine G.block ?_
      refine G.seq ?_
      refine G.rg ?_
      refine K.move (.inl rfl) (gd0 rfl) rfl rfl ?_
      refine K.bin (V := .bool (decide (x4 < 0))) (gd0 rfl) rfl rfl (fun _ => rfl) rfl ?_
      refine K.move (.inr rfl) (gd0 rfl) rfl rfl ?_
      refine K.nil ?_
      refine At.next ?_
      refine G.cond rfl (fun h2 => ?_) (fun h2 => ?_)
      ·
        replace H0 := bif_t H0 h2
        refine G.seq ?_
        obtain ⟨x5, hx5, H0⟩ := bnd H0
        refine G.rg ?_
        refine K.move (.inl rfl) (gd0 rfl) rfl rfl ?_
        refine K.fieldAddr Y (gd0 rfl) rfl t104 rfl rfl ?_
        refine K.loadS Y [_, _] (gd0 rfl) rfl rfl t99 rfl rfl rfl ?_
        refine K.loadS Y [_, _] (gd0 rfl) rfl rfl t35 rfl rfl rfl ?_
        refine K.call0 [(.func 65, _), ((.tmp 46), _), ((.tmp 48), _), ((.tmp 49), _)] (ih hx5) (toFn_func (cf 65 rfl) rfl) (gd0 rfl) ⟨rfl, rfl, rfl, rfl, trivial⟩ ⟨rfl, rfl, trivial⟩ rfl rfl rfl rfl rfl rfl ?_
        refine K.move (.inl rfl) (gd0 rfl) rfl rfl ?_
        refine K.extract (gd0 rfl) rfl rfl rfl ?_
        refine K.extract (gd0 rfl) rfl rfl rfl ?_
        refine K.alloc Y 105 [_, _] (gd0 rfl) t99 rfl rfl rfl rfl rfl ?_
        refine K.store Y [_, _] (gd0 rfl) rfl rfl rfl t99 rfl rfl rfl rfl rfl ?_
        refine K.move (.inr rfl) (gd0 rfl) rfl rfl ?_
        refine K.nil ?_
        refine At.next ?_
        refine G.seq ?_
        refine G.seq ?_
        refine G.rg ?_
        refine K.move (.inl rfl) (gd0 rfl) rfl rfl ?_
        refine K.un (V := .bool (!x5.2.1)) (gd0 rfl) rfl (fun _ => rfl) rfl ?_
        refine K.nil ?_
        refine At.next ?_
        refine G.cond rfl (fun h3 => ?_) (fun h3 => ?_)
        ·
          replace H0 := bif_t H0 h3
          refine G.seq ?_
          refine G.rg ?_
          refine K.loadS Y [_, _] (gd0 rfl) rfl rfl t99 rfl rfl rfl ?_
          refine K.store Y [_, _] (gd0 rfl) rfl rfl rfl t99 rfl rfl rfl rfl rfl ?_
          refine K.move (.inr rfl) (gd0 rfl) rfl rfl ?_
          refine K.nil ?_
          refine At.next ?_
          refine G.ret ?_
          refine At.over_ret ?_
          refine At.block_ret ?_
          refine At.over_ret ?_
          refine At.done Y [(.cell 6 99, .agg [_, _]), (.tmp 7, .c _)] rfl ⟨.st rfl rfl t99 rfl rfl, .tmp rfl, trivial⟩ (to' := [(0, _), (1, _)]) ⟨rfl, rfl, trivial⟩ ?_ ?_ rfl rfl rfl (.inl rfl)
          · cases H0; rfl
          · cases H0; rfl
        ·
          replace H0 := bif_f H0 h3
          refine G.skip ?_
          refine At.next ?_
          refine G.seq ?_
          obtain ⟨x6, hx6, H0⟩ := bnd H0
          refine G.rg ?_
          refine K.move (.inl rfl) (gd0 rfl) rfl rfl ?_
          refine K.loadS Y [_, _] (gd0 rfl) rfl rfl t99 rfl rfl rfl ?_
          refine K.loadS Y [_, _] (gd0 rfl) rfl rfl t99 rfl rfl rfl ?_
          refine K.fieldAddr Y (gd0 rfl) rfl t104 rfl rfl ?_
          refine K.loadS Y [_, _] (gd0 rfl) rfl rfl t99 rfl rfl rfl ?_
          refine K.call0 [(.func 84, _), ((.tmp 56), _), ((.tmp 57), _), ((.tmp 58), _), ((.tmp 60), _)] (Tree_linkE_con (k := k) hx6 0 1) (toFn_func (cf 84 rfl) rfl) (gd0 rfl) ⟨rfl, rfl, rfl, rfl, rfl, trivial⟩ ⟨rfl, rfl, trivial⟩ rfl rfl rfl rfl rfl rfl ?_
          refine K.store Y [_, _] (gd0 rfl) rfl rfl rfl t99 rfl rfl rfl rfl rfl ?_
          refine K.move (.inr rfl) (gd0 rfl) rfl rfl ?_
          refine K.nil ?_
          refine At.next ?_
          refine G.ret ?_
          refine At.block_ret ?_
          refine At.over_ret ?_
          refine At.done Y [(.cell 6 99, .agg [_, _]), (.tmp 7, .c _)] rfl ⟨.st rfl rfl t99 rfl rfl, .tmp rfl, trivial⟩ (to' := [(0, _), (1, _)]) ⟨rfl, rfl, trivial⟩ ?_ ?_ rfl rfl rfl (.inl rfl)
          · cases H0; rfl
          · cases H0; rfl
      ·
        replace H0 := bif_f H0 h2
        refine G.seq ?_
        refine G.rg ?_
        refine K.move (.inl rfl) (gd0 rfl) rfl rfl ?_
        refine K.bin (V := .bool (decide (x4 > 0))) (gd0 rfl) rfl rfl (fun _ => rfl) rfl ?_
        refine K.move (.inr rfl) (gd0 rfl) rfl rfl ?_
        refine K.nil ?_
        refine At.next ?_
        refine G.cond rfl (fun h4 => ?_) (fun h4 => ?_)
        ·
          replace H0 := bif_t H0 h4
          refine G.seq ?_
          obtain ⟨x7, hx7, H0⟩ := bnd H0
          refine G.rg ?_
          refine K.move (.inl rfl) (gd0 rfl) rfl rfl ?_
          refine K.fieldAddr Y (gd0 rfl) rfl t104 rfl rfl ?_
          refine K.loadS Y [_, _] (gd0 rfl) rfl rfl t99 rfl rfl rfl ?_
          refine K.loadS Y [_, _] (gd0 rfl) rfl rfl t35 rfl rfl rfl ?_
          refine K.call0 [(.func 65, _), ((.tmp 66), _), ((.tmp 68), _), ((.tmp 69), _)] (ih hx7) (toFn_func (cf 65 rfl) rfl) (gd0 rfl) ⟨rfl, rfl, rfl, rfl, trivial⟩ ⟨rfl, rfl, trivial⟩ rfl rfl rfl rfl rfl rfl ?_
          refine K.move (.inl rfl) (gd0 rfl) rfl rfl ?_
          refine K.extract (gd0 rfl) rfl rfl rfl ?_
          refine K.extract (gd0 rfl) rfl rfl rfl ?_
          refine K.alloc Y 106 [_, _] (gd0 rfl) t99 rfl rfl rfl rfl rfl ?_
          refine K.store Y [_, _] (gd0 rfl) rfl rfl rfl t99 rfl rfl rfl rfl rfl ?_
          refine K.move (.inr rfl) (gd0 rfl) rfl rfl ?_
          refine K.nil ?_
          refine At.next ?_
          refine G.seq ?_
          refine G.seq ?_
          refine G.rg ?_
          refine K.move (.inl rfl) (gd0 rfl) rfl rfl ?_
          refine K.un (V := .bool (!x7.2.1)) (gd0 rfl) rfl (fun _ => rfl) rfl ?_
          refine K.nil ?_
          refine At.next ?_
          refine G.cond rfl (fun h5 => ?_) (fun h5 => ?_)
          ·
            replace H0 := bif_t H0 h5
            refine G.seq ?_
            refine G.rg ?_
            refine K.loadS Y [_, _] (gd0 rfl) rfl rfl t99 rfl rfl rfl ?_
            refine K.store Y [_, _] (gd0 rfl) rfl rfl rfl t99 rfl rfl rfl rfl rfl ?_
            refine K.move (.inr rfl) (gd0 rfl) rfl rfl ?_
            refine K.nil ?_
            refine At.next ?_
            refine G.ret ?_
            refine At.over_ret ?_
            refine At.block_ret ?_
            refine At.over_ret ?_
            refine At.done Y [(.cell 6 99, .agg [_, _]), (.tmp 7, .c _)] rfl ⟨.st rfl rfl t99 rfl rfl, .tmp rfl, trivial⟩ (to' := [(0, _), (1, _)]) ⟨rfl, rfl, trivial⟩ ?_ ?_ rfl rfl rfl (.inl rfl)
            · cases H0; rfl
            · cases H0; rfl
          ·
            replace H0 := bif_f H0 h5
            refine G.skip ?_
            refine At.next ?_
            refine G.seq ?_
            obtain ⟨x8, hx8, H0⟩ := bnd H0
            refine G.rg ?_
            refine K.move (.inl rfl) (gd0 rfl) rfl rfl ?_
            refine K.fieldAddr Y (gd0 rfl) rfl t104 rfl rfl ?_
            refine K.loadS Y [_, _] (gd0 rfl) rfl rfl t99 rfl rfl rfl ?_
            refine K.loadS Y [_, _] (gd0 rfl) rfl rfl t99 rfl rfl rfl ?_
            refine K.loadS Y [_, _] (gd0 rfl) rfl rfl t99 rfl rfl rfl ?_
            refine K.call0 [(.func 84, _), ((.tmp 76), _), ((.tmp 78), _), ((.tmp 79), _), ((.tmp 80), _)] (Tree_linkE_con (k := k) hx8 0 1) (toFn_func (cf 84 rfl) rfl) (gd0 rfl) ⟨rfl, rfl, rfl, rfl, rfl, trivial⟩ ⟨rfl, rfl, trivial⟩ rfl rfl rfl rfl rfl rfl ?_
            refine K.store Y [_, _] (gd0 rfl) rfl rfl rfl t99 rfl rfl rfl rfl rfl ?_
            refine K.move (.inr rfl) (gd0 rfl) rfl rfl ?_
            refine K.nil ?_
            refine At.next ?_
            refine G.ret ?_
            refine At.block_ret ?_
            refine At.over_ret ?_
            refine At.done Y [(.cell 6 99, .agg [_, _]), (.tmp 7, .c _)] rfl ⟨.st rfl rfl t99 rfl rfl, .tmp rfl, trivial⟩ (to' := [(0, _), (1, _)]) ⟨rfl, rfl, trivial⟩ ?_ ?_ rfl rfl rfl (.inl rfl)
            · cases H0; rfl
            · cases H0; rfl
        ·
          replace H0 := bif_f H0 h4
          refine G.skip ?_
          refine At.block_normal ?_
          refine At.next ?_
          refine G.seq ?_
          refine G.rg ?_
          refine K.loadS Y [_, _] (gd0 rfl) rfl rfl t35 rfl rfl rfl ?_
          refine K.fieldAddr Y (gd0 rfl) rfl t104 rfl rfl ?_
          refine K.store Y [_, _, _, _, _, _, _, _, _, _] (gd0 rfl) rfl rfl rfl t35 rfl rfl rfl rfl rfl ?_
          refine K.nil ?_
          refine At.next ?_
          refine G.seq ?_
          obtain ⟨x9, hx9, H0⟩ := bnd H0
          refine G.rd mixed ?_
          refine K.move (.inl rfl) (gd0 rfl) rfl rfl ?_
          refine K.nilCheck (gd0 rfl) rfl rfl ?_
          refine K.fieldAddr Y (gd0 rfl) rfl t101 rfl rfl ?_
          refine K.load1 Y (gd0 rfl) rfl rfl t97 rfl rfl ?_
          refine K.loadS Y [_, _] (gd0 rfl) rfl rfl t99 rfl rfl rfl ?_
          refine K.loadS Y [_, _, _, _, _, _, _, _, _, _] (gd0 rfl) rfl rfl t104 rfl rfl rfl ?_
          refine K.call0 [(.func 87, _), ((.tmp 87), _), ((.tmp 88), _), ((.tmp 89), _)] (plsetE hx9 1) (toFn_func (cf 87 rfl) rfl) (gd0 rfl) ⟨rfl, rfl, rfl, rfl, trivial⟩ ⟨rfl, trivial⟩ rfl rfl rfl rfl rfl rfl ?_
          refine K.nil ?_
          refine ⟨by kernel_rfl, ?_⟩
          refine At.next ?_
          refine G.seq ?_
          obtain ⟨x10, hx10, H0⟩ := bnd H0
          refine G.rg ?_
          refine K.move (.inl rfl) (gd0 rfl) rfl rfl ?_
          refine K.loadS Y [_, _] (gd0 rfl) rfl rfl t99 rfl rfl rfl ?_
          refine K.fieldAddr Y (gd0 rfl) rfl t104 rfl rfl ?_
          refine K.loadS Y [_, _] (gd0 rfl) rfl rfl t99 rfl rfl rfl ?_
          refine K.fieldAddr Y (gd0 rfl) rfl t104 rfl rfl ?_
          refine K.loadS Y [_, _] (gd0 rfl) rfl rfl t99 rfl rfl rfl ?_
          refine K.call0 [(.func 88, _), ((.tmp 91), _), ((.tmp 92), _), ((.tmp 94), _), ((.tmp 96), _)] (Tree_layE_con (k := k) hx10 0 1) (toFn_func (cf 88 rfl) rfl) (gd0 rfl) ⟨rfl, rfl, rfl, rfl, rfl, trivial⟩ ⟨rfl, rfl, trivial⟩ rfl rfl rfl rfl rfl rfl ?_
          refine K.store Y [_, _] (gd0 rfl) rfl rfl rfl t99 rfl rfl rfl rfl rfl ?_
          refine K.move (.inr rfl) (gd0 rfl) rfl rfl ?_
          refine K.nil ?_
          refine At.next ?_
          refine G.ret ?_
          refine At.done Y [(.cell 6 99, .agg [_, _]), (.tmp 7, .c _)] rfl ⟨.st rfl rfl t99 rfl rfl, .tmp rfl, trivial⟩ (to' := [(0, _), (1, _)]) ⟨rfl, rfl, trivial⟩ ?_ ?_ rfl rfl rfl (.inl rfl)
          · cases H0; rfl
          · cases H0; rfl
theorem Tree_putE_con {k n : Nat}  {p1 : Pool (TNode TL07Elem TTide)} {a1 : TRef} {a2 : TL07Elem} {ri0 rg0 : Int} {r : TRef × Bool × Pool (TNode TL07Elem TTide)}  (H0 : Tree_put.r opsE k n p1 a1 a2 = some r) (m0 m1 : Nat) : SCon Try.prog 65 [SV.p m0 0, .a (.agg ((eTRef a1).map .v)), .a (.agg ((eTL07Elem a2).map .v))] [(m0, blk m0 [.p m1 0, .i ri0, .i rg0] 101), (m1, plE m1 p1)] (.tup [.agg ((eTRef r.1).map .v), .c (.v (.bool r.2.1))]) [(m0, blk m0 [.p m1 0, .i ri0, .i rg0] 101), (m1, plE m1 r.2.2)] [] :=
  SCon.ren (rn [(0, m0), (1, m1)]) (Tree_putE_con0 (k := k)   H0) ⟨(blk_ren rfl rfl), (pl_ren rfl), trivial⟩ ⟨(blk_ren rfl rfl), (pl_ren rfl), trivial⟩ (by simp) (by simp)
theorem Tree_PutE_con0 {k : Nat}  {p1 : Pool (TNode TL07Elem TTide)} {rt0 : TRef} {a1 : TL07Elem} {r : Bool × TRef × Pool (TNode TL07Elem TTide)}  (H0 : Tree_Put.f opsE k p1 rt0 a1 = some r) : SCon Try.prog 23 [SV.p 0 0, .a (.agg ((eTL07Elem a1).map .v))] [(0, blk 0 [.p 1 0, .i rt0.index, .i rt0.gen] 101), (1, plE 1 p1)] (.a (.c (.v (.bool r.1)))) [(0, blk 0 [.p 1 0, .i r.2.1.index, .i r.2.1.gen] 101), (1, plE 1 r.2.2)] [] := by
  rw [Tree_Put.f] at H0
  refine spec_of [(0, _), (1, _)] [(0, _), (1, _)] 23 Try.func23 rfl Try.ntmps23 rfl rfl rfl rfl (fun β W F => ?_)
  refine G.seq ?_
  refine G.rg ?_
  refine K.box Y 100 [_, _] (gd0 rfl) rfl rfl rfl rfl rfl rfl ?_
  refine K.move (.inr rfl) (gd0 rfl) rfl rfl ?_
  refine K.nil ?_
  refine At.next ?_
  refine G.seq ?_
  obtain ⟨x1, hx1, H0⟩ := bnd H0
  refine G.rd mixed ?_
  refine K.move (.inl rfl) (gd0 rfl) rfl rfl ?_
  refine K.move (.inl rfl) (gd0 rfl) rfl rfl ?_
  refine K.nilCheck (gd0 rfl) rfl rfl ?_
  refine K.fieldAddr Y (gd0 rfl) rfl t101 rfl rfl ?_
  refine K.loadS Y [_, _] (gd0 rfl) rfl rfl t99 rfl rfl rfl ?_
  refine K.loadS Y [_, _] (gd0 rfl) rfl rfl t35 rfl rfl rfl ?_
  refine K.call0 [(.func 65, _), ((.tmp 8), _), ((.tmp 12), _), ((.tmp 13), _)] (Tree_putE_con (k := k) hx1 0 1) (toFn_func (cf 65 rfl) rfl) (gd0 rfl) ⟨rfl, rfl, rfl, rfl, trivial⟩ ⟨rfl, rfl, trivial⟩ rfl rfl rfl rfl rfl rfl ?_
  refine K.move (.inl rfl) (gd0 rfl) rfl rfl ?_
  refine K.extract (gd0 rfl) rfl rfl rfl ?_
  refine K.extract (gd0 rfl) rfl rfl rfl ?_
  refine K.alloc Y 101 [_, _] (gd0 rfl) t99 rfl rfl rfl rfl rfl ?_
  refine K.store Y [_, _] (gd0 rfl) rfl rfl rfl t99 rfl rfl rfl rfl rfl ?_
  refine K.move (.inr rfl) (gd0 rfl) rfl rfl ?_
  refine K.nil ?_
  refine ⟨by kernel_rfl, ?_⟩
  refine At.next ?_
  refine G.seq ?_
  refine G.seq ?_
  refine G.rg ?_
  refine K.move (.inl rfl) (gd0 rfl) rfl rfl ?_
  refine K.nil ?_
  refine At.next ?_
  refine G.cond rfl (fun h1 => ?_) (fun h1 => ?_)
  ·
    replace H0 := bif_t H0 h1
    refine G.rg ?_
    refine K.move (.inl rfl) (gd0 rfl) rfl rfl ?_
    refine K.loadS Y [_, _] (gd0 rfl) rfl rfl t99 rfl rfl rfl ?_
    refine K.nilCheck (gd0 rfl) rfl rfl ?_
    refine K.fieldAddr Y (gd0 rfl) rfl t101 rfl rfl ?_
    refine K.store Y [_, _, _] (gd0 rfl) rfl rfl rfl t99 rfl rfl rfl rfl rfl ?_
    refine K.nil ?_
    refine At.next ?_
    refine G.seq ?_
    refine G.rg ?_
    refine K.move (.inl rfl) (gd0 rfl) rfl rfl ?_
    refine K.move (.inr rfl) (gd0 rfl) rfl rfl ?_
    refine K.nil ?_
    refine At.next ?_
    refine G.ret ?_
    refine At.done Y [(.tmp 4, .c _)] rfl ⟨.tmp rfl, trivial⟩ (to' := [(0, _), (1, _)]) ⟨rfl, rfl, trivial⟩ ?_ ?_ rfl rfl rfl (.inl rfl)
    · cases H0; rfl
    · cases H0; rfl
  ·
    replace H0 := bif_f H0 h1
    refine G.skip ?_
    refine At.next ?_
    refine G.seq ?_
    refine G.rg ?_
    refine K.move (.inl rfl) (gd0 rfl) rfl rfl ?_
    refine K.move (.inr rfl) (gd0 rfl) rfl rfl ?_
    refine K.nil ?_
    refine At.next ?_
    refine G.ret ?_
    refine At.done Y [(.tmp 4, .c _)] rfl ⟨.tmp rfl, trivial⟩ (to' := [(0, _), (1, _)]) ⟨rfl, rfl, trivial⟩ ?_ ?_ rfl rfl rfl (.inl rfl)
    · cases H0; rfl
    · cases H0; rfl
theorem Tree_PutE_con {k : Nat}  {p1 : Pool (TNode TL07Elem TTide)} {rt0 : TRef} {a1 : TL07Elem} {r : Bool × TRef × Pool (TNode TL07Elem TTide)}  (H0 : Tree_Put.f opsE k p1 rt0 a1 = some r) (m0 m1 : Nat) : SCon Try.prog 23 [SV.p m0 0, .a (.agg ((eTL07Elem a1).map .v))] [(m0, blk m0 [.p m1 0, .i rt0.index, .i rt0.gen] 101), (m1, plE m1 p1)] (.a (.c (.v (.bool r.1)))) [(m0, blk m0 [.p m1 0, .i r.2.1.index, .i r.2.1.gen] 101), (m1, plE m1 r.2.2)] [] :=
  SCon.ren (rn [(0, m0), (1, m1)]) (Tree_PutE_con0 (k := k)   H0) ⟨(blk_ren rfl rfl), (pl_ren rfl), trivial⟩ ⟨(blk_ren rfl rfl), (pl_ren rfl), trivial⟩ (by simp) (by simp)
theorem Tree_LenE_con0 {k : Nat}  {p1 : Pool (TNode TL07Elem TTide)} {rt0 : TRef} {r : Int}  (H0 : Tree_Len.f opsE k p1 rt0 = some r) : SCon Try.prog 20 [SV.p 0 0] [(0, blk 0 [.p 1 0, .i rt0.index, .i rt0.gen] 101), (1, plE 1 p1)] (.a (.c (.v (.int .i64 r)))) [(0, blk 0 [.p 1 0, .i rt0.index, .i rt0.gen] 101), (1, plE 1 p1)] [] := by
  rw [Tree_Len.f] at H0
  refine spec_of [(0, _)] [(0, _), (1, _)] 10 Try.func20 rfl Try.ntmps20 rfl rfl rfl rfl (fun β W F => ?_)
  refine G.seq ?_
  refine G.rg ?_
  refine K.move (.inr rfl) (gd0 rfl) rfl rfl ?_
  refine K.nil ?_
  refine At.next ?_
  refine G.seq ?_
  obtain ⟨x1, hx1, H0⟩ := bnd H0
  refine G.rg ?_
  refine K.move (.inl rfl) (gd0 rfl) rfl rfl ?_
  refine K.move (.inl rfl) (gd0 rfl) rfl rfl ?_
  refine K.nilCheck (gd0 rfl) rfl rfl ?_
  refine K.fieldAddr Y (gd0 rfl) rfl t101 rfl rfl ?_
  refine K.loadS Y [_, _] (gd0 rfl) rfl rfl t99 rfl rfl rfl ?_
  refine K.callR [(.func 62, _), ((.tmp 3), _), ((.tmp 7), _)] (Tree_getE_con (k := k) hx1 0 1) (toFn_func (cf 62 rfl) rfl) (gd0 rfl) ⟨rfl, rfl, rfl, trivial⟩ ⟨rfl, rfl, trivial⟩ rfl rfl rfl ?_
  refine K.field1 Y (gd0 rfl) rfl t104 rfl t3 rfl rfl ?_
  refine K.move (.inr rfl) (gd0 rfl) rfl rfl ?_
  refine K.nil ?_
  refine At.next ?_
  refine G.ret ?_
  refine At.done Y [(.tmp 2, .c _)] rfl ⟨.tmp rfl, trivial⟩ (to' := [(0, _), (1, _)]) ⟨rfl, rfl, trivial⟩ ?_ ?_ rfl rfl rfl (.inl rfl)
  · cases H0; rfl
  · cases H0; rfl
theorem Tree_LenE_con {k : Nat}  {p1 : Pool (TNode TL07Elem TTide)} {rt0 : TRef} {r : Int}  (H0 : Tree_Len.f opsE k p1 rt0 = some r) (m0 m1 : Nat) : SCon Try.prog 20 [SV.p m0 0] [(m0, blk m0 [.p m1 0, .i rt0.index, .i rt0.gen] 101), (m1, plE m1 p1)] (.a (.c (.v (.int .i64 r)))) [(m0, blk m0 [.p m1 0, .i rt0.index, .i rt0.gen] 101), (m1, plE m1 p1)] [] :=
  SCon.ren (rn [(0, m0), (1, m1)]) (Tree_LenE_con0 (k := k)   H0) ⟨(blk_ren rfl rfl), (pl_ren rfl), trivial⟩ ⟨(blk_ren rfl rfl), (pl_ren rfl), trivial⟩ (by simp) (by simp)
theorem Tree_firstE_con0 {k : Nat} {g4 : FuncId} {fn4 : TTide → TTide → Option Bool} (cg4 : fnB Try.prog g4 = true) (hm4 : ∀ {z0 : TTide} {z1 : TTide} {y : Bool}, fn4 z0 z1 = some y → SCon Try.prog g4 [.a (.agg ((eTTide z0).map .v)), .a (.agg ((eTTide z1).map .v))] [] (SV.b y) [] []) : ∀ {n : Nat} {p1 : Pool (TNode TL07Elem TTide)} {a1 : TRef} {a2 : Int} {a3 : TTide} {ri0 rg0 : Int} {r : Int × TTide}  (H0 : Tree_first.r opsE k n p1 a1 a2 a3 fn4 = some r), SCon Try.prog 68 [SV.p 0 0, .a (.agg ((eTRef a1).map .v)), .a (.c (.v (.int .i64 a2))), .a (.agg ((eTTide a3).map .v)), SV.raw (.func (.func g4) #[] #[])] [(0, blk 0 [.p 1 0, .i ri0, .i rg0] 101), (1, plE 1 p1)] (.tup [.c (.v (.int .i64 r.1)), .agg ((eTTide r.2).map .v)]) [(0, blk 0 [.p 1 0, .i ri0, .i rg0] 101), (1, plE 1 p1)] [] := by
  intro n
  induction n with
  | zero => intro p1 a1 a2 a3 ri0 rg0 r H0; exact absurd H0 (by simp [Tree_first.r])
  | succ n ih =>
    intro p1 a1 a2 a3 ri0 rg0 r H0
    rw [Tree_first.r] at H0
    refine spec_of [(0, _), (1, _), (2, _), (3, _), (4, _)] [(0, _), (1, _)] 103 Try.func68 rfl Try.ntmps68 rfl rfl rfl rfl (fun β W F => ?_)
    refine G.seq ?_
    refine G.rg ?_
    refine K.box Y 100 [_, _] (gd0 rfl) rfl rfl rfl rfl rfl rfl ?_
    refine K.box Y 101 [_, _, _] (gd0 rfl) rfl rfl rfl rfl rfl rfl ?_
    refine K.move (.inr rfl) (gd0 rfl) rfl rfl ?_
    refine K.alloc Y 102 [_, _, _] (gd0 rfl) t32 rfl rfl rfl rfl rfl ?_
    refine K.nil ?_
    refine At.next ?_
    refine G.seq ?_
    obtain ⟨x1, hx1, H0⟩ := bnd H0
    refine G.rg ?_
    refine K.move (.inl rfl) (gd0 rfl) rfl rfl ?_
    refine K.loadS Y [_, _] (gd0 rfl) rfl rfl t99 rfl rfl rfl ?_
    refine K.callR [(.func 62, _), ((.tmp 16), _), ((.tmp 17), _)] (Tree_getE_con (k := k) hx1 0 1) (toFn_func (cf 62 rfl) rfl) (gd0 rfl) ⟨rfl, rfl, rfl, trivial⟩ ⟨rfl, rfl, trivial⟩ rfl rfl rfl ?_
    refine K.alloc Y 103 [_, _, _, _, _, _, _, _, _, _] (gd0 rfl) t104 rfl rfl rfl rfl rfl ?_
    refine K.store Y [_, _, _, _, _, _, _, _, _, _] (gd0 rfl) rfl rfl rfl t104 rfl rfl rfl rfl rfl ?_
    refine K.nil ?_
    refine At.next ?_
    obtain ⟨x2, H1, H0⟩ := bnd H0
    refine G.seqJ (σ := { v : Unit // x2 = Sum.inr v }) (fun q => [(0, .a (.c (.p 0 0))), (2, .a (.c (.v (.int .i64 a2)))), (4, .a (.c (.v (.func (.func g4) #[] #[])))), (8, .a (.c (.p 104 0))), (11, .a (.c (.p 105 0))), (12, .a (.c (.p 106 0)))]) (fun q => [(1, plE 1 p1), (0, blk 0 [.p 1 0, .v (.int .i64 ri0), .v (.int .i64 rg0)] 101), (104, blk 104 [.v (.int .i64 a3.n), .v (.int .i64 a3.sum), .v (.int .i64 a3.low)] 32), (105, blk 105 [.v (.int .i64 0), .v (.int .i64 0), .v (.int .i64 0)] 32), (106, blk 106 [.v (.int .i64 x1.e.k), .v (.int .i64 x1.e.w), .v (.int .i64 x1.left.index), .v (.int .i64 x1.left.gen), .v (.int .i64 x1.right.index), .v (.int .i64 x1.right.gen), .v (.int .i64 x1.size), .v (.int .i64 x1.sum.n), .v (.int .i64 x1.sum.sum), .v (.int .i64 x1.sum.low)] 104)]) ?_ ?_
    ·
      refine G.seq ?_
      rcases Bool.eq_false_or_eq_true (x1.size == 0) with h1 | h1
      ·
        replace H1 := bif_t H1 h1
        refine G.rg ?_
        refine K.fieldAddr Y (gd0 rfl) rfl t104 rfl rfl ?_
        refine K.load1 Y (gd0 rfl) rfl rfl t3 rfl rfl ?_
        refine K.bin (V := .bool (x1.size == 0)) (gd0 rfl) rfl rfl (fun _ => rfl) rfl ?_
        refine K.move (.inl rfl) (gd0 rfl) rfl rfl ?_
        refine K.skip rfl rfl rfl rfl (h1) rfl ?_
        refine K.skip rfl rfl rfl rfl (h1) rfl ?_
        refine K.skip rfl rfl rfl rfl (h1) rfl ?_
        refine K.skip rfl rfl rfl rfl (h1) rfl ?_
        refine K.pickT (gd0 rfl) rfl (h1) rfl rfl ?_
        refine K.move (.inl rfl) (gd0 rfl) rfl rfl ?_
        refine K.skip rfl rfl rfl rfl (rfl) rfl ?_
        refine K.skip rfl rfl rfl rfl (rfl) rfl ?_
        refine K.skip rfl rfl rfl rfl (rfl) rfl ?_
        refine K.skipU rfl rfl rfl rfl rfl ?_
        refine K.skipU rfl rfl rfl rfl rfl ?_
        refine K.skipU rfl rfl rfl rfl rfl ?_
        refine K.skipU rfl rfl rfl rfl rfl ?_
        refine K.skipU rfl rfl rfl rfl rfl ?_
        refine K.skipU rfl rfl rfl rfl rfl ?_
        refine K.skip rfl rfl rfl rfl (rfl) rfl ?_
        refine K.pickT (gd0 rfl) rfl (rfl) rfl rfl ?_
        refine K.nil ?_
        refine At.next ?_
        refine G.cond rfl (fun h2 => ?_) (fun h2 => ?_)
        ·
          refine G.seq ?_
          obtain ⟨x3, hx3, H1⟩ := bnd H1
          refine G.rg ?_
          refine K.loadS Y [_, _, _] (gd0 rfl) rfl rfl t32 rfl rfl rfl ?_
          refine K.mkIface Y (gd0 rfl) rfl (mkI Try.underlying32 rfl) rfl ?_
          refine K.fieldAddr Y (gd0 rfl) rfl t104 rfl rfl ?_
          refine K.loadS Y [_, _, _] (gd0 rfl) rfl rfl t32 rfl rfl rfl ?_
          refine K.callR [((.tmp 41), _), ((.tmp 43), _)] (tide_Tide_Plus_con (k := k) hx3) (toFn_invoke (cf 130 rfl) (me32_130) rfl) (gd0 rfl) ⟨rfl, rfl, trivial⟩ trivial rfl rfl rfl ?_
          refine K.move (.inr rfl) (gd0 rfl) rfl rfl ?_
          refine K.store Y [_, _, _] (gd0 rfl) rfl rfl rfl t32 rfl rfl rfl rfl rfl ?_
          refine K.nil ?_
          refine At.next ?_
          refine G.ret ?_
          refine At.over_ret ?_
          cases H1
          replace H0 := sum_l H0
          refine At.done Y [(.tmp 10, .c _), (.cell 11 32, .agg [_, _, _])] rfl ⟨.tmp rfl, .st rfl rfl t32 rfl rfl, trivial⟩ (to' := [(0, _), (1, _)]) ⟨rfl, rfl, trivial⟩ ?_ ?_ rfl rfl rfl (.inl rfl)
          · cases H0; rfl
          · cases H0; rfl
        · cases h2
      ·
        replace H1 := bif_f H1 h1
        rcases Bool.eq_false_or_eq_true (decide (a2 ≥ x1.size)) with h3 | h3
        ·
          replace H1 := bif_t H1 h3
          refine G.rg ?_
          refine K.fieldAddr Y (gd0 rfl) rfl t104 rfl rfl ?_
          refine K.load1 Y (gd0 rfl) rfl rfl t3 rfl rfl ?_
          refine K.bin (V := .bool (x1.size == 0)) (gd0 rfl) rfl rfl (fun _ => rfl) rfl ?_
          refine K.move (.inl rfl) (gd0 rfl) rfl rfl ?_
          refine K.move (.inl rfl) (gd1 rfl rfl rfl (h1)) rfl rfl ?_
          refine K.fieldAddr Y (gd1 rfl rfl rfl (h1)) rfl t104 rfl rfl ?_
          refine K.load1 Y (gd1 rfl rfl rfl (h1)) rfl rfl t3 rfl rfl ?_
          refine K.bin (V := .bool (decide (a2 ≥ x1.size))) (gd1 rfl rfl rfl (h1)) rfl rfl (fun _ => rfl) rfl ?_
          refine K.pickF (gd0 rfl) rfl (h1) rfl rfl ?_
          refine K.move (.inl rfl) (gd0 rfl) rfl rfl ?_
          refine K.skip rfl rfl rfl rfl (h3) rfl ?_
          refine K.skip rfl rfl rfl rfl (h3) rfl ?_
          refine K.skip rfl rfl rfl rfl (h3) rfl ?_
          refine K.skipU rfl rfl rfl rfl rfl ?_
          refine K.skipU rfl rfl rfl rfl rfl ?_
          refine K.skipU rfl rfl rfl rfl rfl ?_
          refine K.skipU rfl rfl rfl rfl rfl ?_
          refine K.skipU rfl rfl rfl rfl rfl ?_
          refine K.skipU rfl rfl rfl rfl rfl ?_
          refine K.skip rfl rfl rfl rfl (h3) rfl ?_
          refine K.pickT (gd0 rfl) rfl (h3) rfl rfl ?_
          refine K.nil ?_
          refine At.next ?_
          refine G.cond rfl (fun h4 => ?_) (fun h4 => ?_)
          ·
            refine G.seq ?_
            obtain ⟨x4, hx4, H1⟩ := bnd H1
            refine G.rg ?_
            refine K.loadS Y [_, _, _] (gd0 rfl) rfl rfl t32 rfl rfl rfl ?_
            refine K.mkIface Y (gd0 rfl) rfl (mkI Try.underlying32 rfl) rfl ?_
            refine K.fieldAddr Y (gd0 rfl) rfl t104 rfl rfl ?_
            refine K.loadS Y [_, _, _] (gd0 rfl) rfl rfl t32 rfl rfl rfl ?_
            refine K.callR [((.tmp 41), _), ((.tmp 43), _)] (tide_Tide_Plus_con (k := k) hx4) (toFn_invoke (cf 130 rfl) (me32_130) rfl) (gd0 rfl) ⟨rfl, rfl, trivial⟩ trivial rfl rfl rfl ?_
            refine K.move (.inr rfl) (gd0 rfl) rfl rfl ?_
            refine K.store Y [_, _, _] (gd0 rfl) rfl rfl rfl t32 rfl rfl rfl rfl rfl ?_
            refine K.nil ?_
            refine At.next ?_
            refine G.ret ?_
            refine At.over_ret ?_
            cases H1
            replace H0 := sum_l H0
            refine At.done Y [(.tmp 10, .c _), (.cell 11 32, .agg [_, _, _])] rfl ⟨.tmp rfl, .st rfl rfl t32 rfl rfl, trivial⟩ (to' := [(0, _), (1, _)]) ⟨rfl, rfl, trivial⟩ ?_ ?_ rfl rfl rfl (.inl rfl)
            · cases H0; rfl
            · cases H0; rfl
          · cases h4
        ·
          replace H1 := bif_f H1 h3
          rcases Bool.eq_false_or_eq_true (decide (a2 ≤ 0)) with h5 | h5
          ·
            replace H1 := bif_t H1 h5
            obtain ⟨x5, hx5, H1⟩ := bnd H1
            refine G.rg ?_
            refine K.fieldAddr Y (gd0 rfl) rfl t104 rfl rfl ?_
            refine K.load1 Y (gd0 rfl) rfl rfl t3 rfl rfl ?_
            refine K.bin (V := .bool (x1.size == 0)) (gd0 rfl) rfl rfl (fun _ => rfl) rfl ?_
            refine K.move (.inl rfl) (gd0 rfl) rfl rfl ?_
            refine K.move (.inl rfl) (gd1 rfl rfl rfl (h1)) rfl rfl ?_
            refine K.fieldAddr Y (gd1 rfl rfl rfl (h1)) rfl t104 rfl rfl ?_
            refine K.load1 Y (gd1 rfl rfl rfl (h1)) rfl rfl t3 rfl rfl ?_
            refine K.bin (V := .bool (decide (a2 ≥ x1.size))) (gd1 rfl rfl rfl (h1)) rfl rfl (fun _ => rfl) rfl ?_
            refine K.pickF (gd0 rfl) rfl (h1) rfl rfl ?_
            refine K.move (.inl rfl) (gd0 rfl) rfl rfl ?_
            refine K.move (.inl rfl) (gd1 rfl rfl rfl (h3)) rfl rfl ?_
            refine K.bin (V := .bool (decide (a2 ≤ 0))) (gd1 rfl rfl rfl (h3)) rfl rfl (fun _ => rfl) rfl ?_
            refine K.move (.inl rfl) (gd1 rfl rfl rfl (h3)) rfl rfl ?_
            refine K.move (.inl rfl) (gd1 rfl rfl rfl (h5)) rfl rfl ?_
            refine K.loadS Y [_, _, _] (gd1 rfl rfl rfl (h5)) rfl rfl t32 rfl rfl rfl ?_
            refine K.fieldAddr Y (gd1 rfl rfl rfl (h5)) rfl t104 rfl rfl ?_
            refine K.loadS Y [_, _, _] (gd1 rfl rfl rfl (h5)) rfl rfl t32 rfl rfl rfl ?_
            refine K.callR [((.tmp 32), _), ((.tmp 33), _), ((.tmp 35), _)] (hm4 hx5) (toFn_raw cg4 rfl) (gd1 rfl rfl rfl (h5)) ⟨rfl, rfl, rfl, trivial⟩ trivial rfl rfl rfl ?_
            refine K.un (V := .bool (!x5)) (gd1 rfl rfl rfl (h5)) rfl (fun _ => rfl) rfl ?_
            refine K.pickT (gd1 rfl rfl rfl (h3)) rfl (h5) rfl rfl ?_
            refine K.pickF (gd0 rfl) rfl (h3) rfl rfl ?_
            refine K.nil ?_
            refine At.next ?_
            refine G.cond rfl (fun h6 => ?_) (fun h6 => ?_)
            ·
              replace H1 := bif_t H1 h6
              refine G.seq ?_
              obtain ⟨x6, hx6, H1⟩ := bnd H1
              refine G.rg ?_
              refine K.loadS Y [_, _, _] (gd0 rfl) rfl rfl t32 rfl rfl rfl ?_
              refine K.mkIface Y (gd0 rfl) rfl (mkI Try.underlying32 rfl) rfl ?_
              refine K.fieldAddr Y (gd0 rfl) rfl t104 rfl rfl ?_
              refine K.loadS Y [_, _, _] (gd0 rfl) rfl rfl t32 rfl rfl rfl ?_
              refine K.callR [((.tmp 41), _), ((.tmp 43), _)] (tide_Tide_Plus_con (k := k) hx6) (toFn_invoke (cf 130 rfl) (me32_130) rfl) (gd0 rfl) ⟨rfl, rfl, trivial⟩ trivial rfl rfl rfl ?_
              refine K.move (.inr rfl) (gd0 rfl) rfl rfl ?_
              refine K.store Y [_, _, _] (gd0 rfl) rfl rfl rfl t32 rfl rfl rfl rfl rfl ?_
              refine K.nil ?_
              refine At.next ?_
              refine G.ret ?_
              refine At.over_ret ?_
              cases H1
              replace H0 := sum_l H0
              refine At.done Y [(.tmp 10, .c _), (.cell 11 32, .agg [_, _, _])] rfl ⟨.tmp rfl, .st rfl rfl t32 rfl rfl, trivial⟩ (to' := [(0, _), (1, _)]) ⟨rfl, rfl, trivial⟩ ?_ ?_ rfl rfl rfl (.inl rfl)
              · cases H0; rfl
              · cases H0; rfl
            ·
              replace H1 := bif_f H1 h6
              refine G.skip ?_
              exact At.joined (σ := { v : Unit // x2 = Sum.inr v }) (Fs := fun q => [(0, .a (.c (.p 0 0))), (2, .a (.c (.v (.int .i64 a2)))), (4, .a (.c (.v (.func (.func g4) #[] #[])))), (8, .a (.c (.p 104 0))), (11, .a (.c (.p 105 0))), (12, .a (.c (.p 106 0)))]) (Tl := fun q => [(1, plE 1 p1), (0, blk 0 [.p 1 0, .v (.int .i64 ri0), .v (.int .i64 rg0)] 101), (104, blk 104 [.v (.int .i64 a3.n), .v (.int .i64 a3.sum), .v (.int .i64 a3.low)] 32), (105, blk 105 [.v (.int .i64 0), .v (.int .i64 0), .v (.int .i64 0)] 32), (106, blk 106 [.v (.int .i64 x1.e.k), .v (.int .i64 x1.e.w), .v (.int .i64 x1.left.index), .v (.int .i64 x1.left.gen), .v (.int .i64 x1.right.index), .v (.int .i64 x1.right.gen), .v (.int .i64 x1.size), .v (.int .i64 x1.sum.n), .v (.int .i64 x1.sum.sum), .v (.int .i64 x1.sum.low)] 104)]) ⟨(), (Option.some.inj H1).symm⟩ [(104, 101), (105, 102), (106, 103)] [_, _, _, _, _] rfl ⟨rfl, rfl, rfl, rfl, rfl, rfl, trivial⟩ ⟨rfl, (pl_ren rfl), rfl, (blk_ren rfl rfl), rfl, (blk_ren rfl rfl), rfl, (blk_ren rfl rfl), rfl, (blk_ren rfl rfl), trivial⟩ rfl
          ·
            replace H1 := bif_f H1 h5
            refine G.rg ?_
            refine K.fieldAddr Y (gd0 rfl) rfl t104 rfl rfl ?_
            refine K.load1 Y (gd0 rfl) rfl rfl t3 rfl rfl ?_
            refine K.bin (V := .bool (x1.size == 0)) (gd0 rfl) rfl rfl (fun _ => rfl) rfl ?_
            refine K.move (.inl rfl) (gd0 rfl) rfl rfl ?_
            refine K.move (.inl rfl) (gd1 rfl rfl rfl (h1)) rfl rfl ?_
            refine K.fieldAddr Y (gd1 rfl rfl rfl (h1)) rfl t104 rfl rfl ?_
            refine K.load1 Y (gd1 rfl rfl rfl (h1)) rfl rfl t3 rfl rfl ?_
            refine K.bin (V := .bool (decide (a2 ≥ x1.size))) (gd1 rfl rfl rfl (h1)) rfl rfl (fun _ => rfl) rfl ?_
            refine K.pickF (gd0 rfl) rfl (h1) rfl rfl ?_
            refine K.move (.inl rfl) (gd0 rfl) rfl rfl ?_
            refine K.move (.inl rfl) (gd1 rfl rfl rfl (h3)) rfl rfl ?_
            refine K.bin (V := .bool (decide (a2 ≤ 0))) (gd1 rfl rfl rfl (h3)) rfl rfl (fun _ => rfl) rfl ?_
            refine K.move (.inl rfl) (gd1 rfl rfl rfl (h3)) rfl rfl ?_
            refine K.skip rfl rfl rfl rfl (h5) rfl ?_
            refine K.skip rfl rfl rfl rfl (h5) rfl ?_
            refine K.skip rfl rfl rfl rfl (h5) rfl ?_
            refine K.skip rfl rfl rfl rfl (h5) rfl ?_
            refine K.skip rfl rfl rfl rfl (h5) rfl ?_
            refine K.skip rfl rfl rfl rfl (h5) rfl ?_
            refine K.pickF (gd1 rfl rfl rfl (h3)) rfl (h5) rfl rfl ?_
            refine K.pickF (gd0 rfl) rfl (h3) rfl rfl ?_
            refine K.nil ?_
            refine At.next ?_
            refine G.cond rfl (fun h7 => ?_) (fun h7 => ?_)
            · cases h7
            ·
              refine G.skip ?_
              exact At.joined (σ := { v : Unit // x2 = Sum.inr v }) (Fs := fun q => [(0, .a (.c (.p 0 0))), (2, .a (.c (.v (.int .i64 a2)))), (4, .a (.c (.v (.func (.func g4) #[] #[])))), (8, .a (.c (.p 104 0))), (11, .a (.c (.p 105 0))), (12, .a (.c (.p 106 0)))]) (Tl := fun q => [(1, plE 1 p1), (0, blk 0 [.p 1 0, .v (.int .i64 ri0), .v (.int .i64 rg0)] 101), (104, blk 104 [.v (.int .i64 a3.n), .v (.int .i64 a3.sum), .v (.int .i64 a3.low)] 32), (105, blk 105 [.v (.int .i64 0), .v (.int .i64 0), .v (.int .i64 0)] 32), (106, blk 106 [.v (.int .i64 x1.e.k), .v (.int .i64 x1.e.w), .v (.int .i64 x1.left.index), .v (.int .i64 x1.left.gen), .v (.int .i64 x1.right.index), .v (.int .i64 x1.right.gen), .v (.int .i64 x1.size), .v (.int .i64 x1.sum.n), .v (.int .i64 x1.sum.sum), .v (.int .i64 x1.sum.low)] 104)]) ⟨(), (Option.some.inj H1).symm⟩ [(104, 101), (105, 102), (106, 103)] [_, _, _, _, _] rfl ⟨rfl, rfl, rfl, rfl, rfl, rfl, trivial⟩ ⟨rfl, (pl_ren rfl), rfl, (blk_ren rfl rfl), rfl, (blk_ren rfl rfl), rfl, (blk_ren rfl rfl), rfl, (blk_ren rfl rfl), trivial⟩ rfl
    ·
      rintro ⟨v2, rfl⟩
      replace H0 := sum_r H0
      show G _ _ [(0, .a (.c (.p 0 0))), (2, .a (.c (.v (.int .i64 a2)))), (4, .a (.c (.v (.func (.func g4) #[] #[])))), (8, .a (.c (.p 104 0))), (11, .a (.c (.p 105 0))), (12, .a (.c (.p 106 0)))] [(1, some (plE 1 p1)), (0, some (blk 0 [.p 1 0, .v (.int .i64 ri0), .v (.int .i64 rg0)] 101)), (104, some (blk 104 [.v (.int .i64 a3.n), .v (.int .i64 a3.sum), .v (.int .i64 a3.low)] 32)), (105, some (blk 105 [.v (.int .i64 0), .v (.int .i64 0), .v (.int .i64 0)] 32)), (106, some (blk 106 [.v (.int .i64 x1.e.k), .v (.int .i64 x1.e.w), .v (.int .i64 x1.left.index), .v (.int .i64 x1.left.gen), .v (.int .i64 x1.right.index), .v (.int .i64 x1.right.gen), .v (.int .i64 x1.size), .v (.int .i64 x1.sum.n), .v (.int .i64 x1.sum.sum), .v (.int .i64 x1.sum.low)] 104))] _ _
      refine G.seq ?_
      obtain ⟨x7, hx7, H0⟩ := bnd H0
      refine G.rg ?_
      refine K.move (.inl rfl) (gd0 rfl) rfl rfl ?_
      refine K.fieldAddr Y (gd0 rfl) rfl t104 rfl rfl ?_
      refine K.loadS Y [_, _] (gd0 rfl) rfl rfl t99 rfl rfl rfl ?_
      refine K.callR [(.func 62, _), ((.tmp 45), _), ((.tmp 47), _)] (Tree_getE_con (k := k) hx7 0 1) (toFn_func (cf 62 rfl) rfl) (gd0 rfl) ⟨rfl, rfl, rfl, trivial⟩ ⟨rfl, rfl, trivial⟩ rfl rfl rfl ?_
      refine K.field1 Y (gd0 rfl) rfl t104 rfl t3 rfl rfl ?_
      refine K.move (.inr rfl) (gd0 rfl) rfl rfl ?_
      refine K.nil ?_
      refine At.next ?_
      refine G.seq ?_
      obtain ⟨x8, hx8, H0⟩ := bnd H0
      refine G.rg ?_
      refine K.move (.inl rfl) (gd0 rfl) rfl rfl ?_
      refine K.fieldAddr Y (gd0 rfl) rfl t104 rfl rfl ?_
      refine K.loadS Y [_, _] (gd0 rfl) rfl rfl t99 rfl rfl rfl ?_
      refine K.move (.inl rfl) (gd0 rfl) rfl rfl ?_
      refine K.loadS Y [_, _, _] (gd0 rfl) rfl rfl t32 rfl rfl rfl ?_
      refine K.move (.inl rfl) (gd0 rfl) rfl rfl ?_
      refine K.callR [(.func 68, _), ((.tmp 51), _), ((.tmp 53), _), ((.tmp 54), _), ((.tmp 55), _), ((.tmp 56), _)] (ih hx8) (toFn_func (cf 68 rfl) rfl) (gd0 rfl) ⟨rfl, rfl, rfl, rfl, rfl, rfl, trivial⟩ ⟨rfl, rfl, trivial⟩ rfl rfl rfl ?_
      refine K.move (.inl rfl) (gd0 rfl) rfl rfl ?_
      refine K.extract (gd0 rfl) rfl rfl rfl ?_
      refine K.extract (gd0 rfl) rfl rfl rfl ?_
      refine K.move (.inr rfl) (gd0 rfl) rfl rfl ?_
      refine K.store Y [_, _, _] (gd0 rfl) rfl rfl rfl t32 rfl rfl rfl rfl rfl ?_
      refine K.nil ?_
      refine At.next ?_
      refine G.seq ?_
      refine G.seq ?_
      refine G.rg ?_
      refine K.move (.inl rfl) (gd0 rfl) rfl rfl ?_
      refine K.bin (V := .bool (decide (x8.1 ≥ 0))) (gd0 rfl) rfl rfl (fun _ => rfl) rfl ?_
      refine K.nil ?_
      refine At.next ?_
      refine G.cond rfl (fun h8 => ?_) (fun h8 => ?_)
      ·
        replace H0 := bif_t H0 h8
        refine G.seq ?_
        refine G.rd mixed ?_
        refine K.move (.inl rfl) (gd0 rfl) rfl rfl ?_
        refine K.loadS Y [_, _, _] (gd0 rfl) rfl rfl t32 rfl rfl rfl ?_
        refine K.move (.inr rfl) (gd0 rfl) rfl rfl ?_
        refine K.store Y [_, _, _] (gd0 rfl) rfl rfl rfl t32 rfl rfl rfl rfl rfl ?_
        refine K.nil ?_
        refine ⟨by kernel_rfl, ?_⟩
        refine At.next ?_
        refine G.ret ?_
        refine At.over_ret ?_
        refine At.done Y [(.tmp 10, .c _), (.cell 11 32, .agg [_, _, _])] rfl ⟨.tmp rfl, .st rfl rfl t32 rfl rfl, trivial⟩ (to' := [(0, _), (1, _)]) ⟨rfl, rfl, trivial⟩ ?_ ?_ rfl rfl rfl (.inl rfl)
        · cases H0; rfl
        · cases H0; rfl
      ·
        replace H0 := bif_f H0 h8
        refine G.skip ?_
        refine At.next ?_
        refine G.seq ?_
        obtain ⟨x9, hx9, H0⟩ := bnd H0
        refine G.rg ?_
        refine K.fieldAddr Y (gd0 rfl) rfl t104 rfl rfl ?_
        refine K.loadS Y [_, _] (gd0 rfl) rfl rfl t35 rfl rfl rfl ?_
        refine K.mkIface Y (gd0 rfl) rfl (mkI Try.underlying35 rfl) rfl ?_
        refine K.callR [((.tmp 66), _)] (Lw07_elem_Sum_con (k := k) hx9) (toFn_invoke (cf 132 rfl) (me35_132) rfl) (gd0 rfl) ⟨rfl, trivial⟩ trivial rfl rfl rfl ?_
        refine K.alloc Y 107 [_, _, _] (gd0 rfl) t32 rfl rfl rfl rfl rfl ?_
        refine K.store Y [_, _, _] (gd0 rfl) rfl rfl rfl t32 rfl rfl rfl rfl rfl ?_
        refine K.nil ?_
        refine At.next ?_
        obtain ⟨x10, H1, H0⟩ := bnd H0
        refine G.seqJ (σ := { v : Unit // x10 = Sum.inr v }) (fun q => [(0, .a (.c (.p 0 0))), (2, .a (.c (.v (.int .i64 a2)))), (4, .a (.c (.v (.func (.func g4) #[] #[])))), (8, .a (.c (.p 108 0))), (11, .a (.c (.p 109 0))), (12, .a (.c (.p 110 0))), (13, .a (.c (.v (.int .i64 x7.size)))), (15, .a (.c (.p 111 0)))]) (fun q => [(1, plE 1 p1), (0, blk 0 [.p 1 0, .v (.int .i64 ri0), .v (.int .i64 rg0)] 101), (108, blk 108 [.v (.int .i64 x8.2.n), .v (.int .i64 x8.2.sum), .v (.int .i64 x8.2.low)] 32), (109, blk 109 [.v (.int .i64 0), .v (.int .i64 0), .v (.int .i64 0)] 32), (110, blk 110 [.v (.int .i64 x1.e.k), .v (.int .i64 x1.e.w), .v (.int .i64 x1.left.index), .v (.int .i64 x1.left.gen), .v (.int .i64 x1.right.index), .v (.int .i64 x1.right.gen), .v (.int .i64 x1.size), .v (.int .i64 x1.sum.n), .v (.int .i64 x1.sum.sum), .v (.int .i64 x1.sum.low)] 104), (111, blk 111 [.v (.int .i64 x9.n), .v (.int .i64 x9.sum), .v (.int .i64 x9.low)] 32)]) ?_ ?_
        ·
          refine G.seq ?_
          rcases Bool.eq_false_or_eq_true (decide (a2 ≤ x7.size)) with h9 | h9
          ·
            replace H1 := bif_t H1 h9
            obtain ⟨x11, hx11, H1⟩ := bnd H1
            refine G.rg ?_
            refine K.move (.inl rfl) (gd0 rfl) rfl rfl ?_
            refine K.move (.inl rfl) (gd0 rfl) rfl rfl ?_
            refine K.bin (V := .bool (decide (a2 ≤ x7.size))) (gd0 rfl) rfl rfl (fun _ => rfl) rfl ?_
            refine K.move (.inl rfl) (gd0 rfl) rfl rfl ?_
            refine K.move (.inl rfl) (gd1 rfl rfl rfl (h9)) rfl rfl ?_
            refine K.loadS Y [_, _, _] (gd1 rfl rfl rfl (h9)) rfl rfl t32 rfl rfl rfl ?_
            refine K.loadS Y [_, _, _] (gd1 rfl rfl rfl (h9)) rfl rfl t32 rfl rfl rfl ?_
            refine K.callR [((.tmp 72), _), ((.tmp 73), _), ((.tmp 74), _)] (hm4 hx11) (toFn_raw cg4 rfl) (gd1 rfl rfl rfl (h9)) ⟨rfl, rfl, rfl, trivial⟩ trivial rfl rfl rfl ?_
            refine K.pickT (gd0 rfl) rfl (h9) rfl rfl ?_
            refine K.nil ?_
            refine At.next ?_
            refine G.cond rfl (fun h10 => ?_) (fun h10 => ?_)
            ·
              replace H1 := bif_t H1 h10
              refine G.seq ?_
              refine G.rd mixed ?_
              refine K.move (.inl rfl) (gd0 rfl) rfl rfl ?_
              refine K.loadS Y [_, _, _] (gd0 rfl) rfl rfl t32 rfl rfl rfl ?_
              refine K.move (.inr rfl) (gd0 rfl) rfl rfl ?_
              refine K.store Y [_, _, _] (gd0 rfl) rfl rfl rfl t32 rfl rfl rfl rfl rfl ?_
              refine K.nil ?_
              refine ⟨by kernel_rfl, ?_⟩
              refine At.next ?_
              refine G.ret ?_
              refine At.over_ret ?_
              cases H1
              replace H0 := sum_l H0
              refine At.done Y [(.tmp 10, .c _), (.cell 11 32, .agg [_, _, _])] rfl ⟨.tmp rfl, .st rfl rfl t32 rfl rfl, trivial⟩ (to' := [(0, _), (1, _)]) ⟨rfl, rfl, trivial⟩ ?_ ?_ rfl rfl rfl (.inl rfl)
              · cases H0; rfl
              · cases H0; rfl
            ·
              replace H1 := bif_f H1 h10
              refine G.skip ?_
              exact At.joined (σ := { v : Unit // x10 = Sum.inr v }) (Fs := fun q => [(0, .a (.c (.p 0 0))), (2, .a (.c (.v (.int .i64 a2)))), (4, .a (.c (.v (.func (.func g4) #[] #[])))), (8, .a (.c (.p 108 0))), (11, .a (.c (.p 109 0))), (12, .a (.c (.p 110 0))), (13, .a (.c (.v (.int .i64 x7.size)))), (15, .a (.c (.p 111 0)))]) (Tl := fun q => [(1, plE 1 p1), (0, blk 0 [.p 1 0, .v (.int .i64 ri0), .v (.int .i64 rg0)] 101), (108, blk 108 [.v (.int .i64 x8.2.n), .v (.int .i64 x8.2.sum), .v (.int .i64 x8.2.low)] 32), (109, blk 109 [.v (.int .i64 0), .v (.int .i64 0), .v (.int .i64 0)] 32), (110, blk 110 [.v (.int .i64 x1.e.k), .v (.int .i64 x1.e.w), .v (.int .i64 x1.left.index), .v (.int .i64 x1.left.gen), .v (.int .i64 x1.right.index), .v (.int .i64 x1.right.gen), .v (.int .i64 x1.size), .v (.int .i64 x1.sum.n), .v (.int .i64 x1.sum.sum), .v (.int .i64 x1.sum.low)] 104), (111, blk 111 [.v (.int .i64 x9.n), .v (.int .i64 x9.sum), .v (.int .i64 x9.low)] 32)]) ⟨(), (Option.some.inj H1).symm⟩ [(108, 104), (109, 105), (110, 106), (111, 107)] [_, _, _, _, _, _] rfl ⟨rfl, rfl, rfl, rfl, rfl, rfl, rfl, rfl, trivial⟩ ⟨rfl, (pl_ren rfl), rfl, (blk_ren rfl rfl), rfl, (blk_ren rfl rfl), rfl, (blk_ren rfl rfl), rfl, (blk_ren rfl rfl), rfl, (blk_ren rfl rfl), trivial⟩ rfl
          ·
            replace H1 := bif_f H1 h9
            refine G.rg ?_
            refine K.move (.inl rfl) (gd0 rfl) rfl rfl ?_
            refine K.move (.inl rfl) (gd0 rfl) rfl rfl ?_
            refine K.bin (V := .bool (decide (a2 ≤ x7.size))) (gd0 rfl) rfl rfl (fun _ => rfl) rfl ?_
            refine K.move (.inl rfl) (gd0 rfl) rfl rfl ?_
            refine K.skip rfl rfl rfl rfl (h9) rfl ?_
            refine K.skip rfl rfl rfl rfl (h9) rfl ?_
            refine K.skip rfl rfl rfl rfl (h9) rfl ?_
            refine K.skip rfl rfl rfl rfl (h9) rfl ?_
            refine K.pickF (gd0 rfl) rfl (h9) rfl rfl ?_
            refine K.nil ?_
            refine At.next ?_
            refine G.cond rfl (fun h11 => ?_) (fun h11 => ?_)
            · cases h11
            ·
              refine G.skip ?_
              exact At.joined (σ := { v : Unit // x10 = Sum.inr v }) (Fs := fun q => [(0, .a (.c (.p 0 0))), (2, .a (.c (.v (.int .i64 a2)))), (4, .a (.c (.v (.func (.func g4) #[] #[])))), (8, .a (.c (.p 108 0))), (11, .a (.c (.p 109 0))), (12, .a (.c (.p 110 0))), (13, .a (.c (.v (.int .i64 x7.size)))), (15, .a (.c (.p 111 0)))]) (Tl := fun q => [(1, plE 1 p1), (0, blk 0 [.p 1 0, .v (.int .i64 ri0), .v (.int .i64 rg0)] 101), (108, blk 108 [.v (.int .i64 x8.2.n), .v (.int .i64 x8.2.sum), .v (.int .i64 x8.2.low)] 32), (109, blk 109 [.v (.int .i64 0), .v (.int .i64 0), .v (.int .i64 0)] 32), (110, blk 110 [.v (.int .i64 x1.e.k), .v (.int .i64 x1.e.w), .v (.int .i64 x1.left.index), .v (.int .i64 x1.left.gen), .v (.int .i64 x1.right.index), .v (.int .i64 x1.right.gen), .v (.int .i64 x1.size), .v (.int .i64 x1.sum.n), .v (.int .i64 x1.sum.sum), .v (.int .i64 x1.sum.low)] 104), (111, blk 111 [.v (.int .i64 x9.n), .v (.int .i64 x9.sum), .v (.int .i64 x9.low)] 32)]) ⟨(), (Option.some.inj H1).symm⟩ [(108, 104), (109, 105), (110, 106), (111, 107)] [_, _, _, _, _, _] rfl ⟨rfl, rfl, rfl, rfl, rfl, rfl, rfl, rfl, trivial⟩ ⟨rfl, (pl_ren rfl), rfl, (blk_ren rfl rfl), rfl, (blk_ren rfl rfl), rfl, (blk_ren rfl rfl), rfl, (blk_ren rfl rfl), rfl, (blk_ren rfl rfl), trivial⟩ rfl
        ·
          rintro ⟨v10, rfl⟩
          replace H0 := sum_r H0
          show G _ _ [(0, .a (.c (.p 0 0))), (2, .a (.c (.v (.int .i64 a2)))), (4, .a (.c (.v (.func (.func g4) #[] #[])))), (8, .a (.c (.p 108 0))), (11, .a (.c (.p 109 0))), (12, .a (.c (.p 110 0))), (13, .a (.c (.v (.int .i64 x7.size)))), (15, .a (.c (.p 111 0)))] [(1, some (plE 1 p1)), (0, some (blk 0 [.p 1 0, .v (.int .i64 ri0), .v (.int .i64 rg0)] 101)), (108, some (blk 108 [.v (.int .i64 x8.2.n), .v (.int .i64 x8.2.sum), .v (.int .i64 x8.2.low)] 32)), (109, some (blk 109 [.v (.int .i64 0), .v (.int .i64 0), .v (.int .i64 0)] 32)), (110, some (blk 110 [.v (.int .i64 x1.e.k), .v (.int .i64 x1.e.w), .v (.int .i64 x1.left.index), .v (.int .i64 x1.left.gen), .v (.int .i64 x1.right.index), .v (.int .i64 x1.right.gen), .v (.int .i64 x1.size), .v (.int .i64 x1.sum.n), .v (.int .i64 x1.sum.sum), .v (.int .i64 x1.sum.low)] 104)), (111, some (blk 111 [.v (.int .i64 x9.n), .v (.int .i64 x9.sum), .v (.int .i64 x9.low)] 32))] _ _
          refine G.seq ?_
          obtain ⟨x12, hx12, H0⟩ := bnd H0
          obtain ⟨x13, hx13, H0⟩ := bnd H0
          refine G.rd mixed ?_
          refine K.move (.inl rfl) (gd0 rfl) rfl rfl ?_
          refine K.fieldAddr Y (gd0 rfl) rfl t104 rfl rfl ?_
          refine K.loadS Y [_, _] (gd0 rfl) rfl rfl t99 rfl rfl rfl ?_
          refine K.move (.inl rfl) (gd0 rfl) rfl rfl ?_
          refine K.move (.inl rfl) (gd0 rfl) rfl rfl ?_
          refine K.bin (V := .int .i64 (w64 (a2 - x7.size))) (gd0 rfl) rfl rfl (fun _ => rfl) rfl ?_
          refine K.bin (V := .int .i64 (w64 ((w64 (a2 - x7.size)) - 1))) (gd0 rfl) rfl rfl (fun _ => rfl) rfl ?_
          refine K.loadS Y [_, _, _] (gd0 rfl) rfl rfl t32 rfl rfl rfl ?_
          refine K.mkIface Y (gd0 rfl) rfl (mkI Try.underlying32 rfl) rfl ?_
          refine K.loadS Y [_, _, _] (gd0 rfl) rfl rfl t32 rfl rfl rfl ?_
          refine K.callR [((.tmp 88), _), ((.tmp 89), _)] (tide_Tide_Plus_con (k := k) hx12) (toFn_invoke (cf 130 rfl) (me32_130) rfl) (gd0 rfl) ⟨rfl, rfl, trivial⟩ trivial rfl rfl rfl ?_
          refine K.move (.inl rfl) (gd0 rfl) rfl rfl ?_
          refine K.callR [(.func 68, _), ((.tmp 80), _), ((.tmp 82), _), ((.tmp 86), _), ((.tmp 90), _), ((.tmp 91), _)] (ih hx13) (toFn_func (cf 68 rfl) rfl) (gd0 rfl) ⟨rfl, rfl, rfl, rfl, rfl, rfl, trivial⟩ ⟨rfl, rfl, trivial⟩ rfl rfl rfl ?_
          refine K.move (.inl rfl) (gd0 rfl) rfl rfl ?_
          refine K.extract (gd0 rfl) rfl rfl rfl ?_
          refine K.extract (gd0 rfl) rfl rfl rfl ?_
          refine K.move (.inr rfl) (gd0 rfl) rfl rfl ?_
          refine K.store Y [_, _, _] (gd0 rfl) rfl rfl rfl t32 rfl rfl rfl rfl rfl ?_
          refine K.nil ?_
          refine ⟨by kernel_rfl, ?_⟩
          refine At.next ?_
          refine G.seq ?_
          refine G.seq ?_
          refine G.rg ?_
          refine K.move (.inl rfl) (gd0 rfl) rfl rfl ?_
          refine K.bin (V := .bool (decide (x13.1 ≥ 0))) (gd0 rfl) rfl rfl (fun _ => rfl) rfl ?_
          refine K.nil ?_
          refine At.next ?_
          refine G.cond rfl (fun h12 => ?_) (fun h12 => ?_)
          ·
            replace H0 := bif_t H0 h12
            refine G.rg ?_
            refine K.move (.inl rfl) (gd0 rfl) rfl rfl ?_
            refine K.move (.inl rfl) (gd0 rfl) rfl rfl ?_
            refine K.bin (V := .int .i64 (w64 (x7.size + 1))) (gd0 rfl) rfl rfl (fun _ => rfl) rfl ?_
            refine K.bin (V := .int .i64 (w64 (x13.1 + (w64 (x7.size + 1))))) (gd0 rfl) rfl rfl (fun _ => rfl) rfl ?_
            refine K.move (.inr rfl) (gd0 rfl) rfl rfl ?_
            refine K.nil ?_
            refine At.next ?_
            refine G.seq ?_
            refine G.rd mixed ?_
            refine K.move (.inl rfl) (gd0 rfl) rfl rfl ?_
            refine K.loadS Y [_, _, _] (gd0 rfl) rfl rfl t32 rfl rfl rfl ?_
            refine K.move (.inr rfl) (gd0 rfl) rfl rfl ?_
            refine K.store Y [_, _, _] (gd0 rfl) rfl rfl rfl t32 rfl rfl rfl rfl rfl ?_
            refine K.nil ?_
            refine ⟨by kernel_rfl, ?_⟩
            refine At.next ?_
            refine G.ret ?_
            refine At.done Y [(.tmp 10, .c _), (.cell 11 32, .agg [_, _, _])] rfl ⟨.tmp rfl, .st rfl rfl t32 rfl rfl, trivial⟩ (to' := [(0, _), (1, _)]) ⟨rfl, rfl, trivial⟩ ?_ ?_ rfl rfl rfl (.inl rfl)
            · cases H0; rfl
            · cases H0; rfl
          ·
            replace H0 := bif_f H0 h12
            refine G.skip ?_
            refine At.next ?_
            refine G.seq ?_
            refine G.rd mixed ?_
            refine K.move (.inl rfl) (gd0 rfl) rfl rfl ?_
            refine K.loadS Y [_, _, _] (gd0 rfl) rfl rfl t32 rfl rfl rfl ?_
            refine K.move (.inr rfl) (gd0 rfl) rfl rfl ?_
            refine K.store Y [_, _, _] (gd0 rfl) rfl rfl rfl t32 rfl rfl rfl rfl rfl ?_
            refine K.nil ?_
            refine ⟨by kernel_rfl, ?_⟩
            refine At.next ?_
            refine G.ret ?_
            refine At.done Y [(.tmp 10, .c _), (.cell 11 32, .agg [_, _, _])] rfl ⟨.tmp rfl, .st rfl rfl t32 rfl rfl, trivial⟩ (to' := [(0, _), (1, _)]) ⟨rfl, rfl, trivial⟩ ?_ ?_ rfl rfl rfl (.inl rfl)
            · cases H0; rfl
            · cases H0; rfl
theorem Tree_firstE_con {k n : Nat} {g4 : FuncId} {fn4 : TTide → TTide → Option Bool} (cg4 : fnB Try.prog g4 = true) (hm4 : ∀ {z0 : TTide} {z1 : TTide} {y : Bool}, fn4 z0 z1 = some y → SCon Try.prog g4 [.a (.agg ((eTTide z0).map .v)), .a (.agg ((eTTide z1).map .v))] [] (SV.b y) [] []) {p1 : Pool (TNode TL07Elem TTide)} {a1 : TRef} {a2 : Int} {a3 : TTide} {ri0 rg0 : Int} {r : Int × TTide}  (H0 : Tree_first.r opsE k n p1 a1 a2 a3 fn4 = some r) (m0 m1 : Nat) : SCon Try.prog 68 [SV.p m0 0, .a (.agg ((eTRef a1).map .v)), .a (.c (.v (.int .i64 a2))), .a (.agg ((eTTide a3).map .v)), SV.raw (.func (.func g4) #[] #[])] [(m0, blk m0 [.p m1 0, .i ri0, .i rg0] 101), (m1, plE m1 p1)] (.tup [.c (.v (.int .i64 r.1)), .agg ((eTTide r.2).map .v)]) [(m0, blk m0 [.p m1 0, .i ri0, .i rg0] 101), (m1, plE m1 p1)] [] :=
  SCon.ren (rn [(0, m0), (1, m1)]) (Tree_firstE_con0 (k := k) cg4 hm4  H0) ⟨(blk_ren rfl rfl), (pl_ren rfl), trivial⟩ ⟨(blk_ren rfl rfl), (pl_ren rfl), trivial⟩ (by simp) (by simp)
theorem Tree_FirstE_con0 {k : Nat} {g2 : FuncId} {fn2 : TTide → TTide → Option Bool} (cg2 : fnB Try.prog g2 = true) (hm2 : ∀ {z0 : TTide} {z1 : TTide} {y : Bool}, fn2 z0 z1 = some y → SCon Try.prog g2 [.a (.agg ((eTTide z0).map .v)), .a (.agg ((eTTide z1).map .v))] [] (SV.b y) [] []) {p1 : Pool (TNode TL07Elem TTide)} {rt0 : TRef} {a1 : Int} {r : Int}  (H0 : Tree_First.f opsE k p1 rt0 a1 fn2 = some r) : SCon Try.prog 30 [SV.p 0 0, .a (.c (.v (.int .i64 a1))), SV.raw (.func (.func g2) #[] #[])] [(0, blk 0 [.p 1 0, .i rt0.index, .i rt0.gen] 101), (1, plE 1 p1)] (.a (.c (.v (.int .i64 r)))) [(0, blk 0 [.p 1 0, .i rt0.index, .i rt0.gen] 101), (1, plE 1 p1)] [] := by
  rw [Tree_First.f] at H0
  refine spec_of [(0, _), (1, _), (2, _)] [(0, _), (1, _)] 27 Try.func30 rfl Try.ntmps30 rfl rfl rfl rfl (fun β W F => ?_)
  refine G.seq ?_
  refine G.rg ?_
  refine K.move (.inr rfl) (gd0 rfl) rfl rfl ?_
  refine K.nil ?_
  refine At.next ?_
  refine G.seq ?_
  refine G.rg ?_
  refine K.alloc Y 100 [_, _, _] (gd0 rfl) t32 rfl rfl rfl rfl rfl ?_
  refine K.nil ?_
  refine At.next ?_
  refine G.seq ?_
  obtain ⟨x1, hx1, H0⟩ := bnd H0
  obtain ⟨x2, hx2, H0⟩ := bnd H0
  refine G.rd mixed ?_
  refine K.move (.inl rfl) (gd0 rfl) rfl rfl ?_
  refine K.move (.inl rfl) (gd0 rfl) rfl rfl ?_
  refine K.nilCheck (gd0 rfl) rfl rfl ?_
  refine K.fieldAddr Y (gd0 rfl) rfl t101 rfl rfl ?_
  refine K.loadS Y [_, _] (gd0 rfl) rfl rfl t99 rfl rfl rfl ?_
  refine K.move (.inl rfl) (gd0 rfl) rfl rfl ?_
  refine K.bi2 (V := .int .i64 (gmax a1 0)) (gd0 rfl) rfl rfl (fun _ _ => rfl) rfl ?_
  refine K.move (.inl rfl) (gd0 rfl) rfl rfl ?_
  refine K.callR [(.func 20, _), ((.tmp 18), _)] (Tree_LenE_con (k := k) hx1 0 1) (toFn_func (cf 20 rfl) rfl) (gd0 rfl) ⟨rfl, rfl, trivial⟩ ⟨rfl, rfl, trivial⟩ rfl rfl rfl ?_
  refine K.bi2 (V := .int .i64 (gmin (gmax a1 0) x1)) (gd0 rfl) rfl rfl (fun _ _ => rfl) rfl ?_
  refine K.loadS Y [_, _, _] (gd0 rfl) rfl rfl t32 rfl rfl rfl ?_
  refine K.move (.inl rfl) (gd0 rfl) rfl rfl ?_
  refine K.callR [(.func 68, _), ((.tmp 11), _), ((.tmp 15), _), ((.tmp 20), _), ((.tmp 21), _), ((.tmp 22), _)] (Tree_firstE_con (k := k) cg2 hm2 hx2 0 1) (toFn_func (cf 68 rfl) rfl) (gd0 rfl) ⟨rfl, rfl, rfl, rfl, rfl, rfl, trivial⟩ ⟨rfl, rfl, trivial⟩ rfl rfl rfl ?_
  refine K.move (.inl rfl) (gd0 rfl) rfl rfl ?_
  refine K.extract (gd0 rfl) rfl rfl rfl ?_
  refine K.extract (gd0 rfl) rfl rfl rfl ?_
  refine K.alloc Y 101 [_, _, _] (gd0 rfl) t32 rfl rfl rfl rfl rfl ?_
  refine K.move (.inr rfl) (gd0 rfl) rfl rfl ?_
  refine K.store Y [_, _, _] (gd0 rfl) rfl rfl rfl t32 rfl rfl rfl rfl rfl ?_
  refine K.nil ?_
  refine ⟨by kernel_rfl, ?_⟩
  refine At.next ?_
  refine G.seq ?_
  refine G.rg ?_
  refine K.move (.inl rfl) (gd0 rfl) rfl rfl ?_
  refine K.move (.inr rfl) (gd0 rfl) rfl rfl ?_
  refine K.nil ?_
  refine At.next ?_
  refine G.ret ?_
  refine At.done Y [(.tmp 6, .c _)] rfl ⟨.tmp rfl, trivial⟩ (to' := [(0, _), (1, _)]) ⟨rfl, rfl, trivial⟩ ?_ ?_ rfl rfl rfl (.inl rfl)
  · cases H0; rfl
  · cases H0; rfl
theorem Tree_FirstE_con {k : Nat} {g2 : FuncId} {fn2 : TTide → TTide → Option Bool} (cg2 : fnB Try.prog g2 = true) (hm2 : ∀ {z0 : TTide} {z1 : TTide} {y : Bool}, fn2 z0 z1 = some y → SCon Try.prog g2 [.a (.agg ((eTTide z0).map .v)), .a (.agg ((eTTide z1).map .v))] [] (SV.b y) [] []) {p1 : Pool (TNode TL07Elem TTide)} {rt0 : TRef} {a1 : Int} {r : Int}  (H0 : Tree_First.f opsE k p1 rt0 a1 fn2 = some r) (m0 m1 : Nat) : SCon Try.prog 30 [SV.p m0 0, .a (.c (.v (.int .i64 a1))), SV.raw (.func (.func g2) #[] #[])] [(m0, blk m0 [.p m1 0, .i rt0.index, .i rt0.gen] 101), (m1, plE m1 p1)] (.a (.c (.v (.int .i64 r)))) [(m0, blk m0 [.p m1 0, .i rt0.index, .i rt0.gen] 101), (m1, plE m1 p1)] [] :=
  SCon.ren (rn [(0, m0), (1, m1)]) (Tree_FirstE_con0 (k := k) cg2 hm2  H0) ⟨(blk_ren rfl rfl), (pl_ren rfl), trivial⟩ ⟨(blk_ren rfl rfl), (pl_ren rfl), trivial⟩ (by simp) (by simp)
theorem Tree_RankE_con0 {k : Nat}  {p1 : Pool (TNode TL07Elem TTide)} {rt0 : TRef} {a1 : TL07Elem} {r : Int}  (H0 : Tree_Rank.f opsE k p1 rt0 a1 = some r) : SCon Try.prog 26 [SV.p 0 0, .a (.agg ((eTL07Elem a1).map .v))] [(0, blk 0 [.p 1 0, .i rt0.index, .i rt0.gen] 101), (1, plE 1 p1)] (.a (.c (.v (.int .i64 r)))) [(0, blk 0 [.p 1 0, .i rt0.index, .i rt0.gen] 101), (1, plE 1 p1)] [] := by
  rw [Tree_Rank.f] at H0
  refine spec_of [(0, _), (1, _)] [(0, _), (1, _)] 36 Try.func26 rfl Try.ntmps26 rfl rfl rfl rfl (fun β W F => ?_)
  refine G.seq ?_
  refine G.rg ?_
  refine K.box Y 100 [_, _] (gd0 rfl) rfl rfl rfl rfl rfl rfl ?_
  refine K.move (.inr rfl) (gd0 rfl) rfl rfl ?_
  refine K.nil ?_
  refine At.next ?_
  refine G.seq ?_
  refine G.rg ?_
  refine K.move (.inr rfl) (gd0 rfl) rfl rfl ?_
  refine K.nil ?_
  refine At.next ?_
  obtain ⟨x1, H1, H0⟩ := bnd H0
  refine G.seqJ (σ := { v : Int // x1 = v }) (fun q => [(5, .a (.c (.v (.int .i64 q.1))))]) (fun q => [(1, plE 1 p1), (0, blk 0 [.p 1 0, .v (.int .i64 rt0.index), .v (.int .i64 rt0.gen)] 101)]) ?_ ?_
  ·
    refine G.seq ?_
    refine G.rg ?_
    refine K.move (.inl rfl) (gd0 rfl) rfl rfl ?_
    refine K.nilCheck (gd0 rfl) rfl rfl ?_
    refine K.fieldAddr Y (gd0 rfl) rfl t101 rfl rfl ?_
    refine K.loadS Y [_, _] (gd0 rfl) rfl rfl t99 rfl rfl rfl ?_
    refine K.alloc Y 101 [_, _] (gd0 rfl) t99 rfl rfl rfl rfl rfl ?_
    refine K.store Y [_, _] (gd0 rfl) rfl rfl rfl t99 rfl rfl rfl rfl rfl ?_
    refine K.nil ?_
    refine At.next ?_
    refine G.block ?_
    refine G.loop (σ := { q : Nat × (Int × TRef) // Tree_Rank.l0 opsE k p1 a1 q.1 q.2 = some x1 }) (fun q => [(0, .a (.c (.p 0 0))), (3, .a (.c (.p 106 0))), (5, .a (.c (.v (.int .i64 q.1.2.1)))), (6, .a (.c (.p 107 0)))]) (fun q => [(1, plE 1 p1), (0, blk 0 [.p 1 0, .v (.int .i64 rt0.index), .v (.int .i64 rt0.gen)] 101), (106, blk 106 [.v (.int .i64 a1.k), .v (.int .i64 a1.w)] 35), (107, blk 107 [.v (.int .i64 q.1.2.2.index), .v (.int .i64 q.1.2.2.gen)] 99)]) (fun q => q.1.1) ⟨(k, (0, rt0)), H1⟩ ?_ ?_
    · exact At.into [(106, 100), (107, 101)] [_, _, _, _] rfl ⟨rfl, rfl, rfl, rfl, trivial⟩ ⟨rfl, (pl_ren rfl), rfl, (blk_ren rfl rfl), rfl, (blk_ren rfl rfl), rfl, (blk_ren rfl rfl), trivial⟩ rfl
    ·
      rintro ⟨⟨n0, v1, v2⟩, H1⟩
      show G _ _ [(0, .a (.c (.p 0 0))), (3, .a (.c (.p 106 0))), (5, .a (.c (.v (.int .i64 v1)))), (6, .a (.c (.p 107 0)))] [(1, some (plE 1 p1)), (0, some (blk 0 [.p 1 0, .v (.int .i64 rt0.index), .v (.int .i64 rt0.gen)] 101)), (106, some (blk 106 [.v (.int .i64 a1.k), .v (.int .i64 a1.w)] 35)), (107, some (blk 107 [.v (.int .i64 v2.index), .v (.int .i64 v2.gen)] 99))] _ _
      cases n0 with
      | zero => exact absurd H1 (by simp [Tree_Rank.l0])
      | succ n0 =>
        have HL0 := H1
        rw [Tree_Rank.l0] at H1
        refine G.seq ?_
        refine G.seq ?_
        refine G.rg ?_
        refine K.fieldAddr Y (gd0 rfl) rfl t99 rfl rfl ?_
        refine K.load1 Y (gd0 rfl) rfl rfl t3 rfl rfl ?_
        refine K.bin (V := .bool (v2.gen != 0)) (gd0 rfl) rfl rfl (fun _ => rfl) rfl ?_
        refine K.nil ?_
        refine At.next ?_
        refine G.cond rfl (fun h1 => ?_) (fun h1 => ?_)
        ·
          replace H1 := bif_t H1 h1
          refine G.skip ?_
          refine At.next ?_
          refine G.seq ?_
          refine G.block ?_
          refine G.seq ?_
          obtain ⟨x2, hx2, H1⟩ := bnd H1
          refine G.rg ?_
          refine K.move (.inl rfl) (gd0 rfl) rfl rfl ?_
          refine K.loadS Y [_, _] (gd0 rfl) rfl rfl t99 rfl rfl rfl ?_
          refine K.callR [(.func 62, _), ((.tmp 15), _), ((.tmp 16), _)] (Tree_getE_con (k := k) hx2 0 1) (toFn_func (cf 62 rfl) rfl) (gd0 rfl) ⟨rfl, rfl, rfl, trivial⟩ ⟨rfl, rfl, trivial⟩ rfl rfl rfl ?_
          refine K.alloc Y 108 [_, _, _, _, _, _, _, _, _, _] (gd0 rfl) t104 rfl rfl rfl rfl rfl ?_
          refine K.store Y [_, _, _, _, _, _, _, _, _, _] (gd0 rfl) rfl rfl rfl t104 rfl rfl rfl rfl rfl ?_
          refine K.nil ?_
          refine At.next ?_
          refine G.seq ?_
          refine G.seq ?_
          obtain ⟨x3, hx3, H1⟩ := bnd H1
          refine G.rg ?_
          refine K.loadS Y [_, _] (gd0 rfl) rfl rfl t35 rfl rfl rfl ?_
          refine K.mkIface Y (gd0 rfl) rfl (mkI Try.underlying35 rfl) rfl ?_
          refine K.fieldAddr Y (gd0 rfl) rfl t104 rfl rfl ?_
          refine K.loadS Y [_, _] (gd0 rfl) rfl rfl t35 rfl rfl rfl ?_
          refine K.callR [((.tmp 19), _), ((.tmp 21), _)] (Lw07_elem_Compare_con (k := k) hx3) (toFn_invoke (cf 131 rfl) (me35_131) rfl) (gd0 rfl) ⟨rfl, rfl, trivial⟩ trivial rfl rfl rfl ?_
          refine K.bin (V := .bool (decide (x3 ≤ 0))) (gd0 rfl) rfl rfl (fun _ => rfl) rfl ?_
          refine K.nil ?_
          refine At.next ?_
          refine G.cond rfl (fun h2 => ?_) (fun h2 => ?_)
          ·
            replace H1 := bif_t H1 h2
            refine G.seq ?_
            refine G.rg ?_
            refine K.fieldAddr Y (gd0 rfl) rfl t104 rfl rfl ?_
            refine K.loadS Y [_, _] (gd0 rfl) rfl rfl t99 rfl rfl rfl ?_
            refine K.store Y [_, _] (gd0 rfl) rfl rfl rfl t99 rfl rfl rfl rfl rfl ?_
            refine K.nil ?_
            refine At.next ?_
            refine G.exit ?_
            refine At.over_exit ?_
            refine At.block_hit ?_
            refine At.next ?_
            refine G.seq ?_
            refine G.rg ?_
            refine K.loadS Y [_, _] (gd0 rfl) rfl rfl t99 rfl rfl rfl ?_
            refine K.nil ?_
            refine At.next ?_
            refine G.rg ?_
            refine K.alloc Y 109 [_, _] (gd0 rfl) t99 rfl rfl rfl rfl rfl ?_
            refine K.store Y [_, _] (gd0 rfl) rfl rfl rfl t99 rfl rfl rfl rfl rfl ?_
            refine K.nil ?_
            exact At.again (σ := { q : Nat × (Int × TRef) // Tree_Rank.l0 opsE k p1 a1 q.1 q.2 = some x1 }) (Fs := fun q => [(0, .a (.c (.p 0 0))), (3, .a (.c (.p 106 0))), (5, .a (.c (.v (.int .i64 q.1.2.1)))), (6, .a (.c (.p 107 0)))]) (Tl := fun q => [(1, plE 1 p1), (0, blk 0 [.p 1 0, .v (.int .i64 rt0.index), .v (.int .i64 rt0.gen)] 101), (106, blk 106 [.v (.int .i64 a1.k), .v (.int .i64 a1.w)] 35), (107, blk 107 [.v (.int .i64 q.1.2.2.index), .v (.int .i64 q.1.2.2.gen)] 99)]) (μ := fun q => q.1.1) (s := ⟨(n0 + 1, (v1, v2)), HL0⟩) ⟨(n0, (v1, x2.left)), H1⟩ [(107, 109)] [_, _, _, _] (Nat.lt_succ_self _) rfl ⟨rfl, rfl, rfl, rfl, trivial⟩ ⟨rfl, (pl_ren rfl), rfl, (blk_ren rfl rfl), rfl, (blk_ren rfl rfl), rfl, (blk_ren rfl rfl), trivial⟩ rfl
          ·
            replace H1 := bif_f H1 h2
            refine G.skip ?_
            refine At.next ?_
            refine G.seq ?_
            obtain ⟨x4, hx4, H1⟩ := bnd H1
            refine G.rg ?_
            refine K.move (.inl rfl) (gd0 rfl) rfl rfl ?_
            refine K.move (.inl rfl) (gd0 rfl) rfl rfl ?_
            refine K.fieldAddr Y (gd0 rfl) rfl t104 rfl rfl ?_
            refine K.loadS Y [_, _] (gd0 rfl) rfl rfl t99 rfl rfl rfl ?_
            refine K.callR [(.func 67, _), ((.tmp 27), _), ((.tmp 29), _)] (Tree_weightE_con (k := k) hx4 0 1) (toFn_func (cf 67 rfl) rfl) (gd0 rfl) ⟨rfl, rfl, rfl, trivial⟩ ⟨rfl, rfl, trivial⟩ rfl rfl rfl ?_
            refine K.bin (V := .int .i64 (w64 (v1 + x4))) (gd0 rfl) rfl rfl (fun _ => rfl) rfl ?_
            refine K.move (.inr rfl) (gd0 rfl) rfl rfl ?_
            refine K.nil ?_
            refine At.next ?_
            refine G.rg ?_
            refine K.fieldAddr Y (gd0 rfl) rfl t104 rfl rfl ?_
            refine K.loadS Y [_, _] (gd0 rfl) rfl rfl t99 rfl rfl rfl ?_
            refine K.store Y [_, _] (gd0 rfl) rfl rfl rfl t99 rfl rfl rfl rfl rfl ?_
            refine K.nil ?_
            refine At.block_normal ?_
            refine At.next ?_
            refine G.seq ?_
            refine G.rg ?_
            refine K.loadS Y [_, _] (gd0 rfl) rfl rfl t99 rfl rfl rfl ?_
            refine K.nil ?_
            refine At.next ?_
            refine G.rg ?_
            refine K.alloc Y 110 [_, _] (gd0 rfl) t99 rfl rfl rfl rfl rfl ?_
            refine K.store Y [_, _] (gd0 rfl) rfl rfl rfl t99 rfl rfl rfl rfl rfl ?_
            refine K.nil ?_
            exact At.again (σ := { q : Nat × (Int × TRef) // Tree_Rank.l0 opsE k p1 a1 q.1 q.2 = some x1 }) (Fs := fun q => [(0, .a (.c (.p 0 0))), (3, .a (.c (.p 106 0))), (5, .a (.c (.v (.int .i64 q.1.2.1)))), (6, .a (.c (.p 107 0)))]) (Tl := fun q => [(1, plE 1 p1), (0, blk 0 [.p 1 0, .v (.int .i64 rt0.index), .v (.int .i64 rt0.gen)] 101), (106, blk 106 [.v (.int .i64 a1.k), .v (.int .i64 a1.w)] 35), (107, blk 107 [.v (.int .i64 q.1.2.2.index), .v (.int .i64 q.1.2.2.gen)] 99)]) (μ := fun q => q.1.1) (s := ⟨(n0 + 1, (v1, v2)), HL0⟩) ⟨(n0, ((w64 (v1 + x4)), x2.right)), H1⟩ [(107, 110)] [_, _, _, _] (Nat.lt_succ_self _) rfl ⟨rfl, rfl, rfl, rfl, trivial⟩ ⟨rfl, (pl_ren rfl), rfl, (blk_ren rfl rfl), rfl, (blk_ren rfl rfl), rfl, (blk_ren rfl rfl), trivial⟩ rfl
        ·
          replace H1 := bif_f H1 h1
          refine G.exit ?_
          refine At.over_exit ?_
          refine At.over_exit ?_
          refine At.block_hit ?_
          exact At.joined (σ := { v : Int // x1 = v }) (Fs := fun q => [(5, .a (.c (.v (.int .i64 q.1))))]) (Tl := fun q => [(1, plE 1 p1), (0, blk 0 [.p 1 0, .v (.int .i64 rt0.index), .v (.int .i64 rt0.gen)] 101)]) ⟨v1, (Option.some.inj H1).symm⟩ [] [_, _] rfl ⟨rfl, trivial⟩ ⟨rfl, (pl_ren rfl), rfl, (blk_ren rfl rfl), trivial⟩ rfl
  ·
    rintro ⟨_, rfl⟩
    show G _ _ [(5, .a (.c (.v (.int .i64 x1))))] [(1, some (plE 1 p1)), (0, some (blk 0 [.p 1 0, .v (.int .i64 rt0.index), .v (.int .i64 rt0.gen)] 101))] _ _
    refine G.seq ?_
    refine G.rg ?_
    refine K.move (.inl rfl) (gd0 rfl) rfl rfl ?_
    refine K.move (.inr rfl) (gd0 rfl) rfl rfl ?_
    refine K.nil ?_
    refine At.next ?_
    refine G.ret ?_
    refine At.done Y [(.tmp 4, .c _)] rfl ⟨.tmp rfl, trivial⟩ (to' := [(0, _), (1, _)]) ⟨rfl, rfl, trivial⟩ ?_ ?_ rfl rfl rfl (.inl rfl)
    · cases H0; rfl
    · cases H0; rfl
theorem Tree_RankE_con {k : Nat}  {p1 : Pool (TNode TL07Elem TTide)} {rt0 : TRef} {a1 : TL07Elem} {r : Int}  (H0 : Tree_Rank.f opsE k p1 rt0 a1 = some r) (m0 m1 : Nat) : SCon Try.prog 26 [SV.p m0 0, .a (.agg ((eTL07Elem a1).map .v))] [(m0, blk m0 [.p m1 0, .i rt0.index, .i rt0.gen] 101), (m1, plE m1 p1)] (.a (.c (.v (.int .i64 r)))) [(m0, blk m0 [.p m1 0, .i rt0.index, .i rt0.gen] 101), (m1, plE m1 p1)] [] :=
  SCon.ren (rn [(0, m0), (1, m1)]) (Tree_RankE_con0 (k := k)   H0) ⟨(blk_ren rfl rfl), (pl_ren rfl), trivial⟩ ⟨(blk_ren rfl rfl), (pl_ren rfl), trivial⟩ (by simp) (by simp)
theorem Tree_betweenE_con0 {k : Nat}  : ∀ {n : Nat} {p1 : Pool (TNode TL07Elem TTide)} {a1 : TRef} {a2 : Int} {a3 : Int} {ri0 rg0 : Int} {r : TTide}  (H0 : Tree_between.r opsE k n p1 a1 a2 a3 = some r), SCon Try.prog 60 [SV.p 0 0, .a (.agg ((eTRef a1).map .v)), .a (.c (.v (.int .i64 a2))), .a (.c (.v (.int .i64 a3)))] [(0, blk 0 [.p 1 0, .i ri0, .i rg0] 101), (1, plE 1 p1)] (.a (.agg ((eTTide r).map .v))) [(0, blk 0 [.p 1 0, .i ri0, .i rg0] 101), (1, plE 1 p1)] [] := by
  intro n
  induction n with
  | zero => intro p1 a1 a2 a3 ri0 rg0 r H0; exact absurd H0 (by simp [Tree_between.r])
  | succ n ih =>
    intro p1 a1 a2 a3 ri0 rg0 r H0
    rw [Tree_between.r] at H0
    refine spec_of [(0, _), (1, _), (2, _), (3, _)] [(0, _), (1, _)] 85 Try.func60 rfl Try.ntmps60 rfl rfl rfl rfl (fun β W F => ?_)
    refine G.seq ?_
    refine G.rg ?_
    refine K.box Y 100 [_, _] (gd0 rfl) rfl rfl rfl rfl rfl rfl ?_
    refine K.alloc Y 101 [_, _, _] (gd0 rfl) t32 rfl rfl rfl rfl rfl ?_
    refine K.nil ?_
    refine At.next ?_
    refine G.seq ?_
    obtain ⟨x1, hx1, H0⟩ := bnd H0
    refine G.rg ?_
    refine K.move (.inl rfl) (gd0 rfl) rfl rfl ?_
    refine K.loadS Y [_, _] (gd0 rfl) rfl rfl t99 rfl rfl rfl ?_
    refine K.callR [(.func 62, _), ((.tmp 12), _), ((.tmp 13), _)] (Tree_getE_con (k := k) hx1 0 1) (toFn_func (cf 62 rfl) rfl) (gd0 rfl) ⟨rfl, rfl, rfl, trivial⟩ ⟨rfl, rfl, trivial⟩ rfl rfl rfl ?_
    refine K.alloc Y 102 [_, _, _, _, _, _, _, _, _, _] (gd0 rfl) t104 rfl rfl rfl rfl rfl ?_
    refine K.store Y [_, _, _, _, _, _, _, _, _, _] (gd0 rfl) rfl rfl rfl t104 rfl rfl rfl rfl rfl ?_
    refine K.nil ?_
    refine At.next ?_
    refine G.seq ?_
    refine G.rg ?_
    refine K.alloc Y 103 [_, _, _] (gd0 rfl) t32 rfl rfl rfl rfl rfl ?_
    refine K.nil ?_
    refine At.next ?_
    obtain ⟨x2, H1, H0⟩ := bnd H0
    refine G.seqJ (σ := { v : Unit // x2 = Sum.inr v }) (fun q => [(0, .a (.c (.p 0 0))), (2, .a (.c (.v (.int .i64 a2)))), (3, .a (.c (.v (.int .i64 a3)))), (8, .a (.c (.p 104 0))), (9, .a (.c (.p 105 0))), (10, .a (.c (.p 106 0)))]) (fun q => [(1, plE 1 p1), (0, blk 0 [.p 1 0, .v (.int .i64 ri0), .v (.int .i64 rg0)] 101), (104, blk 104 [.v (.int .i64 0), .v (.int .i64 0), .v (.int .i64 0)] 32), (105, blk 105 [.v (.int .i64 x1.e.k), .v (.int .i64 x1.e.w), .v (.int .i64 x1.left.index), .v (.int .i64 x1.left.gen), .v (.int .i64 x1.right.index), .v (.int .i64 x1.right.gen), .v (.int .i64 x1.size), .v (.int .i64 x1.sum.n), .v (.int .i64 x1.sum.sum), .v (.int .i64 x1.sum.low)] 104), (106, blk 106 [.v (.int .i64 0), .v (.int .i64 0), .v (.int .i64 0)] 32)]) ?_ ?_
    ·
      refine G.seq ?_
      rcases Bool.eq_false_or_eq_true (decide (a2 ≥ a3)) with h1 | h1
      ·
        replace H1 := bif_t H1 h1
        refine G.rg ?_
        refine K.move (.inl rfl) (gd0 rfl) rfl rfl ?_
        refine K.move (.inl rfl) (gd0 rfl) rfl rfl ?_
        refine K.bin (V := .bool (decide (a2 ≥ a3))) (gd0 rfl) rfl rfl (fun _ => rfl) rfl ?_
        refine K.move (.inl rfl) (gd0 rfl) rfl rfl ?_
        refine K.skip rfl rfl rfl rfl (h1) rfl ?_
        refine K.skip rfl rfl rfl rfl (h1) rfl ?_
        refine K.skip rfl rfl rfl rfl (h1) rfl ?_
        refine K.skip rfl rfl rfl rfl (h1) rfl ?_
        refine K.pickT (gd0 rfl) rfl (h1) rfl rfl ?_
        refine K.move (.inl rfl) (gd0 rfl) rfl rfl ?_
        refine K.skip rfl rfl rfl rfl (rfl) rfl ?_
        refine K.skip rfl rfl rfl rfl (rfl) rfl ?_
        refine K.pickT (gd0 rfl) rfl (rfl) rfl rfl ?_
        refine K.move (.inl rfl) (gd0 rfl) rfl rfl ?_
        refine K.skip rfl rfl rfl rfl (rfl) rfl ?_
        refine K.skip rfl rfl rfl rfl (rfl) rfl ?_
        refine K.skip rfl rfl rfl rfl (rfl) rfl ?_
        refine K.pickT (gd0 rfl) rfl (rfl) rfl rfl ?_
        refine K.nil ?_
        refine At.next ?_
        refine G.cond rfl (fun h2 => ?_) (fun h2 => ?_)
        ·
          refine G.seq ?_
          refine G.rg ?_
          refine K.loadS Y [_, _, _] (gd0 rfl) rfl rfl t32 rfl rfl rfl ?_
          refine K.store Y [_, _, _] (gd0 rfl) rfl rfl rfl t32 rfl rfl rfl rfl rfl ?_
          refine K.nil ?_
          refine At.next ?_
          refine G.ret ?_
          refine At.over_ret ?_
          cases H1
          replace H0 := sum_l H0
          refine At.done Y [(.cell 8 32, .agg [_, _, _])] rfl ⟨.st rfl rfl t32 rfl rfl, trivial⟩ (to' := [(0, _), (1, _)]) ⟨rfl, rfl, trivial⟩ ?_ ?_ rfl rfl rfl (.inl rfl)
          · cases H0; rfl
          · cases H0; rfl
        · cases h2
      ·
        replace H1 := bif_f H1 h1
        rcases Bool.eq_false_or_eq_true (decide (a2 ≥ x1.size)) with h3 | h3
        ·
          replace H1 := bif_t H1 h3
          refine G.rg ?_
          refine K.move (.inl rfl) (gd0 rfl) rfl rfl ?_
          refine K.move (.inl rfl) (gd0 rfl) rfl rfl ?_
          refine K.bin (V := .bool (decide (a2 ≥ a3))) (gd0 rfl) rfl rfl (fun _ => rfl) rfl ?_
          refine K.move (.inl rfl) (gd0 rfl) rfl rfl ?_
          refine K.move (.inl rfl) (gd1 rfl rfl rfl (h1)) rfl rfl ?_
          refine K.fieldAddr Y (gd1 rfl rfl rfl (h1)) rfl t104 rfl rfl ?_
          refine K.load1 Y (gd1 rfl rfl rfl (h1)) rfl rfl t3 rfl rfl ?_
          refine K.bin (V := .bool (decide (a2 ≥ x1.size))) (gd1 rfl rfl rfl (h1)) rfl rfl (fun _ => rfl) rfl ?_
          refine K.pickF (gd0 rfl) rfl (h1) rfl rfl ?_
          refine K.move (.inl rfl) (gd0 rfl) rfl rfl ?_
          refine K.skip rfl rfl rfl rfl (h3) rfl ?_
          refine K.skip rfl rfl rfl rfl (h3) rfl ?_
          refine K.pickT (gd0 rfl) rfl (h3) rfl rfl ?_
          refine K.move (.inl rfl) (gd0 rfl) rfl rfl ?_
          refine K.skip rfl rfl rfl rfl (rfl) rfl ?_
          refine K.skip rfl rfl rfl rfl (rfl) rfl ?_
          refine K.skip rfl rfl rfl rfl (rfl) rfl ?_
          refine K.pickT (gd0 rfl) rfl (rfl) rfl rfl ?_
          refine K.nil ?_
          refine At.next ?_
          refine G.cond rfl (fun h4 => ?_) (fun h4 => ?_)
          ·
            refine G.seq ?_
            refine G.rg ?_
            refine K.loadS Y [_, _, _] (gd0 rfl) rfl rfl t32 rfl rfl rfl ?_
            refine K.store Y [_, _, _] (gd0 rfl) rfl rfl rfl t32 rfl rfl rfl rfl rfl ?_
            refine K.nil ?_
            refine At.next ?_
            refine G.ret ?_
            refine At.over_ret ?_
            cases H1
            replace H0 := sum_l H0
            refine At.done Y [(.cell 8 32, .agg [_, _, _])] rfl ⟨.st rfl rfl t32 rfl rfl, trivial⟩ (to' := [(0, _), (1, _)]) ⟨rfl, rfl, trivial⟩ ?_ ?_ rfl rfl rfl (.inl rfl)
            · cases H0; rfl
            · cases H0; rfl
          · cases h4
        ·
          replace H1 := bif_f H1 h3
          rcases Bool.eq_false_or_eq_true (decide (a3 ≤ 0)) with h5 | h5
          ·
            replace H1 := bif_t H1 h5
            refine G.rg ?_
            refine K.move (.inl rfl) (gd0 rfl) rfl rfl ?_
            refine K.move (.inl rfl) (gd0 rfl) rfl rfl ?_
            refine K.bin (V := .bool (decide (a2 ≥ a3))) (gd0 rfl) rfl rfl (fun _ => rfl) rfl ?_
            refine K.move (.inl rfl) (gd0 rfl) rfl rfl ?_
            refine K.move (.inl rfl) (gd1 rfl rfl rfl (h1)) rfl rfl ?_
            refine K.fieldAddr Y (gd1 rfl rfl rfl (h1)) rfl t104 rfl rfl ?_
            refine K.load1 Y (gd1 rfl rfl rfl (h1)) rfl rfl t3 rfl rfl ?_
            refine K.bin (V := .bool (decide (a2 ≥ x1.size))) (gd1 rfl rfl rfl (h1)) rfl rfl (fun _ => rfl) rfl ?_
            refine K.pickF (gd0 rfl) rfl (h1) rfl rfl ?_
            refine K.move (.inl rfl) (gd0 rfl) rfl rfl ?_
            refine K.move (.inl rfl) (gd1 rfl rfl rfl (h3)) rfl rfl ?_
            refine K.bin (V := .bool (decide (a3 ≤ 0))) (gd1 rfl rfl rfl (h3)) rfl rfl (fun _ => rfl) rfl ?_
            refine K.pickF (gd0 rfl) rfl (h3) rfl rfl ?_
            refine K.move (.inl rfl) (gd0 rfl) rfl rfl ?_
            refine K.skip rfl rfl rfl rfl (h5) rfl ?_
            refine K.skip rfl rfl rfl rfl (h5) rfl ?_
            refine K.skip rfl rfl rfl rfl (h5) rfl ?_
            refine K.pickT (gd0 rfl) rfl (h5) rfl rfl ?_
            refine K.nil ?_
            refine At.next ?_
            refine G.cond rfl (fun h6 => ?_) (fun h6 => ?_)
            ·
              refine G.seq ?_
              refine G.rg ?_
              refine K.loadS Y [_, _, _] (gd0 rfl) rfl rfl t32 rfl rfl rfl ?_
              refine K.store Y [_, _, _] (gd0 rfl) rfl rfl rfl t32 rfl rfl rfl rfl rfl ?_
              refine K.nil ?_
              refine At.next ?_
              refine G.ret ?_
              refine At.over_ret ?_
              cases H1
              replace H0 := sum_l H0
              refine At.done Y [(.cell 8 32, .agg [_, _, _])] rfl ⟨.st rfl rfl t32 rfl rfl, trivial⟩ (to' := [(0, _), (1, _)]) ⟨rfl, rfl, trivial⟩ ?_ ?_ rfl rfl rfl (.inl rfl)
              · cases H0; rfl
              · cases H0; rfl
            · cases h6
          ·
            replace H1 := bif_f H1 h5
            refine G.rg ?_
            refine K.move (.inl rfl) (gd0 rfl) rfl rfl ?_
            refine K.move (.inl rfl) (gd0 rfl) rfl rfl ?_
            refine K.bin (V := .bool (decide (a2 ≥ a3))) (gd0 rfl) rfl rfl (fun _ => rfl) rfl ?_
            refine K.move (.inl rfl) (gd0 rfl) rfl rfl ?_
            refine K.move (.inl rfl) (gd1 rfl rfl rfl (h1)) rfl rfl ?_
            refine K.fieldAddr Y (gd1 rfl rfl rfl (h1)) rfl t104 rfl rfl ?_
            refine K.load1 Y (gd1 rfl rfl rfl (h1)) rfl rfl t3 rfl rfl ?_
            refine K.bin (V := .bool (decide (a2 ≥ x1.size))) (gd1 rfl rfl rfl (h1)) rfl rfl (fun _ => rfl) rfl ?_
            refine K.pickF (gd0 rfl) rfl (h1) rfl rfl ?_
            refine K.move (.inl rfl) (gd0 rfl) rfl rfl ?_
            refine K.move (.inl rfl) (gd1 rfl rfl rfl (h3)) rfl rfl ?_
            refine K.bin (V := .bool (decide (a3 ≤ 0))) (gd1 rfl rfl rfl (h3)) rfl rfl (fun _ => rfl) rfl ?_
            refine K.pickF (gd0 rfl) rfl (h3) rfl rfl ?_
            refine K.move (.inl rfl) (gd0 rfl) rfl rfl ?_
            refine K.fieldAddr Y (gd1 rfl rfl rfl (h5)) rfl t104 rfl rfl ?_
            refine K.load1 Y (gd1 rfl rfl rfl (h5)) rfl rfl t3 rfl rfl ?_
            refine K.bin (V := .bool (x1.size == 0)) (gd1 rfl rfl rfl (h5)) rfl rfl (fun _ => rfl) rfl ?_
            refine K.pickF (gd0 rfl) rfl (h5) rfl rfl ?_
            refine K.nil ?_
            refine At.next ?_
            refine G.cond rfl (fun h7 => ?_) (fun h7 => ?_)
            ·
              replace H1 := bif_t H1 h7
              refine G.seq ?_
              refine G.rg ?_
              refine K.loadS Y [_, _, _] (gd0 rfl) rfl rfl t32 rfl rfl rfl ?_
              refine K.store Y [_, _, _] (gd0 rfl) rfl rfl rfl t32 rfl rfl rfl rfl rfl ?_
              refine K.nil ?_
              refine At.next ?_
              refine G.ret ?_
              refine At.over_ret ?_
              cases H1
              replace H0 := sum_l H0
              refine At.done Y [(.cell 8 32, .agg [_, _, _])] rfl ⟨.st rfl rfl t32 rfl rfl, trivial⟩ (to' := [(0, _), (1, _)]) ⟨rfl, rfl, trivial⟩ ?_ ?_ rfl rfl rfl (.inl rfl)
              · cases H0; rfl
              · cases H0; rfl
            ·
              replace H1 := bif_f H1 h7
              refine G.skip ?_
              exact At.joined (σ := { v : Unit // x2 = Sum.inr v }) (Fs := fun q => [(0, .a (.c (.p 0 0))), (2, .a (.c (.v (.int .i64 a2)))), (3, .a (.c (.v (.int .i64 a3)))), (8, .a (.c (.p 104 0))), (9, .a (.c (.p 105 0))), (10, .a (.c (.p 106 0)))]) (Tl := fun q => [(1, plE 1 p1), (0, blk 0 [.p 1 0, .v (.int .i64 ri0), .v (.int .i64 rg0)] 101), (104, blk 104 [.v (.int .i64 0), .v (.int .i64 0), .v (.int .i64 0)] 32), (105, blk 105 [.v (.int .i64 x1.e.k), .v (.int .i64 x1.e.w), .v (.int .i64 x1.left.index), .v (.int .i64 x1.left.gen), .v (.int .i64 x1.right.index), .v (.int .i64 x1.right.gen), .v (.int .i64 x1.size), .v (.int .i64 x1.sum.n), .v (.int .i64 x1.sum.sum), .v (.int .i64 x1.sum.low)] 104), (106, blk 106 [.v (.int .i64 0), .v (.int .i64 0), .v (.int .i64 0)] 32)]) ⟨(), (Option.some.inj H1).symm⟩ [(104, 101), (105, 102), (106, 103)] [_, _, _, _, _] rfl ⟨rfl, rfl, rfl, rfl, rfl, rfl, trivial⟩ ⟨rfl, (pl_ren rfl), rfl, (blk_ren rfl rfl), rfl, (blk_ren rfl rfl), rfl, (blk_ren rfl rfl), rfl, (blk_ren rfl rfl), trivial⟩ rfl
    ·
      rintro ⟨v2, rfl⟩
      replace H0 := sum_r H0
      show G _ _ [(0, .a (.c (.p 0 0))), (2, .a (.c (.v (.int .i64 a2)))), (3, .a (.c (.v (.int .i64 a3)))), (8, .a (.c (.p 104 0))), (9, .a (.c (.p 105 0))), (10, .a (.c (.p 106 0)))] [(1, some (plE 1 p1)), (0, some (blk 0 [.p 1 0, .v (.int .i64 ri0), .v (.int .i64 rg0)] 101)), (104, some (blk 104 [.v (.int .i64 0), .v (.int .i64 0), .v (.int .i64 0)] 32)), (105, some (blk 105 [.v (.int .i64 x1.e.k), .v (.int .i64 x1.e.w), .v (.int .i64 x1.left.index), .v (.int .i64 x1.left.gen), .v (.int .i64 x1.right.index), .v (.int .i64 x1.right.gen), .v (.int .i64 x1.size), .v (.int .i64 x1.sum.n), .v (.int .i64 x1.sum.sum), .v (.int .i64 x1.sum.low)] 104)), (106, some (blk 106 [.v (.int .i64 0), .v (.int .i64 0), .v (.int .i64 0)] 32))] _ _
      obtain ⟨x3, H1, H0⟩ := bnd H0
      refine G.seqJ (σ := { v : Unit // x3 = Sum.inr v }) (fun q => [(0, .a (.c (.p 0 0))), (2, .a (.c (.v (.int .i64 a2)))), (3, .a (.c (.v (.int .i64 a3)))), (8, .a (.c (.p 107 0))), (9, .a (.c (.p 108 0))), (10, .a (.c (.p 109 0)))]) (fun q => [(1, plE 1 p1), (0, blk 0 [.p 1 0, .v (.int .i64 ri0), .v (.int .i64 rg0)] 101), (107, blk 107 [.v (.int .i64 0), .v (.int .i64 0), .v (.int .i64 0)] 32), (108, blk 108 [.v (.int .i64 x1.e.k), .v (.int .i64 x1.e.w), .v (.int .i64 x1.left.index), .v (.int .i64 x1.left.gen), .v (.int .i64 x1.right.index), .v (.int .i64 x1.right.gen), .v (.int .i64 x1.size), .v (.int .i64 x1.sum.n), .v (.int .i64 x1.sum.sum), .v (.int .i64 x1.sum.low)] 104), (109, blk 109 [.v (.int .i64 0), .v (.int .i64 0), .v (.int .i64 0)] 32)]) ?_ ?_
      ·
        refine G.seq ?_
        rcases Bool.eq_false_or_eq_true (decide (a2 ≤ 0)) with h8 | h8
        ·
          replace H1 := bif_t H1 h8
          refine G.rg ?_
          refine K.move (.inl rfl) (gd0 rfl) rfl rfl ?_
          refine K.bin (V := .bool (decide (a2 ≤ 0))) (gd0 rfl) rfl rfl (fun _ => rfl) rfl ?_
          refine K.move (.inl rfl) (gd0 rfl) rfl rfl ?_
          refine K.move (.inl rfl) (gd1 rfl rfl rfl (h8)) rfl rfl ?_
          refine K.fieldAddr Y (gd1 rfl rfl rfl (h8)) rfl t104 rfl rfl ?_
          refine K.load1 Y (gd1 rfl rfl rfl (h8)) rfl rfl t3 rfl rfl ?_
          refine K.bin (V := .bool (decide (a3 ≥ x1.size))) (gd1 rfl rfl rfl (h8)) rfl rfl (fun _ => rfl) rfl ?_
          refine K.pickT (gd0 rfl) rfl (h8) rfl rfl ?_
          refine K.nil ?_
          refine At.next ?_
          refine G.cond rfl (fun h9 => ?_) (fun h9 => ?_)
          ·
            replace H1 := bif_t H1 h9
            refine G.seq ?_
            refine G.rg ?_
            refine K.fieldAddr Y (gd0 rfl) rfl t104 rfl rfl ?_
            refine K.loadS Y [_, _, _] (gd0 rfl) rfl rfl t32 rfl rfl rfl ?_
            refine K.store Y [_, _, _] (gd0 rfl) rfl rfl rfl t32 rfl rfl rfl rfl rfl ?_
            refine K.nil ?_
            refine At.next ?_
            refine G.ret ?_
            refine At.over_ret ?_
            cases H1
            replace H0 := sum_l H0
            refine At.done Y [(.cell 8 32, .agg [_, _, _])] rfl ⟨.st rfl rfl t32 rfl rfl, trivial⟩ (to' := [(0, _), (1, _)]) ⟨rfl, rfl, trivial⟩ ?_ ?_ rfl rfl rfl (.inl rfl)
            · cases H0; rfl
            · cases H0; rfl
          ·
            replace H1 := bif_f H1 h9
            refine G.skip ?_
            exact At.joined (σ := { v : Unit // x3 = Sum.inr v }) (Fs := fun q => [(0, .a (.c (.p 0 0))), (2, .a (.c (.v (.int .i64 a2)))), (3, .a (.c (.v (.int .i64 a3)))), (8, .a (.c (.p 107 0))), (9, .a (.c (.p 108 0))), (10, .a (.c (.p 109 0)))]) (Tl := fun q => [(1, plE 1 p1), (0, blk 0 [.p 1 0, .v (.int .i64 ri0), .v (.int .i64 rg0)] 101), (107, blk 107 [.v (.int .i64 0), .v (.int .i64 0), .v (.int .i64 0)] 32), (108, blk 108 [.v (.int .i64 x1.e.k), .v (.int .i64 x1.e.w), .v (.int .i64 x1.left.index), .v (.int .i64 x1.left.gen), .v (.int .i64 x1.right.index), .v (.int .i64 x1.right.gen), .v (.int .i64 x1.size), .v (.int .i64 x1.sum.n), .v (.int .i64 x1.sum.sum), .v (.int .i64 x1.sum.low)] 104), (109, blk 109 [.v (.int .i64 0), .v (.int .i64 0), .v (.int .i64 0)] 32)]) ⟨(), (Option.some.inj H1).symm⟩ [(107, 104), (108, 105), (109, 106)] [_, _, _, _, _] rfl ⟨rfl, rfl, rfl, rfl, rfl, rfl, trivial⟩ ⟨rfl, (pl_ren rfl), rfl, (blk_ren rfl rfl), rfl, (blk_ren rfl rfl), rfl, (blk_ren rfl rfl), rfl, (blk_ren rfl rfl), trivial⟩ rfl
        ·
          replace H1 := bif_f H1 h8
          refine G.rg ?_
          refine K.move (.inl rfl) (gd0 rfl) rfl rfl ?_
          refine K.bin (V := .bool (decide (a2 ≤ 0))) (gd0 rfl) rfl rfl (fun _ => rfl) rfl ?_
          refine K.move (.inl rfl) (gd0 rfl) rfl rfl ?_
          refine K.skip rfl rfl rfl rfl (h8) rfl ?_
          refine K.skip rfl rfl rfl rfl (h8) rfl ?_
          refine K.skip rfl rfl rfl rfl (h8) rfl ?_
          refine K.skip rfl rfl rfl rfl (h8) rfl ?_
          refine K.pickF (gd0 rfl) rfl (h8) rfl rfl ?_
          refine K.nil ?_
          refine At.next ?_
          refine G.cond rfl (fun h10 => ?_) (fun h10 => ?_)
          · cases h10
          ·
            refine G.skip ?_
            exact At.joined (σ := { v : Unit // x3 = Sum.inr v }) (Fs := fun q => [(0, .a (.c (.p 0 0))), (2, .a (.c (.v (.int .i64 a2)))), (3, .a (.c (.v (.int .i64 a3)))), (8, .a (.c (.p 107 0))), (9, .a (.c (.p 108 0))), (10, .a (.c (.p 109 0)))]) (Tl := fun q => [(1, plE 1 p1), (0, blk 0 [.p 1 0, .v (.int .i64 ri0), .v (.int .i64 rg0)] 101), (107, blk 107 [.v (.int .i64 0), .v (.int .i64 0), .v (.int .i64 0)] 32), (108, blk 108 [.v (.int .i64 x1.e.k), .v (.int .i64 x1.e.w), .v (.int .i64 x1.left.index), .v (.int .i64 x1.left.gen), .v (.int .i64 x1.right.index), .v (.int .i64 x1.right.gen), .v (.int .i64 x1.size), .v (.int .i64 x1.sum.n), .v (.int .i64 x1.sum.sum), .v (.int .i64 x1.sum.low)] 104), (109, blk 109 [.v (.int .i64 0), .v (.int .i64 0), .v (.int .i64 0)] 32)]) ⟨(), (Option.some.inj H1).symm⟩ [(107, 104), (108, 105), (109, 106)] [_, _, _, _, _] rfl ⟨rfl, rfl, rfl, rfl, rfl, rfl, trivial⟩ ⟨rfl, (pl_ren rfl), rfl, (blk_ren rfl rfl), rfl, (blk_ren rfl rfl), rfl, (blk_ren rfl rfl), rfl, (blk_ren rfl rfl), trivial⟩ rfl
      ·
        rintro ⟨v3, rfl⟩
        replace H0 := sum_r H0
        show G _ _ [(0, .a (.c (.p 0 0))), (2, .a (.c (.v (.int .i64 a2)))), (3, .a (.c (.v (.int .i64 a3)))), (8, .a (.c (.p 107 0))), (9, .a (.c (.p 108 0))), (10, .a (.c (.p 109 0)))] [(1, some (plE 1 p1)), (0, some (blk 0 [.p 1 0, .v (.int .i64 ri0), .v (.int .i64 rg0)] 101)), (107, some (blk 107 [.v (.int .i64 0), .v (.int .i64 0), .v (.int .i64 0)] 32)), (108, some (blk 108 [.v (.int .i64 x1.e.k), .v (.int .i64 x1.e.w), .v (.int .i64 x1.left.index), .v (.int .i64 x1.left.gen), .v (.int .i64 x1.right.index), .v (.int .i64 x1.right.gen), .v (.int .i64 x1.size), .v (.int .i64 x1.sum.n), .v (.int .i64 x1.sum.sum), .v (.int .i64 x1.sum.low)] 104)), (109, some (blk 109 [.v (.int .i64 0), .v (.int .i64 0), .v (.int .i64 0)] 32))] _ _
        refine G.seq ?_
        obtain ⟨x4, hx4, H0⟩ := bnd H0
        refine G.rg ?_
        refine K.move (.inl rfl) (gd0 rfl) rfl rfl ?_
        refine K.fieldAddr Y (gd0 rfl) rfl t104 rfl rfl ?_
        refine K.loadS Y [_, _] (gd0 rfl) rfl rfl t99 rfl rfl rfl ?_
        refine K.callR [(.func 62, _), ((.tmp 44), _), ((.tmp 46), _)] (Tree_getE_con (k := k) hx4 0 1) (toFn_func (cf 62 rfl) rfl) (gd0 rfl) ⟨rfl, rfl, rfl, trivial⟩ ⟨rfl, rfl, trivial⟩ rfl rfl rfl ?_
        refine K.field1 Y (gd0 rfl) rfl t104 rfl t3 rfl rfl ?_
        refine K.move (.inr rfl) (gd0 rfl) rfl rfl ?_
        refine K.nil ?_
        refine At.next ?_
        refine G.seq ?_
        obtain ⟨x5, hx5, H0⟩ := bnd H0
        refine G.rg ?_
        refine K.move (.inl rfl) (gd0 rfl) rfl rfl ?_
        refine K.fieldAddr Y (gd0 rfl) rfl t104 rfl rfl ?_
        refine K.loadS Y [_, _] (gd0 rfl) rfl rfl t99 rfl rfl rfl ?_
        refine K.move (.inl rfl) (gd0 rfl) rfl rfl ?_
        refine K.move (.inl rfl) (gd0 rfl) rfl rfl ?_
        refine K.callR [(.func 60, _), ((.tmp 49), _), ((.tmp 51), _), ((.tmp 52), _), ((.tmp 53), _)] (ih hx5) (toFn_func (cf 60 rfl) rfl) (gd0 rfl) ⟨rfl, rfl, rfl, rfl, rfl, trivial⟩ ⟨rfl, rfl, trivial⟩ rfl rfl rfl ?_
        refine K.store Y [_, _, _] (gd0 rfl) rfl rfl rfl t32 rfl rfl rfl rfl rfl ?_
        refine K.nil ?_
        refine At.next ?_
        obtain ⟨x6, H1, H0⟩ := bnd H0
        refine G.seqJ (σ := { v : TTide // x6 = v }) (fun q => [(0, .a (.c (.p 0 0))), (2, .a (.c (.v (.int .i64 a2)))), (3, .a (.c (.v (.int .i64 a3)))), (8, .a (.c (.p 110 0))), (9, .a (.c (.p 111 0))), (10, .a (.c (.p 112 0))), (11, .a (.c (.v (.int .i64 x4.size))))]) (fun q => [(1, plE 1 p1), (0, blk 0 [.p 1 0, .v (.int .i64 ri0), .v (.int .i64 rg0)] 101), (110, blk 110 [.v (.int .i64 0), .v (.int .i64 0), .v (.int .i64 0)] 32), (111, blk 111 [.v (.int .i64 x1.e.k), .v (.int .i64 x1.e.w), .v (.int .i64 x1.left.index), .v (.int .i64 x1.left.gen), .v (.int .i64 x1.right.index), .v (.int .i64 x1.right.gen), .v (.int .i64 x1.size), .v (.int .i64 x1.sum.n), .v (.int .i64 x1.sum.sum), .v (.int .i64 x1.sum.low)] 104), (112, blk 112 [.v (.int .i64 q.1.n), .v (.int .i64 q.1.sum), .v (.int .i64 q.1.low)] 32)]) ?_ ?_
        ·
          refine G.seq ?_
          rcases Bool.eq_false_or_eq_true (decide (a2 ≤ x4.size)) with h11 | h11
          ·
            replace H1 := bif_t H1 h11
            refine G.rg ?_
            refine K.move (.inl rfl) (gd0 rfl) rfl rfl ?_
            refine K.move (.inl rfl) (gd0 rfl) rfl rfl ?_
            refine K.bin (V := .bool (decide (a2 ≤ x4.size))) (gd0 rfl) rfl rfl (fun _ => rfl) rfl ?_
            refine K.move (.inl rfl) (gd0 rfl) rfl rfl ?_
            refine K.move (.inl rfl) (gd1 rfl rfl rfl (h11)) rfl rfl ?_
            refine K.move (.inl rfl) (gd1 rfl rfl rfl (h11)) rfl rfl ?_
            refine K.bin (V := .bool (decide (a3 > x4.size))) (gd1 rfl rfl rfl (h11)) rfl rfl (fun _ => rfl) rfl ?_
            refine K.pickT (gd0 rfl) rfl (h11) rfl rfl ?_
            refine K.nil ?_
            refine At.next ?_
            refine G.cond rfl (fun h12 => ?_) (fun h12 => ?_)
            ·
              replace H1 := bif_t H1 h12
              obtain ⟨x7, hx7, H1⟩ := bnd H1
              obtain ⟨x8, hx8, H1⟩ := bnd H1
              refine G.rd mixed ?_
              refine K.loadS Y [_, _, _] (gd0 rfl) rfl rfl t32 rfl rfl rfl ?_
              refine K.mkIface Y (gd0 rfl) rfl (mkI Try.underlying32 rfl) rfl ?_
              refine K.fieldAddr Y (gd0 rfl) rfl t104 rfl rfl ?_
              refine K.loadS Y [_, _] (gd0 rfl) rfl rfl t35 rfl rfl rfl ?_
              refine K.mkIface Y (gd0 rfl) rfl (mkI Try.underlying35 rfl) rfl ?_
              refine K.callR [((.tmp 67), _)] (Lw07_elem_Sum_con (k := k) hx7) (toFn_invoke (cf 132 rfl) (me35_132) rfl) (gd0 rfl) ⟨rfl, trivial⟩ trivial rfl rfl rfl ?_
              refine K.callR [((.tmp 64), _), ((.tmp 68), _)] (tide_Tide_Plus_con (k := k) hx8) (toFn_invoke (cf 130 rfl) (me32_130) rfl) (gd0 rfl) ⟨rfl, rfl, trivial⟩ trivial rfl rfl rfl ?_
              refine K.store Y [_, _, _] (gd0 rfl) rfl rfl rfl t32 rfl rfl rfl rfl rfl ?_
              refine K.nil ?_
              refine ⟨by kernel_rfl, ?_⟩
              exact At.joined (σ := { v : TTide // x6 = v }) (Fs := fun q => [(0, .a (.c (.p 0 0))), (2, .a (.c (.v (.int .i64 a2)))), (3, .a (.c (.v (.int .i64 a3)))), (8, .a (.c (.p 110 0))), (9, .a (.c (.p 111 0))), (10, .a (.c (.p 112 0))), (11, .a (.c (.v (.int .i64 x4.size))))]) (Tl := fun q => [(1, plE 1 p1), (0, blk 0 [.p 1 0, .v (.int .i64 ri0), .v (.int .i64 rg0)] 101), (110, blk 110 [.v (.int .i64 0), .v (.int .i64 0), .v (.int .i64 0)] 32), (111, blk 111 [.v (.int .i64 x1.e.k), .v (.int .i64 x1.e.w), .v (.int .i64 x1.left.index), .v (.int .i64 x1.left.gen), .v (.int .i64 x1.right.index), .v (.int .i64 x1.right.gen), .v (.int .i64 x1.size), .v (.int .i64 x1.sum.n), .v (.int .i64 x1.sum.sum), .v (.int .i64 x1.sum.low)] 104), (112, blk 112 [.v (.int .i64 q.1.n), .v (.int .i64 q.1.sum), .v (.int .i64 q.1.low)] 32)]) ⟨x8, (Option.some.inj H1).symm⟩ [(110, 107), (111, 108), (112, 109)] [_, _, _, _, _] rfl ⟨rfl, rfl, rfl, rfl, rfl, rfl, rfl, trivial⟩ ⟨rfl, (pl_ren rfl), rfl, (blk_ren rfl rfl), rfl, (blk_ren rfl rfl), rfl, (blk_ren rfl rfl), rfl, (blk_ren rfl rfl), trivial⟩ rfl
            ·
              replace H1 := bif_f H1 h12
              refine G.skip ?_
              exact At.joined (σ := { v : TTide // x6 = v }) (Fs := fun q => [(0, .a (.c (.p 0 0))), (2, .a (.c (.v (.int .i64 a2)))), (3, .a (.c (.v (.int .i64 a3)))), (8, .a (.c (.p 110 0))), (9, .a (.c (.p 111 0))), (10, .a (.c (.p 112 0))), (11, .a (.c (.v (.int .i64 x4.size))))]) (Tl := fun q => [(1, plE 1 p1), (0, blk 0 [.p 1 0, .v (.int .i64 ri0), .v (.int .i64 rg0)] 101), (110, blk 110 [.v (.int .i64 0), .v (.int .i64 0), .v (.int .i64 0)] 32), (111, blk 111 [.v (.int .i64 x1.e.k), .v (.int .i64 x1.e.w), .v (.int .i64 x1.left.index), .v (.int .i64 x1.left.gen), .v (.int .i64 x1.right.index), .v (.int .i64 x1.right.gen), .v (.int .i64 x1.size), .v (.int .i64 x1.sum.n), .v (.int .i64 x1.sum.sum), .v (.int .i64 x1.sum.low)] 104), (112, blk 112 [.v (.int .i64 q.1.n), .v (.int .i64 q.1.sum), .v (.int .i64 q.1.low)] 32)]) ⟨x5, (Option.some.inj H1).symm⟩ [(110, 107), (111, 108), (112, 109)] [_, _, _, _, _] rfl ⟨rfl, rfl, rfl, rfl, rfl, rfl, rfl, trivial⟩ ⟨rfl, (pl_ren rfl), rfl, (blk_ren rfl rfl), rfl, (blk_ren rfl rfl), rfl, (blk_ren rfl rfl), rfl, (blk_ren rfl rfl), trivial⟩ rfl
          ·
            replace H1 := bif_f H1 h11
            refine G.rg ?_
            refine K.move (.inl rfl) (gd0 rfl) rfl rfl ?_
            refine K.move (.inl rfl) (gd0 rfl) rfl rfl ?_
            refine K.bin (V := .bool (decide (a2 ≤ x4.size))) (gd0 rfl) rfl rfl (fun _ => rfl) rfl ?_
            refine K.move (.inl rfl) (gd0 rfl) rfl rfl ?_
            refine K.skip rfl rfl rfl rfl (h11) rfl ?_
            refine K.skip rfl rfl rfl rfl (h11) rfl ?_
            refine K.skip rfl rfl rfl rfl (h11) rfl ?_
            refine K.pickF (gd0 rfl) rfl (h11) rfl rfl ?_
            refine K.nil ?_
            refine At.next ?_
            refine G.cond rfl (fun h13 => ?_) (fun h13 => ?_)
            · cases h13
            ·
              refine G.skip ?_
              exact At.joined (σ := { v : TTide // x6 = v }) (Fs := fun q => [(0, .a (.c (.p 0 0))), (2, .a (.c (.v (.int .i64 a2)))), (3, .a (.c (.v (.int .i64 a3)))), (8, .a (.c (.p 110 0))), (9, .a (.c (.p 111 0))), (10, .a (.c (.p 112 0))), (11, .a (.c (.v (.int .i64 x4.size))))]) (Tl := fun q => [(1, plE 1 p1), (0, blk 0 [.p 1 0, .v (.int .i64 ri0), .v (.int .i64 rg0)] 101), (110, blk 110 [.v (.int .i64 0), .v (.int .i64 0), .v (.int .i64 0)] 32), (111, blk 111 [.v (.int .i64 x1.e.k), .v (.int .i64 x1.e.w), .v (.int .i64 x1.left.index), .v (.int .i64 x1.left.gen), .v (.int .i64 x1.right.index), .v (.int .i64 x1.right.gen), .v (.int .i64 x1.size), .v (.int .i64 x1.sum.n), .v (.int .i64 x1.sum.sum), .v (.int .i64 x1.sum.low)] 104), (112, blk 112 [.v (.int .i64 q.1.n), .v (.int .i64 q.1.sum), .v (.int .i64 q.1.low)] 32)]) ⟨x5, (Option.some.inj H1).symm⟩ [(110, 107), (111, 108), (112, 109)] [_, _, _, _, _] rfl ⟨rfl, rfl, rfl, rfl, rfl, rfl, rfl, trivial⟩ ⟨rfl, (pl_ren rfl), rfl, (blk_ren rfl rfl), rfl, (blk_ren rfl rfl), rfl, (blk_ren rfl rfl), rfl, (blk_ren rfl rfl), trivial⟩ rfl
        ·
          rintro ⟨_, rfl⟩
          show G _ _ [(0, .a (.c (.p 0 0))), (2, .a (.c (.v (.int .i64 a2)))), (3, .a (.c (.v (.int .i64 a3)))), (8, .a (.c (.p 110 0))), (9, .a (.c (.p 111 0))), (10, .a (.c (.p 112 0))), (11, .a (.c (.v (.int .i64 x4.size))))] [(1, some (plE 1 p1)), (0, some (blk 0 [.p 1 0, .v (.int .i64 ri0), .v (.int .i64 rg0)] 101)), (110, some (blk 110 [.v (.int .i64 0), .v (.int .i64 0), .v (.int .i64 0)] 32)), (111, some (blk 111 [.v (.int .i64 x1.e.k), .v (.int .i64 x1.e.w), .v (.int .i64 x1.left.index), .v (.int .i64 x1.left.gen), .v (.int .i64 x1.right.index), .v (.int .i64 x1.right.gen), .v (.int .i64 x1.size), .v (.int .i64 x1.sum.n), .v (.int .i64 x1.sum.sum), .v (.int .i64 x1.sum.low)] 104)), (112, some (blk 112 [.v (.int .i64 x6.n), .v (.int .i64 x6.sum), .v (.int .i64 x6.low)] 32))] _ _
          refine G.seq ?_
          obtain ⟨x9, hx9, H0⟩ := bnd H0
          obtain ⟨x10, hx10, H0⟩ := bnd H0
          refine G.rd mixed ?_
          refine K.loadS Y [_, _, _] (gd0 rfl) rfl rfl t32 rfl rfl rfl ?_
          refine K.mkIface Y (gd0 rfl) rfl (mkI Try.underlying32 rfl) rfl ?_
          refine K.move (.inl rfl) (gd0 rfl) rfl rfl ?_
          refine K.fieldAddr Y (gd0 rfl) rfl t104 rfl rfl ?_
          refine K.loadS Y [_, _] (gd0 rfl) rfl rfl t99 rfl rfl rfl ?_
          refine K.move (.inl rfl) (gd0 rfl) rfl rfl ?_
          refine K.move (.inl rfl) (gd0 rfl) rfl rfl ?_
          refine K.bin (V := .int .i64 (w64 (a2 - x4.size))) (gd0 rfl) rfl rfl (fun _ => rfl) rfl ?_
          refine K.bin (V := .int .i64 (w64 ((w64 (a2 - x4.size)) - 1))) (gd0 rfl) rfl rfl (fun _ => rfl) rfl ?_
          refine K.move (.inl rfl) (gd0 rfl) rfl rfl ?_
          refine K.move (.inl rfl) (gd0 rfl) rfl rfl ?_
          refine K.bin (V := .int .i64 (w64 (a3 - x4.size))) (gd0 rfl) rfl rfl (fun _ => rfl) rfl ?_
          refine K.bin (V := .int .i64 (w64 ((w64 (a3 - x4.size)) - 1))) (gd0 rfl) rfl rfl (fun _ => rfl) rfl ?_
          refine K.callR [(.func 60, _), ((.tmp 72), _), ((.tmp 74), _), ((.tmp 78), _), ((.tmp 82), _)] (ih hx9) (toFn_func (cf 60 rfl) rfl) (gd0 rfl) ⟨rfl, rfl, rfl, rfl, rfl, trivial⟩ ⟨rfl, rfl, trivial⟩ rfl rfl rfl ?_
          refine K.callR [((.tmp 71), _), ((.tmp 83), _)] (tide_Tide_Plus_con (k := k) hx10) (toFn_invoke (cf 130 rfl) (me32_130) rfl) (gd0 rfl) ⟨rfl, rfl, trivial⟩ trivial rfl rfl rfl ?_
          refine K.store Y [_, _, _] (gd0 rfl) rfl rfl rfl t32 rfl rfl rfl rfl rfl ?_
          refine K.nil ?_
          refine ⟨by kernel_rfl, ?_⟩
          refine At.next ?_
          refine G.ret ?_
          refine At.done Y [(.cell 8 32, .agg [_, _, _])] rfl ⟨.st rfl rfl t32 rfl rfl, trivial⟩ (to' := [(0, _), (1, _)]) ⟨rfl, rfl, trivial⟩ ?_ ?_ rfl rfl rfl (.inl rfl)
          · cases H0; rfl
          · cases H0; rfl
theorem Tree_betweenE_con {k n : Nat}  {p1 : Pool (TNode TL07Elem TTide)} {a1 : TRef} {a2 : Int} {a3 : Int} {ri0 rg0 : Int} {r : TTide}  (H0 : Tree_between.r opsE k n p1 a1 a2 a3 = some r) (m0 m1 : Nat) : SCon Try.prog 60 [SV.p m0 0, .a (.agg ((eTRef a1).map .v)), .a (.c (.v (.int .i64 a2))), .a (.c (.v (.int .i64 a3)))] [(m0, blk m0 [.p m1 0, .i ri0, .i rg0] 101), (m1, plE m1 p1)] (.a (.agg ((eTTide r).map .v))) [(m0, blk m0 [.p m1 0, .i ri0, .i rg0] 101), (m1, plE m1 p1)] [] :=
  SCon.ren (rn [(0, m0), (1, m1)]) (Tree_betweenE_con0 (k := k)   H0) ⟨(blk_ren rfl rfl), (pl_ren rfl), trivial⟩ ⟨(blk_ren rfl rfl), (pl_ren rfl), trivial⟩ (by simp) (by simp)
theorem Tree_BetweenE_con0 {k : Nat}  {p1 : Pool (TNode TL07Elem TTide)} {rt0 : TRef} {a1 : Int} {a2 : Int} {r : TTide}  (H0 : Tree_Between.f opsE k p1 rt0 a1 a2 = some r) : SCon Try.prog 15 [SV.p 0 0, .a (.c (.v (.int .i64 a1))), .a (.c (.v (.int .i64 a2)))] [(0, blk 0 [.p 1 0, .i rt0.index, .i rt0.gen] 101), (1, plE 1 p1)] (.a (.agg ((eTTide r).map .v))) [(0, blk 0 [.p 1 0, .i rt0.index, .i rt0.gen] 101), (1, plE 1 p1)] [] := by
  rw [Tree_Between.f] at H0
  refine spec_of [(0, _), (1, _), (2, _)] [(0, _), (1, _)] 24 Try.func15 rfl Try.ntmps15 rfl rfl rfl rfl (fun β W F => ?_)
  refine G.seq ?_
  refine G.rg ?_
  refine K.alloc Y 100 [_, _, _] (gd0 rfl) t32 rfl rfl rfl rfl rfl ?_
  refine K.nil ?_
  refine At.next ?_
  refine G.seq ?_
  obtain ⟨x1, hx1, H0⟩ := bnd H0
  refine G.rg ?_
  refine K.move (.inl rfl) (gd0 rfl) rfl rfl ?_
  refine K.callR [(.func 20, _), ((.tmp 8), _)] (Tree_LenE_con (k := k) hx1 0 1) (toFn_func (cf 20 rfl) rfl) (gd0 rfl) ⟨rfl, rfl, trivial⟩ ⟨rfl, rfl, trivial⟩ rfl rfl rfl ?_
  refine K.move (.inr rfl) (gd0 rfl) rfl rfl ?_
  refine K.nil ?_
  refine At.next ?_
  refine G.seq ?_
  obtain ⟨x2, hx2, H0⟩ := bnd H0
  refine G.rg ?_
  refine K.move (.inl rfl) (gd0 rfl) rfl rfl ?_
  refine K.move (.inl rfl) (gd0 rfl) rfl rfl ?_
  refine K.nilCheck (gd0 rfl) rfl rfl ?_
  refine K.fieldAddr Y (gd0 rfl) rfl t101 rfl rfl ?_
  refine K.loadS Y [_, _] (gd0 rfl) rfl rfl t99 rfl rfl rfl ?_
  refine K.move (.inl rfl) (gd0 rfl) rfl rfl ?_
  refine K.bi2 (V := .int .i64 (gmax a1 0)) (gd0 rfl) rfl rfl (fun _ _ => rfl) rfl ?_
  refine K.move (.inl rfl) (gd0 rfl) rfl rfl ?_
  refine K.bi2 (V := .int .i64 (gmin (gmax a1 0) x1)) (gd0 rfl) rfl rfl (fun _ _ => rfl) rfl ?_
  refine K.move (.inl rfl) (gd0 rfl) rfl rfl ?_
  refine K.bi2 (V := .int .i64 (gmax a2 0)) (gd0 rfl) rfl rfl (fun _ _ => rfl) rfl ?_
  refine K.move (.inl rfl) (gd0 rfl) rfl rfl ?_
  refine K.bi2 (V := .int .i64 (gmin (gmax a2 0) x1)) (gd0 rfl) rfl rfl (fun _ _ => rfl) rfl ?_
  refine K.callR [(.func 60, _), ((.tmp 10), _), ((.tmp 14), _), ((.tmp 18), _), ((.tmp 22), _)] (Tree_betweenE_con (k := k) hx2 0 1) (toFn_func (cf 60 rfl) rfl) (gd0 rfl) ⟨rfl, rfl, rfl, rfl, rfl, trivial⟩ ⟨rfl, rfl, trivial⟩ rfl rfl rfl ?_
  refine K.store Y [_, _, _] (gd0 rfl) rfl rfl rfl t32 rfl rfl rfl rfl rfl ?_
  refine K.nil ?_
  refine At.next ?_
  refine G.ret ?_
  refine At.done Y [(.cell 6 32, .agg [_, _, _])] rfl ⟨.st rfl rfl t32 rfl rfl, trivial⟩ (to' := [(0, _), (1, _)]) ⟨rfl, rfl, trivial⟩ ?_ ?_ rfl rfl rfl (.inl rfl)
  · cases H0; rfl
  · cases H0; rfl
theorem Tree_BetweenE_con {k : Nat}  {p1 : Pool (TNode TL07Elem TTide)} {rt0 : TRef} {a1 : Int} {a2 : Int} {r : TTide}  (H0 : Tree_Between.f opsE k p1 rt0 a1 a2 = some r) (m0 m1 : Nat) : SCon Try.prog 15 [SV.p m0 0, .a (.c (.v (.int .i64 a1))), .a (.c (.v (.int .i64 a2)))] [(m0, blk m0 [.p m1 0, .i rt0.index, .i rt0.gen] 101), (m1, plE m1 p1)] (.a (.agg ((eTTide r).map .v))) [(m0, blk m0 [.p m1 0, .i rt0.index, .i rt0.gen] 101), (m1, plE m1 p1)] [] :=
  SCon.ren (rn [(0, m0), (1, m1)]) (Tree_BetweenE_con0 (k := k)   H0) ⟨(blk_ren rfl rfl), (pl_ren rfl), trivial⟩ ⟨(blk_ren rfl rfl), (pl_ren rfl), trivial⟩ (by simp) (by simp)
theorem Tree_lastE_con0 {k : Nat}  : ∀ {n : Nat} {p1 : Pool (TNode TL07Elem TTide)} {a1 : TRef} {ri0 rg0 : Int} {r : TRef × TRef × Pool (TNode TL07Elem TTide)}  (H0 : Tree_last.r opsE k n p1 a1 = some r), SCon Try.prog 89 [SV.p 0 0, .a (.agg ((eTRef a1).map .v))] [(0, blk 0 [.p 1 0, .i ri0, .i rg0] 101), (1, plE 1 p1)] (.tup [.agg ((eTRef r.1).map .v), .agg ((eTRef r.2.1).map .v)]) [(0, blk 0 [.p 1 0, .i ri0, .i rg0] 101), (1, plE 1 r.2.2)] [] := by
  intro n
  induction n with
  | zero => intro p1 a1 ri0 rg0 r H0; exact absurd H0 (by simp [Tree_last.r])
  | succ n ih =>
    intro p1 a1 ri0 rg0 r H0
    rw [Tree_last.r] at H0
    refine spec_of [(0, _), (1, _)] [(0, _), (1, _)] 33 Try.func89 rfl Try.ntmps89 rfl rfl rfl rfl (fun β W F => ?_)
    refine G.seq ?_
    refine G.rg ?_
    refine K.box Y 100 [_, _] (gd0 rfl) rfl rfl rfl rfl rfl rfl ?_
    refine K.alloc Y 101 [_, _] (gd0 rfl) t99 rfl rfl rfl rfl rfl ?_
    refine K.alloc Y 102 [_, _] (gd0 rfl) t99 rfl rfl rfl rfl rfl ?_
    refine K.nil ?_
    refine At.next ?_
    refine G.seq ?_
    obtain ⟨x1, hx1, H0⟩ := bnd H0
    refine G.rg ?_
    refine K.move (.inl rfl) (gd0 rfl) rfl rfl ?_
    refine K.loadS Y [_, _] (gd0 rfl) rfl rfl t99 rfl rfl rfl ?_
    refine K.callR [(.func 62, _), ((.tmp 9), _), ((.tmp 10), _)] (Tree_getE_con (k := k) hx1 0 1) (toFn_func (cf 62 rfl) rfl) (gd0 rfl) ⟨rfl, rfl, rfl, trivial⟩ ⟨rfl, rfl, trivial⟩ rfl rfl rfl ?_
    refine K.alloc Y 103 [_, _, _, _, _, _, _, _, _, _] (gd0 rfl) t104 rfl rfl rfl rfl rfl ?_
    refine K.store Y [_, _, _, _, _, _, _, _, _, _] (gd0 rfl) rfl rfl rfl t104 rfl rfl rfl rfl rfl ?_
    refine K.nil ?_
    refine At.next ?_
    refine G.seq ?_
    refine G.seq ?_
    refine G.rg ?_
    refine K.fieldAddr Y (gd0 rfl) rfl t104 rfl rfl ?_
    refine K.fieldAddr Y (gd0 rfl) rfl t99 rfl rfl ?_
    refine K.load1 Y (gd0 rfl) rfl rfl t3 rfl rfl ?_
    refine K.bin (V := .bool (x1.right.gen == 0)) (gd0 rfl) rfl rfl (fun _ => rfl) rfl ?_
    refine K.nil ?_
    refine At.next ?_
    refine G.cond rfl (fun h1 => ?_) (fun h1 => ?_)
    ·
      replace H0 := bif_t H0 h1
      refine G.seq ?_
      refine G.rd mixed ?_
      refine K.fieldAddr Y (gd0 rfl) rfl t104 rfl rfl ?_
      refine K.loadS Y [_, _] (gd0 rfl) rfl rfl t99 rfl rfl rfl ?_
      refine K.loadS Y [_, _] (gd0 rfl) rfl rfl t99 rfl rfl rfl ?_
      refine K.store Y [_, _] (gd0 rfl) rfl rfl rfl t99 rfl rfl rfl rfl rfl ?_
      refine K.store Y [_, _] (gd0 rfl) rfl rfl rfl t99 rfl rfl rfl rfl rfl ?_
      refine K.nil ?_
      refine ⟨by kernel_rfl, ?_⟩
      refine At.next ?_
      refine G.ret ?_
      refine At.over_ret ?_
      refine At.done Y [(.cell 4 99, .agg [_, _]), (.cell 5 99, .agg [_, _])] rfl ⟨.st rfl rfl t99 rfl rfl, .st rfl rfl t99 rfl rfl, trivial⟩ (to' := [(0, _), (1, _)]) ⟨rfl, rfl, trivial⟩ ?_ ?_ rfl rfl rfl (.inl rfl)
      · cases H0; rfl
      · cases H0; rfl
    ·
      replace H0 := bif_f H0 h1
      refine G.skip ?_
      refine At.next ?_
      refine G.seq ?_
      obtain ⟨x2, hx2, H0⟩ := bnd H0
      refine G.rg ?_
      refine K.move (.inl rfl) (gd0 rfl) rfl rfl ?_
      refine K.fieldAddr Y (gd0 rfl) rfl t104 rfl rfl ?_
      refine K.loadS Y [_, _] (gd0 rfl) rfl rfl t99 rfl rfl rfl ?_
      refine K.call0 [(.func 89, _), ((.tmp 20), _), ((.tmp 22), _)] (ih hx2) (toFn_func (cf 89 rfl) rfl) (gd0 rfl) ⟨rfl, rfl, rfl, trivial⟩ ⟨rfl, rfl, trivial⟩ rfl rfl rfl rfl rfl rfl ?_
      refine K.move (.inl rfl) (gd0 rfl) rfl rfl ?_
      refine K.extract (gd0 rfl) rfl rfl rfl ?_
      refine K.extract (gd0 rfl) rfl rfl rfl ?_
      refine K.alloc Y 104 [_, _] (gd0 rfl) t99 rfl rfl rfl rfl rfl ?_
      refine K.alloc Y 105 [_, _] (gd0 rfl) t99 rfl rfl rfl rfl rfl ?_
      refine K.store Y [_, _] (gd0 rfl) rfl rfl rfl t99 rfl rfl rfl rfl rfl ?_
      refine K.store Y [_, _] (gd0 rfl) rfl rfl rfl t99 rfl rfl rfl rfl rfl ?_
      refine K.nil ?_
      refine At.next ?_
      refine G.seq ?_
      obtain ⟨x3, hx3, H0⟩ := bnd H0
      refine G.rd mixed ?_
      refine K.move (.inl rfl) (gd0 rfl) rfl rfl ?_
      refine K.fieldAddr Y (gd0 rfl) rfl t104 rfl rfl ?_
      refine K.loadS Y [_, _] (gd0 rfl) rfl rfl t99 rfl rfl rfl ?_
      refine K.loadS Y [_, _] (gd0 rfl) rfl rfl t99 rfl rfl rfl ?_
      refine K.loadS Y [_, _] (gd0 rfl) rfl rfl t99 rfl rfl rfl ?_
      refine K.call0 [(.func 84, _), ((.tmp 26), _), ((.tmp 28), _), ((.tmp 29), _), ((.tmp 30), _)] (Tree_linkE_con (k := k) hx3 0 1) (toFn_func (cf 84 rfl) rfl) (gd0 rfl) ⟨rfl, rfl, rfl, rfl, rfl, trivial⟩ ⟨rfl, rfl, trivial⟩ rfl rfl rfl rfl rfl rfl ?_
      refine K.loadS Y [_, _] (gd0 rfl) rfl rfl t99 rfl rfl rfl ?_
      refine K.store Y [_, _] (gd0 rfl) rfl rfl rfl t99 rfl rfl rfl rfl rfl ?_
      refine K.store Y [_, _] (gd0 rfl) rfl rfl rfl t99 rfl rfl rfl rfl rfl ?_
      refine K.nil ?_
      refine ⟨by kernel_rfl, ?_⟩
      refine At.next ?_
      refine G.ret ?_
      refine At.done Y [(.cell 4 99, .agg [_, _]), (.cell 5 99, .agg [_, _])] rfl ⟨.st rfl rfl t99 rfl rfl, .st rfl rfl t99 rfl rfl, trivial⟩ (to' := [(0, _), (1, _)]) ⟨rfl, rfl, trivial⟩ ?_ ?_ rfl rfl rfl (.inl rfl)
      · cases H0; rfl
      · cases H0; rfl
theorem Tree_lastE_con {k n : Nat}  {p1 : Pool (TNode TL07Elem TTide)} {a1 : TRef} {ri0 rg0 : Int} {r : TRef × TRef × Pool (TNode TL07Elem TTide)}  (H0 : Tree_last.r opsE k n p1 a1 = some r) (m0 m1 : Nat) : SCon Try.prog 89 [SV.p m0 0, .a (.agg ((eTRef a1).map .v))] [(m0, blk m0 [.p m1 0, .i ri0, .i rg0] 101), (m1, plE m1 p1)] (.tup [.agg ((eTRef r.1).map .v), .agg ((eTRef r.2.1).map .v)]) [(m0, blk m0 [.p m1 0, .i ri0, .i rg0] 101), (m1, plE m1 r.2.2)] [] :=
  SCon.ren (rn [(0, m0), (1, m1)]) (Tree_lastE_con0 (k := k)   H0) ⟨(blk_ren rfl rfl), (pl_ren rfl), trivial⟩ ⟨(blk_ren rfl rfl), (pl_ren rfl), trivial⟩ (by simp) (by simp)
theorem Tree_mergeE_con0 {k : Nat}  {p1 : Pool (TNode TL07Elem TTide)} {a1 : TRef} {a2 : TRef} {ri0 rg0 : Int} {r : TRef × Pool (TNode TL07Elem TTide)}  (H0 : Tree_merge.f opsE k p1 a1 a2 = some r) : SCon Try.prog 73 [SV.p 0 0, .a (.agg ((eTRef a1).map .v)), .a (.agg ((eTRef a2).map .v))] [(0, blk 0 [.p 1 0, .i ri0, .i rg0] 101), (1, plE 1 p1)] (.a (.agg ((eTRef r.1).map .v))) [(0, blk 0 [.p 1 0, .i ri0, .i rg0] 101), (1, plE 1 r.2)] [] := by
  rw [Tree_merge.f] at H0
  refine spec_of [(0, _), (1, _), (2, _)] [(0, _), (1, _)] 30 Try.func73 rfl Try.ntmps73 rfl rfl rfl rfl (fun β W F => ?_)
  refine G.seq ?_
  refine G.rg ?_
  refine K.box Y 100 [_, _] (gd0 rfl) rfl rfl rfl rfl rfl rfl ?_
  refine K.box Y 101 [_, _] (gd0 rfl) rfl rfl rfl rfl rfl rfl ?_
  refine K.alloc Y 102 [_, _] (gd0 rfl) t99 rfl rfl rfl rfl rfl ?_
  refine K.nil ?_
  refine At.next ?_
  refine G.seq ?_
  refine G.block ?_
  refine G.seq ?_
  refine G.rg ?_
  refine K.fieldAddr Y (gd0 rfl) rfl t99 rfl rfl ?_
  refine K.load1 Y (gd0 rfl) rfl rfl t3 rfl rfl ?_
  refine K.bin (V := .bool (a1.gen == 0)) (gd0 rfl) rfl rfl (fun _ => rfl) rfl ?_
  refine K.move (.inr rfl) (gd0 rfl) rfl rfl ?_
  refine K.nil ?_
  refine At.next ?_
  refine G.cond rfl (fun h1 => ?_) (fun h1 => ?_)
  ·
    replace H0 := bif_t H0 h1
    refine G.seq ?_
    refine G.rg ?_
    refine K.loadS Y [_, _] (gd0 rfl) rfl rfl t99 rfl rfl rfl ?_
    refine K.store Y [_, _] (gd0 rfl) rfl rfl rfl t99 rfl rfl rfl rfl rfl ?_
    refine K.nil ?_
    refine At.next ?_
    refine G.ret ?_
    refine At.block_ret ?_
    refine At.over_ret ?_
    refine At.done Y [(.cell 6 99, .agg [_, _])] rfl ⟨.st rfl rfl t99 rfl rfl, trivial⟩ (to' := [(0, _), (1, _)]) ⟨rfl, rfl, trivial⟩ ?_ ?_ rfl rfl rfl (.inl rfl)
    · cases H0; rfl
    · cases H0; rfl
  ·
    replace H0 := bif_f H0 h1
    refine G.seq ?_
    refine G.rg ?_
    refine K.fieldAddr Y (gd0 rfl) rfl t99 rfl rfl ?_
    refine K.load1 Y (gd0 rfl) rfl rfl t3 rfl rfl ?_
    refine K.bin (V := .bool (a2.gen == 0)) (gd0 rfl) rfl rfl (fun _ => rfl) rfl ?_
    refine K.move (.inr rfl) (gd0 rfl) rfl rfl ?_
    refine K.nil ?_
    refine At.next ?_
    refine G.cond rfl (fun h2 => ?_) (fun h2 => ?_)
    ·
      replace H0 := bif_t H0 h2
      refine G.seq ?_
      refine G.rg ?_
      refine K.loadS Y [_, _] (gd0 rfl) rfl rfl t99 rfl rfl rfl ?_
      refine K.store Y [_, _] (gd0 rfl) rfl rfl rfl t99 rfl rfl rfl rfl rfl ?_
      refine K.nil ?_
      refine At.next ?_
      refine G.ret ?_
      refine At.block_ret ?_
      refine At.over_ret ?_
      refine At.done Y [(.cell 6 99, .agg [_, _])] rfl ⟨.st rfl rfl t99 rfl rfl, trivial⟩ (to' := [(0, _), (1, _)]) ⟨rfl, rfl, trivial⟩ ?_ ?_ rfl rfl rfl (.inl rfl)
      · cases H0; rfl
      · cases H0; rfl
    ·
      replace H0 := bif_f H0 h2
      refine G.skip ?_
      refine At.block_normal ?_
      refine At.next ?_
      refine G.seq ?_
      obtain ⟨x1, hx1, H0⟩ := bnd H0
      refine G.rg ?_
      refine K.move (.inl rfl) (gd0 rfl) rfl rfl ?_
      refine K.loadS Y [_, _] (gd0 rfl) rfl rfl t99 rfl rfl rfl ?_
      refine K.call0 [(.func 89, _), ((.tmp 20), _), ((.tmp 21), _)] (Tree_lastE_con (k := k) hx1 0 1) (toFn_func (cf 89 rfl) rfl) (gd0 rfl) ⟨rfl, rfl, rfl, trivial⟩ ⟨rfl, rfl, trivial⟩ rfl rfl rfl rfl rfl rfl ?_
      refine K.move (.inl rfl) (gd0 rfl) rfl rfl ?_
      refine K.extract (gd0 rfl) rfl rfl rfl ?_
      refine K.extract (gd0 rfl) rfl rfl rfl ?_
      refine K.alloc Y 103 [_, _] (gd0 rfl) t99 rfl rfl rfl rfl rfl ?_
      refine K.alloc Y 104 [_, _] (gd0 rfl) t99 rfl rfl rfl rfl rfl ?_
      refine K.store Y [_, _] (gd0 rfl) rfl rfl rfl t99 rfl rfl rfl rfl rfl ?_
      refine K.store Y [_, _] (gd0 rfl) rfl rfl rfl t99 rfl rfl rfl rfl rfl ?_
      refine K.nil ?_
      refine At.next ?_
      refine G.seq ?_
      obtain ⟨x2, hx2, H0⟩ := bnd H0
      refine G.rg ?_
      refine K.move (.inl rfl) (gd0 rfl) rfl rfl ?_
      refine K.loadS Y [_, _] (gd0 rfl) rfl rfl t99 rfl rfl rfl ?_
      refine K.loadS Y [_, _] (gd0 rfl) rfl rfl t99 rfl rfl rfl ?_
      refine K.loadS Y [_, _] (gd0 rfl) rfl rfl t99 rfl rfl rfl ?_
      refine K.call0 [(.func 84, _), ((.tmp 25), _), ((.tmp 26), _), ((.tmp 27), _), ((.tmp 28), _)] (Tree_linkE_con (k := k) hx2 0 1) (toFn_func (cf 84 rfl) rfl) (gd0 rfl) ⟨rfl, rfl, rfl, rfl, rfl, trivial⟩ ⟨rfl, rfl, trivial⟩ rfl rfl rfl rfl rfl rfl ?_
      refine K.store Y [_, _] (gd0 rfl) rfl rfl rfl t99 rfl rfl rfl rfl rfl ?_
      refine K.nil ?_
      refine At.next ?_
      refine G.ret ?_
      refine At.done Y [(.cell 6 99, .agg [_, _])] rfl ⟨.st rfl rfl t99 rfl rfl, trivial⟩ (to' := [(0, _), (1, _)]) ⟨rfl, rfl, trivial⟩ ?_ ?_ rfl rfl rfl (.inl rfl)
      · cases H0; rfl
      · cases H0; rfl
theorem Tree_mergeE_con {k : Nat}  {p1 : Pool (TNode TL07Elem TTide)} {a1 : TRef} {a2 : TRef} {ri0 rg0 : Int} {r : TRef × Pool (TNode TL07Elem TTide)}  (H0 : Tree_merge.f opsE k p1 a1 a2 = some r) (m0 m1 : Nat) : SCon Try.prog 73 [SV.p m0 0, .a (.agg ((eTRef a1).map .v)), .a (.agg ((eTRef a2).map .v))] [(m0, blk m0 [.p m1 0, .i ri0, .i rg0] 101), (m1, plE m1 p1)] (.a (.agg ((eTRef r.1).map .v))) [(m0, blk m0 [.p m1 0, .i ri0, .i rg0] 101), (m1, plE m1 r.2)] [] :=
  SCon.ren (rn [(0, m0), (1, m1)]) (Tree_mergeE_con0 (k := k)   H0) ⟨(blk_ren rfl rfl), (pl_ren rfl), trivial⟩ ⟨(blk_ren rfl rfl), (pl_ren rfl), trivial⟩ (by simp) (by simp)
theorem Tree_dropE_con0 {k : Nat}  : ∀ {n : Nat} {p1 : Pool (TNode TL07Elem TTide)} {a1 : TRef} {a2 : TL07Elem} {ri0 rg0 : Int} {r : TRef × TL07Elem × Bool × Pool (TNode TL07Elem TTide)}  (H0 : Tree_drop.r opsE k n p1 a1 a2 = some r), SCon Try.prog 64 [SV.p 0 0, .a (.agg ((eTRef a1).map .v)), .a (.agg ((eTL07Elem a2).map .v))] [(0, blk 0 [.p 1 0, .i ri0, .i rg0] 101), (1, plE 1 p1)] (.tup [.agg ((eTRef r.1).map .v), .agg ((eTL07Elem r.2.1).map .v), .c (.v (.bool r.2.2.1))]) [(0, blk 0 [.p 1 0, .i ri0, .i rg0] 101), (1, plE 1 r.2.2.2)] [] := by
  intro n
  induction n with
  | zero => intro p1 a1 a2 ri0 rg0 r H0; exact absurd H0 (by simp [Tree_drop.r])
  | succ n ih =>
    intro p1 a1 a2 ri0 rg0 r H0
    rw [Tree_drop.r] at H0
    refine spec_of [(0, _), (1, _), (2, _)] [(0, _), (1, _)] 91 Try.func64 rfl Try.ntmps64 rfl rfl rfl rfl (fun β W F => ?_)
    refine G.seq ?_
    refine G.rg ?_
    refine K.box Y 100 [_, _] (gd0 rfl) rfl rfl rfl rfl rfl rfl ?_
    refine K.box Y 101 [_, _] (gd0 rfl) rfl rfl rfl rfl rfl rfl ?_
    refine K.alloc Y 102 [_, _] (gd0 rfl) t99 rfl rfl rfl rfl rfl ?_
    refine K.alloc Y 103 [_, _] (gd0 rfl) t35 rfl rfl rfl rfl rfl ?_
    refine K.move (.inr rfl) (gd0 rfl) rfl rfl ?_
    refine K.nil ?_
    refine At.next ?_
    refine G.seq ?_
    refine G.seq ?_
    refine G.rg ?_
    refine K.fieldAddr Y (gd0 rfl) rfl t99 rfl rfl ?_
    refine K.load1 Y (gd0 rfl) rfl rfl t3 rfl rfl ?_
    refine K.bin (V := .bool (a1.gen == 0)) (gd0 rfl) rfl rfl (fun _ => rfl) rfl ?_
    refine K.nil ?_
    refine At.next ?_
    refine G.cond rfl (fun h1 => ?_) (fun h1 => ?_)
    ·
      replace H0 := bif_t H0 h1
      refine G.seq ?_
      refine G.rg ?_
      refine K.alloc Y 104 [_, _] (gd0 rfl) t35 rfl rfl rfl rfl rfl ?_
      refine K.nil ?_
      refine At.next ?_
      refine G.seq ?_
      refine G.rd mixed ?_
      refine K.loadS Y [_, _] (gd0 rfl) rfl rfl t99 rfl rfl rfl ?_
      refine K.loadS Y [_, _] (gd0 rfl) rfl rfl t35 rfl rfl rfl ?_
      refine K.store Y [_, _] (gd0 rfl) rfl rfl rfl t99 rfl rfl rfl rfl rfl ?_
      refine K.store Y [_, _] (gd0 rfl) rfl rfl rfl t35 rfl rfl rfl rfl rfl ?_
      refine K.move (.inr rfl) (gd0 rfl) rfl rfl ?_
      refine K.nil ?_
      refine ⟨by kernel_rfl, ?_⟩
      refine At.next ?_
      refine G.ret ?_
      refine At.over_ret ?_
      refine At.done Y [(.cell 6 99, .agg [_, _]), (.cell 7 35, .agg [_, _]), (.tmp 8, .c _)] rfl ⟨.st rfl rfl t99 rfl rfl, .st rfl rfl t35 rfl rfl, .tmp rfl, trivial⟩ (to' := [(0, _), (1, _)]) ⟨rfl, rfl, trivial⟩ ?_ ?_ rfl rfl rfl (.inl rfl)
      · cases H0; rfl
      · cases H0; rfl
    ·
      replace H0 := bif_f H0 h1
      refine G.skip ?_
      refine At.next ?_
      refine G.seq ?_
      obtain ⟨x1, hx1, H0⟩ := bnd H0
      refine G.rg ?_
      refine K.move (.inl rfl) (gd0 rfl) rfl rfl ?_
      refine K.loadS Y [_, _] (gd0 rfl) rfl rfl t99 rfl rfl rfl ?_
      refine K.callR [(.func 62, _), ((.tmp 23), _), ((.tmp 24), _)] (Tree_getE_con (k := k) hx1 0 1) (toFn_func (cf 62 rfl) rfl) (gd0 rfl) ⟨rfl, rfl, rfl, trivial⟩ ⟨rfl, rfl, trivial⟩ rfl rfl rfl ?_
      refine K.alloc Y 105 [_, _, _, _, _, _, _, _, _, _] (gd0 rfl) t104 rfl rfl rfl rfl rfl ?_
      refine K.store Y [_, _, _, _, _, _, _, _, _, _] (gd0 rfl) rfl rfl rfl t104 rfl rfl rfl rfl rfl ?_
      refine K.nil ?_
      refine At.next ?_
      refine G.seq ?_
      obtain ⟨x2, hx2, H0⟩ := bnd H0
      refine G.rg ?_
      refine K.loadS Y [_, _] (gd0 rfl) rfl rfl t35 rfl rfl rfl ?_
      refine K.mkIface Y (gd0 rfl) rfl (mkI Try.underlying35 rfl) rfl ?_
      refine K.fieldAddr Y (gd0 rfl) rfl t104 rfl rfl ?_
      refine K.loadS Y [_, _] (gd0 rfl) rfl rfl t35 rfl rfl rfl ?_
      refine K.callR [((.tmp 27), _), ((.tmp 29), _)] (Lw07_elem_Compare_con (k := k) hx2) (toFn_invoke (cf 131 rfl) (me35_131) rfl) (gd0 rfl) ⟨rfl, rfl, trivial⟩ trivial rfl rfl rfl ?_
      refine K.move (.inr rfl) (gd0 rfl) rfl rfl ?_
      refine K.nil ?_
      refine At.next ?_
      refine G.seq ?_
      refine G.block ?_
      refine G.seq ?_
      refine G.rg ?_
      refine K.move (.inl rfl) (gd0 rfl) rfl rfl ?_
      refine K.bin (V := .bool (decide (x2 < 0))) (gd0 rfl) rfl rfl (fun _ => rfl) rfl ?_
      refine K.move (.inr rfl) (gd0 rfl) rfl rfl ?_
      refine K.nil ?_
      refine At.next ?_
      refine G.cond rfl (fun h2 => ?_) (fun h2 => ?_)
      ·
        replace H0 := bif_t H0 h2
        refine G.seq ?_
        obtain ⟨x3, hx3, H0⟩ := bnd H0
        refine G.rg ?_
        refine K.move (.inl rfl) (gd0 rfl) rfl rfl ?_
        refine K.fieldAddr Y (gd0 rfl) rfl t104 rfl rfl ?_
        refine K.loadS Y [_, _] (gd0 rfl) rfl rfl t99 rfl rfl rfl ?_
        refine K.loadS Y [_, _] (gd0 rfl) rfl rfl t35 rfl rfl rfl ?_
        refine K.call0 [(.func 64, _), ((.tmp 35), _), ((.tmp 37), _), ((.tmp 38), _)] (ih hx3) (toFn_func (cf 64 rfl) rfl) (gd0 rfl) ⟨rfl, rfl, rfl, rfl, trivial⟩ ⟨rfl, rfl, trivial⟩ rfl rfl rfl rfl rfl rfl ?_
        refine K.move (.inl rfl) (gd0 rfl) rfl rfl ?_
        refine K.extract (gd0 rfl) rfl rfl rfl ?_
        refine K.extract (gd0 rfl) rfl rfl rfl ?_
        refine K.extract (gd0 rfl) rfl rfl rfl ?_
        refine K.alloc Y 106 [_, _] (gd0 rfl) t99 rfl rfl rfl rfl rfl ?_
        refine K.alloc Y 107 [_, _] (gd0 rfl) t35 rfl rfl rfl rfl rfl ?_
        refine K.store Y [_, _] (gd0 rfl) rfl rfl rfl t99 rfl rfl rfl rfl rfl ?_
        refine K.store Y [_, _] (gd0 rfl) rfl rfl rfl t35 rfl rfl rfl rfl rfl ?_
        refine K.move (.inr rfl) (gd0 rfl) rfl rfl ?_
        refine K.nil ?_
        refine At.next ?_
        refine G.seq ?_
        refine G.seq ?_
        refine G.rg ?_
        refine K.move (.inl rfl) (gd0 rfl) rfl rfl ?_
        refine K.un (V := .bool (!x3.2.2.1)) (gd0 rfl) rfl (fun _ => rfl) rfl ?_
        refine K.nil ?_
        refine At.next ?_
        refine G.cond rfl (fun h3 => ?_) (fun h3 => ?_)
        ·
          replace H0 := bif_t H0 h3
          refine G.seq ?_
          refine G.rd mixed ?_
          refine K.loadS Y [_, _] (gd0 rfl) rfl rfl t99 rfl rfl rfl ?_
          refine K.loadS Y [_, _] (gd0 rfl) rfl rfl t35 rfl rfl rfl ?_
          refine K.store Y [_, _] (gd0 rfl) rfl rfl rfl t99 rfl rfl rfl rfl rfl ?_
          refine K.store Y [_, _] (gd0 rfl) rfl rfl rfl t35 rfl rfl rfl rfl rfl ?_
          refine K.move (.inr rfl) (gd0 rfl) rfl rfl ?_
          refine K.nil ?_
          refine ⟨by kernel_rfl, ?_⟩
          refine At.next ?_
          refine G.ret ?_
          refine At.over_ret ?_
          refine At.block_ret ?_
          refine At.over_ret ?_
          refine At.done Y [(.cell 6 99, .agg [_, _]), (.cell 7 35, .agg [_, _]), (.tmp 8, .c _)] rfl ⟨.st rfl rfl t99 rfl rfl, .st rfl rfl t35 rfl rfl, .tmp rfl, trivial⟩ (to' := [(0, _), (1, _)]) ⟨rfl, rfl, trivial⟩ ?_ ?_ rfl rfl rfl (.inl rfl)
          · cases H0; rfl
          · cases H0; rfl
        ·
          replace H0 := bif_f H0 h3
          refine G.skip ?_
          refine At.next ?_
          refine G.seq ?_
          obtain ⟨x4, hx4, H0⟩ := bnd H0
          refine G.rd mixed ?_
          refine K.move (.inl rfl) (gd0 rfl) rfl rfl ?_
          refine K.loadS Y [_, _] (gd0 rfl) rfl rfl t99 rfl rfl rfl ?_
          refine K.loadS Y [_, _] (gd0 rfl) rfl rfl t99 rfl rfl rfl ?_
          refine K.fieldAddr Y (gd0 rfl) rfl t104 rfl rfl ?_
          refine K.loadS Y [_, _] (gd0 rfl) rfl rfl t99 rfl rfl rfl ?_
          refine K.call0 [(.func 84, _), ((.tmp 47), _), ((.tmp 48), _), ((.tmp 49), _), ((.tmp 51), _)] (Tree_linkE_con (k := k) hx4 0 1) (toFn_func (cf 84 rfl) rfl) (gd0 rfl) ⟨rfl, rfl, rfl, rfl, rfl, trivial⟩ ⟨rfl, rfl, trivial⟩ rfl rfl rfl rfl rfl rfl ?_
          refine K.loadS Y [_, _] (gd0 rfl) rfl rfl t35 rfl rfl rfl ?_
          refine K.store Y [_, _] (gd0 rfl) rfl rfl rfl t99 rfl rfl rfl rfl rfl ?_
          refine K.store Y [_, _] (gd0 rfl) rfl rfl rfl t35 rfl rfl rfl rfl rfl ?_
          refine K.move (.inr rfl) (gd0 rfl) rfl rfl ?_
          refine K.nil ?_
          refine ⟨by kernel_rfl, ?_⟩
          refine At.next ?_
          refine G.ret ?_
          refine At.block_ret ?_
          refine At.over_ret ?_
          refine At.done Y [(.cell 6 99, .agg [_, _]), (.cell 7 35, .agg [_, _]), (.tmp 8, .c _)] rfl ⟨.st rfl rfl t99 rfl rfl, .st rfl rfl t35 rfl rfl, .tmp rfl, trivial⟩ (to' := [(0, _), (1, _)]) ⟨rfl, rfl, trivial⟩ ?_ ?_ rfl rfl rfl (.inl rfl)
          · cases H0; rfl
          · cases H0; rfl
      ·
        replace H0 := bif_f H0 h2
        refine G.seq ?_
        refine G.rg ?_
        refine K.move (.inl rfl) (gd0 rfl) rfl rfl ?_
        refine K.bin (V := .bool (decide (x2 > 0))) (gd0 rfl) rfl rfl (fun _ => rfl) rfl ?_
        refine K.move (.inr rfl) (gd0 rfl) rfl rfl ?_
        refine K.nil ?_
        refine At.next ?_
        refine G.cond rfl (fun h4 => ?_) (fun h4 => ?_)
        ·
          replace H0 := bif_t H0 h4
          refine G.seq ?_
          obtain ⟨x5, hx5, H0⟩ := bnd H0
          refine G.rg ?_
          refine K.move (.inl rfl) (gd0 rfl) rfl rfl ?_
          refine K.fieldAddr Y (gd0 rfl) rfl t104 rfl rfl ?_
          refine K.loadS Y [_, _] (gd0 rfl) rfl rfl t99 rfl rfl rfl ?_
          refine K.loadS Y [_, _] (gd0 rfl) rfl rfl t35 rfl rfl rfl ?_
          refine K.call0 [(.func 64, _), ((.tmp 58), _), ((.tmp 60), _), ((.tmp 61), _)] (ih hx5) (toFn_func (cf 64 rfl) rfl) (gd0 rfl) ⟨rfl, rfl, rfl, rfl, trivial⟩ ⟨rfl, rfl, trivial⟩ rfl rfl rfl rfl rfl rfl ?_
          refine K.move (.inl rfl) (gd0 rfl) rfl rfl ?_
          refine K.extract (gd0 rfl) rfl rfl rfl ?_
          refine K.extract (gd0 rfl) rfl rfl rfl ?_
          refine K.extract (gd0 rfl) rfl rfl rfl ?_
          refine K.alloc Y 108 [_, _] (gd0 rfl) t99 rfl rfl rfl rfl rfl ?_
          refine K.alloc Y 109 [_, _] (gd0 rfl) t35 rfl rfl rfl rfl rfl ?_
          refine K.store Y [_, _] (gd0 rfl) rfl rfl rfl t99 rfl rfl rfl rfl rfl ?_
          refine K.store Y [_, _] (gd0 rfl) rfl rfl rfl t35 rfl rfl rfl rfl rfl ?_
          refine K.move (.inr rfl) (gd0 rfl) rfl rfl ?_
          refine K.nil ?_
          refine At.next ?_
          refine G.seq ?_
          refine G.seq ?_
          refine G.rg ?_
          refine K.move (.inl rfl) (gd0 rfl) rfl rfl ?_
          refine K.un (V := .bool (!x5.2.2.1)) (gd0 rfl) rfl (fun _ => rfl) rfl ?_
          refine K.nil ?_
          refine At.next ?_
          refine G.cond rfl (fun h5 => ?_) (fun h5 => ?_)
          ·
            replace H0 := bif_t H0 h5
            refine G.seq ?_
            refine G.rd mixed ?_
            refine K.loadS Y [_, _] (gd0 rfl) rfl rfl t99 rfl rfl rfl ?_
            refine K.loadS Y [_, _] (gd0 rfl) rfl rfl t35 rfl rfl rfl ?_
            refine K.store Y [_, _] (gd0 rfl) rfl rfl rfl t99 rfl rfl rfl rfl rfl ?_
            refine K.store Y [_, _] (gd0 rfl) rfl rfl rfl t35 rfl rfl rfl rfl rfl ?_
            refine K.move (.inr rfl) (gd0 rfl) rfl rfl ?_
            refine K.nil ?_
            refine ⟨by kernel_rfl, ?_⟩
            refine At.next ?_
            refine G.ret ?_
            refine At.over_ret ?_
            refine At.block_ret ?_
            refine At.over_ret ?_
            refine At.done Y [(.cell 6 99, .agg [_, _]), (.cell 7 35, .agg [_, _]), (.tmp 8, .c _)] rfl ⟨.st rfl rfl t99 rfl rfl, .st rfl rfl t35 rfl rfl, .tmp rfl, trivial⟩ (to' := [(0, _), (1, _)]) ⟨rfl, rfl, trivial⟩ ?_ ?_ rfl rfl rfl (.inl rfl)
            · cases H0; rfl
            · cases H0; rfl
          ·
            replace H0 := bif_f H0 h5
            refine G.skip ?_
            refine At.next ?_
            refine G.seq ?_
            obtain ⟨x6, hx6, H0⟩ := bnd H0
            refine G.rd mixed ?_
            refine K.move (.inl rfl) (gd0 rfl) rfl rfl ?_
            refine K.fieldAddr Y (gd0 rfl) rfl t104 rfl rfl ?_
            refine K.loadS Y [_, _] (gd0 rfl) rfl rfl t99 rfl rfl rfl ?_
            refine K.loadS Y [_, _] (gd0 rfl) rfl rfl t99 rfl rfl rfl ?_
            refine K.loadS Y [_, _] (gd0 rfl) rfl rfl t99 rfl rfl rfl ?_
            refine K.call0 [(.func 84, _), ((.tmp 70), _), ((.tmp 72), _), ((.tmp 73), _), ((.tmp 74), _)] (Tree_linkE_con (k := k) hx6 0 1) (toFn_func (cf 84 rfl) rfl) (gd0 rfl) ⟨rfl, rfl, rfl, rfl, rfl, trivial⟩ ⟨rfl, rfl, trivial⟩ rfl rfl rfl rfl rfl rfl ?_
            refine K.loadS Y [_, _] (gd0 rfl) rfl rfl t35 rfl rfl rfl ?_
            refine K.store Y [_, _] (gd0 rfl) rfl rfl rfl t99 rfl rfl rfl rfl rfl ?_
            refine K.store Y [_, _] (gd0 rfl) rfl rfl rfl t35 rfl rfl rfl rfl rfl ?_
            refine K.move (.inr rfl) (gd0 rfl) rfl rfl ?_
            refine K.nil ?_
            refine ⟨by kernel_rfl, ?_⟩
            refine At.next ?_
            refine G.ret ?_
            refine At.block_ret ?_
            refine At.over_ret ?_
            refine At.done Y [(.cell 6 99, .agg [_, _]), (.cell 7 35, .agg [_, _]), (.tmp 8, .c _)] rfl ⟨.st rfl rfl t99 rfl rfl, .st rfl rfl t35 rfl rfl, .tmp rfl, trivial⟩ (to' := [(0, _), (1, _)]) ⟨rfl, rfl, trivial⟩ ?_ ?_ rfl rfl rfl (.inl rfl)
            · cases H0; rfl
            · cases H0; rfl
        ·
          replace H0 := bif_f H0 h4
          refine G.skip ?_
          refine At.block_normal ?_
          refine At.next ?_
          refine G.seq ?_
          obtain ⟨x7, hx7, H0⟩ := bnd H0
          refine G.rd mixed ?_
          refine K.move (.inl rfl) (gd0 rfl) rfl rfl ?_
          refine K.nilCheck (gd0 rfl) rfl rfl ?_
          refine K.fieldAddr Y (gd0 rfl) rfl t101 rfl rfl ?_
          refine K.load1 Y (gd0 rfl) rfl rfl t97 rfl rfl ?_
          refine K.loadS Y [_, _] (gd0 rfl) rfl rfl t99 rfl rfl rfl ?_
          refine K.call0 [(.func 85, _), ((.tmp 80), _), ((.tmp 81), _)] (pldropE hx7 1) (toFn_func (cf 85 rfl) rfl) (gd0 rfl) ⟨rfl, rfl, rfl, trivial⟩ ⟨rfl, trivial⟩ rfl rfl rfl rfl rfl rfl ?_
          refine K.nil ?_
          refine ⟨by kernel_rfl, ?_⟩
          refine At.next ?_
          refine G.seq ?_
          obtain ⟨x8, hx8, H0⟩ := bnd H0
          refine G.rd mixed ?_
          refine K.move (.inl rfl) (gd0 rfl) rfl rfl ?_
          refine K.fieldAddr Y (gd0 rfl) rfl t104 rfl rfl ?_
          refine K.loadS Y [_, _] (gd0 rfl) rfl rfl t99 rfl rfl rfl ?_
          refine K.fieldAddr Y (gd0 rfl) rfl t104 rfl rfl ?_
          refine K.loadS Y [_, _] (gd0 rfl) rfl rfl t99 rfl rfl rfl ?_
          refine K.call0 [(.func 73, _), ((.tmp 83), _), ((.tmp 85), _), ((.tmp 87), _)] (Tree_mergeE_con (k := k) hx8 0 1) (toFn_func (cf 73 rfl) rfl) (gd0 rfl) ⟨rfl, rfl, rfl, rfl, trivial⟩ ⟨rfl, rfl, trivial⟩ rfl rfl rfl rfl rfl rfl ?_
          refine K.fieldAddr Y (gd0 rfl) rfl t104 rfl rfl ?_
          refine K.loadS Y [_, _] (gd0 rfl) rfl rfl t35 rfl rfl rfl ?_
          refine K.store Y [_, _] (gd0 rfl) rfl rfl rfl t99 rfl rfl rfl rfl rfl ?_
          refine K.store Y [_, _] (gd0 rfl) rfl rfl rfl t35 rfl rfl rfl rfl rfl ?_
          refine K.move (.inr rfl) (gd0 rfl) rfl rfl ?_
          refine K.nil ?_
          refine ⟨by kernel_rfl, ?_⟩
          refine At.next ?_
          refine G.ret ?_
          refine At.done Y [(.cell 6 99, .agg [_, _]), (.cell 7 35, .agg [_, _]), (.tmp 8, .c _)] rfl ⟨.st rfl rfl t99 rfl rfl, .st rfl rfl t35 rfl rfl, .tmp rfl, trivial⟩ (to' := [(0, _), (1, _)]) ⟨rfl, rfl, trivial⟩ ?_ ?_ rfl rfl rfl (.inl rfl)
          · cases H0; rfl
          · cases H0; rfl
theorem Tree_dropE_con {k n : Nat}  {p1 : Pool (TNode TL07Elem TTide)} {a1 : TRef} {a2 : TL07Elem} {ri0 rg0 : Int} {r : TRef × TL07Elem × Bool × Pool (TNode TL07Elem TTide)}  (H0 : Tree_drop.r opsE k n p1 a1 a2 = some r) (m0 m1 : Nat) : SCon Try.prog 64 [SV.p m0 0, .a (.agg ((eTRef a1).map .v)), .a (.agg ((eTL07Elem a2).map .v))] [(m0, blk m0 [.p m1 0, .i ri0, .i rg0] 101), (m1, plE m1 p1)] (.tup [.agg ((eTRef r.1).map .v), .agg ((eTL07Elem r.2.1).map .v), .c (.v (.bool r.2.2.1))]) [(m0, blk m0 [.p m1 0, .i ri0, .i rg0] 101), (m1, plE m1 r.2.2.2)] [] :=
  SCon.ren (rn [(0, m0), (1, m1)]) (Tree_dropE_con0 (k := k)   H0) ⟨(blk_ren rfl rfl), (pl_ren rfl), trivial⟩ ⟨(blk_ren rfl rfl), (pl_ren rfl), trivial⟩ (by simp) (by simp)
theorem Tree_DropE_con0 {k : Nat}  {p1 : Pool (TNode TL07Elem TTide)} {rt0 : TRef} {a1 : TL07Elem} {r : TL07Elem × Bool × TRef × Pool (TNode TL07Elem TTide)}  (H0 : Tree_Drop.f opsE k p1 rt0 a1 = some r) : SCon Try.prog 22 [SV.p 0 0, .a (.agg ((eTL07Elem a1).map .v))] [(0, blk 0 [.p 1 0, .i rt0.index, .i rt0.gen] 101), (1, plE 1 p1)] (.tup [.agg ((eTL07Elem r.1).map .v), .c (.v (.bool r.2.1))]) [(0, blk 0 [.p 1 0, .i r.2.2.1.index, .i r.2.2.1.gen] 101), (1, plE 1 r.2.2.2)] [] := by
  rw [Tree_Drop.f] at H0
  refine spec_of [(0, _), (1, _)] [(0, _), (1, _)] 26 Try.func22 rfl Try.ntmps22 rfl rfl rfl rfl (fun β W F => ?_)
  refine G.seq ?_
  refine G.rg ?_
  refine K.box Y 100 [_, _] (gd0 rfl) rfl rfl rfl rfl rfl rfl ?_
  refine K.alloc Y 101 [_, _] (gd0 rfl) t35 rfl rfl rfl rfl rfl ?_
  refine K.move (.inr rfl) (gd0 rfl) rfl rfl ?_
  refine K.nil ?_
  refine At.next ?_
  refine G.seq ?_
  obtain ⟨x1, hx1, H0⟩ := bnd H0
  refine G.rd mixed ?_
  refine K.move (.inl rfl) (gd0 rfl) rfl rfl ?_
  refine K.move (.inl rfl) (gd0 rfl) rfl rfl ?_
  refine K.nilCheck (gd0 rfl) rfl rfl ?_
  refine K.fieldAddr Y (gd0 rfl) rfl t101 rfl rfl ?_
  refine K.loadS Y [_, _] (gd0 rfl) rfl rfl t99 rfl rfl rfl ?_
  refine K.loadS Y [_, _] (gd0 rfl) rfl rfl t35 rfl rfl rfl ?_
  refine K.call0 [(.func 64, _), ((.tmp 10), _), ((.tmp 14), _), ((.tmp 15), _)] (Tree_dropE_con (k := k) hx1 0 1) (toFn_func (cf 64 rfl) rfl) (gd0 rfl) ⟨rfl, rfl, rfl, rfl, trivial⟩ ⟨rfl, rfl, trivial⟩ rfl rfl rfl rfl rfl rfl ?_
  refine K.move (.inl rfl) (gd0 rfl) rfl rfl ?_
  refine K.extract (gd0 rfl) rfl rfl rfl ?_
  refine K.extract (gd0 rfl) rfl rfl rfl ?_
  refine K.extract (gd0 rfl) rfl rfl rfl ?_
  refine K.alloc Y 102 [_, _] (gd0 rfl) t99 rfl rfl rfl rfl rfl ?_
  refine K.alloc Y 103 [_, _] (gd0 rfl) t35 rfl rfl rfl rfl rfl ?_
  refine K.store Y [_, _] (gd0 rfl) rfl rfl rfl t99 rfl rfl rfl rfl rfl ?_
  refine K.store Y [_, _] (gd0 rfl) rfl rfl rfl t35 rfl rfl rfl rfl rfl ?_
  refine K.move (.inr rfl) (gd0 rfl) rfl rfl ?_
  refine K.nil ?_
  refine ⟨by kernel_rfl, ?_⟩
  refine At.next ?_
  refine G.seq ?_
  refine G.rg ?_
  refine K.move (.inl rfl) (gd0 rfl) rfl rfl ?_
  refine K.loadS Y [_, _] (gd0 rfl) rfl rfl t99 rfl rfl rfl ?_
  refine K.nilCheck (gd0 rfl) rfl rfl ?_
  refine K.fieldAddr Y (gd0 rfl) rfl t101 rfl rfl ?_
  refine K.store Y [_, _, _] (gd0 rfl) rfl rfl rfl t99 rfl rfl rfl rfl rfl ?_
  refine K.nil ?_
  refine At.next ?_
  refine G.seq ?_
  refine G.rg ?_
  refine K.loadS Y [_, _] (gd0 rfl) rfl rfl t35 rfl rfl rfl ?_
  refine K.move (.inl rfl) (gd0 rfl) rfl rfl ?_
  refine K.store Y [_, _] (gd0 rfl) rfl rfl rfl t35 rfl rfl rfl rfl rfl ?_
  refine K.move (.inr rfl) (gd0 rfl) rfl rfl ?_
  refine K.nil ?_
  refine At.next ?_
  refine G.ret ?_
  refine At.done Y [(.cell 4 35, .agg [_, _]), (.tmp 5, .c _)] rfl ⟨.st rfl rfl t35 rfl rfl, .tmp rfl, trivial⟩ (to' := [(0, _), (1, _)]) ⟨rfl, rfl, trivial⟩ ?_ ?_ rfl rfl rfl (.inl rfl)
  · cases H0; rfl
  · cases H0; rfl
theorem Tree_DropE_con {k : Nat}  {p1 : Pool (TNode TL07Elem TTide)} {rt0 : TRef} {a1 : TL07Elem} {r : TL07Elem × Bool × TRef × Pool (TNode TL07Elem TTide)}  (H0 : Tree_Drop.f opsE k p1 rt0 a1 = some r) (m0 m1 : Nat) : SCon Try.prog 22 [SV.p m0 0, .a (.agg ((eTL07Elem a1).map .v))] [(m0, blk m0 [.p m1 0, .i rt0.index, .i rt0.gen] 101), (m1, plE m1 p1)] (.tup [.agg ((eTL07Elem r.1).map .v), .c (.v (.bool r.2.1))]) [(m0, blk m0 [.p m1 0, .i r.2.2.1.index, .i r.2.2.1.gen] 101), (m1, plE m1 r.2.2.2)] [] :=
  SCon.ren (rn [(0, m0), (1, m1)]) (Tree_DropE_con0 (k := k)   H0) ⟨(blk_ren rfl rfl), (pl_ren rfl), trivial⟩ ⟨(blk_ren rfl rfl), (pl_ren rfl), trivial⟩ (by simp) (by simp)
theorem Tree_allE_o2_con0 {k : Nat}  : ∀ {n : Nat} {p1 : Pool (TNode TL07Elem TTide)} {a1 : TRef} {l2 : List TL07Elem} {ri0 rg0 : Int} {r : List TL07Elem}  (H0 : Tree_all.r opsE k n p1 a1 l2 = some r), SCon Try.prog 71 [SV.p 0 0, .a (.agg ((eTRef a1).map .v)), .a (.c (.nv 2))] [(0, blk 0 [.p 1 0, .i ri0, .i rg0] 101), (1, plE 1 p1), (2, lrow 2 35 eTL07Elem 2 l2)] (.a (.c (.nv 30))) [(0, blk 0 [.p 1 0, .i ri0, .i rg0] 101), (1, plE 1 p1), (30, lrow 30 35 eTL07Elem 2 r)] [30] := by
  intro n
  induction n with
  | zero => intro p1 a1 l2 ri0 rg0 r H0; exact absurd H0 (by simp [Tree_all.r])
  | succ n ih =>
    intro p1 a1 l2 ri0 rg0 r H0
    rw [Tree_all.r] at H0
    refine spec_of [(0, _), (1, _), (2, _)] [(0, _), (1, _), (2, _)] 28 Try.func71 rfl Try.ntmps71 rfl rfl rfl rfl (fun β W F => ?_)
    refine G.seq ?_
    refine G.rg ?_
    refine K.box Y 100 [_, _] (gd0 rfl) rfl rfl rfl rfl rfl rfl ?_
    refine K.nilRow 101 35 eTL07Elem 2 (.inl rfl) (gd0 rfl) rfl rfl rfl ?_
    refine K.nil ?_
    refine At.next ?_
    refine G.seq ?_
    refine G.seq ?_
    refine G.rg ?_
    refine K.fieldAddr Y (gd0 rfl) rfl t99 rfl rfl ?_
    refine K.load1 Y (gd0 rfl) rfl rfl t3 rfl rfl ?_
    refine K.bin (V := .bool (a1.gen == 0)) (gd0 rfl) rfl rfl (fun _ => rfl) rfl ?_
    refine K.nil ?_
    refine At.next ?_
    refine G.cond rfl (fun h1 => ?_) (fun h1 => ?_)
    ·
      replace H0 := bif_t H0 h1
      refine G.seq ?_
      refine G.rg ?_
      refine K.move (.inl rfl) (gd0 rfl) rfl rfl ?_
      refine K.move (.inr rfl) (gd0 rfl) rfl rfl ?_
      refine K.nil ?_
      refine At.next ?_
      refine G.ret ?_
      refine At.over_ret ?_
      refine At.ren (fs' := [(6, .a (.c (.nv 30)))]) (tl := [(0, blk 0 [.p 1 0, .v (.int .i64 ri0), .v (.int .i64 rg0)] 101), (1, plE 1 p1), (30, lrow 30 35 eTL07Elem 2 l2)]) [(30, 2)] [_, _, _] rfl ⟨rfl, trivial⟩ ⟨rfl, (blk_ren rfl rfl), rfl, (pl_ren rfl), rfl, (lrow_ren rfl), trivial⟩ rfl ?_
      refine At.done Y [(.tmp 6, .c _)] rfl ⟨.tmp rfl, trivial⟩ (to' := [(0, _), (1, _), (30, _)]) ⟨rfl, rfl, rfl, trivial⟩ ?_ ?_ rfl rfl rfl (.inl rfl)
      · cases H0; rfl
      · cases H0; rfl
    ·
      replace H0 := bif_f H0 h1
      refine G.skip ?_
      refine At.next ?_
      refine G.seq ?_
      obtain ⟨x1, hx1, H0⟩ := bnd H0
      refine G.rg ?_
      refine K.move (.inl rfl) (gd0 rfl) rfl rfl ?_
      refine K.loadS Y [_, _] (gd0 rfl) rfl rfl t99 rfl rfl rfl ?_
      refine K.callR [(.func 62, _), ((.tmp 12), _), ((.tmp 13), _)] (Tree_getE_con (k := k) hx1 0 1) (toFn_func (cf 62 rfl) rfl) (gd0 rfl) ⟨rfl, rfl, rfl, trivial⟩ ⟨rfl, rfl, trivial⟩ rfl rfl rfl ?_
      refine K.alloc Y 102 [_, _, _, _, _, _, _, _, _, _] (gd0 rfl) t104 rfl rfl rfl rfl rfl ?_
      refine K.store Y [_, _, _, _, _, _, _, _, _, _] (gd0 rfl) rfl rfl rfl t104 rfl rfl rfl rfl rfl ?_
      refine K.nil ?_
      refine At.next ?_
      refine G.seq ?_
      obtain ⟨x2, hx2, H0⟩ := bnd H0
      obtain ⟨h2, H0⟩ := grd H0
      obtain ⟨x3, hx3, H0⟩ := bnd H0
      refine G.rd mixed ?_
      refine K.move (.inl rfl) (gd0 rfl) rfl rfl ?_
      refine K.fieldAddr Y (gd0 rfl) rfl t104 rfl rfl ?_
      refine K.loadS Y [_, _] (gd0 rfl) rfl rfl t99 rfl rfl rfl ?_
      refine K.move (.inl rfl) (gd0 rfl) rfl rfl ?_
      refine K.fieldAddr Y (gd0 rfl) rfl t104 rfl rfl ?_
      refine K.loadS Y [_, _] (gd0 rfl) rfl rfl t99 rfl rfl rfl ?_
      refine K.move (.inl rfl) (gd0 rfl) rfl rfl ?_
      refine K.callC [(.func 71, _), ((.tmp 18), _), ((.tmp 20), _), ((.tmp 21), _)] [] [(0, _), (1, _), (2, _)] [(0, _), (1, _), (103, _)] (fun β => [SV.p 0 0, .a (.agg ((eTRef x1.left).map .v)), .a (.c (.nv 2))]) (fun β w S2 h => SCon.rd0 (SCon.ren (ti' := [(0, _), (1, _), (2, _)]) (to' := [(0, _), (1, _), (103, _)]) (rn [(0, 0), (1, 1), (2, 2), (30, 103)]) (ih  hx2) ⟨(blk_ren rfl rfl), (pl_ren rfl), (lrow_ren rfl), trivial⟩ ⟨(blk_ren rfl rfl), (pl_ren rfl), (lrow_ren rfl), trivial⟩ (rn_nd (hd_ [0, 1, 2, 103] rfl) rfl rfl) (rn_ks (hd_ [0, 1, 2, 103] rfl) rfl rfl rfl)) S2 w h) (toFn_func (cf 71 rfl) rfl) (gd0 rfl) ⟨rfl, rfl, rfl, rfl, trivial⟩ (fun _ => rfl) ⟨rfl, rfl, rfl, trivial⟩ rfl rfl rfl rfl rfl rfl ?_
      refine K.fieldAddr Y (gd0 rfl) rfl t104 rfl rfl ?_
      refine K.loadS Y [_, _] (gd0 rfl) rfl rfl t35 rfl rfl rfl ?_
      refine K.buildL Y 104 ([x1.e] : List TL07Elem) [(0, _)] [((.tmp 24), _)] eTL07Elem_len (gd0 rfl) (AllE.spec ⟨rfl, trivial⟩) rfl rfl Try.underlying61 t35 rfl rfl rfl rfl rfl rfl rfl rfl ?_
      refine K.appendL 105 (lrowV 104 35 eTL07Elem 2 ([x1.e] : List TL07Elem)) _ el61 (lrowV_is eTL07Elem_len (by decide)) eTL07Elem_one (gd0 rfl) rfl rfl rfl rfl rfl (ap_m h2) (ap_b h2 (by decide)) rfl rfl rfl rfl rfl rfl ?_
      refine K.callC [(.func 71, _), ((.tmp 15), _), ((.tmp 17), _), ((.tmp 26), _)] [] [(0, _), (1, _), (105, _)] [(0, _), (1, _), (106, _)] (fun β => [SV.p 0 0, .a (.agg ((eTRef x1.right).map .v)), .a (.c (.nv 105))]) (fun β w S2 h => SCon.rd0 (SCon.ren (ti' := [(0, _), (1, _), (105, _)]) (to' := [(0, _), (1, _), (106, _)]) (rn [(0, 0), (1, 1), (2, 105), (30, 106)]) (ih  hx3) ⟨(blk_ren rfl rfl), (pl_ren rfl), (lrow_ren rfl), trivial⟩ ⟨(blk_ren rfl rfl), (pl_ren rfl), (lrow_ren rfl), trivial⟩ (rn_nd (hd_ [0, 1, 105, 106] rfl) rfl rfl) (rn_ks (hd_ [0, 1, 105, 106] rfl) rfl rfl rfl)) S2 w h) (toFn_func (cf 71 rfl) rfl) (gd0 rfl) ⟨rfl, rfl, rfl, rfl, trivial⟩ (fun _ => rfl) ⟨rfl, rfl, rfl, trivial⟩ rfl rfl rfl rfl rfl rfl ?_
      refine K.move (.inr rfl) (gd0 rfl) rfl rfl ?_
      refine K.nil ?_
      refine ⟨by kernel_rfl, ?_⟩
      refine At.next ?_
      refine G.ret ?_
      refine At.ren (fs' := [(6, .a (.c (.nv 30)))]) (tl := [(0, blk 0 [.p 1 0, .v (.int .i64 ri0), .v (.int .i64 rg0)] 101), (1, plE 1 p1), (30, lrow 30 35 eTL07Elem 2 x3)]) [(30, 106)] [_, _, _] rfl ⟨rfl, trivial⟩ ⟨rfl, (blk_ren rfl rfl), rfl, (pl_ren rfl), rfl, (lrow_ren rfl), trivial⟩ rfl ?_
      refine At.done Y [(.tmp 6, .c _)] rfl ⟨.tmp rfl, trivial⟩ (to' := [(0, _), (1, _), (30, _)]) ⟨rfl, rfl, rfl, trivial⟩ ?_ ?_ rfl rfl rfl (.inl rfl)
      · cases H0; rfl
      · cases H0; rfl
theorem Tree_allE_o2_con {k n : Nat}  {p1 : Pool (TNode TL07Elem TTide)} {a1 : TRef} {l2 : List TL07Elem} {ri0 rg0 : Int} {r : List TL07Elem}  (H0 : Tree_all.r opsE k n p1 a1 l2 = some r) (m0 m1 m2 m30 : Nat) (hd : ndB [m0, m1, m2, m30] = true) : SCon Try.prog 71 [SV.p m0 0, .a (.agg ((eTRef a1).map .v)), .a (.c (.nv m2))] [(m0, blk m0 [.p m1 0, .i ri0, .i rg0] 101), (m1, plE m1 p1), (m2, lrow m2 35 eTL07Elem 2 l2)] (.a (.c (.nv m30))) [(m0, blk m0 [.p m1 0, .i ri0, .i rg0] 101), (m1, plE m1 p1), (m30, lrow m30 35 eTL07Elem 2 r)] [m30] :=
  SCon.ren (rn [(0, m0), (1, m1), (2, m2), (30, m30)]) (Tree_allE_o2_con0 (k := k)   H0) ⟨(blk_ren rfl rfl), (pl_ren rfl), (lrow_ren rfl), trivial⟩ ⟨(blk_ren rfl rfl), (pl_ren rfl), (lrow_ren rfl), trivial⟩ (rn_nd hd rfl rfl) (rn_ks hd rfl rfl rfl)
theorem Tree_allE_n2_con0 {k : Nat}  : ∀ {n : Nat} {p1 : Pool (TNode TL07Elem TTide)} {a1 : TRef} {ri0 rg0 : Int} {r : List TL07Elem}  (H0 : Tree_all.r opsE k n p1 a1 ([] : List TL07Elem) = some r), SCon Try.prog 71 [SV.p 0 0, .a (.agg ((eTRef a1).map .v)), SV.raw (.slice none 0 0)] [(0, blk 0 [.p 1 0, .i ri0, .i rg0] 101), (1, plE 1 p1)] (.a (.c (.nv 30))) [(0, blk 0 [.p 1 0, .i ri0, .i rg0] 101), (1, plE 1 p1), (30, lrow 30 35 eTL07Elem 2 r)] [30] := by
  intro n
  cases n with
  | zero => intro p1 a1 ri0 rg0 r H0; exact absurd H0 (by simp [Tree_all.r])
  | succ n =>
    intro p1 a1 ri0 rg0 r H0
    rw [Tree_all.r] at H0
    refine spec_of [(0, _), (1, _), (2, _)] [(0, _), (1, _)] 28 Try.func71 rfl Try.ntmps71 rfl rfl rfl rfl (fun β W F => ?_)
    refine G.seq ?_
    refine G.rg ?_
    refine K.box Y 100 [_, _] (gd0 rfl) rfl rfl rfl rfl rfl rfl ?_
    refine K.nilRow 101 35 eTL07Elem 2 (.inl rfl) (gd0 rfl) rfl rfl rfl ?_
    refine K.nil ?_
    refine At.next ?_
    refine G.seq ?_
    refine G.seq ?_
    refine G.rg ?_
    refine K.fieldAddr Y (gd0 rfl) rfl t99 rfl rfl ?_
    refine K.load1 Y (gd0 rfl) rfl rfl t3 rfl rfl ?_
    refine K.bin (V := .bool (a1.gen == 0)) (gd0 rfl) rfl rfl (fun _ => rfl) rfl ?_
    refine K.nil ?_
    refine At.next ?_
    refine G.cond rfl (fun h1 => ?_) (fun h1 => ?_)
    ·
      replace H0 := bif_t H0 h1
      refine G.seq ?_
      refine G.rg ?_
      refine K.nilRowS 102 35 eTL07Elem 2 (.inr rfl) (gd0 rfl) rfl rfl rfl rfl ?_
      refine K.move (.inr rfl) (gd0 rfl) rfl rfl ?_
      refine K.nil ?_
      refine At.next ?_
      refine G.ret ?_
      refine At.over_ret ?_
      refine At.ren (fs' := [(6, .a (.c (.nv 30)))]) (tl := [(0, blk 0 [.p 1 0, .v (.int .i64 ri0), .v (.int .i64 rg0)] 101), (1, plE 1 p1), (30, lrow 30 35 eTL07Elem 2 ([] : List TL07Elem))]) [(30, 102)] [_, _, _] rfl ⟨rfl, trivial⟩ ⟨rfl, (blk_ren rfl rfl), rfl, (pl_ren rfl), rfl, (lrow_ren rfl), trivial⟩ rfl ?_
      refine At.done Y [(.tmp 6, .c _)] rfl ⟨.tmp rfl, trivial⟩ (to' := [(0, _), (1, _), (30, _)]) ⟨rfl, rfl, rfl, trivial⟩ ?_ ?_ rfl rfl rfl (.inl rfl)
      · cases H0; rfl
      · cases H0; rfl
    ·
      replace H0 := bif_f H0 h1
      refine G.skip ?_
      refine At.next ?_
      refine G.seq ?_
      obtain ⟨x1, hx1, H0⟩ := bnd H0
      refine G.rg ?_
      refine K.move (.inl rfl) (gd0 rfl) rfl rfl ?_
      refine K.loadS Y [_, _] (gd0 rfl) rfl rfl t99 rfl rfl rfl ?_
      refine K.callR [(.func 62, _), ((.tmp 12), _), ((.tmp 13), _)] (Tree_getE_con (k := k) hx1 0 1) (toFn_func (cf 62 rfl) rfl) (gd0 rfl) ⟨rfl, rfl, rfl, trivial⟩ ⟨rfl, rfl, trivial⟩ rfl rfl rfl ?_
      refine K.alloc Y 103 [_, _, _, _, _, _, _, _, _, _] (gd0 rfl) t104 rfl rfl rfl rfl rfl ?_
      refine K.store Y [_, _, _, _, _, _, _, _, _, _] (gd0 rfl) rfl rfl rfl t104 rfl rfl rfl rfl rfl ?_
      refine K.nil ?_
      refine At.next ?_
      refine G.seq ?_
      obtain ⟨x2, hx2, H0⟩ := bnd H0
      obtain ⟨h2, H0⟩ := grd H0
      obtain ⟨x3, hx3, H0⟩ := bnd H0
      refine G.rd mixed ?_
      refine K.move (.inl rfl) (gd0 rfl) rfl rfl ?_
      refine K.fieldAddr Y (gd0 rfl) rfl t104 rfl rfl ?_
      refine K.loadS Y [_, _] (gd0 rfl) rfl rfl t99 rfl rfl rfl ?_
      refine K.move (.inl rfl) (gd0 rfl) rfl rfl ?_
      refine K.fieldAddr Y (gd0 rfl) rfl t104 rfl rfl ?_
      refine K.loadS Y [_, _] (gd0 rfl) rfl rfl t99 rfl rfl rfl ?_
      refine K.nilRowS 104 35 eTL07Elem 2 (.inr rfl) (gd0 rfl) rfl rfl rfl rfl ?_
      refine K.callC [(.func 71, _), ((.tmp 18), _), ((.tmp 20), _), ((.tmp 21), _)] [] [(0, _), (1, _), (104, _)] [(0, _), (1, _), (105, _)] (fun β => [SV.p 0 0, .a (.agg ((eTRef x1.left).map .v)), .a (.c (.nv 104))]) (fun β w S2 h => SCon.rd0 (Tree_allE_o2_con (k := k) hx2 0 1 104 105 rfl) S2 w h) (toFn_func (cf 71 rfl) rfl) (gd0 rfl) ⟨rfl, rfl, rfl, rfl, trivial⟩ (fun _ => rfl) ⟨rfl, rfl, rfl, trivial⟩ rfl rfl rfl rfl rfl rfl ?_
      refine K.fieldAddr Y (gd0 rfl) rfl t104 rfl rfl ?_
      refine K.loadS Y [_, _] (gd0 rfl) rfl rfl t35 rfl rfl rfl ?_
      refine K.buildL Y 106 ([x1.e] : List TL07Elem) [(0, _)] [((.tmp 24), _)] eTL07Elem_len (gd0 rfl) (AllE.spec ⟨rfl, trivial⟩) rfl rfl Try.underlying61 t35 rfl rfl rfl rfl rfl rfl rfl rfl ?_
      refine K.appendL 107 (lrowV 106 35 eTL07Elem 2 ([x1.e] : List TL07Elem)) _ el61 (lrowV_is eTL07Elem_len (by decide)) eTL07Elem_one (gd0 rfl) rfl rfl rfl rfl rfl (ap_m h2) (ap_b h2 (by decide)) rfl rfl rfl rfl rfl rfl ?_
      refine K.callC [(.func 71, _), ((.tmp 15), _), ((.tmp 17), _), ((.tmp 26), _)] [] [(0, _), (1, _), (107, _)] [(0, _), (1, _), (108, _)] (fun β => [SV.p 0 0, .a (.agg ((eTRef x1.right).map .v)), .a (.c (.nv 107))]) (fun β w S2 h => SCon.rd0 (Tree_allE_o2_con (k := k) hx3 0 1 107 108 rfl) S2 w h) (toFn_func (cf 71 rfl) rfl) (gd0 rfl) ⟨rfl, rfl, rfl, rfl, trivial⟩ (fun _ => rfl) ⟨rfl, rfl, rfl, trivial⟩ rfl rfl rfl rfl rfl rfl ?_
      refine K.move (.inr rfl) (gd0 rfl) rfl rfl ?_
      refine K.nil ?_
      refine ⟨by kernel_rfl, ?_⟩
      refine At.next ?_
      refine G.ret ?_
      refine At.ren (fs' := [(6, .a (.c (.nv 30)))]) (tl := [(0, blk 0 [.p 1 0, .v (.int .i64 ri0), .v (.int .i64 rg0)] 101), (1, plE 1 p1), (30, lrow 30 35 eTL07Elem 2 x3)]) [(30, 108)] [_, _, _] rfl ⟨rfl, trivial⟩ ⟨rfl, (blk_ren rfl rfl), rfl, (pl_ren rfl), rfl, (lrow_ren rfl), trivial⟩ rfl ?_
      refine At.done Y [(.tmp 6, .c _)] rfl ⟨.tmp rfl, trivial⟩ (to' := [(0, _), (1, _), (30, _)]) ⟨rfl, rfl, rfl, trivial⟩ ?_ ?_ rfl rfl rfl (.inl rfl)
      · cases H0; rfl
      · cases H0; rfl
theorem Tree_allE_n2_con {k n : Nat}  {p1 : Pool (TNode TL07Elem TTide)} {a1 : TRef} {ri0 rg0 : Int} {r : List TL07Elem}  (H0 : Tree_all.r opsE k n p1 a1 ([] : List TL07Elem) = some r) (m0 m1 m30 : Nat) (hd : ndB [m0, m1, m30] = true) : SCon Try.prog 71 [SV.p m0 0, .a (.agg ((eTRef a1).map .v)), SV.raw (.slice none 0 0)] [(m0, blk m0 [.p m1 0, .i ri0, .i rg0] 101), (m1, plE m1 p1)] (.a (.c (.nv m30))) [(m0, blk m0 [.p m1 0, .i ri0, .i rg0] 101), (m1, plE m1 p1), (m30, lrow m30 35 eTL07Elem 2 r)] [m30] :=
  SCon.ren (rn [(0, m0), (1, m1), (30, m30)]) (Tree_allE_n2_con0 (k := k)   H0) ⟨(blk_ren rfl rfl), (pl_ren rfl), trivial⟩ ⟨(blk_ren rfl rfl), (pl_ren rfl), (lrow_ren rfl), trivial⟩ (rn_nd hd rfl rfl) (rn_ks hd rfl rfl rfl)
theorem Tree_AllE_con0 {k : Nat}  {p1 : Pool (TNode TL07Elem TTide)} {rt0 : TRef} {r : List TL07Elem}  (H0 : Tree_All.f opsE k p1 rt0 = some r) : SCon Try.prog 37 [SV.p 0 0] [(0, blk 0 [.p 1 0, .i rt0.index, .i rt0.gen] 101), (1, plE 1 p1)] (.a (.c (.nv 30))) [(0, blk 0 [.p 1 0, .i rt0.index, .i rt0.gen] 101), (1, plE 1 p1), (30, lrow 30 35 eTL07Elem 2 r)] [30] := by
  rw [Tree_All.f] at H0
  refine spec_of [(0, _)] [(0, _), (1, _)] 9 Try.func37 rfl Try.ntmps37 rfl rfl rfl rfl (fun β W F => ?_)
  refine G.seq ?_
  refine G.rg ?_
  refine K.nilRow 100 35 eTL07Elem 2 (.inl rfl) (gd0 rfl) rfl rfl rfl ?_
  refine K.nil ?_
  refine At.next ?_
  refine G.seq ?_
  obtain ⟨x1, hx1, H0⟩ := bnd H0
  refine G.rg ?_
  refine K.move (.inl rfl) (gd0 rfl) rfl rfl ?_
  refine K.move (.inl rfl) (gd0 rfl) rfl rfl ?_
  refine K.nilCheck (gd0 rfl) rfl rfl ?_
  refine K.fieldAddr Y (gd0 rfl) rfl t101 rfl rfl ?_
  refine K.loadS Y [_, _] (gd0 rfl) rfl rfl t99 rfl rfl rfl ?_
  refine K.call0 [(.func 71, _), ((.tmp 3), _), ((.tmp 7), _), (_, _)] (Tree_allE_n2_con (k := k) hx1 0 1 101 rfl) (toFn_func (cf 71 rfl) rfl) (gd0 rfl) ⟨rfl, rfl, rfl, rfl, trivial⟩ ⟨rfl, rfl, trivial⟩ rfl rfl rfl rfl rfl rfl ?_
  refine K.move (.inr rfl) (gd0 rfl) rfl rfl ?_
  refine K.nil ?_
  refine At.next ?_
  refine G.ret ?_
  refine At.ren (fs' := [(2, .a (.c (.nv 30)))]) (tl := [(0, blk 0 [.p 1 0, .v (.int .i64 rt0.index), .v (.int .i64 rt0.gen)] 101), (1, plE 1 p1), (30, lrow 30 35 eTL07Elem 2 x1)]) [(30, 101)] [_, _, _] rfl ⟨rfl, trivial⟩ ⟨rfl, (blk_ren rfl rfl), rfl, (pl_ren rfl), rfl, (lrow_ren rfl), trivial⟩ rfl ?_
  refine At.done Y [(.tmp 2, .c _)] rfl ⟨.tmp rfl, trivial⟩ (to' := [(0, _), (1, _), (30, _)]) ⟨rfl, rfl, rfl, trivial⟩ ?_ ?_ rfl rfl rfl (.inl rfl)
  · cases H0; rfl
  · cases H0; rfl
theorem Tree_AllE_con {k : Nat}  {p1 : Pool (TNode TL07Elem TTide)} {rt0 : TRef} {r : List TL07Elem}  (H0 : Tree_All.f opsE k p1 rt0 = some r) (m0 m1 m30 : Nat) (hd : ndB [m0, m1, m30] = true) : SCon Try.prog 37 [SV.p m0 0] [(m0, blk m0 [.p m1 0, .i rt0.index, .i rt0.gen] 101), (m1, plE m1 p1)] (.a (.c (.nv m30))) [(m0, blk m0 [.p m1 0, .i rt0.index, .i rt0.gen] 101), (m1, plE m1 p1), (m30, lrow m30 35 eTL07Elem 2 r)] [m30] :=
  SCon.ren (rn [(0, m0), (1, m1), (30, m30)]) (Tree_AllE_con0 (k := k)   H0) ⟨(blk_ren rfl rfl), (pl_ren rfl), trivial⟩ ⟨(blk_ren rfl rfl), (pl_ren rfl), (lrow_ren rfl), trivial⟩ (rn_nd hd rfl rfl) (rn_ks hd rfl rfl rfl)
theorem Tree_firstE_f14_con0 {k : Nat} {g4 : FuncId} {fn4 : TTide → TTide → Option Bool} {cv4 : List Value} {Tc4 : TypeId} (cg4 : fnB Try.prog g4 = true) (hm4 : ∀ (c : Nat) {z0 : TTide} {z1 : TTide} {y : Bool}, fn4 z0 z1 = some y → SCon Try.prog g4 [.a (.agg ((eTTide z0).map .v)), .a (.agg ((eTTide z1).map .v)), SV.p c 0] [(c, vblk c cv4 Tc4)] (SV.b y) [(c, vblk c cv4 Tc4)] []) : ∀ {n : Nat} {p1 : Pool (TNode TL07Elem TTide)} {a1 : TRef} {a2 : Int} {a3 : TTide} {ri0 rg0 : Int} {r : Int × TTide}  (H0 : Tree_first.r opsE k n p1 a1 a2 a3 fn4 = some r), SCon Try.prog 68 [SV.p 0 0, .a (.agg ((eTRef a1).map .v)), .a (.c (.v (.int .i64 a2))), .a (.agg ((eTTide a3).map .v)), .a (.c (.fn (.func g4) [2]))] [(0, blk 0 [.p 1 0, .i ri0, .i rg0] 101), (1, plE 1 p1), (2, vblk 2 cv4 Tc4)] (.tup [.c (.v (.int .i64 r.1)), .agg ((eTTide r.2).map .v)]) [(0, blk 0 [.p 1 0, .i ri0, .i rg0] 101), (1, plE 1 p1), (2, vblk 2 cv4 Tc4)] [] := by
  intro n
  induction n with
  | zero => intro p1 a1 a2 a3 ri0 rg0 r H0; exact absurd H0 (by simp [Tree_first.r])
  | succ n ih =>
    intro p1 a1 a2 a3 ri0 rg0 r H0
    rw [Tree_first.r] at H0
    refine spec_of [(0, _), (1, _), (2, _), (3, _), (4, _)] [(0, _), (1, _), (2, _)] 103 Try.func68 rfl Try.ntmps68 rfl rfl rfl rfl (fun β W F => ?_)
    refine G.seq ?_
    refine G.rg ?_
    refine K.box Y 100 [_, _] (gd0 rfl) rfl rfl rfl rfl rfl rfl ?_
    refine K.box Y 101 [_, _, _] (gd0 rfl) rfl rfl rfl rfl rfl rfl ?_
    refine K.move (.inr rfl) (gd0 rfl) rfl rfl ?_
    refine K.alloc Y 102 [_, _, _] (gd0 rfl) t32 rfl rfl rfl rfl rfl ?_
    refine K.nil ?_
    refine At.next ?_
    refine G.seq ?_
    obtain ⟨x1, hx1, H0⟩ := bnd H0
    refine G.rg ?_
    refine K.move (.inl rfl) (gd0 rfl) rfl rfl ?_
    refine K.loadS Y [_, _] (gd0 rfl) rfl rfl t99 rfl rfl rfl ?_
    refine K.callR [(.func 62, _), ((.tmp 16), _), ((.tmp 17), _)] (Tree_getE_con (k := k) hx1 0 1) (toFn_func (cf 62 rfl) rfl) (gd0 rfl) ⟨rfl, rfl, rfl, trivial⟩ ⟨rfl, rfl, trivial⟩ rfl rfl rfl ?_
    refine K.alloc Y 103 [_, _, _, _, _, _, _, _, _, _] (gd0 rfl) t104 rfl rfl rfl rfl rfl ?_
    refine K.store Y [_, _, _, _, _, _, _, _, _, _] (gd0 rfl) rfl rfl rfl t104 rfl rfl rfl rfl rfl ?_
    refine K.nil ?_
    refine At.next ?_
    obtain ⟨x2, H1, H0⟩ := bnd H0
    refine G.seqJ (σ := { v : Unit // x2 = Sum.inr v }) (fun q => [(0, .a (.c (.p 0 0))), (2, .a (.c (.v (.int .i64 a2)))), (4, .a (.c (.fn (.func g4) [2]))), (8, .a (.c (.p 104 0))), (11, .a (.c (.p 105 0))), (12, .a (.c (.p 106 0)))]) (fun q => [(1, plE 1 p1), (0, blk 0 [.p 1 0, .v (.int .i64 ri0), .v (.int .i64 rg0)] 101), (2, vblk 2 cv4 Tc4), (104, blk 104 [.v (.int .i64 a3.n), .v (.int .i64 a3.sum), .v (.int .i64 a3.low)] 32), (105, blk 105 [.v (.int .i64 0), .v (.int .i64 0), .v (.int .i64 0)] 32), (106, blk 106 [.v (.int .i64 x1.e.k), .v (.int .i64 x1.e.w), .v (.int .i64 x1.left.index), .v (.int .i64 x1.left.gen), .v (.int .i64 x1.right.index), .v (.int .i64 x1.right.gen), .v (.int .i64 x1.size), .v (.int .i64 x1.sum.n), .v (.int .i64 x1.sum.sum), .v (.int .i64 x1.sum.low)] 104)]) ?_ ?_
    ·
      refine G.seq ?_
      rcases Bool.eq_false_or_eq_true (x1.size == 0) with h1 | h1
      ·
        replace H1 := bif_t H1 h1
        refine G.rg ?_
        refine K.fieldAddr Y (gd0 rfl) rfl t104 rfl rfl ?_
        refine K.load1 Y (gd0 rfl) rfl rfl t3 rfl rfl ?_
        refine K.bin (V := .bool (x1.size == 0)) (gd0 rfl) rfl rfl (fun _ => rfl) rfl ?_
        refine K.move (.inl rfl) (gd0 rfl) rfl rfl ?_
        refine K.skip rfl rfl rfl rfl (h1) rfl ?_
        refine K.skip rfl rfl rfl rfl (h1) rfl ?_
        refine K.skip rfl rfl rfl rfl (h1) rfl ?_
        refine K.skip rfl rfl rfl rfl (h1) rfl ?_
        refine K.pickT (gd0 rfl) rfl (h1) rfl rfl ?_
        refine K.move (.inl rfl) (gd0 rfl) rfl rfl ?_
        refine K.skip rfl rfl rfl rfl (rfl) rfl ?_
        refine K.skip rfl rfl rfl rfl (rfl) rfl ?_
        refine K.skip rfl rfl rfl rfl (rfl) rfl ?_
        refine K.skipU rfl rfl rfl rfl rfl ?_
        refine K.skipU rfl rfl rfl rfl rfl ?_
        refine K.skipU rfl rfl rfl rfl rfl ?_
        refine K.skipU rfl rfl rfl rfl rfl ?_
        refine K.skipU rfl rfl rfl rfl rfl ?_
        refine K.skipU rfl rfl rfl rfl rfl ?_
        refine K.skip rfl rfl rfl rfl (rfl) rfl ?_
        refine K.pickT (gd0 rfl) rfl (rfl) rfl rfl ?_
        refine K.nil ?_
        refine At.next ?_
        refine G.cond rfl (fun h2 => ?_) (fun h2 => ?_)
        ·
          refine G.seq ?_
          obtain ⟨x3, hx3, H1⟩ := bnd H1
          refine G.rg ?_
          refine K.loadS Y [_, _, _] (gd0 rfl) rfl rfl t32 rfl rfl rfl ?_
          refine K.mkIface Y (gd0 rfl) rfl (mkI Try.underlying32 rfl) rfl ?_
          refine K.fieldAddr Y (gd0 rfl) rfl t104 rfl rfl ?_
          refine K.loadS Y [_, _, _] (gd0 rfl) rfl rfl t32 rfl rfl rfl ?_
          refine K.callR [((.tmp 41), _), ((.tmp 43), _)] (tide_Tide_Plus_con (k := k) hx3) (toFn_invoke (cf 130 rfl) (me32_130) rfl) (gd0 rfl) ⟨rfl, rfl, trivial⟩ trivial rfl rfl rfl ?_
          refine K.move (.inr rfl) (gd0 rfl) rfl rfl ?_
          refine K.store Y [_, _, _] (gd0 rfl) rfl rfl rfl t32 rfl rfl rfl rfl rfl ?_
          refine K.nil ?_
          refine At.next ?_
          refine G.ret ?_
          refine At.over_ret ?_
          cases H1
          replace H0 := sum_l H0
          refine At.done Y [(.tmp 10, .c _), (.cell 11 32, .agg [_, _, _])] rfl ⟨.tmp rfl, .st rfl rfl t32 rfl rfl, trivial⟩ (to' := [(0, _), (1, _), (2, _)]) ⟨rfl, rfl, rfl, trivial⟩ ?_ ?_ rfl rfl rfl (.inl rfl)
          · cases H0; rfl
          · cases H0; rfl
        · cases h2
      ·
        replace H1 := bif_f H1 h1
        rcases Bool.eq_false_or_eq_true (decide (a2 ≥ x1.size)) with h3 | h3
        ·
          replace H1 := bif_t H1 h3
          refine G.rg ?_
          refine K.fieldAddr Y (gd0 rfl) rfl t104 rfl rfl ?_
          refine K.load1 Y (gd0 rfl) rfl rfl t3 rfl rfl ?_
          refine K.bin (V := .bool (x1.size == 0)) (gd0 rfl) rfl rfl (fun _ => rfl) rfl ?_
          refine K.move (.inl rfl) (gd0 rfl) rfl rfl ?_
          refine K.move (.inl rfl) (gd1 rfl rfl rfl (h1)) rfl rfl ?_
          refine K.fieldAddr Y (gd1 rfl rfl rfl (h1)) rfl t104 rfl rfl ?_
          refine K.load1 Y (gd1 rfl rfl rfl (h1)) rfl rfl t3 rfl rfl ?_
          refine K.bin (V := .bool (decide (a2 ≥ x1.size))) (gd1 rfl rfl rfl (h1)) rfl rfl (fun _ => rfl) rfl ?_
          refine K.pickF (gd0 rfl) rfl (h1) rfl rfl ?_
          refine K.move (.inl rfl) (gd0 rfl) rfl rfl ?_
          refine K.skip rfl rfl rfl rfl (h3) rfl ?_
          refine K.skip rfl rfl rfl rfl (h3) rfl ?_
          refine K.skip rfl rfl rfl rfl (h3) rfl ?_
          refine K.skipU rfl rfl rfl rfl rfl ?_
          refine K.skipU rfl rfl rfl rfl rfl ?_
          refine K.skipU rfl rfl rfl rfl rfl ?_
          refine K.skipU rfl rfl rfl rfl rfl ?_
          refine K.skipU rfl rfl rfl rfl rfl ?_
          refine K.skipU rfl rfl rfl rfl rfl ?_
          refine K.skip rfl rfl rfl rfl (h3) rfl ?_
          refine K.pickT (gd0 rfl) rfl (h3) rfl rfl ?_
          refine K.nil ?_
          refine At.next ?_
          refine G.cond rfl (fun h4 => ?_) (fun h4 => ?_)
          ·
            refine G.seq ?_
            obtain ⟨x4, hx4, H1⟩ := bnd H1
            refine G.rg ?_
            refine K.loadS Y [_, _, _] (gd0 rfl) rfl rfl t32 rfl rfl rfl ?_
            refine K.mkIface Y (gd0 rfl) rfl (mkI Try.underlying32 rfl) rfl ?_
            refine K.fieldAddr Y (gd0 rfl) rfl t104 rfl rfl ?_
            refine K.loadS Y [_, _, _] (gd0 rfl) rfl rfl t32 rfl rfl rfl ?_
            refine K.callR [((.tmp 41), _), ((.tmp 43), _)] (tide_Tide_Plus_con (k := k) hx4) (toFn_invoke (cf 130 rfl) (me32_130) rfl) (gd0 rfl) ⟨rfl, rfl, trivial⟩ trivial rfl rfl rfl ?_
            refine K.move (.inr rfl) (gd0 rfl) rfl rfl ?_
            refine K.store Y [_, _, _] (gd0 rfl) rfl rfl rfl t32 rfl rfl rfl rfl rfl ?_
            refine K.nil ?_
            refine At.next ?_
            refine G.ret ?_
            refine At.over_ret ?_
            cases H1
            replace H0 := sum_l H0
            refine At.done Y [(.tmp 10, .c _), (.cell 11 32, .agg [_, _, _])] rfl ⟨.tmp rfl, .st rfl rfl t32 rfl rfl, trivial⟩ (to' := [(0, _), (1, _), (2, _)]) ⟨rfl, rfl, rfl, trivial⟩ ?_ ?_ rfl rfl rfl (.inl rfl)
            · cases H0; rfl
            · cases H0; rfl
          · cases h4
        ·
          replace H1 := bif_f H1 h3
          rcases Bool.eq_false_or_eq_true (decide (a2 ≤ 0)) with h5 | h5
          ·
            replace H1 := bif_t H1 h5
            obtain ⟨x5, hx5, H1⟩ := bnd H1
            refine G.rg ?_
            refine K.fieldAddr Y (gd0 rfl) rfl t104 rfl rfl ?_
            refine K.load1 Y (gd0 rfl) rfl rfl t3 rfl rfl ?_
            refine K.bin (V := .bool (x1.size == 0)) (gd0 rfl) rfl rfl (fun _ => rfl) rfl ?_
            refine K.move (.inl rfl) (gd0 rfl) rfl rfl ?_
            refine K.move (.inl rfl) (gd1 rfl rfl rfl (h1)) rfl rfl ?_
            refine K.fieldAddr Y (gd1 rfl rfl rfl (h1)) rfl t104 rfl rfl ?_
            refine K.load1 Y (gd1 rfl rfl rfl (h1)) rfl rfl t3 rfl rfl ?_
            refine K.bin (V := .bool (decide (a2 ≥ x1.size))) (gd1 rfl rfl rfl (h1)) rfl rfl (fun _ => rfl) rfl ?_
            refine K.pickF (gd0 rfl) rfl (h1) rfl rfl ?_
            refine K.move (.inl rfl) (gd0 rfl) rfl rfl ?_
            refine K.move (.inl rfl) (gd1 rfl rfl rfl (h3)) rfl rfl ?_
            refine K.bin (V := .bool (decide (a2 ≤ 0))) (gd1 rfl rfl rfl (h3)) rfl rfl (fun _ => rfl) rfl ?_
            refine K.move (.inl rfl) (gd1 rfl rfl rfl (h3)) rfl rfl ?_
            refine K.move (.inl rfl) (gd1 rfl rfl rfl (h5)) rfl rfl ?_
            refine K.loadS Y [_, _, _] (gd1 rfl rfl rfl (h5)) rfl rfl t32 rfl rfl rfl ?_
            refine K.fieldAddr Y (gd1 rfl rfl rfl (h5)) rfl t104 rfl rfl ?_
            refine K.loadS Y [_, _, _] (gd1 rfl rfl rfl (h5)) rfl rfl t32 rfl rfl rfl ?_
            refine K.callR [((.tmp 32), _), ((.tmp 33), _), ((.tmp 35), _)] (hm4 2 hx5) (toFn_val cg4 rfl) (gd1 rfl rfl rfl (h5)) ⟨rfl, rfl, rfl, trivial⟩ ⟨rfl, trivial⟩ rfl rfl rfl ?_
            refine K.un (V := .bool (!x5)) (gd1 rfl rfl rfl (h5)) rfl (fun _ => rfl) rfl ?_
            refine K.pickT (gd1 rfl rfl rfl (h3)) rfl (h5) rfl rfl ?_
            refine K.pickF (gd0 rfl) rfl (h3) rfl rfl ?_
            refine K.nil ?_
            refine At.next ?_
            refine G.cond rfl (fun h6 => ?_) (fun h6 => ?_)
            ·
              replace H1 := bif_t H1 h6
              refine G.seq ?_
              obtain ⟨x6, hx6, H1⟩ := bnd H1
              refine G.rg ?_
              refine K.loadS Y [_, _, _] (gd0 rfl) rfl rfl t32 rfl rfl rfl ?_
              refine K.mkIface Y (gd0 rfl) rfl (mkI Try.underlying32 rfl) rfl ?_
              refine K.fieldAddr Y (gd0 rfl) rfl t104 rfl rfl ?_
              refine K.loadS Y [_, _, _] (gd0 rfl) rfl rfl t32 rfl rfl rfl ?_
              refine K.callR [((.tmp 41), _), ((.tmp 43), _)] (tide_Tide_Plus_con (k := k) hx6) (toFn_invoke (cf 130 rfl) (me32_130) rfl) (gd0 rfl) ⟨rfl, rfl, trivial⟩ trivial rfl rfl rfl ?_
              refine K.move (.inr rfl) (gd0 rfl) rfl rfl ?_
              refine K.store Y [_, _, _] (gd0 rfl) rfl rfl rfl t32 rfl rfl rfl rfl rfl ?_
              refine K.nil ?_
              refine At.next ?_
              refine G.ret ?_
              refine At.over_ret ?_
              cases H1
              replace H0 := sum_l H0
              refine At.done Y [(.tmp 10, .c _), (.cell 11 32, .agg [_, _, _])] rfl ⟨.tmp rfl, .st rfl rfl t32 rfl rfl, trivial⟩ (to' := [(0, _), (1, _), (2, _)]) ⟨rfl, rfl, rfl, trivial⟩ ?_ ?_ rfl rfl rfl (.inl rfl)
              · cases H0; rfl
              · cases H0; rfl
            ·
              replace H1 := bif_f H1 h6
              refine G.skip ?_
              exact At.joined (σ := { v : Unit // x2 = Sum.inr v }) (Fs := fun q => [(0, .a (.c (.p 0 0))), (2, .a (.c (.v (.int .i64 a2)))), (4, .a (.c (.fn (.func g4) [2]))), (8, .a (.c (.p 104 0))), (11, .a (.c (.p 105 0))), (12, .a (.c (.p 106 0)))]) (Tl := fun q => [(1, plE 1 p1), (0, blk 0 [.p 1 0, .v (.int .i64 ri0), .v (.int .i64 rg0)] 101), (2, vblk 2 cv4 Tc4), (104, blk 104 [.v (.int .i64 a3.n), .v (.int .i64 a3.sum), .v (.int .i64 a3.low)] 32), (105, blk 105 [.v (.int .i64 0), .v (.int .i64 0), .v (.int .i64 0)] 32), (106, blk 106 [.v (.int .i64 x1.e.k), .v (.int .i64 x1.e.w), .v (.int .i64 x1.left.index), .v (.int .i64 x1.left.gen), .v (.int .i64 x1.right.index), .v (.int .i64 x1.right.gen), .v (.int .i64 x1.size), .v (.int .i64 x1.sum.n), .v (.int .i64 x1.sum.sum), .v (.int .i64 x1.sum.low)] 104)]) ⟨(), (Option.some.inj H1).symm⟩ [(104, 101), (105, 102), (106, 103)] [_, _, _, _, _, _] rfl ⟨rfl, rfl, rfl, rfl, rfl, rfl, trivial⟩ ⟨rfl, (pl_ren rfl), rfl, (blk_ren rfl rfl), rfl, (vblk_ren rfl), rfl, (blk_ren rfl rfl), rfl, (blk_ren rfl rfl), rfl, (blk_ren rfl rfl), trivial⟩ rfl
          ·
            replace H1 := bif_f H1 h5
            refine G.rg ?_
            refine K.fieldAddr Y (gd0 rfl) rfl t104 rfl rfl ?_
            refine K.load1 Y (gd0 rfl) rfl rfl t3 rfl rfl ?_
            refine K.bin (V := .bool (x1.size == 0)) (gd0 rfl) rfl rfl (fun _ => rfl) rfl ?_
            refine K.move (.inl rfl) (gd0 rfl) rfl rfl ?_
            refine K.move (.inl rfl) (gd1 rfl rfl rfl (h1)) rfl rfl ?_
            refine K.fieldAddr Y (gd1 rfl rfl rfl (h1)) rfl t104 rfl rfl ?_
            refine K.load1 Y (gd1 rfl rfl rfl (h1)) rfl rfl t3 rfl rfl ?_
            refine K.bin (V := .bool (decide (a2 ≥ x1.size))) (gd1 rfl rfl rfl (h1)) rfl rfl (fun _ => rfl) rfl ?_
            refine K.pickF (gd0 rfl) rfl (h1) rfl rfl ?_
            refine K.move (.inl rfl) (gd0 rfl) rfl rfl ?_
            refine K.move (.inl rfl) (gd1 rfl rfl rfl (h3)) rfl rfl ?_
            refine K.bin (V := .bool (decide (a2 ≤ 0))) (gd1 rfl rfl rfl (h3)) rfl rfl (fun _ => rfl) rfl ?_
            refine K.move (.inl rfl) (gd1 rfl rfl rfl (h3)) rfl rfl ?_
            refine K.skip rfl rfl rfl rfl (h5) rfl ?_
            refine K.skip rfl rfl rfl rfl (h5) rfl ?_
            refine K.skip rfl rfl rfl rfl (h5) rfl ?_
            refine K.skip rfl rfl rfl rfl (h5) rfl ?_
            refine K.skip rfl rfl rfl rfl (h5) rfl ?_
            refine K.skip rfl rfl rfl rfl (h5) rfl ?_
            refine K.pickF (gd1 rfl rfl rfl (h3)) rfl (h5) rfl rfl ?_
            refine K.pickF (gd0 rfl) rfl (h3) rfl rfl ?_
            refine K.nil ?_
            refine At.next ?_
            refine G.cond rfl (fun h7 => ?_) (fun h7 => ?_)
            · cases h7
            ·
              refine G.skip ?_
              exact At.joined (σ := { v : Unit // x2 = Sum.inr v }) (Fs := fun q => [(0, .a (.c (.p 0 0))), (2, .a (.c (.v (.int .i64 a2)))), (4, .a (.c (.fn (.func g4) [2]))), (8, .a (.c (.p 104 0))), (11, .a (.c (.p 105 0))), (12, .a (.c (.p 106 0)))]) (Tl := fun q => [(1, plE 1 p1), (0, blk 0 [.p 1 0, .v (.int .i64 ri0), .v (.int .i64 rg0)] 101), (2, vblk 2 cv4 Tc4), (104, blk 104 [.v (.int .i64 a3.n), .v (.int .i64 a3.sum), .v (.int .i64 a3.low)] 32), (105, blk 105 [.v (.int .i64 0), .v (.int .i64 0), .v (.int .i64 0)] 32), (106, blk 106 [.v (.int .i64 x1.e.k), .v (.int .i64 x1.e.w), .v (.int .i64 x1.left.index), .v (.int .i64 x1.left.gen), .v (.int .i64 x1.right.index), .v (.int .i64 x1.right.gen), .v (.int .i64 x1.size), .v (.int .i64 x1.sum.n), .v (.int .i64 x1.sum.sum), .v (.int .i64 x1.sum.low)] 104)]) ⟨(), (Option.some.inj H1).symm⟩ [(104, 101), (105, 102), (106, 103)] [_, _, _, _, _, _] rfl ⟨rfl, rfl, rfl, rfl, rfl, rfl, trivial⟩ ⟨rfl, (pl_ren rfl), rfl, (blk_ren rfl rfl), rfl, (vblk_ren rfl), rfl, (blk_ren rfl rfl), rfl, (blk_ren rfl rfl), rfl, (blk_ren rfl rfl), trivial⟩ rfl
    ·
      rintro ⟨v2, rfl⟩
      replace H0 := sum_r H0
      show G _ _ [(0, .a (.c (.p 0 0))), (2, .a (.c (.v (.int .i64 a2)))), (4, .a (.c (.fn (.func g4) [2]))), (8, .a (.c (.p 104 0))), (11, .a (.c (.p 105 0))), (12, .a (.c (.p 106 0)))] [(1, some (plE 1 p1)), (0, some (blk 0 [.p 1 0, .v (.int .i64 ri0), .v (.int .i64 rg0)] 101)), (2, some (vblk 2 cv4 Tc4)), (104, some (blk 104 [.v (.int .i64 a3.n), .v (.int .i64 a3.sum), .v (.int .i64 a3.low)] 32)), (105, some (blk 105 [.v (.int .i64 0), .v (.int .i64 0), .v (.int .i64 0)] 32)), (106, some (blk 106 [.v (.int .i64 x1.e.k), .v (.int .i64 x1.e.w), .v (.int .i64 x1.left.index), .v (.int .i64 x1.left.gen), .v (.int .i64 x1.right.index), .v (.int .i64 x1.right.gen), .v (.int .i64 x1.size), .v (.int .i64 x1.sum.n), .v (.int .i64 x1.sum.sum), .v (.int .i64 x1.sum.low)] 104))] _ _
      refine G.seq ?_
      obtain ⟨x7, hx7, H0⟩ := bnd H0
      refine G.rg ?_
      refine K.move (.inl rfl) (gd0 rfl) rfl rfl ?_
      refine K.fieldAddr Y (gd0 rfl) rfl t104 rfl rfl ?_
      refine K.loadS Y [_, _] (gd0 rfl) rfl rfl t99 rfl rfl rfl ?_
      refine K.callR [(.func 62, _), ((.tmp 45), _), ((.tmp 47), _)] (Tree_getE_con (k := k) hx7 0 1) (toFn_func (cf 62 rfl) rfl) (gd0 rfl) ⟨rfl, rfl, rfl, trivial⟩ ⟨rfl, rfl, trivial⟩ rfl rfl rfl ?_
      refine K.field1 Y (gd0 rfl) rfl t104 rfl t3 rfl rfl ?_
      refine K.move (.inr rfl) (gd0 rfl) rfl rfl ?_
      refine K.nil ?_
      refine At.next ?_
      refine G.seq ?_
      obtain ⟨x8, hx8, H0⟩ := bnd H0
      refine G.rg ?_
      refine K.move (.inl rfl) (gd0 rfl) rfl rfl ?_
      refine K.fieldAddr Y (gd0 rfl) rfl t104 rfl rfl ?_
      refine K.loadS Y [_, _] (gd0 rfl) rfl rfl t99 rfl rfl rfl ?_
      refine K.move (.inl rfl) (gd0 rfl) rfl rfl ?_
      refine K.loadS Y [_, _, _] (gd0 rfl) rfl rfl t32 rfl rfl rfl ?_
      refine K.move (.inl rfl) (gd0 rfl) rfl rfl ?_
      refine K.callR [(.func 68, _), ((.tmp 51), _), ((.tmp 53), _), ((.tmp 54), _), ((.tmp 55), _), ((.tmp 56), _)] (ih hx8) (toFn_func (cf 68 rfl) rfl) (gd0 rfl) ⟨rfl, rfl, rfl, rfl, rfl, rfl, trivial⟩ ⟨rfl, rfl, rfl, trivial⟩ rfl rfl rfl ?_
      refine K.move (.inl rfl) (gd0 rfl) rfl rfl ?_
      refine K.extract (gd0 rfl) rfl rfl rfl ?_
      refine K.extract (gd0 rfl) rfl rfl rfl ?_
      refine K.move (.inr rfl) (gd0 rfl) rfl rfl ?_
      refine K.store Y [_, _, _] (gd0 rfl) rfl rfl rfl t32 rfl rfl rfl rfl rfl ?_
      refine K.nil ?_
      refine At.next ?_
      refine G.seq ?_
      refine G.seq ?_
      refine G.rg ?_
      refine K.move (.inl rfl) (gd0 rfl) rfl rfl ?_
      refine K.bin (V := .bool (decide (x8.1 ≥ 0))) (gd0 rfl) rfl rfl (fun _ => rfl) rfl ?_
      refine K.nil ?_
      refine At.next ?_
      refine G.cond rfl (fun h8 => ?_) (fun h8 => ?_)
      ·
        replace H0 := bif_t H0 h8
        refine G.seq ?_
        refine G.rd mixed ?_
        refine K.move (.inl rfl) (gd0 rfl) rfl rfl ?_
        refine K.loadS Y [_, _, _] (gd0 rfl) rfl rfl t32 rfl rfl rfl ?_
        refine K.move (.inr rfl) (gd0 rfl) rfl rfl ?_
        refine K.store Y [_, _, _] (gd0 rfl) rfl rfl rfl t32 rfl rfl rfl rfl rfl ?_
        refine K.nil ?_
        refine ⟨by kernel_rfl, ?_⟩
        refine At.next ?_
        refine G.ret ?_
        refine At.over_ret ?_
        refine At.done Y [(.tmp 10, .c _), (.cell 11 32, .agg [_, _, _])] rfl ⟨.tmp rfl, .st rfl rfl t32 rfl rfl, trivial⟩ (to' := [(0, _), (1, _), (2, _)]) ⟨rfl, rfl, rfl, trivial⟩ ?_ ?_ rfl rfl rfl (.inl rfl)
        · cases H0; rfl
        · cases H0; rfl
      ·
        replace H0 := bif_f H0 h8
        refine G.skip ?_
        refine At.next ?_
        refine G.seq ?_
        obtain ⟨x9, hx9, H0⟩ := bnd H0
        refine G.rg ?_
        refine K.fieldAddr Y (gd0 rfl) rfl t104 rfl rfl ?_
        refine K.loadS Y [_, _] (gd0 rfl) rfl rfl t35 rfl rfl rfl ?_
        refine K.mkIface Y (gd0 rfl) rfl (mkI Try.underlying35 rfl) rfl ?_
        refine K.callR [((.tmp 66), _)] (Lw07_elem_Sum_con (k := k) hx9) (toFn_invoke (cf 132 rfl) (me35_132) rfl) (gd0 rfl) ⟨rfl, trivial⟩ trivial rfl rfl rfl ?_
        refine K.alloc Y 107 [_, _, _] (gd0 rfl) t32 rfl rfl rfl rfl rfl ?_
        refine K.store Y [_, _, _] (gd0 rfl) rfl rfl rfl t32 rfl rfl rfl rfl rfl ?_
        refine K.nil ?_
        refine At.next ?_
        obtain ⟨x10, H1, H0⟩ := bnd H0
        refine G.seqJ (σ := { v : Unit // x10 = Sum.inr v }) (fun q => [(0, .a (.c (.p 0 0))), (2, .a (.c (.v (.int .i64 a2)))), (4, .a (.c (.fn (.func g4) [2]))), (8, .a (.c (.p 108 0))), (11, .a (.c (.p 109 0))), (12, .a (.c (.p 110 0))), (13, .a (.c (.v (.int .i64 x7.size)))), (15, .a (.c (.p 111 0)))]) (fun q => [(1, plE 1 p1), (0, blk 0 [.p 1 0, .v (.int .i64 ri0), .v (.int .i64 rg0)] 101), (2, vblk 2 cv4 Tc4), (108, blk 108 [.v (.int .i64 x8.2.n), .v (.int .i64 x8.2.sum), .v (.int .i64 x8.2.low)] 32), (109, blk 109 [.v (.int .i64 0), .v (.int .i64 0), .v (.int .i64 0)] 32), (110, blk 110 [.v (.int .i64 x1.e.k), .v (.int .i64 x1.e.w), .v (.int .i64 x1.left.index), .v (.int .i64 x1.left.gen), .v (.int .i64 x1.right.index), .v (.int .i64 x1.right.gen), .v (.int .i64 x1.size), .v (.int .i64 x1.sum.n), .v (.int .i64 x1.sum.sum), .v (.int .i64 x1.sum.low)] 104), (111, blk 111 [.v (.int .i64 x9.n), .v (.int .i64 x9.sum), .v (.int .i64 x9.low)] 32)]) ?_ ?_
        ·
          refine G.seq ?_
          rcases Bool.eq_false_or_eq_true (decide (a2 ≤ x7.size)) with h9 | h9
          ·
            replace H1 := bif_t H1 h9
            obtain ⟨x11, hx11, H1⟩ := bnd H1
            refine G.rg ?_
            refine K.move (.inl rfl) (gd0 rfl) rfl rfl ?_
            refine K.move (.inl rfl) (gd0 rfl) rfl rfl ?_
            refine K.bin (V := .bool (decide (a2 ≤ x7.size))) (gd0 rfl) rfl rfl (fun _ => rfl) rfl ?_
            refine K.move (.inl rfl) (gd0 rfl) rfl rfl ?_
            refine K.move (.inl rfl) (gd1 rfl rfl rfl (h9)) rfl rfl ?_
            refine K.loadS Y [_, _, _] (gd1 rfl rfl rfl (h9)) rfl rfl t32 rfl rfl rfl ?_
            refine K.loadS Y [_, _, _] (gd1 rfl rfl rfl (h9)) rfl rfl t32 rfl rfl rfl ?_
            refine K.callR [((.tmp 72), _), ((.tmp 73), _), ((.tmp 74), _)] (hm4 2 hx11) (toFn_val cg4 rfl) (gd1 rfl rfl rfl (h9)) ⟨rfl, rfl, rfl, trivial⟩ ⟨rfl, trivial⟩ rfl rfl rfl ?_
            refine K.pickT (gd0 rfl) rfl (h9) rfl rfl ?_
            refine K.nil ?_
            refine At.next ?_
            refine G.cond rfl (fun h10 => ?_) (fun h10 => ?_)
            ·
              replace H1 := bif_t H1 h10
              refine G.seq ?_
              refine G.rd mixed ?_
              refine K.move (.inl rfl) (gd0 rfl) rfl rfl ?_
              refine K.loadS Y [_, _, _] (gd0 rfl) rfl rfl t32 rfl rfl rfl ?_
              refine K.move (.inr rfl) (gd0 rfl) rfl rfl ?_
              refine K.store Y [_, _, _] (gd0 rfl) rfl rfl rfl t32 rfl rfl rfl rfl rfl ?_
              refine K.nil ?_
              refine ⟨by kernel_rfl, ?_⟩
              refine At.next ?_
              refine G.ret ?_
              refine At.over_ret ?_
              cases H1
              replace H0 := sum_l H0
              refine At.done Y [(.tmp 10, .c _), (.cell 11 32, .agg [_, _, _])] rfl ⟨.tmp rfl, .st rfl rfl t32 rfl rfl, trivial⟩ (to' := [(0, _), (1, _), (2, _)]) ⟨rfl, rfl, rfl, trivial⟩ ?_ ?_ rfl rfl rfl (.inl rfl)
              · cases H0; rfl
              · cases H0; rfl
            ·
              replace H1 := bif_f H1 h10
              refine G.skip ?_
              exact At.joined (σ := { v : Unit // x10 = Sum.inr v }) (Fs := fun q => [(0, .a (.c (.p 0 0))), (2, .a (.c (.v (.int .i64 a2)))), (4, .a (.c (.fn (.func g4) [2]))), (8, .a (.c (.p 108 0))), (11, .a (.c (.p 109 0))), (12, .a (.c (.p 110 0))), (13, .a (.c (.v (.int .i64 x7.size)))), (15, .a (.c (.p 111 0)))]) (Tl := fun q => [(1, plE 1 p1), (0, blk 0 [.p 1 0, .v (.int .i64 ri0), .v (.int .i64 rg0)] 101), (2, vblk 2 cv4 Tc4), (108, blk 108 [.v (.int .i64 x8.2.n), .v (.int .i64 x8.2.sum), .v (.int .i64 x8.2.low)] 32), (109, blk 109 [.v (.int .i64 0), .v (.int .i64 0), .v (.int .i64 0)] 32), (110, blk 110 [.v (.int .i64 x1.e.k), .v (.int .i64 x1.e.w), .v (.int .i64 x1.left.index), .v (.int .i64 x1.left.gen), .v (.int .i64 x1.right.index), .v (.int .i64 x1.right.gen), .v (.int .i64 x1.size), .v (.int .i64 x1.sum.n), .v (.int .i64 x1.sum.sum), .v (.int .i64 x1.sum.low)] 104), (111, blk 111 [.v (.int .i64 x9.n), .v (.int .i64 x9.sum), .v (.int .i64 x9.low)] 32)]) ⟨(), (Option.some.inj H1).symm⟩ [(108, 104), (109, 105), (110, 106), (111, 107)] [_, _, _, _, _, _, _] rfl ⟨rfl, rfl, rfl, rfl, rfl, rfl, rfl, rfl, trivial⟩ ⟨rfl, (pl_ren rfl), rfl, (blk_ren rfl rfl), rfl, (vblk_ren rfl), rfl, (blk_ren rfl rfl), rfl, (blk_ren rfl rfl), rfl, (blk_ren rfl rfl), rfl, (blk_ren rfl rfl), trivial⟩ rfl
          ·
            replace H1 := bif_f H1 h9
            refine G.rg ?_
            refine K.move (.inl rfl) (gd0 rfl) rfl rfl ?_
            refine K.move (.inl rfl) (gd0 rfl) rfl rfl ?_
            refine K.bin (V := .bool (decide (a2 ≤ x7.size))) (gd0 rfl) rfl rfl (fun _ => rfl) rfl ?_
            refine K.move (.inl rfl) (gd0 rfl) rfl rfl ?_
            refine K.skip rfl rfl rfl rfl (h9) rfl ?_
            refine K.skip rfl rfl rfl rfl (h9) rfl ?_
            refine K.skip rfl rfl rfl rfl (h9) rfl ?_
            refine K.skip rfl rfl rfl rfl (h9) rfl ?_
            refine K.pickF (gd0 rfl) rfl (h9) rfl rfl ?_
            refine K.nil ?_
            refine At.next ?_
            refine G.cond rfl (fun h11 => ?_) (fun h11 => ?_)
            · cases h11
            ·
              refine G.skip ?_
              exact At.joined (σ := { v : Unit // x10 = Sum.inr v }) (Fs := fun q => [(0, .a (.c (.p 0 0))), (2, .a (.c (.v (.int .i64 a2)))), (4, .a (.c (.fn (.func g4) [2]))), (8, .a (.c (.p 108 0))), (11, .a (.c (.p 109 0))), (12, .a (.c (.p 110 0))), (13, .a (.c (.v (.int .i64 x7.size)))), (15, .a (.c (.p 111 0)))]) (Tl := fun q => [(1, plE 1 p1), (0, blk 0 [.p 1 0, .v (.int .i64 ri0), .v (.int .i64 rg0)] 101), (2, vblk 2 cv4 Tc4), (108, blk 108 [.v (.int .i64 x8.2.n), .v (.int .i64 x8.2.sum), .v (.int .i64 x8.2.low)] 32), (109, blk 109 [.v (.int .i64 0), .v (.int .i64 0), .v (.int .i64 0)] 32), (110, blk 110 [.v (.int .i64 x1.e.k), .v (.int .i64 x1.e.w), .v (.int .i64 x1.left.index), .v (.int .i64 x1.left.gen), .v (.int .i64 x1.right.index), .v (.int .i64 x1.right.gen), .v (.int .i64 x1.size), .v (.int .i64 x1.sum.n), .v (.int .i64 x1.sum.sum), .v (.int .i64 x1.sum.low)] 104), (111, blk 111 [.v (.int .i64 x9.n), .v (.int .i64 x9.sum), .v (.int .i64 x9.low)] 32)]) ⟨(), (Option.some.inj H1).symm⟩ [(108, 104), (109, 105), (110, 106), (111, 107)] [_, _, _, _, _, _, _] rfl ⟨rfl, rfl, rfl, rfl, rfl, rfl, rfl, rfl, trivial⟩ ⟨rfl, (pl_ren rfl), rfl, (blk_ren rfl rfl), rfl, (vblk_ren rfl), rfl, (blk_ren rfl rfl), rfl, (blk_ren rfl rfl), rfl, (blk_ren rfl rfl), rfl, (blk_ren rfl rfl), trivial⟩ rfl
        ·
          rintro ⟨v10, rfl⟩
          replace H0 := sum_r H0
          show G _ _ [(0, .a (.c (.p 0 0))), (2, .a (.c (.v (.int .i64 a2)))), (4, .a (.c (.fn (.func g4) [2]))), (8, .a (.c (.p 108 0))), (11, .a (.c (.p 109 0))), (12, .a (.c (.p 110 0))), (13, .a (.c (.v (.int .i64 x7.size)))), (15, .a (.c (.p 111 0)))] [(1, some (plE 1 p1)), (0, some (blk 0 [.p 1 0, .v (.int .i64 ri0), .v (.int .i64 rg0)] 101)), (2, some (vblk 2 cv4 Tc4)), (108, some (blk 108 [.v (.int .i64 x8.2.n), .v (.int .i64 x8.2.sum), .v (.int .i64 x8.2.low)] 32)), (109, some (blk 109 [.v (.int .i64 0), .v (.int .i64 0), .v (.int .i64 0)] 32)), (110, some (blk 110 [.v (.int .i64 x1.e.k), .v (.int .i64 x1.e.w), .v (.int .i64 x1.left.index), .v (.int .i64 x1.left.gen), .v (.int .i64 x1.right.index), .v (.int .i64 x1.right.gen), .v (.int .i64 x1.size), .v (.int .i64 x1.sum.n), .v (.int .i64 x1.sum.sum), .v (.int .i64 x1.sum.low)] 104)), (111, some (blk 111 [.v (.int .i64 x9.n), .v (.int .i64 x9.sum), .v (.int .i64 x9.low)] 32))] _ _
          refine G.seq ?_
          obtain ⟨x12, hx12, H0⟩ := bnd H0
          obtain ⟨x13, hx13, H0⟩ := bnd H0
          refine G.rd mixed ?_
          refine K.move (.inl rfl) (gd0 rfl) rfl rfl ?_
          refine K.fieldAddr Y (gd0 rfl) rfl t104 rfl rfl ?_
          refine K.loadS Y [_, _] (gd0 rfl) rfl rfl t99 rfl rfl rfl ?_
          refine K.move (.inl rfl) (gd0 rfl) rfl rfl ?_
          refine K.move (.inl rfl) (gd0 rfl) rfl rfl ?_
          refine K.bin (V := .int .i64 (w64 (a2 - x7.size))) (gd0 rfl) rfl rfl (fun _ => rfl) rfl ?_
          refine K.bin (V := .int .i64 (w64 ((w64 (a2 - x7.size)) - 1))) (gd0 rfl) rfl rfl (fun _ => rfl) rfl ?_
          refine K.loadS Y [_, _, _] (gd0 rfl) rfl rfl t32 rfl rfl rfl ?_
          refine K.mkIface Y (gd0 rfl) rfl (mkI Try.underlying32 rfl) rfl ?_
          refine K.loadS Y [_, _, _] (gd0 rfl) rfl rfl t32 rfl rfl rfl ?_
          refine K.callR [((.tmp 88), _), ((.tmp 89), _)] (tide_Tide_Plus_con (k := k) hx12) (toFn_invoke (cf 130 rfl) (me32_130) rfl) (gd0 rfl) ⟨rfl, rfl, trivial⟩ trivial rfl rfl rfl ?_
          refine K.move (.inl rfl) (gd0 rfl) rfl rfl ?_
          refine K.callR [(.func 68, _), ((.tmp 80), _), ((.tmp 82), _), ((.tmp 86), _), ((.tmp 90), _), ((.tmp 91), _)] (ih hx13) (toFn_func (cf 68 rfl) rfl) (gd0 rfl) ⟨rfl, rfl, rfl, rfl, rfl, rfl, trivial⟩ ⟨rfl, rfl, rfl, trivial⟩ rfl rfl rfl ?_
          refine K.move (.inl rfl) (gd0 rfl) rfl rfl ?_
          refine K.extract (gd0 rfl) rfl rfl rfl ?_
          refine K.extract (gd0 rfl) rfl rfl rfl ?_
          refine K.move (.inr rfl) (gd0 rfl) rfl rfl ?_
          refine K.store Y [_, _, _] (gd0 rfl) rfl rfl rfl t32 rfl rfl rfl rfl rfl ?_
          refine K.nil ?_
          refine ⟨by kernel_rfl, ?_⟩
          refine At.next ?_
          refine G.seq ?_
          refine G.seq ?_
          refine G.rg ?_
          refine K.move (.inl rfl) (gd0 rfl) rfl rfl ?_
          refine K.bin (V := .bool (decide (x13.1 ≥ 0))) (gd0 rfl) rfl rfl (fun _ => rfl) rfl ?_
          refine K.nil ?_
          refine At.next ?_
          refine G.cond rfl (fun h12 => ?_) (fun h12 => ?_)
          ·
            replace H0 := bif_t H0 h12
            refine G.rg ?_
            refine K.move (.inl rfl) (gd0 rfl) rfl rfl ?_
            refine K.move (.inl rfl) (gd0 rfl) rfl rfl ?_
            refine K.bin (V := .int .i64 (w64 (x7.size + 1))) (gd0 rfl) rfl rfl (fun _ => rfl) rfl ?_
            refine K.bin (V := .int .i64 (w64 (x13.1 + (w64 (x7.size + 1))))) (gd0 rfl) rfl rfl (fun _ => rfl) rfl ?_
            refine K.move (.inr rfl) (gd0 rfl) rfl rfl ?_
            refine K.nil ?_
            refine At.next ?_
            refine G.seq ?_
            refine G.rd mixed ?_
            refine K.move (.inl rfl) (gd0 rfl) rfl rfl ?_
            refine K.loadS Y [_, _, _] (gd0 rfl) rfl rfl t32 rfl rfl rfl ?_
            refine K.move (.inr rfl) (gd0 rfl) rfl rfl ?_
            refine K.store Y [_, _, _] (gd0 rfl) rfl rfl rfl t32 rfl rfl rfl rfl rfl ?_
            refine K.nil ?_
            refine ⟨by kernel_rfl, ?_⟩
            refine At.next ?_
            refine G.ret ?_
            refine At.done Y [(.tmp 10, .c _), (.cell 11 32, .agg [_, _, _])] rfl ⟨.tmp rfl, .st rfl rfl t32 rfl rfl, trivial⟩ (to' := [(0, _), (1, _), (2, _)]) ⟨rfl, rfl, rfl, trivial⟩ ?_ ?_ rfl rfl rfl (.inl rfl)
            · cases H0; rfl
            · cases H0; rfl
          ·
            replace H0 := bif_f H0 h12
            refine G.skip ?_
            refine At.next ?_
            refine G.seq ?_
            refine G.rd mixed ?_
            refine K.move (.inl rfl) (gd0 rfl) rfl rfl ?_
            refine K.loadS Y [_, _, _] (gd0 rfl) rfl rfl t32 rfl rfl rfl ?_
            refine K.move (.inr rfl) (gd0 rfl) rfl rfl ?_
            refine K.store Y [_, _, _] (gd0 rfl) rfl rfl rfl t32 rfl rfl rfl rfl rfl ?_
            refine K.nil ?_
            refine ⟨by kernel_rfl, ?_⟩
            refine At.next ?_
            refine G.ret ?_
            refine At.done Y [(.tmp 10, .c _), (.cell 11 32, .agg [_, _, _])] rfl ⟨.tmp rfl, .st rfl rfl t32 rfl rfl, trivial⟩ (to' := [(0, _), (1, _), (2, _)]) ⟨rfl, rfl, rfl, trivial⟩ ?_ ?_ rfl rfl rfl (.inl rfl)
            · cases H0; rfl
            · cases H0; rfl
theorem Tree_firstE_f14_con {k n : Nat} {g4 : FuncId} {fn4 : TTide → TTide → Option Bool} {cv4 : List Value} {Tc4 : TypeId} (cg4 : fnB Try.prog g4 = true) (hm4 : ∀ (c : Nat) {z0 : TTide} {z1 : TTide} {y : Bool}, fn4 z0 z1 = some y → SCon Try.prog g4 [.a (.agg ((eTTide z0).map .v)), .a (.agg ((eTTide z1).map .v)), SV.p c 0] [(c, vblk c cv4 Tc4)] (SV.b y) [(c, vblk c cv4 Tc4)] []) {p1 : Pool (TNode TL07Elem TTide)} {a1 : TRef} {a2 : Int} {a3 : TTide} {ri0 rg0 : Int} {r : Int × TTide}  (H0 : Tree_first.r opsE k n p1 a1 a2 a3 fn4 = some r) (m0 m1 m2 : Nat) : SCon Try.prog 68 [SV.p m0 0, .a (.agg ((eTRef a1).map .v)), .a (.c (.v (.int .i64 a2))), .a (.agg ((eTTide a3).map .v)), .a (.c (.fn (.func g4) [m2]))] [(m0, blk m0 [.p m1 0, .i ri0, .i rg0] 101), (m1, plE m1 p1), (m2, vblk m2 cv4 Tc4)] (.tup [.c (.v (.int .i64 r.1)), .agg ((eTTide r.2).map .v)]) [(m0, blk m0 [.p m1 0, .i ri0, .i rg0] 101), (m1, plE m1 p1), (m2, vblk m2 cv4 Tc4)] [] :=
  SCon.ren (rn [(0, m0), (1, m1), (2, m2)]) (Tree_firstE_f14_con0 (k := k) cg4 hm4  H0) ⟨(blk_ren rfl rfl), (pl_ren rfl), (vblk_ren rfl), trivial⟩ ⟨(blk_ren rfl rfl), (pl_ren rfl), (vblk_ren rfl), trivial⟩ (by simp) (by simp)
theorem Tree_FirstE_f12_con0 {k : Nat} {g2 : FuncId} {fn2 : TTide → TTide → Option Bool} {cv2 : List Value} {Tc2 : TypeId} (cg2 : fnB Try.prog g2 = true) (hm2 : ∀ (c : Nat) {z0 : TTide} {z1 : TTide} {y : Bool}, fn2 z0 z1 = some y → SCon Try.prog g2 [.a (.agg ((eTTide z0).map .v)), .a (.agg ((eTTide z1).map .v)), SV.p c 0] [(c, vblk c cv2 Tc2)] (SV.b y) [(c, vblk c cv2 Tc2)] []) {p1 : Pool (TNode TL07Elem TTide)} {rt0 : TRef} {a1 : Int} {r : Int}  (H0 : Tree_First.f opsE k p1 rt0 a1 fn2 = some r) : SCon Try.prog 30 [SV.p 0 0, .a (.c (.v (.int .i64 a1))), .a (.c (.fn (.func g2) [2]))] [(0, blk 0 [.p 1 0, .i rt0.index, .i rt0.gen] 101), (1, plE 1 p1), (2, vblk 2 cv2 Tc2)] (.a (.c (.v (.int .i64 r)))) [(0, blk 0 [.p 1 0, .i rt0.index, .i rt0.gen] 101), (1, plE 1 p1), (2, vblk 2 cv2 Tc2)] [] := by
  rw [Tree_First.f] at H0
  refine spec_of [(0, _), (1, _), (2, _)] [(0, _), (1, _), (2, _)] 27 Try.func30 rfl Try.ntmps30 rfl rfl rfl rfl (fun β W F => ?_)
  refine G.seq ?_
  refine G.rg ?_
  refine K.move (.inr rfl) (gd0 rfl) rfl rfl ?_
  refine K.nil ?_
  refine At.next ?_
  refine G.seq ?_
  refine G.rg ?_
  refine K.alloc Y 100 [_, _, _] (gd0 rfl) t32 rfl rfl rfl rfl rfl ?_
  refine K.nil ?_
  refine At.next ?_
  refine G.seq ?_
  obtain ⟨x1, hx1, H0⟩ := bnd H0
  obtain ⟨x2, hx2, H0⟩ := bnd H0
  refine G.rd mixed ?_
  refine K.move (.inl rfl) (gd0 rfl) rfl rfl ?_
  refine K.move (.inl rfl) (gd0 rfl) rfl rfl ?_
  refine K.nilCheck (gd0 rfl) rfl rfl ?_
  refine K.fieldAddr Y (gd0 rfl) rfl t101 rfl rfl ?_
  refine K.loadS Y [_, _] (gd0 rfl) rfl rfl t99 rfl rfl rfl ?_
  refine K.move (.inl rfl) (gd0 rfl) rfl rfl ?_
  refine K.bi2 (V := .int .i64 (gmax a1 0)) (gd0 rfl) rfl rfl (fun _ _ => rfl) rfl ?_
  refine K.move (.inl rfl) (gd0 rfl) rfl rfl ?_
  refine K.callR [(.func 20, _), ((.tmp 18), _)] (Tree_LenE_con (k := k) hx1 0 1) (toFn_func (cf 20 rfl) rfl) (gd0 rfl) ⟨rfl, rfl, trivial⟩ ⟨rfl, rfl, trivial⟩ rfl rfl rfl ?_
  refine K.bi2 (V := .int .i64 (gmin (gmax a1 0) x1)) (gd0 rfl) rfl rfl (fun _ _ => rfl) rfl ?_
  refine K.loadS Y [_, _, _] (gd0 rfl) rfl rfl t32 rfl rfl rfl ?_
  refine K.move (.inl rfl) (gd0 rfl) rfl rfl ?_
  refine K.callR [(.func 68, _), ((.tmp 11), _), ((.tmp 15), _), ((.tmp 20), _), ((.tmp 21), _), ((.tmp 22), _)] (Tree_firstE_f14_con (k := k) cg2 hm2 hx2 0 1 2) (toFn_func (cf 68 rfl) rfl) (gd0 rfl) ⟨rfl, rfl, rfl, rfl, rfl, rfl, trivial⟩ ⟨rfl, rfl, rfl, trivial⟩ rfl rfl rfl ?_
  refine K.move (.inl rfl) (gd0 rfl) rfl rfl ?_
  refine K.extract (gd0 rfl) rfl rfl rfl ?_
  refine K.extract (gd0 rfl) rfl rfl rfl ?_
  refine K.alloc Y 101 [_, _, _] (gd0 rfl) t32 rfl rfl rfl rfl rfl ?_
  refine K.move (.inr rfl) (gd0 rfl) rfl rfl ?_
  refine K.store Y [_, _, _] (gd0 rfl) rfl rfl rfl t32 rfl rfl rfl rfl rfl ?_
  refine K.nil ?_
  refine ⟨by kernel_rfl, ?_⟩
  refine At.next ?_
  refine G.seq ?_
  refine G.rg ?_
  refine K.move (.inl rfl) (gd0 rfl) rfl rfl ?_
  refine K.move (.inr rfl) (gd0 rfl) rfl rfl ?_
  refine K.nil ?_
  refine At.next ?_
  refine G.ret ?_
  refine At.done Y [(.tmp 6, .c _)] rfl ⟨.tmp rfl, trivial⟩ (to' := [(0, _), (1, _), (2, _)]) ⟨rfl, rfl, rfl, trivial⟩ ?_ ?_ rfl rfl rfl (.inl rfl)
  · cases H0; rfl
  · cases H0; rfl
theorem Tree_FirstE_f12_con {k : Nat} {g2 : FuncId} {fn2 : TTide → TTide → Option Bool} {cv2 : List Value} {Tc2 : TypeId} (cg2 : fnB Try.prog g2 = true) (hm2 : ∀ (c : Nat) {z0 : TTide} {z1 : TTide} {y : Bool}, fn2 z0 z1 = some y → SCon Try.prog g2 [.a (.agg ((eTTide z0).map .v)), .a (.agg ((eTTide z1).map .v)), SV.p c 0] [(c, vblk c cv2 Tc2)] (SV.b y) [(c, vblk c cv2 Tc2)] []) {p1 : Pool (TNode TL07Elem TTide)} {rt0 : TRef} {a1 : Int} {r : Int}  (H0 : Tree_First.f opsE k p1 rt0 a1 fn2 = some r) (m0 m1 m2 : Nat) : SCon Try.prog 30 [SV.p m0 0, .a (.c (.v (.int .i64 a1))), .a (.c (.fn (.func g2) [m2]))] [(m0, blk m0 [.p m1 0, .i rt0.index, .i rt0.gen] 101), (m1, plE m1 p1), (m2, vblk m2 cv2 Tc2)] (.a (.c (.v (.int .i64 r)))) [(m0, blk m0 [.p m1 0, .i rt0.index, .i rt0.gen] 101), (m1, plE m1 p1), (m2, vblk m2 cv2 Tc2)] [] :=
  SCon.ren (rn [(0, m0), (1, m1), (2, m2)]) (Tree_FirstE_f12_con0 (k := k) cg2 hm2  H0) ⟨(blk_ren rfl rfl), (pl_ren rfl), (vblk_ren rfl), trivial⟩ ⟨(blk_ren rfl rfl), (pl_ren rfl), (vblk_ren rfl), trivial⟩ (by simp) (by simp)
theorem Tree_lastOfE_f14_con0 {k : Nat} {g4 : FuncId} {fn4 : TTide → TTide → Option Bool} {cv4 : List Value} {Tc4 : TypeId} (cg4 : fnB Try.prog g4 = true) (hm4 : ∀ (c : Nat) {z0 : TTide} {z1 : TTide} {y : Bool}, fn4 z0 z1 = some y → SCon Try.prog g4 [.a (.agg ((eTTide z0).map .v)), .a (.agg ((eTTide z1).map .v)), SV.p c 0] [(c, vblk c cv4 Tc4)] (SV.b y) [(c, vblk c cv4 Tc4)] []) : ∀ {n : Nat} {p1 : Pool (TNode TL07Elem TTide)} {a1 : TRef} {a2 : Int} {a3 : TTide} {ri0 rg0 : Int} {r : Int}  (H0 : Tree_lastOf.r opsE k n p1 a1 a2 a3 fn4 = some r), SCon Try.prog 69 [SV.p 0 0, .a (.agg ((eTRef a1).map .v)), .a (.c (.v (.int .i64 a2))), .a (.agg ((eTTide a3).map .v)), .a (.c (.fn (.func g4) [2]))] [(0, blk 0 [.p 1 0, .i ri0, .i rg0] 101), (1, plE 1 p1), (2, vblk 2 cv4 Tc4)] (.a (.c (.v (.int .i64 r)))) [(0, blk 0 [.p 1 0, .i ri0, .i rg0] 101), (1, plE 1 p1), (2, vblk 2 cv4 Tc4)] [] := by
  intro n
  induction n with
  | zero => intro p1 a1 a2 a3 ri0 rg0 r H0; exact absurd H0 (by simp [Tree_lastOf.r])
  | succ n ih =>
    intro p1 a1 a2 a3 ri0 rg0 r H0
    rw [Tree_lastOf.r] at H0
    refine spec_of [(0, _), (1, _), (2, _), (3, _), (4, _)] [(0, _), (1, _), (2, _)] 93 Try.func69 rfl Try.ntmps69 rfl rfl rfl rfl (fun β W F => ?_)
    refine G.seq ?_
    refine G.rg ?_
    refine K.box Y 100 [_, _] (gd0 rfl) rfl rfl rfl rfl rfl rfl ?_
    refine K.box Y 101 [_, _, _] (gd0 rfl) rfl rfl rfl rfl rfl rfl ?_
    refine K.move (.inr rfl) (gd0 rfl) rfl rfl ?_
    refine K.nil ?_
    refine At.next ?_
    refine G.seq ?_
    obtain ⟨x1, hx1, H0⟩ := bnd H0
    refine G.rg ?_
    refine K.move (.inl rfl) (gd0 rfl) rfl rfl ?_
    refine K.loadS Y [_, _] (gd0 rfl) rfl rfl t99 rfl rfl rfl ?_
    refine K.callR [(.func 62, _), ((.tmp 16), _), ((.tmp 17), _)] (Tree_getE_con (k := k) hx1 0 1) (toFn_func (cf 62 rfl) rfl) (gd0 rfl) ⟨rfl, rfl, rfl, trivial⟩ ⟨rfl, rfl, trivial⟩ rfl rfl rfl ?_
    refine K.alloc Y 102 [_, _, _, _, _, _, _, _, _, _] (gd0 rfl) t104 rfl rfl rfl rfl rfl ?_
    refine K.store Y [_, _, _, _, _, _, _, _, _, _] (gd0 rfl) rfl rfl rfl t104 rfl rfl rfl rfl rfl ?_
    refine K.nil ?_
    refine At.next ?_
    obtain ⟨x2, H1, H0⟩ := bnd H0
    refine G.seqJ (σ := { v : Unit // x2 = Sum.inr v }) (fun q => [(0, .a (.c (.p 0 0))), (2, .a (.c (.v (.int .i64 a2)))), (4, .a (.c (.fn (.func g4) [2]))), (8, .a (.c (.p 103 0))), (11, .a (.c (.p 104 0)))]) (fun q => [(1, plE 1 p1), (0, blk 0 [.p 1 0, .v (.int .i64 ri0), .v (.int .i64 rg0)] 101), (2, vblk 2 cv4 Tc4), (103, blk 103 [.v (.int .i64 a3.n), .v (.int .i64 a3.sum), .v (.int .i64 a3.low)] 32), (104, blk 104 [.v (.int .i64 x1.e.k), .v (.int .i64 x1.e.w), .v (.int .i64 x1.left.index), .v (.int .i64 x1.left.gen), .v (.int .i64 x1.right.index), .v (.int .i64 x1.right.gen), .v (.int .i64 x1.size), .v (.int .i64 x1.sum.n), .v (.int .i64 x1.sum.sum), .v (.int .i64 x1.sum.low)] 104)]) ?_ ?_
    ·
      refine G.seq ?_
      rcases Bool.eq_false_or_eq_true (x1.size == 0) with h1 | h1
      ·
        replace H1 := bif_t H1 h1
        refine G.rg ?_
        refine K.fieldAddr Y (gd0 rfl) rfl t104 rfl rfl ?_
        refine K.load1 Y (gd0 rfl) rfl rfl t3 rfl rfl ?_
        refine K.bin (V := .bool (x1.size == 0)) (gd0 rfl) rfl rfl (fun _ => rfl) rfl ?_
        refine K.move (.inl rfl) (gd0 rfl) rfl rfl ?_
        refine K.skip rfl rfl rfl rfl (h1) rfl ?_
        refine K.skip rfl rfl rfl rfl (h1) rfl ?_
        refine K.pickT (gd0 rfl) rfl (h1) rfl rfl ?_
        refine K.move (.inl rfl) (gd0 rfl) rfl rfl ?_
        refine K.skip rfl rfl rfl rfl (rfl) rfl ?_
        refine K.skip rfl rfl rfl rfl (rfl) rfl ?_
        refine K.skip rfl rfl rfl rfl (rfl) rfl ?_
        refine K.skip rfl rfl rfl rfl (rfl) rfl ?_
        refine K.skip rfl rfl rfl rfl (rfl) rfl ?_
        refine K.skipU rfl rfl rfl rfl rfl ?_
        refine K.skipU rfl rfl rfl rfl rfl ?_
        refine K.skipU rfl rfl rfl rfl rfl ?_
        refine K.skipU rfl rfl rfl rfl rfl ?_
        refine K.skipU rfl rfl rfl rfl rfl ?_
        refine K.skipU rfl rfl rfl rfl rfl ?_
        refine K.skip rfl rfl rfl rfl (rfl) rfl ?_
        refine K.pickT (gd0 rfl) rfl (rfl) rfl rfl ?_
        refine K.nil ?_
        refine At.next ?_
        refine G.cond rfl (fun h2 => ?_) (fun h2 => ?_)
        ·
          refine G.seq ?_
          refine G.rg ?_
          refine K.move (.inr rfl) (gd0 rfl) rfl rfl ?_
          refine K.nil ?_
          refine At.next ?_
          refine G.ret ?_
          refine At.over_ret ?_
          cases H1
          replace H0 := sum_l H0
          refine At.done Y [(.tmp 10, .c _)] rfl ⟨.tmp rfl, trivial⟩ (to' := [(0, _), (1, _), (2, _)]) ⟨rfl, rfl, rfl, trivial⟩ ?_ ?_ rfl rfl rfl (.inl rfl)
          · cases H0; rfl
          · cases H0; rfl
        · cases h2
      ·
        replace H1 := bif_f H1 h1
        rcases Bool.eq_false_or_eq_true (decide (a2 ≤ 0)) with h3 | h3
        ·
          replace H1 := bif_t H1 h3
          refine G.rg ?_
          refine K.fieldAddr Y (gd0 rfl) rfl t104 rfl rfl ?_
          refine K.load1 Y (gd0 rfl) rfl rfl t3 rfl rfl ?_
          refine K.bin (V := .bool (x1.size == 0)) (gd0 rfl) rfl rfl (fun _ => rfl) rfl ?_
          refine K.move (.inl rfl) (gd0 rfl) rfl rfl ?_
          refine K.move (.inl rfl) (gd1 rfl rfl rfl (h1)) rfl rfl ?_
          refine K.bin (V := .bool (decide (a2 ≤ 0))) (gd1 rfl rfl rfl (h1)) rfl rfl (fun _ => rfl) rfl ?_
          refine K.pickF (gd0 rfl) rfl (h1) rfl rfl ?_
          refine K.move (.inl rfl) (gd0 rfl) rfl rfl ?_
          refine K.skip rfl rfl rfl rfl (h3) rfl ?_
          refine K.skip rfl rfl rfl rfl (h3) rfl ?_
          refine K.skip rfl rfl rfl rfl (h3) rfl ?_
          refine K.skip rfl rfl rfl rfl (h3) rfl ?_
          refine K.skip rfl rfl rfl rfl (h3) rfl ?_
          refine K.skipU rfl rfl rfl rfl rfl ?_
          refine K.skipU rfl rfl rfl rfl rfl ?_
          refine K.skipU rfl rfl rfl rfl rfl ?_
          refine K.skipU rfl rfl rfl rfl rfl ?_
          refine K.skipU rfl rfl rfl rfl rfl ?_
          refine K.skipU rfl rfl rfl rfl rfl ?_
          refine K.skip rfl rfl rfl rfl (h3) rfl ?_
          refine K.pickT (gd0 rfl) rfl (h3) rfl rfl ?_
          refine K.nil ?_
          refine At.next ?_
          refine G.cond rfl (fun h4 => ?_) (fun h4 => ?_)
          ·
            refine G.seq ?_
            refine G.rg ?_
            refine K.move (.inr rfl) (gd0 rfl) rfl rfl ?_
            refine K.nil ?_
            refine At.next ?_
            refine G.ret ?_
            refine At.over_ret ?_
            cases H1
            replace H0 := sum_l H0
            refine At.done Y [(.tmp 10, .c _)] rfl ⟨.tmp rfl, trivial⟩ (to' := [(0, _), (1, _), (2, _)]) ⟨rfl, rfl, rfl, trivial⟩ ?_ ?_ rfl rfl rfl (.inl rfl)
            · cases H0; rfl
            · cases H0; rfl
          · cases h4
        ·
          replace H1 := bif_f H1 h3
          rcases Bool.eq_false_or_eq_true (decide (a2 ≥ x1.size)) with h5 | h5
          ·
            replace H1 := bif_t H1 h5
            obtain ⟨x3, hx3, H1⟩ := bnd H1
            refine G.rg ?_
            refine K.fieldAddr Y (gd0 rfl) rfl t104 rfl rfl ?_
            refine K.load1 Y (gd0 rfl) rfl rfl t3 rfl rfl ?_
            refine K.bin (V := .bool (x1.size == 0)) (gd0 rfl) rfl rfl (fun _ => rfl) rfl ?_
            refine K.move (.inl rfl) (gd0 rfl) rfl rfl ?_
            refine K.move (.inl rfl) (gd1 rfl rfl rfl (h1)) rfl rfl ?_
            refine K.bin (V := .bool (decide (a2 ≤ 0))) (gd1 rfl rfl rfl (h1)) rfl rfl (fun _ => rfl) rfl ?_
            refine K.pickF (gd0 rfl) rfl (h1) rfl rfl ?_
            refine K.move (.inl rfl) (gd0 rfl) rfl rfl ?_
            refine K.move (.inl rfl) (gd1 rfl rfl rfl (h3)) rfl rfl ?_
            refine K.fieldAddr Y (gd1 rfl rfl rfl (h3)) rfl t104 rfl rfl ?_
            refine K.load1 Y (gd1 rfl rfl rfl (h3)) rfl rfl t3 rfl rfl ?_
            refine K.bin (V := .bool (decide (a2 ≥ x1.size))) (gd1 rfl rfl rfl (h3)) rfl rfl (fun _ => rfl) rfl ?_
            refine K.move (.inl rfl) (gd1 rfl rfl rfl (h3)) rfl rfl ?_
            refine K.move (.inl rfl) (gd1 rfl rfl rfl (h5)) rfl rfl ?_
            refine K.loadS Y [_, _, _] (gd1 rfl rfl rfl (h5)) rfl rfl t32 rfl rfl rfl ?_
            refine K.fieldAddr Y (gd1 rfl rfl rfl (h5)) rfl t104 rfl rfl ?_
            refine K.loadS Y [_, _, _] (gd1 rfl rfl rfl (h5)) rfl rfl t32 rfl rfl rfl ?_
            refine K.callR [((.tmp 32), _), ((.tmp 33), _), ((.tmp 35), _)] (hm4 2 hx3) (toFn_val cg4 rfl) (gd1 rfl rfl rfl (h5)) ⟨rfl, rfl, rfl, trivial⟩ ⟨rfl, trivial⟩ rfl rfl rfl ?_
            refine K.un (V := .bool (!x3)) (gd1 rfl rfl rfl (h5)) rfl (fun _ => rfl) rfl ?_
            refine K.pickT (gd1 rfl rfl rfl (h3)) rfl (h5) rfl rfl ?_
            refine K.pickF (gd0 rfl) rfl (h3) rfl rfl ?_
            refine K.nil ?_
            refine At.next ?_
            refine G.cond rfl (fun h6 => ?_) (fun h6 => ?_)
            ·
              replace H1 := bif_t H1 h6
              refine G.seq ?_
              refine G.rg ?_
              refine K.move (.inr rfl) (gd0 rfl) rfl rfl ?_
              refine K.nil ?_
              refine At.next ?_
              refine G.ret ?_
              refine At.over_ret ?_
              cases H1
              replace H0 := sum_l H0
              refine At.done Y [(.tmp 10, .c _)] rfl ⟨.tmp rfl, trivial⟩ (to' := [(0, _), (1, _), (2, _)]) ⟨rfl, rfl, rfl, trivial⟩ ?_ ?_ rfl rfl rfl (.inl rfl)
              · cases H0; rfl
              · cases H0; rfl
            ·
              replace H1 := bif_f H1 h6
              refine G.skip ?_
              exact At.joined (σ := { v : Unit // x2 = Sum.inr v }) (Fs := fun q => [(0, .a (.c (.p 0 0))), (2, .a (.c (.v (.int .i64 a2)))), (4, .a (.c (.fn (.func g4) [2]))), (8, .a (.c (.p 103 0))), (11, .a (.c (.p 104 0)))]) (Tl := fun q => [(1, plE 1 p1), (0, blk 0 [.p 1 0, .v (.int .i64 ri0), .v (.int .i64 rg0)] 101), (2, vblk 2 cv4 Tc4), (103, blk 103 [.v (.int .i64 a3.n), .v (.int .i64 a3.sum), .v (.int .i64 a3.low)] 32), (104, blk 104 [.v (.int .i64 x1.e.k), .v (.int .i64 x1.e.w), .v (.int .i64 x1.left.index), .v (.int .i64 x1.left.gen), .v (.int .i64 x1.right.index), .v (.int .i64 x1.right.gen), .v (.int .i64 x1.size), .v (.int .i64 x1.sum.n), .v (.int .i64 x1.sum.sum), .v (.int .i64 x1.sum.low)] 104)]) ⟨(), (Option.some.inj H1).symm⟩ [(103, 101), (104, 102)] [_, _, _, _, _] rfl ⟨rfl, rfl, rfl, rfl, rfl, trivial⟩ ⟨rfl, (pl_ren rfl), rfl, (blk_ren rfl rfl), rfl, (vblk_ren rfl), rfl, (blk_ren rfl rfl), rfl, (blk_ren rfl rfl), trivial⟩ rfl
          ·
            replace H1 := bif_f H1 h5
            refine G.rg ?_
            refine K.fieldAddr Y (gd0 rfl) rfl t104 rfl rfl ?_
            refine K.load1 Y (gd0 rfl) rfl rfl t3 rfl rfl ?_
            refine K.bin (V := .bool (x1.size == 0)) (gd0 rfl) rfl rfl (fun _ => rfl) rfl ?_
            refine K.move (.inl rfl) (gd0 rfl) rfl rfl ?_
            refine K.move (.inl rfl) (gd1 rfl rfl rfl (h1)) rfl rfl ?_
            refine K.bin (V := .bool (decide (a2 ≤ 0))) (gd1 rfl rfl rfl (h1)) rfl rfl (fun _ => rfl) rfl ?_
            refine K.pickF (gd0 rfl) rfl (h1) rfl rfl ?_
            refine K.move (.inl rfl) (gd0 rfl) rfl rfl ?_
            refine K.move (.inl rfl) (gd1 rfl rfl rfl (h3)) rfl rfl ?_
            refine K.fieldAddr Y (gd1 rfl rfl rfl (h3)) rfl t104 rfl rfl ?_
            refine K.load1 Y (gd1 rfl rfl rfl (h3)) rfl rfl t3 rfl rfl ?_
            refine K.bin (V := .bool (decide (a2 ≥ x1.size))) (gd1 rfl rfl rfl (h3)) rfl rfl (fun _ => rfl) rfl ?_
            refine K.move (.inl rfl) (gd1 rfl rfl rfl (h3)) rfl rfl ?_
            refine K.skip rfl rfl rfl rfl (h5) rfl ?_
            refine K.skip rfl rfl rfl rfl (h5) rfl ?_
            refine K.skip rfl rfl rfl rfl (h5) rfl ?_
            refine K.skip rfl rfl rfl rfl (h5) rfl ?_
            refine K.skip rfl rfl rfl rfl (h5) rfl ?_
            refine K.skip rfl rfl rfl rfl (h5) rfl ?_
            refine K.pickF (gd1 rfl rfl rfl (h3)) rfl (h5) rfl rfl ?_
            refine K.pickF (gd0 rfl) rfl (h3) rfl rfl ?_
            refine K.nil ?_
            refine At.next ?_
            refine G.cond rfl (fun h7 => ?_) (fun h7 => ?_)
            · cases h7
            ·
              refine G.skip ?_
              exact At.joined (σ := { v : Unit // x2 = Sum.inr v }) (Fs := fun q => [(0, .a (.c (.p 0 0))), (2, .a (.c (.v (.int .i64 a2)))), (4, .a (.c (.fn (.func g4) [2]))), (8, .a (.c (.p 103 0))), (11, .a (.c (.p 104 0)))]) (Tl := fun q => [(1, plE 1 p1), (0, blk 0 [.p 1 0, .v (.int .i64 ri0), .v (.int .i64 rg0)] 101), (2, vblk 2 cv4 Tc4), (103, blk 103 [.v (.int .i64 a3.n), .v (.int .i64 a3.sum), .v (.int .i64 a3.low)] 32), (104, blk 104 [.v (.int .i64 x1.e.k), .v (.int .i64 x1.e.w), .v (.int .i64 x1.left.index), .v (.int .i64 x1.left.gen), .v (.int .i64 x1.right.index), .v (.int .i64 x1.right.gen), .v (.int .i64 x1.size), .v (.int .i64 x1.sum.n), .v (.int .i64 x1.sum.sum), .v (.int .i64 x1.sum.low)] 104)]) ⟨(), (Option.some.inj H1).symm⟩ [(103, 101), (104, 102)] [_, _, _, _, _] rfl ⟨rfl, rfl, rfl, rfl, rfl, trivial⟩ ⟨rfl, (pl_ren rfl), rfl, (blk_ren rfl rfl), rfl, (vblk_ren rfl), rfl, (blk_ren rfl rfl), rfl, (blk_ren rfl rfl), trivial⟩ rfl
    ·
      rintro ⟨v2, rfl⟩
      replace H0 := sum_r H0
      show G _ _ [(0, .a (.c (.p 0 0))), (2, .a (.c (.v (.int .i64 a2)))), (4, .a (.c (.fn (.func g4) [2]))), (8, .a (.c (.p 103 0))), (11, .a (.c (.p 104 0)))] [(1, some (plE 1 p1)), (0, some (blk 0 [.p 1 0, .v (.int .i64 ri0), .v (.int .i64 rg0)] 101)), (2, some (vblk 2 cv4 Tc4)), (103, some (blk 103 [.v (.int .i64 a3.n), .v (.int .i64 a3.sum), .v (.int .i64 a3.low)] 32)), (104, some (blk 104 [.v (.int .i64 x1.e.k), .v (.int .i64 x1.e.w), .v (.int .i64 x1.left.index), .v (.int .i64 x1.left.gen), .v (.int .i64 x1.right.index), .v (.int .i64 x1.right.gen), .v (.int .i64 x1.size), .v (.int .i64 x1.sum.n), .v (.int .i64 x1.sum.sum), .v (.int .i64 x1.sum.low)] 104))] _ _
      refine G.seq ?_
      obtain ⟨x4, hx4, H0⟩ := bnd H0
      refine G.rg ?_
      refine K.move (.inl rfl) (gd0 rfl) rfl rfl ?_
      refine K.fieldAddr Y (gd0 rfl) rfl t104 rfl rfl ?_
      refine K.loadS Y [_, _] (gd0 rfl) rfl rfl t99 rfl rfl rfl ?_
      refine K.callR [(.func 62, _), ((.tmp 40), _), ((.tmp 42), _)] (Tree_getE_con (k := k) hx4 0 1) (toFn_func (cf 62 rfl) rfl) (gd0 rfl) ⟨rfl, rfl, rfl, trivial⟩ ⟨rfl, rfl, trivial⟩ rfl rfl rfl ?_
      refine K.alloc Y 105 [_, _, _, _, _, _, _, _, _, _] (gd0 rfl) t104 rfl rfl rfl rfl rfl ?_
      refine K.store Y [_, _, _, _, _, _, _, _, _, _] (gd0 rfl) rfl rfl rfl t104 rfl rfl rfl rfl rfl ?_
      refine K.nil ?_
      refine At.next ?_
      refine G.seq ?_
      obtain ⟨x5, hx5, H0⟩ := bnd H0
      obtain ⟨x6, hx6, H0⟩ := bnd H0
      refine G.rd mixed ?_
      refine K.loadS Y [_, _, _] (gd0 rfl) rfl rfl t32 rfl rfl rfl ?_
      refine K.mkIface Y (gd0 rfl) rfl (mkI Try.underlying32 rfl) rfl ?_
      refine K.fieldAddr Y (gd0 rfl) rfl t104 rfl rfl ?_
      refine K.loadS Y [_, _, _] (gd0 rfl) rfl rfl t32 rfl rfl rfl ?_
      refine K.callR [((.tmp 45), _), ((.tmp 47), _)] (tide_Tide_Plus_con (k := k) hx5) (toFn_invoke (cf 130 rfl) (me32_130) rfl) (gd0 rfl) ⟨rfl, rfl, trivial⟩ trivial rfl rfl rfl ?_
      refine K.fieldAddr Y (gd0 rfl) rfl t104 rfl rfl ?_
      refine K.loadS Y [_, _] (gd0 rfl) rfl rfl t35 rfl rfl rfl ?_
      refine K.mkIface Y (gd0 rfl) rfl (mkI Try.underlying35 rfl) rfl ?_
      refine K.callR [((.tmp 51), _)] (Lw07_elem_Sum_con (k := k) hx6) (toFn_invoke (cf 132 rfl) (me35_132) rfl) (gd0 rfl) ⟨rfl, trivial⟩ trivial rfl rfl rfl ?_
      refine K.alloc Y 106 [_, _, _] (gd0 rfl) t32 rfl rfl rfl rfl rfl ?_
      refine K.alloc Y 107 [_, _, _] (gd0 rfl) t32 rfl rfl rfl rfl rfl ?_
      refine K.store Y [_, _, _] (gd0 rfl) rfl rfl rfl t32 rfl rfl rfl rfl rfl ?_
      refine K.store Y [_, _, _] (gd0 rfl) rfl rfl rfl t32 rfl rfl rfl rfl rfl ?_
      refine K.nil ?_
      refine ⟨by kernel_rfl, ?_⟩
      refine At.next ?_
      refine G.seq ?_
      refine G.seq ?_
      obtain ⟨x7, hx7, H0⟩ := bnd H0
      obtain ⟨x8, hx8, H0⟩ := bnd H0
      refine G.rd mixed ?_
      refine K.move (.inl rfl) (gd0 rfl) rfl rfl ?_
      refine K.fieldAddr Y (gd0 rfl) rfl t104 rfl rfl ?_
      refine K.loadS Y [_, _] (gd0 rfl) rfl rfl t99 rfl rfl rfl ?_
      refine K.move (.inl rfl) (gd0 rfl) rfl rfl ?_
      refine K.fieldAddr Y (gd0 rfl) rfl t104 rfl rfl ?_
      refine K.load1 Y (gd0 rfl) rfl rfl t3 rfl rfl ?_
      refine K.bin (V := .int .i64 (w64 (a2 - x4.size))) (gd0 rfl) rfl rfl (fun _ => rfl) rfl ?_
      refine K.bin (V := .int .i64 (w64 ((w64 (a2 - x4.size)) - 1))) (gd0 rfl) rfl rfl (fun _ => rfl) rfl ?_
      refine K.loadS Y [_, _, _] (gd0 rfl) rfl rfl t32 rfl rfl rfl ?_
      refine K.mkIface Y (gd0 rfl) rfl (mkI Try.underlying32 rfl) rfl ?_
      refine K.loadS Y [_, _, _] (gd0 rfl) rfl rfl t32 rfl rfl rfl ?_
      refine K.callR [((.tmp 62), _), ((.tmp 63), _)] (tide_Tide_Plus_con (k := k) hx7) (toFn_invoke (cf 130 rfl) (me32_130) rfl) (gd0 rfl) ⟨rfl, rfl, trivial⟩ trivial rfl rfl rfl ?_
      refine K.move (.inl rfl) (gd0 rfl) rfl rfl ?_
      refine K.callR [(.func 69, _), ((.tmp 53), _), ((.tmp 55), _), ((.tmp 60), _), ((.tmp 64), _), ((.tmp 65), _)] (ih hx8) (toFn_func (cf 69 rfl) rfl) (gd0 rfl) ⟨rfl, rfl, rfl, rfl, rfl, rfl, trivial⟩ ⟨rfl, rfl, rfl, trivial⟩ rfl rfl rfl ?_
      refine K.move (.inr rfl) (gd0 rfl) rfl rfl ?_
      refine K.nil ?_
      refine ⟨by kernel_rfl, ?_⟩
      refine At.next ?_
      refine G.seq ?_
      refine G.rg ?_
      refine K.move (.inl rfl) (gd0 rfl) rfl rfl ?_
      refine K.bin (V := .bool (decide (x8 ≥ 0))) (gd0 rfl) rfl rfl (fun _ => rfl) rfl ?_
      refine K.nil ?_
      refine At.next ?_
      refine G.cond rfl (fun h8 => ?_) (fun h8 => ?_)
      ·
        replace H0 := bif_t H0 h8
        refine G.seq ?_
        refine G.rg ?_
        refine K.move (.inl rfl) (gd0 rfl) rfl rfl ?_
        refine K.fieldAddr Y (gd0 rfl) rfl t104 rfl rfl ?_
        refine K.load1 Y (gd0 rfl) rfl rfl t3 rfl rfl ?_
        refine K.bin (V := .int .i64 (w64 (x8 + x4.size))) (gd0 rfl) rfl rfl (fun _ => rfl) rfl ?_
        refine K.bin (V := .int .i64 (w64 ((w64 (x8 + x4.size)) + 1))) (gd0 rfl) rfl rfl (fun _ => rfl) rfl ?_
        refine K.move (.inr rfl) (gd0 rfl) rfl rfl ?_
        refine K.nil ?_
        refine At.next ?_
        refine G.ret ?_
        refine At.over_ret ?_
        refine At.done Y [(.tmp 10, .c _)] rfl ⟨.tmp rfl, trivial⟩ (to' := [(0, _), (1, _), (2, _)]) ⟨rfl, rfl, rfl, trivial⟩ ?_ ?_ rfl rfl rfl (.inl rfl)
        · cases H0; rfl
        · cases H0; rfl
      ·
        replace H0 := bif_f H0 h8
        refine G.skip ?_
        refine At.next ?_
        refine G.seq ?_
        refine G.seq ?_
        rcases Bool.eq_false_or_eq_true (decide (a2 > x4.size)) with h9 | h9
        ·
          replace H0 := bif_t H0 h9
          obtain ⟨x9, hx9, H0⟩ := bnd H0
          refine G.rg ?_
          refine K.move (.inl rfl) (gd0 rfl) rfl rfl ?_
          refine K.fieldAddr Y (gd0 rfl) rfl t104 rfl rfl ?_
          refine K.load1 Y (gd0 rfl) rfl rfl t3 rfl rfl ?_
          refine K.bin (V := .bool (decide (a2 > x4.size))) (gd0 rfl) rfl rfl (fun _ => rfl) rfl ?_
          refine K.move (.inl rfl) (gd0 rfl) rfl rfl ?_
          refine K.move (.inl rfl) (gd1 rfl rfl rfl (h9)) rfl rfl ?_
          refine K.loadS Y [_, _, _] (gd1 rfl rfl rfl (h9)) rfl rfl t32 rfl rfl rfl ?_
          refine K.loadS Y [_, _, _] (gd1 rfl rfl rfl (h9)) rfl rfl t32 rfl rfl rfl ?_
          refine K.callR [((.tmp 79), _), ((.tmp 80), _), ((.tmp 81), _)] (hm4 2 hx9) (toFn_val cg4 rfl) (gd1 rfl rfl rfl (h9)) ⟨rfl, rfl, rfl, trivial⟩ ⟨rfl, trivial⟩ rfl rfl rfl ?_
          refine K.pickT (gd0 rfl) rfl (h9) rfl rfl ?_
          refine K.nil ?_
          refine At.next ?_
          refine G.cond rfl (fun h10 => ?_) (fun h10 => ?_)
          ·
            replace H0 := bif_t H0 h10
            refine G.seq ?_
            refine G.rg ?_
            refine K.fieldAddr Y (gd0 rfl) rfl t104 rfl rfl ?_
            refine K.load1 Y (gd0 rfl) rfl rfl t3 rfl rfl ?_
            refine K.move (.inr rfl) (gd0 rfl) rfl rfl ?_
            refine K.nil ?_
            refine At.next ?_
            refine G.ret ?_
            refine At.over_ret ?_
            refine At.done Y [(.tmp 10, .c _)] rfl ⟨.tmp rfl, trivial⟩ (to' := [(0, _), (1, _), (2, _)]) ⟨rfl, rfl, rfl, trivial⟩ ?_ ?_ rfl rfl rfl (.inl rfl)
            · cases H0; rfl
            · cases H0; rfl
          ·
            replace H0 := bif_f H0 h10
            refine G.skip ?_
            refine At.next ?_
            refine G.seq ?_
            obtain ⟨x10, hx10, H0⟩ := bnd H0
            refine G.rg ?_
            refine K.move (.inl rfl) (gd0 rfl) rfl rfl ?_
            refine K.fieldAddr Y (gd0 rfl) rfl t104 rfl rfl ?_
            refine K.loadS Y [_, _] (gd0 rfl) rfl rfl t99 rfl rfl rfl ?_
            refine K.move (.inl rfl) (gd0 rfl) rfl rfl ?_
            refine K.loadS Y [_, _, _] (gd0 rfl) rfl rfl t32 rfl rfl rfl ?_
            refine K.move (.inl rfl) (gd0 rfl) rfl rfl ?_
            refine K.callR [(.func 69, _), ((.tmp 86), _), ((.tmp 88), _), ((.tmp 89), _), ((.tmp 90), _), ((.tmp 91), _)] (ih hx10) (toFn_func (cf 69 rfl) rfl) (gd0 rfl) ⟨rfl, rfl, rfl, rfl, rfl, rfl, trivial⟩ ⟨rfl, rfl, rfl, trivial⟩ rfl rfl rfl ?_
            refine K.move (.inr rfl) (gd0 rfl) rfl rfl ?_
            refine K.nil ?_
            refine At.next ?_
            refine G.ret ?_
            refine At.done Y [(.tmp 10, .c _)] rfl ⟨.tmp rfl, trivial⟩ (to' := [(0, _), (1, _), (2, _)]) ⟨rfl, rfl, rfl, trivial⟩ ?_ ?_ rfl rfl rfl (.inl rfl)
            · cases H0; rfl
            · cases H0; rfl
        ·
          replace H0 := bif_f H0 h9
          refine G.rg ?_
          refine K.move (.inl rfl) (gd0 rfl) rfl rfl ?_
          refine K.fieldAddr Y (gd0 rfl) rfl t104 rfl rfl ?_
          refine K.load1 Y (gd0 rfl) rfl rfl t3 rfl rfl ?_
          refine K.bin (V := .bool (decide (a2 > x4.size))) (gd0 rfl) rfl rfl (fun _ => rfl) rfl ?_
          refine K.move (.inl rfl) (gd0 rfl) rfl rfl ?_
          refine K.skip rfl rfl rfl rfl (h9) rfl ?_
          refine K.skip rfl rfl rfl rfl (h9) rfl ?_
          refine K.skip rfl rfl rfl rfl (h9) rfl ?_
          refine K.skip rfl rfl rfl rfl (h9) rfl ?_
          refine K.pickF (gd0 rfl) rfl (h9) rfl rfl ?_
          refine K.nil ?_
          refine At.next ?_
          refine G.cond rfl (fun h11 => ?_) (fun h11 => ?_)
          · cases h11
          ·
            refine G.skip ?_
            refine At.next ?_
            refine G.seq ?_
            obtain ⟨x11, hx11, H0⟩ := bnd H0
            refine G.rg ?_
            refine K.move (.inl rfl) (gd0 rfl) rfl rfl ?_
            refine K.fieldAddr Y (gd0 rfl) rfl t104 rfl rfl ?_
            refine K.loadS Y [_, _] (gd0 rfl) rfl rfl t99 rfl rfl rfl ?_
            refine K.move (.inl rfl) (gd0 rfl) rfl rfl ?_
            refine K.loadS Y [_, _, _] (gd0 rfl) rfl rfl t32 rfl rfl rfl ?_
            refine K.move (.inl rfl) (gd0 rfl) rfl rfl ?_
            refine K.callR [(.func 69, _), ((.tmp 86), _), ((.tmp 88), _), ((.tmp 89), _), ((.tmp 90), _), ((.tmp 91), _)] (ih hx11) (toFn_func (cf 69 rfl) rfl) (gd0 rfl) ⟨rfl, rfl, rfl, rfl, rfl, rfl, trivial⟩ ⟨rfl, rfl, rfl, trivial⟩ rfl rfl rfl ?_
            refine K.move (.inr rfl) (gd0 rfl) rfl rfl ?_
            refine K.nil ?_
            refine At.next ?_
            refine G.ret ?_
            refine At.done Y [(.tmp 10, .c _)] rfl ⟨.tmp rfl, trivial⟩ (to' := [(0, _), (1, _), (2, _)]) ⟨rfl, rfl, rfl, trivial⟩ ?_ ?_ rfl rfl rfl (.inl rfl)
            · cases H0; rfl
            · cases H0; rfl
theorem Tree_lastOfE_f14_con {k n : Nat} {g4 : FuncId} {fn4 : TTide → TTide → Option Bool} {cv4 : List Value} {Tc4 : TypeId} (cg4 : fnB Try.prog g4 = true) (hm4 : ∀ (c : Nat) {z0 : TTide} {z1 : TTide} {y : Bool}, fn4 z0 z1 = some y → SCon Try.prog g4 [.a (.agg ((eTTide z0).map .v)), .a (.agg ((eTTide z1).map .v)), SV.p c 0] [(c, vblk c cv4 Tc4)] (SV.b y) [(c, vblk c cv4 Tc4)] []) {p1 : Pool (TNode TL07Elem TTide)} {a1 : TRef} {a2 : Int} {a3 : TTide} {ri0 rg0 : Int} {r : Int}  (H0 : Tree_lastOf.r opsE k n p1 a1 a2 a3 fn4 = some r) (m0 m1 m2 : Nat) : SCon Try.prog 69 [SV.p m0 0, .a (.agg ((eTRef a1).map .v)), .a (.c (.v (.int .i64 a2))), .a (.agg ((eTTide a3).map .v)), .a (.c (.fn (.func g4) [m2]))] [(m0, blk m0 [.p m1 0, .i ri0, .i rg0] 101), (m1, plE m1 p1), (m2, vblk m2 cv4 Tc4)] (.a (.c (.v (.int .i64 r)))) [(m0, blk m0 [.p m1 0, .i ri0, .i rg0] 101), (m1, plE m1 p1), (m2, vblk m2 cv4 Tc4)] [] :=
  SCon.ren (rn [(0, m0), (1, m1), (2, m2)]) (Tree_lastOfE_f14_con0 (k := k) cg4 hm4  H0) ⟨(blk_ren rfl rfl), (pl_ren rfl), (vblk_ren rfl), trivial⟩ ⟨(blk_ren rfl rfl), (pl_ren rfl), (vblk_ren rfl), trivial⟩ (by simp) (by simp)
theorem Tree_LastE_f12_con0 {k : Nat} {g2 : FuncId} {fn2 : TTide → TTide → Option Bool} {cv2 : List Value} {Tc2 : TypeId} (cg2 : fnB Try.prog g2 = true) (hm2 : ∀ (c : Nat) {z0 : TTide} {z1 : TTide} {y : Bool}, fn2 z0 z1 = some y → SCon Try.prog g2 [.a (.agg ((eTTide z0).map .v)), .a (.agg ((eTTide z1).map .v)), SV.p c 0] [(c, vblk c cv2 Tc2)] (SV.b y) [(c, vblk c cv2 Tc2)] []) {p1 : Pool (TNode TL07Elem TTide)} {rt0 : TRef} {a1 : Int} {r : Int}  (H0 : Tree_Last.f opsE k p1 rt0 a1 fn2 = some r) : SCon Try.prog 31 [SV.p 0 0, .a (.c (.v (.int .i64 a1))), .a (.c (.fn (.func g2) [2]))] [(0, blk 0 [.p 1 0, .i rt0.index, .i rt0.gen] 101), (1, plE 1 p1), (2, vblk 2 cv2 Tc2)] (.a (.c (.v (.int .i64 r)))) [(0, blk 0 [.p 1 0, .i rt0.index, .i rt0.gen] 101), (1, plE 1 p1), (2, vblk 2 cv2 Tc2)] [] := by
  rw [Tree_Last.f] at H0
  refine spec_of [(0, _), (1, _), (2, _)] [(0, _), (1, _), (2, _)] 21 Try.func31 rfl Try.ntmps31 rfl rfl rfl rfl (fun β W F => ?_)
  refine G.seq ?_
  refine G.rg ?_
  refine K.move (.inr rfl) (gd0 rfl) rfl rfl ?_
  refine K.nil ?_
  refine At.next ?_
  refine G.seq ?_
  refine G.rg ?_
  refine K.alloc Y 100 [_, _, _] (gd0 rfl) t32 rfl rfl rfl rfl rfl ?_
  refine K.nil ?_
  refine At.next ?_
  refine G.seq ?_
  obtain ⟨x1, hx1, H0⟩ := bnd H0
  obtain ⟨x2, hx2, H0⟩ := bnd H0
  refine G.rd mixed ?_
  refine K.move (.inl rfl) (gd0 rfl) rfl rfl ?_
  refine K.move (.inl rfl) (gd0 rfl) rfl rfl ?_
  refine K.nilCheck (gd0 rfl) rfl rfl ?_
  refine K.fieldAddr Y (gd0 rfl) rfl t101 rfl rfl ?_
  refine K.loadS Y [_, _] (gd0 rfl) rfl rfl t99 rfl rfl rfl ?_
  refine K.move (.inl rfl) (gd0 rfl) rfl rfl ?_
  refine K.bi2 (V := .int .i64 (gmax a1 0)) (gd0 rfl) rfl rfl (fun _ _ => rfl) rfl ?_
  refine K.move (.inl rfl) (gd0 rfl) rfl rfl ?_
  refine K.callR [(.func 20, _), ((.tmp 15), _)] (Tree_LenE_con (k := k) hx1 0 1) (toFn_func (cf 20 rfl) rfl) (gd0 rfl) ⟨rfl, rfl, trivial⟩ ⟨rfl, rfl, trivial⟩ rfl rfl rfl ?_
  refine K.bi2 (V := .int .i64 (gmin (gmax a1 0) x1)) (gd0 rfl) rfl rfl (fun _ _ => rfl) rfl ?_
  refine K.loadS Y [_, _, _] (gd0 rfl) rfl rfl t32 rfl rfl rfl ?_
  refine K.move (.inl rfl) (gd0 rfl) rfl rfl ?_
  refine K.callR [(.func 69, _), ((.tmp 8), _), ((.tmp 12), _), ((.tmp 17), _), ((.tmp 18), _), ((.tmp 19), _)] (Tree_lastOfE_f14_con (k := k) cg2 hm2 hx2 0 1 2) (toFn_func (cf 69 rfl) rfl) (gd0 rfl) ⟨rfl, rfl, rfl, rfl, rfl, rfl, trivial⟩ ⟨rfl, rfl, rfl, trivial⟩ rfl rfl rfl ?_
  refine K.move (.inr rfl) (gd0 rfl) rfl rfl ?_
  refine K.nil ?_
  refine ⟨by kernel_rfl, ?_⟩
  refine At.next ?_
  refine G.ret ?_
  refine At.done Y [(.tmp 6, .c _)] rfl ⟨.tmp rfl, trivial⟩ (to' := [(0, _), (1, _), (2, _)]) ⟨rfl, rfl, rfl, trivial⟩ ?_ ?_ rfl rfl rfl (.inl rfl)
  · cases H0; rfl
  · cases H0; rfl
theorem Tree_LastE_f12_con {k : Nat} {g2 : FuncId} {fn2 : TTide → TTide → Option Bool} {cv2 : List Value} {Tc2 : TypeId} (cg2 : fnB Try.prog g2 = true) (hm2 : ∀ (c : Nat) {z0 : TTide} {z1 : TTide} {y : Bool}, fn2 z0 z1 = some y → SCon Try.prog g2 [.a (.agg ((eTTide z0).map .v)), .a (.agg ((eTTide z1).map .v)), SV.p c 0] [(c, vblk c cv2 Tc2)] (SV.b y) [(c, vblk c cv2 Tc2)] []) {p1 : Pool (TNode TL07Elem TTide)} {rt0 : TRef} {a1 : Int} {r : Int}  (H0 : Tree_Last.f opsE k p1 rt0 a1 fn2 = some r) (m0 m1 m2 : Nat) : SCon Try.prog 31 [SV.p m0 0, .a (.c (.v (.int .i64 a1))), .a (.c (.fn (.func g2) [m2]))] [(m0, blk m0 [.p m1 0, .i rt0.index, .i rt0.gen] 101), (m1, plE m1 p1), (m2, vblk m2 cv2 Tc2)] (.a (.c (.v (.int .i64 r)))) [(m0, blk m0 [.p m1 0, .i rt0.index, .i rt0.gen] 101), (m1, plE m1 p1), (m2, vblk m2 cv2 Tc2)] [] :=
  SCon.ren (rn [(0, m0), (1, m1), (2, m2)]) (Tree_LastE_f12_con0 (k := k) cg2 hm2  H0) ⟨(blk_ren rfl rfl), (pl_ren rfl), (vblk_ren rfl), trivial⟩ ⟨(blk_ren rfl rfl), (pl_ren rfl), (vblk_ren rfl), trivial⟩ (by simp) (by simp)
theorem Tree_AtE_con0 {k : Nat}  {p1 : Pool (TNode TL07Elem TTide)} {rt0 : TRef} {a1 : Int} {r : TL07Elem × Bool}  (H0 : Tree_At.f opsE k p1 rt0 a1 = some r) : SCon Try.prog 35 [SV.p 0 0, .a (.c (.v (.int .i64 a1)))] [(0, blk 0 [.p 1 0, .i rt0.index, .i rt0.gen] 101), (1, plE 1 p1)] (.tup [.agg ((eTL07Elem r.1).map .v), .c (.v (.bool r.2))]) [(0, blk 0 [.p 1 0, .i rt0.index, .i rt0.gen] 101), (1, plE 1 p1)] [] := by
  rw [Tree_At.f] at H0
  refine spec_of [(0, _), (1, _)] [(0, _), (1, _)] 48 Try.func35 rfl Try.ntmps35 rfl rfl rfl rfl (fun β W F => ?_)
  refine G.seq ?_
  refine G.rg ?_
  refine K.alloc Y 100 [_, _] (gd0 rfl) t35 rfl rfl rfl rfl rfl ?_
  refine K.move (.inr rfl) (gd0 rfl) rfl rfl ?_
  refine K.nil ?_
  refine At.next ?_
  refine G.seq ?_
  refine G.rg ?_
  refine K.alloc Y 101 [_, _] (gd0 rfl) t35 rfl rfl rfl rfl rfl ?_
  refine K.nil ?_
  refine At.next ?_
  refine G.seq ?_
  refine G.seq ?_
  refine G.rg ?_
  refine K.move (.inl rfl) (gd0 rfl) rfl rfl ?_
  refine K.bin (V := .bool (decide (a1 < 0))) (gd0 rfl) rfl rfl (fun _ => rfl) rfl ?_
  refine K.nil ?_
  refine At.next ?_
  refine G.cond rfl (fun h1 => ?_) (fun h1 => ?_)
  ·
    replace H0 := bif_t H0 h1
    refine G.seq ?_
    refine G.rg ?_
    refine K.loadS Y [_, _] (gd0 rfl) rfl rfl t35 rfl rfl rfl ?_
    refine K.store Y [_, _] (gd0 rfl) rfl rfl rfl t35 rfl rfl rfl rfl rfl ?_
    refine K.move (.inr rfl) (gd0 rfl) rfl rfl ?_
    refine K.nil ?_
    refine At.next ?_
    refine G.ret ?_
    refine At.over_ret ?_
    refine At.done Y [(.cell 4 35, .agg [_, _]), (.tmp 5, .c _)] rfl ⟨.st rfl rfl t35 rfl rfl, .tmp rfl, trivial⟩ (to' := [(0, _), (1, _)]) ⟨rfl, rfl, trivial⟩ ?_ ?_ rfl rfl rfl (.inl rfl)
    · cases H0; rfl
    · cases H0; rfl
  ·
    replace H0 := bif_f H0 h1
    refine G.skip ?_
    refine At.next ?_
    obtain ⟨x1, H1, H0⟩ := bnd H0
    refine G.seqJ (σ := { v : Unit // x1 = Sum.inr v }) (fun q => [(4, .a (.c (.p 102 0))), (6, .a (.c (.p 103 0)))]) (fun q => [(102, blk 102 [.v (.int .i64 0), .v (.int .i64 0)] 35), (103, blk 103 [.v (.int .i64 0), .v (.int .i64 0)] 35), (1, plE 1 p1), (0, blk 0 [.p 1 0, .v (.int .i64 rt0.index), .v (.int .i64 rt0.gen)] 101)]) ?_ ?_
    ·
      refine G.seq ?_
      refine G.rg ?_
      refine K.move (.inl rfl) (gd0 rfl) rfl rfl ?_
      refine K.nilCheck (gd0 rfl) rfl rfl ?_
      refine K.fieldAddr Y (gd0 rfl) rfl t101 rfl rfl ?_
      refine K.loadS Y [_, _] (gd0 rfl) rfl rfl t99 rfl rfl rfl ?_
      refine K.alloc Y 104 [_, _] (gd0 rfl) t99 rfl rfl rfl rfl rfl ?_
      refine K.store Y [_, _] (gd0 rfl) rfl rfl rfl t99 rfl rfl rfl rfl rfl ?_
      refine K.nil ?_
      refine At.next ?_
      refine G.block ?_
      refine G.loop (σ := { q : Nat × (Int × TRef) // Tree_At.l0 opsE k p1 q.1 q.2 = some x1 }) (fun q => [(0, .a (.c (.p 0 0))), (1, .a (.c (.v (.int .i64 q.1.2.1)))), (4, .a (.c (.p 111 0))), (6, .a (.c (.p 112 0))), (7, .a (.c (.p 113 0)))]) (fun q => [(1, plE 1 p1), (0, blk 0 [.p 1 0, .v (.int .i64 rt0.index), .v (.int .i64 rt0.gen)] 101), (111, blk 111 [.v (.int .i64 0), .v (.int .i64 0)] 35), (112, blk 112 [.v (.int .i64 0), .v (.int .i64 0)] 35), (113, blk 113 [.v (.int .i64 q.1.2.2.index), .v (.int .i64 q.1.2.2.gen)] 99)]) (fun q => q.1.1) ⟨(k, (a1, rt0)), H1⟩ ?_ ?_
      · exact At.into [(111, 100), (112, 101), (113, 104)] [_, _, _, _, _] rfl ⟨rfl, rfl, rfl, rfl, rfl, trivial⟩ ⟨rfl, (pl_ren rfl), rfl, (blk_ren rfl rfl), rfl, (blk_ren rfl rfl), rfl, (blk_ren rfl rfl), rfl, (blk_ren rfl rfl), trivial⟩ rfl
      ·
        rintro ⟨⟨n0, v1, v2⟩, H1⟩
        show G _ _ [(0, .a (.c (.p 0 0))), (1, .a (.c (.v (.int .i64 v1)))), (4, .a (.c (.p 111 0))), (6, .a (.c (.p 112 0))), (7, .a (.c (.p 113 0)))] [(1, some (plE 1 p1)), (0, some (blk 0 [.p 1 0, .v (.int .i64 rt0.index), .v (.int .i64 rt0.gen)] 101)), (111, some (blk 111 [.v (.int .i64 0), .v (.int .i64 0)] 35)), (112, some (blk 112 [.v (.int .i64 0), .v (.int .i64 0)] 35)), (113, some (blk 113 [.v (.int .i64 v2.index), .v (.int .i64 v2.gen)] 99))] _ _
        cases n0 with
        | zero => exact absurd H1 (by simp [Tree_At.l0])
        | succ n0 =>
          have HL0 := H1
          rw [Tree_At.l0] at H1
          refine G.seq ?_
          refine G.seq ?_
          refine G.rg ?_
          refine K.fieldAddr Y (gd0 rfl) rfl t99 rfl rfl ?_
          refine K.load1 Y (gd0 rfl) rfl rfl t3 rfl rfl ?_
          refine K.bin (V := .bool (v2.gen != 0)) (gd0 rfl) rfl rfl (fun _ => rfl) rfl ?_
          refine K.nil ?_
          refine At.next ?_
          refine G.cond rfl (fun h2 => ?_) (fun h2 => ?_)
          ·
            replace H1 := bif_t H1 h2
            refine G.skip ?_
            refine At.next ?_
            refine G.seq ?_
            refine G.block ?_
            refine G.seq ?_
            obtain ⟨x2, hx2, H1⟩ := bnd H1
            refine G.rg ?_
            refine K.move (.inl rfl) (gd0 rfl) rfl rfl ?_
            refine K.loadS Y [_, _] (gd0 rfl) rfl rfl t99 rfl rfl rfl ?_
            refine K.callR [(.func 62, _), ((.tmp 20), _), ((.tmp 21), _)] (Tree_getE_con (k := k) hx2 0 1) (toFn_func (cf 62 rfl) rfl) (gd0 rfl) ⟨rfl, rfl, rfl, trivial⟩ ⟨rfl, rfl, trivial⟩ rfl rfl rfl ?_
            refine K.alloc Y 114 [_, _, _, _, _, _, _, _, _, _] (gd0 rfl) t104 rfl rfl rfl rfl rfl ?_
            refine K.store Y [_, _, _, _, _, _, _, _, _, _] (gd0 rfl) rfl rfl rfl t104 rfl rfl rfl rfl rfl ?_
            refine K.nil ?_
            refine At.next ?_
            refine G.seq ?_
            obtain ⟨x3, hx3, H1⟩ := bnd H1
            refine G.rg ?_
            refine K.move (.inl rfl) (gd0 rfl) rfl rfl ?_
            refine K.fieldAddr Y (gd0 rfl) rfl t104 rfl rfl ?_
            refine K.loadS Y [_, _] (gd0 rfl) rfl rfl t99 rfl rfl rfl ?_
            refine K.callR [(.func 62, _), ((.tmp 23), _), ((.tmp 25), _)] (Tree_getE_con (k := k) hx3 0 1) (toFn_func (cf 62 rfl) rfl) (gd0 rfl) ⟨rfl, rfl, rfl, trivial⟩ ⟨rfl, rfl, trivial⟩ rfl rfl rfl ?_
            refine K.field1 Y (gd0 rfl) rfl t104 rfl t3 rfl rfl ?_
            refine K.move (.inr rfl) (gd0 rfl) rfl rfl ?_
            refine K.nil ?_
            refine At.next ?_
            refine G.block ?_
            refine G.seq ?_
            refine G.rg ?_
            refine K.move (.inl rfl) (gd0 rfl) rfl rfl ?_
            refine K.move (.inl rfl) (gd0 rfl) rfl rfl ?_
            refine K.bin (V := .bool (v1 == x3.size)) (gd0 rfl) rfl rfl (fun _ => rfl) rfl ?_
            refine K.move (.inr rfl) (gd0 rfl) rfl rfl ?_
            refine K.nil ?_
            refine At.next ?_
            refine G.cond rfl (fun h3 => ?_) (fun h3 => ?_)
            ·
              replace H1 := bif_t H1 h3
              refine G.seq ?_
              refine G.rg ?_
              refine K.fieldAddr Y (gd0 rfl) rfl t104 rfl rfl ?_
              refine K.loadS Y [_, _] (gd0 rfl) rfl rfl t35 rfl rfl rfl ?_
              refine K.store Y [_, _] (gd0 rfl) rfl rfl rfl t35 rfl rfl rfl rfl rfl ?_
              refine K.move (.inr rfl) (gd0 rfl) rfl rfl ?_
              refine K.nil ?_
              refine At.next ?_
              refine G.ret ?_
              refine At.block_ret ?_
              refine At.block_ret ?_
              refine At.over_ret ?_
              refine At.over_ret ?_
              refine At.block_ret ?_
              refine At.over_ret ?_
              cases H1
              replace H0 := sum_l H0
              refine At.done Y [(.cell 4 35, .agg [_, _]), (.tmp 5, .c _)] rfl ⟨.st rfl rfl t35 rfl rfl, .tmp rfl, trivial⟩ (to' := [(0, _), (1, _)]) ⟨rfl, rfl, trivial⟩ ?_ ?_ rfl rfl rfl (.inl rfl)
              · cases H0; rfl
              · cases H0; rfl
            ·
              replace H1 := bif_f H1 h3
              refine G.seq ?_
              refine G.rg ?_
              refine K.move (.inl rfl) (gd0 rfl) rfl rfl ?_
              refine K.move (.inl rfl) (gd0 rfl) rfl rfl ?_
              refine K.bin (V := .bool (decide (v1 < x3.size))) (gd0 rfl) rfl rfl (fun _ => rfl) rfl ?_
              refine K.move (.inr rfl) (gd0 rfl) rfl rfl ?_
              refine K.nil ?_
              refine At.next ?_
              refine G.cond rfl (fun h4 => ?_) (fun h4 => ?_)
              ·
                replace H1 := bif_t H1 h4
                refine G.rg ?_
                refine K.fieldAddr Y (gd0 rfl) rfl t104 rfl rfl ?_
                refine K.loadS Y [_, _] (gd0 rfl) rfl rfl t99 rfl rfl rfl ?_
                refine K.store Y [_, _] (gd0 rfl) rfl rfl rfl t99 rfl rfl rfl rfl rfl ?_
                refine K.nil ?_
                refine At.block_normal ?_
                refine At.block_normal ?_
                refine At.next ?_
                refine G.seq ?_
                refine G.rg ?_
                refine K.loadS Y [_, _] (gd0 rfl) rfl rfl t99 rfl rfl rfl ?_
                refine K.nil ?_
                refine At.next ?_
                refine G.rg ?_
                refine K.alloc Y 115 [_, _] (gd0 rfl) t99 rfl rfl rfl rfl rfl ?_
                refine K.store Y [_, _] (gd0 rfl) rfl rfl rfl t99 rfl rfl rfl rfl rfl ?_
                refine K.nil ?_
                exact At.again (σ := { q : Nat × (Int × TRef) // Tree_At.l0 opsE k p1 q.1 q.2 = some x1 }) (Fs := fun q => [(0, .a (.c (.p 0 0))), (1, .a (.c (.v (.int .i64 q.1.2.1)))), (4, .a (.c (.p 111 0))), (6, .a (.c (.p 112 0))), (7, .a (.c (.p 113 0)))]) (Tl := fun q => [(1, plE 1 p1), (0, blk 0 [.p 1 0, .v (.int .i64 rt0.index), .v (.int .i64 rt0.gen)] 101), (111, blk 111 [.v (.int .i64 0), .v (.int .i64 0)] 35), (112, blk 112 [.v (.int .i64 0), .v (.int .i64 0)] 35), (113, blk 113 [.v (.int .i64 q.1.2.2.index), .v (.int .i64 q.1.2.2.gen)] 99)]) (μ := fun q => q.1.1) (s := ⟨(n0 + 1, (v1, v2)), HL0⟩) ⟨(n0, (v1, x2.left)), H1⟩ [(113, 115)] [_, _, _, _, _] (Nat.lt_succ_self _) rfl ⟨rfl, rfl, rfl, rfl, rfl, trivial⟩ ⟨rfl, (pl_ren rfl), rfl, (blk_ren rfl rfl), rfl, (blk_ren rfl rfl), rfl, (blk_ren rfl rfl), rfl, (blk_ren rfl rfl), trivial⟩ rfl
              ·
                replace H1 := bif_f H1 h4
                refine G.seq ?_
                refine G.rg ?_
                refine K.move (.inl rfl) (gd0 rfl) rfl rfl ?_
                refine K.move (.inl rfl) (gd0 rfl) rfl rfl ?_
                refine K.bin (V := .int .i64 (w64 (x3.size + 1))) (gd0 rfl) rfl rfl (fun _ => rfl) rfl ?_
                refine K.bin (V := .int .i64 (w64 (v1 - (w64 (x3.size + 1))))) (gd0 rfl) rfl rfl (fun _ => rfl) rfl ?_
                refine K.move (.inr rfl) (gd0 rfl) rfl rfl ?_
                refine K.nil ?_
                refine At.next ?_
                refine G.rg ?_
                refine K.fieldAddr Y (gd0 rfl) rfl t104 rfl rfl ?_
                refine K.loadS Y [_, _] (gd0 rfl) rfl rfl t99 rfl rfl rfl ?_
                refine K.store Y [_, _] (gd0 rfl) rfl rfl rfl t99 rfl rfl rfl rfl rfl ?_
                refine K.nil ?_
                refine At.block_normal ?_
                refine At.block_normal ?_
                refine At.next ?_
                refine G.seq ?_
                refine G.rg ?_
                refine K.loadS Y [_, _] (gd0 rfl) rfl rfl t99 rfl rfl rfl ?_
                refine K.nil ?_
                refine At.next ?_
                refine G.rg ?_
                refine K.alloc Y 116 [_, _] (gd0 rfl) t99 rfl rfl rfl rfl rfl ?_
                refine K.store Y [_, _] (gd0 rfl) rfl rfl rfl t99 rfl rfl rfl rfl rfl ?_
                refine K.nil ?_
                exact At.again (σ := { q : Nat × (Int × TRef) // Tree_At.l0 opsE k p1 q.1 q.2 = some x1 }) (Fs := fun q => [(0, .a (.c (.p 0 0))), (1, .a (.c (.v (.int .i64 q.1.2.1)))), (4, .a (.c (.p 111 0))), (6, .a (.c (.p 112 0))), (7, .a (.c (.p 113 0)))]) (Tl := fun q => [(1, plE 1 p1), (0, blk 0 [.p 1 0, .v (.int .i64 rt0.index), .v (.int .i64 rt0.gen)] 101), (111, blk 111 [.v (.int .i64 0), .v (.int .i64 0)] 35), (112, blk 112 [.v (.int .i64 0), .v (.int .i64 0)] 35), (113, blk 113 [.v (.int .i64 q.1.2.2.index), .v (.int .i64 q.1.2.2.gen)] 99)]) (μ := fun q => q.1.1) (s := ⟨(n0 + 1, (v1, v2)), HL0⟩) ⟨(n0, ((w64 (v1 - (w64 (x3.size + 1)))), x2.right)), H1⟩ [(113, 116)] [_, _, _, _, _] (Nat.lt_succ_self _) rfl ⟨rfl, rfl, rfl, rfl, rfl, trivial⟩ ⟨rfl, (pl_ren rfl), rfl, (blk_ren rfl rfl), rfl, (blk_ren rfl rfl), rfl, (blk_ren rfl rfl), rfl, (blk_ren rfl rfl), trivial⟩ rfl
          ·
            replace H1 := bif_f H1 h2
            refine G.exit ?_
            refine At.over_exit ?_
            refine At.over_exit ?_
            refine At.block_hit ?_
            exact At.joined (σ := { v : Unit // x1 = Sum.inr v }) (Fs := fun q => [(4, .a (.c (.p 102 0))), (6, .a (.c (.p 103 0)))]) (Tl := fun q => [(102, blk 102 [.v (.int .i64 0), .v (.int .i64 0)] 35), (103, blk 103 [.v (.int .i64 0), .v (.int .i64 0)] 35), (1, plE 1 p1), (0, blk 0 [.p 1 0, .v (.int .i64 rt0.index), .v (.int .i64 rt0.gen)] 101)]) ⟨(), (Option.some.inj H1).symm⟩ [(102, 111), (103, 112)] [_, _, _, _] rfl ⟨rfl, rfl, trivial⟩ ⟨rfl, (blk_ren rfl rfl), rfl, (blk_ren rfl rfl), rfl, (pl_ren rfl), rfl, (blk_ren rfl rfl), trivial⟩ rfl
    ·
      rintro ⟨v1, rfl⟩
      replace H0 := sum_r H0
      show G _ _ [(4, .a (.c (.p 102 0))), (6, .a (.c (.p 103 0)))] [(102, some (blk 102 [.v (.int .i64 0), .v (.int .i64 0)] 35)), (103, some (blk 103 [.v (.int .i64 0), .v (.int .i64 0)] 35)), (1, some (plE 1 p1)), (0, some (blk 0 [.p 1 0, .v (.int .i64 rt0.index), .v (.int .i64 rt0.gen)] 101))] _ _
      refine G.seq ?_
      refine G.rg ?_
      refine K.loadS Y [_, _] (gd0 rfl) rfl rfl t35 rfl rfl rfl ?_
      refine K.store Y [_, _] (gd0 rfl) rfl rfl rfl t35 rfl rfl rfl rfl rfl ?_
      refine K.move (.inr rfl) (gd0 rfl) rfl rfl ?_
      refine K.nil ?_
      refine At.next ?_
      refine G.ret ?_
      refine At.done Y [(.cell 4 35, .agg [_, _]), (.tmp 5, .c _)] rfl ⟨.st rfl rfl t35 rfl rfl, .tmp rfl, trivial⟩ (to' := [(0, _), (1, _)]) ⟨rfl, rfl, trivial⟩ ?_ ?_ rfl rfl rfl (.inl rfl)
      · cases H0; rfl
      · cases H0; rfl
theorem Tree_AtE_con {k : Nat}  {p1 : Pool (TNode TL07Elem TTide)} {rt0 : TRef} {a1 : Int} {r : TL07Elem × Bool}  (H0 : Tree_At.f opsE k p1 rt0 a1 = some r) (m0 m1 : Nat) : SCon Try.prog 35 [SV.p m0 0, .a (.c (.v (.int .i64 a1)))] [(m0, blk m0 [.p m1 0, .i rt0.index, .i rt0.gen] 101), (m1, plE m1 p1)] (.tup [.agg ((eTL07Elem r.1).map .v), .c (.v (.bool r.2))]) [(m0, blk m0 [.p m1 0, .i rt0.index, .i rt0.gen] 101), (m1, plE m1 p1)] [] :=
  SCon.ren (rn [(0, m0), (1, m1)]) (Tree_AtE_con0 (k := k)   H0) ⟨(blk_ren rfl rfl), (pl_ren rfl), trivial⟩ ⟨(blk_ren rfl rfl), (pl_ren rfl), trivial⟩ (by simp) (by simp)
theorem Tree_FindE_con0 {k : Nat}  {p1 : Pool (TNode TL07Elem TTide)} {rt0 : TRef} {a1 : TL07Elem} {r : TL07Elem × Bool}  (H0 : Tree_Find.f opsE k p1 rt0 a1 = some r) : SCon Try.prog 27 [SV.p 0 0, .a (.agg ((eTL07Elem a1).map .v))] [(0, blk 0 [.p 1 0, .i rt0.index, .i rt0.gen] 101), (1, plE 1 p1)] (.tup [.agg ((eTL07Elem r.1).map .v), .c (.v (.bool r.2))]) [(0, blk 0 [.p 1 0, .i rt0.index, .i rt0.gen] 101), (1, plE 1 p1)] [] := by
  rw [Tree_Find.f] at H0
  refine spec_of [(0, _), (1, _)] [(0, _), (1, _)] 37 Try.func27 rfl Try.ntmps27 rfl rfl rfl rfl (fun β W F => ?_)
  refine G.seq ?_
  refine G.rg ?_
  refine K.box Y 100 [_, _] (gd0 rfl) rfl rfl rfl rfl rfl rfl ?_
  refine K.alloc Y 101 [_, _] (gd0 rfl) t35 rfl rfl rfl rfl rfl ?_
  refine K.move (.inr rfl) (gd0 rfl) rfl rfl ?_
  refine K.nil ?_
  refine At.next ?_
  obtain ⟨x1, H1, H0⟩ := bnd H0
  refine G.seqJ (σ := { v : Unit // x1 = Sum.inr v }) (fun q => [(4, .a (.c (.p 102 0)))]) (fun q => [(102, blk 102 [.v (.int .i64 0), .v (.int .i64 0)] 35), (1, plE 1 p1), (0, blk 0 [.p 1 0, .v (.int .i64 rt0.index), .v (.int .i64 rt0.gen)] 101)]) ?_ ?_
  ·
    refine G.seq ?_
    refine G.rg ?_
    refine K.move (.inl rfl) (gd0 rfl) rfl rfl ?_
    refine K.nilCheck (gd0 rfl) rfl rfl ?_
    refine K.fieldAddr Y (gd0 rfl) rfl t101 rfl rfl ?_
    refine K.loadS Y [_, _] (gd0 rfl) rfl rfl t99 rfl rfl rfl ?_
    refine K.alloc Y 103 [_, _] (gd0 rfl) t99 rfl rfl rfl rfl rfl ?_
    refine K.store Y [_, _] (gd0 rfl) rfl rfl rfl t99 rfl rfl rfl rfl rfl ?_
    refine K.nil ?_
    refine At.next ?_
    refine G.block ?_
    refine G.loop (σ := { q : Nat × (TRef) // Tree_Find.l0 opsE k p1 a1 q.1 q.2 = some x1 }) (fun q => [(0, .a (.c (.p 0 0))), (3, .a (.c (.p 110 0))), (4, .a (.c (.p 111 0))), (6, .a (.c (.p 112 0)))]) (fun q => [(1, plE 1 p1), (0, blk 0 [.p 1 0, .v (.int .i64 rt0.index), .v (.int .i64 rt0.gen)] 101), (110, blk 110 [.v (.int .i64 a1.k), .v (.int .i64 a1.w)] 35), (111, blk 111 [.v (.int .i64 0), .v (.int .i64 0)] 35), (112, blk 112 [.v (.int .i64 q.1.2.index), .v (.int .i64 q.1.2.gen)] 99)]) (fun q => q.1.1) ⟨(k, rt0), H1⟩ ?_ ?_
    · exact At.into [(110, 100), (111, 101), (112, 103)] [_, _, _, _, _] rfl ⟨rfl, rfl, rfl, rfl, trivial⟩ ⟨rfl, (pl_ren rfl), rfl, (blk_ren rfl rfl), rfl, (blk_ren rfl rfl), rfl, (blk_ren rfl rfl), rfl, (blk_ren rfl rfl), trivial⟩ rfl
    ·
      rintro ⟨⟨n0, v1⟩, H1⟩
      show G _ _ [(0, .a (.c (.p 0 0))), (3, .a (.c (.p 110 0))), (4, .a (.c (.p 111 0))), (6, .a (.c (.p 112 0)))] [(1, some (plE 1 p1)), (0, some (blk 0 [.p 1 0, .v (.int .i64 rt0.index), .v (.int .i64 rt0.gen)] 101)), (110, some (blk 110 [.v (.int .i64 a1.k), .v (.int .i64 a1.w)] 35)), (111, some (blk 111 [.v (.int .i64 0), .v (.int .i64 0)] 35)), (112, some (blk 112 [.v (.int .i64 v1.index), .v (.int .i64 v1.gen)] 99))] _ _
      cases n0 with
      | zero => exact absurd H1 (by simp [Tree_Find.l0])
      | succ n0 =>
        have HL0 := H1
        rw [Tree_Find.l0] at H1
        refine G.seq ?_
        refine G.seq ?_
        refine G.rg ?_
        refine K.fieldAddr Y (gd0 rfl) rfl t99 rfl rfl ?_
        refine K.load1 Y (gd0 rfl) rfl rfl t3 rfl rfl ?_
        refine K.bin (V := .bool (v1.gen != 0)) (gd0 rfl) rfl rfl (fun _ => rfl) rfl ?_
        refine K.nil ?_
        refine At.next ?_
        refine G.cond rfl (fun h1 => ?_) (fun h1 => ?_)
        ·
          replace H1 := bif_t H1 h1
          refine G.skip ?_
          refine At.next ?_
          refine G.seq ?_
          refine G.block ?_
          refine G.seq ?_
          obtain ⟨x2, hx2, H1⟩ := bnd H1
          refine G.rg ?_
          refine K.move (.inl rfl) (gd0 rfl) rfl rfl ?_
          refine K.loadS Y [_, _] (gd0 rfl) rfl rfl t99 rfl rfl rfl ?_
          refine K.callR [(.func 62, _), ((.tmp 17), _), ((.tmp 18), _)] (Tree_getE_con (k := k) hx2 0 1) (toFn_func (cf 62 rfl) rfl) (gd0 rfl) ⟨rfl, rfl, rfl, trivial⟩ ⟨rfl, rfl, trivial⟩ rfl rfl rfl ?_
          refine K.alloc Y 113 [_, _, _, _, _, _, _, _, _, _] (gd0 rfl) t104 rfl rfl rfl rfl rfl ?_
          refine K.store Y [_, _, _, _, _, _, _, _, _, _] (gd0 rfl) rfl rfl rfl t104 rfl rfl rfl rfl rfl ?_
          refine K.nil ?_
          refine At.next ?_
          refine G.seq ?_
          obtain ⟨x3, hx3, H1⟩ := bnd H1
          refine G.rg ?_
          refine K.loadS Y [_, _] (gd0 rfl) rfl rfl t35 rfl rfl rfl ?_
          refine K.mkIface Y (gd0 rfl) rfl (mkI Try.underlying35 rfl) rfl ?_
          refine K.fieldAddr Y (gd0 rfl) rfl t104 rfl rfl ?_
          refine K.loadS Y [_, _] (gd0 rfl) rfl rfl t35 rfl rfl rfl ?_
          refine K.callR [((.tmp 21), _), ((.tmp 23), _)] (Lw07_elem_Compare_con (k := k) hx3) (toFn_invoke (cf 131 rfl) (me35_131) rfl) (gd0 rfl) ⟨rfl, rfl, trivial⟩ trivial rfl rfl rfl ?_
          refine K.move (.inr rfl) (gd0 rfl) rfl rfl ?_
          refine K.nil ?_
          refine At.next ?_
          refine G.seq ?_
          refine G.seq ?_
          refine G.rg ?_
          refine K.move (.inl rfl) (gd0 rfl) rfl rfl ?_
          refine K.bin (V := .bool (x3 == 0)) (gd0 rfl) rfl rfl (fun _ => rfl) rfl ?_
          refine K.nil ?_
          refine At.next ?_
          refine G.cond rfl (fun h2 => ?_) (fun h2 => ?_)
          ·
            replace H1 := bif_t H1 h2
            refine G.seq ?_
            refine G.rg ?_
            refine K.fieldAddr Y (gd0 rfl) rfl t104 rfl rfl ?_
            refine K.loadS Y [_, _] (gd0 rfl) rfl rfl t35 rfl rfl rfl ?_
            refine K.store Y [_, _] (gd0 rfl) rfl rfl rfl t35 rfl rfl rfl rfl rfl ?_
            refine K.move (.inr rfl) (gd0 rfl) rfl rfl ?_
            refine K.nil ?_
            refine At.next ?_
            refine G.ret ?_
            refine At.over_ret ?_
            refine At.block_ret ?_
            refine At.over_ret ?_
            refine At.over_ret ?_
            refine At.block_ret ?_
            refine At.over_ret ?_
            cases H1
            replace H0 := sum_l H0
            refine At.done Y [(.cell 4 35, .agg [_, _]), (.tmp 5, .c _)] rfl ⟨.st rfl rfl t35 rfl rfl, .tmp rfl, trivial⟩ (to' := [(0, _), (1, _)]) ⟨rfl, rfl, trivial⟩ ?_ ?_ rfl rfl rfl (.inl rfl)
            · cases H0; rfl
            · cases H0; rfl
          ·
            replace H1 := bif_f H1 h2
            refine G.skip ?_
            refine At.next ?_
            refine G.seq ?_
            refine G.rg ?_
            refine K.fieldAddr Y (gd0 rfl) rfl t104 rfl rfl ?_
            refine K.loadS Y [_, _] (gd0 rfl) rfl rfl t99 rfl rfl rfl ?_
            refine K.store Y [_, _] (gd0 rfl) rfl rfl rfl t99 rfl rfl rfl rfl rfl ?_
            refine K.nil ?_
            refine At.next ?_
            refine G.seq ?_
            refine G.rg ?_
            refine K.move (.inl rfl) (gd0 rfl) rfl rfl ?_
            refine K.bin (V := .bool (decide (x3 < 0))) (gd0 rfl) rfl rfl (fun _ => rfl) rfl ?_
            refine K.nil ?_
            refine At.next ?_
            refine G.cond rfl (fun h3 => ?_) (fun h3 => ?_)
            ·
              replace H1 := bif_t H1 h3
              refine G.rg ?_
              refine K.fieldAddr Y (gd0 rfl) rfl t104 rfl rfl ?_
              refine K.loadS Y [_, _] (gd0 rfl) rfl rfl t99 rfl rfl rfl ?_
              refine K.store Y [_, _] (gd0 rfl) rfl rfl rfl t99 rfl rfl rfl rfl rfl ?_
              refine K.nil ?_
              refine At.block_normal ?_
              refine At.next ?_
              refine G.seq ?_
              refine G.rg ?_
              refine K.loadS Y [_, _] (gd0 rfl) rfl rfl t99 rfl rfl rfl ?_
              refine K.nil ?_
              refine At.next ?_
              refine G.rg ?_
              refine K.alloc Y 114 [_, _] (gd0 rfl) t99 rfl rfl rfl rfl rfl ?_
              refine K.store Y [_, _] (gd0 rfl) rfl rfl rfl t99 rfl rfl rfl rfl rfl ?_
              refine K.nil ?_
              exact At.again (σ := { q : Nat × (TRef) // Tree_Find.l0 opsE k p1 a1 q.1 q.2 = some x1 }) (Fs := fun q => [(0, .a (.c (.p 0 0))), (3, .a (.c (.p 110 0))), (4, .a (.c (.p 111 0))), (6, .a (.c (.p 112 0)))]) (Tl := fun q => [(1, plE 1 p1), (0, blk 0 [.p 1 0, .v (.int .i64 rt0.index), .v (.int .i64 rt0.gen)] 101), (110, blk 110 [.v (.int .i64 a1.k), .v (.int .i64 a1.w)] 35), (111, blk 111 [.v (.int .i64 0), .v (.int .i64 0)] 35), (112, blk 112 [.v (.int .i64 q.1.2.index), .v (.int .i64 q.1.2.gen)] 99)]) (μ := fun q => q.1.1) (s := ⟨(n0 + 1, v1), HL0⟩) ⟨(n0, x2.left), H1⟩ [(112, 114)] [_, _, _, _, _] (Nat.lt_succ_self _) rfl ⟨rfl, rfl, rfl, rfl, trivial⟩ ⟨rfl, (pl_ren rfl), rfl, (blk_ren rfl rfl), rfl, (blk_ren rfl rfl), rfl, (blk_ren rfl rfl), rfl, (blk_ren rfl rfl), trivial⟩ rfl
            ·
              replace H1 := bif_f H1 h3
              refine G.skip ?_
              refine At.block_normal ?_
              refine At.next ?_
              refine G.seq ?_
              refine G.rg ?_
              refine K.loadS Y [_, _] (gd0 rfl) rfl rfl t99 rfl rfl rfl ?_
              refine K.nil ?_
              refine At.next ?_
              refine G.rg ?_
              refine K.alloc Y 115 [_, _] (gd0 rfl) t99 rfl rfl rfl rfl rfl ?_
              refine K.store Y [_, _] (gd0 rfl) rfl rfl rfl t99 rfl rfl rfl rfl rfl ?_
              refine K.nil ?_
              exact At.again (σ := { q : Nat × (TRef) // Tree_Find.l0 opsE k p1 a1 q.1 q.2 = some x1 }) (Fs := fun q => [(0, .a (.c (.p 0 0))), (3, .a (.c (.p 110 0))), (4, .a (.c (.p 111 0))), (6, .a (.c (.p 112 0)))]) (Tl := fun q => [(1, plE 1 p1), (0, blk 0 [.p 1 0, .v (.int .i64 rt0.index), .v (.int .i64 rt0.gen)] 101), (110, blk 110 [.v (.int .i64 a1.k), .v (.int .i64 a1.w)] 35), (111, blk 111 [.v (.int .i64 0), .v (.int .i64 0)] 35), (112, blk 112 [.v (.int .i64 q.1.2.index), .v (.int .i64 q.1.2.gen)] 99)]) (μ := fun q => q.1.1) (s := ⟨(n0 + 1, v1), HL0⟩) ⟨(n0, x2.right), H1⟩ [(112, 115)] [_, _, _, _, _] (Nat.lt_succ_self _) rfl ⟨rfl, rfl, rfl, rfl, trivial⟩ ⟨rfl, (pl_ren rfl), rfl, (blk_ren rfl rfl), rfl, (blk_ren rfl rfl), rfl, (blk_ren rfl rfl), rfl, (blk_ren rfl rfl), trivial⟩ rfl
        ·
          replace H1 := bif_f H1 h1
          refine G.exit ?_
          refine At.over_exit ?_
          refine At.over_exit ?_
          refine At.block_hit ?_
          exact At.joined (σ := { v : Unit // x1 = Sum.inr v }) (Fs := fun q => [(4, .a (.c (.p 102 0)))]) (Tl := fun q => [(102, blk 102 [.v (.int .i64 0), .v (.int .i64 0)] 35), (1, plE 1 p1), (0, blk 0 [.p 1 0, .v (.int .i64 rt0.index), .v (.int .i64 rt0.gen)] 101)]) ⟨(), (Option.some.inj H1).symm⟩ [(102, 111)] [_, _, _] rfl ⟨rfl, trivial⟩ ⟨rfl, (blk_ren rfl rfl), rfl, (pl_ren rfl), rfl, (blk_ren rfl rfl), trivial⟩ rfl
  ·
    rintro ⟨v1, rfl⟩
    replace H0 := sum_r H0
    show G _ _ [(4, .a (.c (.p 102 0)))] [(102, some (blk 102 [.v (.int .i64 0), .v (.int .i64 0)] 35)), (1, some (plE 1 p1)), (0, some (blk 0 [.p 1 0, .v (.int .i64 rt0.index), .v (.int .i64 rt0.gen)] 101))] _ _
    refine G.seq ?_
    refine G.rg ?_
    refine K.alloc Y 116 [_, _] (gd0 rfl) t35 rfl rfl rfl rfl rfl ?_
    refine K.nil ?_
    refine At.next ?_
    refine G.seq ?_
    refine G.rg ?_
    refine K.loadS Y [_, _] (gd0 rfl) rfl rfl t35 rfl rfl rfl ?_
    refine K.store Y [_, _] (gd0 rfl) rfl rfl rfl t35 rfl rfl rfl rfl rfl ?_
    refine K.move (.inr rfl) (gd0 rfl) rfl rfl ?_
    refine K.nil ?_
    refine At.next ?_
    refine G.ret ?_
    refine At.done Y [(.cell 4 35, .agg [_, _]), (.tmp 5, .c _)] rfl ⟨.st rfl rfl t35 rfl rfl, .tmp rfl, trivial⟩ (to' := [(0, _), (1, _)]) ⟨rfl, rfl, trivial⟩ ?_ ?_ rfl rfl rfl (.inl rfl)
    · cases H0; rfl
    · cases H0; rfl
theorem Tree_FindE_con {k : Nat}  {p1 : Pool (TNode TL07Elem TTide)} {rt0 : TRef} {a1 : TL07Elem} {r : TL07Elem × Bool}  (H0 : Tree_Find.f opsE k p1 rt0 a1 = some r) (m0 m1 : Nat) : SCon Try.prog 27 [SV.p m0 0, .a (.agg ((eTL07Elem a1).map .v))] [(m0, blk m0 [.p m1 0, .i rt0.index, .i rt0.gen] 101), (m1, plE m1 p1)] (.tup [.agg ((eTL07Elem r.1).map .v), .c (.v (.bool r.2))]) [(m0, blk m0 [.p m1 0, .i rt0.index, .i rt0.gen] 101), (m1, plE m1 p1)] [] :=
  SCon.ren (rn [(0, m0), (1, m1)]) (Tree_FindE_con0 (k := k)   H0) ⟨(blk_ren rfl rfl), (pl_ren rfl), trivial⟩ ⟨(blk_ren rfl rfl), (pl_ren rfl), trivial⟩ (by simp) (by simp)
end Go.Proofs.Ytjokolmijhhinaa


/- Walks of trees. Printed by a program of mine. -/
import Derived.KernelRfl
import Derived.Test.YtjokolmijhhinaaMa
import Derived.Test.YtjokolmijhhinaaArS
namespace Go.Proofs.Ytjokolmijhhinaa
open Go Go.Proofs.Ytjokolmijhhinaa.Sx
set_option linter.unusedVariables false
set_option linter.unusedSimpArgs false
abbrev plS (k : Nat) (p : Pool (TNode TSlot TSize)) : Tok := pl k 158 161 3 12 fCS p
theorem plgetS {p : Pool (TNode TSlot TSize)} {i g : Int} {x : (TNode TSlot TSize) × Bool} (h : pGet zNodeS p i g = some x) (k : Nat) : SCon Try.prog 95 [SV.p k 0, SV.agg [.i i, .i g]] [(k, plS k p)] (.tup [avS x.1, .c (.b x.2)]) [(k, plS k p)] [] := by
  obtain ⟨hp, hx⟩ := grd h
  cases hx
  refine SCon.hide fun v => ?_
  obtain ⟨h1, v', h2⟩ := get_vis (p := p) (z := zNodeS) v i g
  refine ⟨v', ?_⟩
  have := getS' { p with vis := v } i g (hp.ok v) (by decide) k
  rw [h1, h2] at this
  exact this
theorem plsetS {p : Pool (TNode TSlot TSize)} {i g : Int} {y : (TNode TSlot TSize)} {x : Bool × Pool (TNode TSlot TSize)} (h : pSet p i g y = some x) (k : Nat) : SCon Try.prog 93 [SV.p k 0, SV.agg [.i i, .i g], .a (avS y)] [(k, plS k p)] (SV.b x.1) [(k, plS k x.2)] [] := by
  obtain ⟨hp, hx⟩ := grd h
  cases hx
  refine SCon.hide fun v => ?_
  obtain ⟨h1, v', h2⟩ := set_vis (p := p) v i g y
  refine ⟨v', ?_⟩
  have := setS' { p with vis := v } i g y (hp.ok v) (by decide) k
  rw [h1, h2] at this
  exact this
theorem plputS {p : Pool (TNode TSlot TSize)} {y : (TNode TSlot TSize)} {x : ((Int × Int) × Bool) × Pool (TNode TSlot TSize)} (h : pPut zNodeS p y = some x) (k : Nat) : SCon Try.prog 91 [SV.p k 0, .a (avS y)] [(k, plS k p)] (.tup [.agg [.i x.1.1.1, .i x.1.1.2], .c (.b x.1.2)]) [(k, plS k x.2)] [] := by
  obtain ⟨hp, hx⟩ := grd h
  cases hx
  refine SCon.hide fun v => ?_
  obtain ⟨h1, v', h2⟩ := put_vis (p := p) (z := zNodeS) v y
  refine ⟨v', ?_⟩
  have := putS { p with vis := v } y (hp.ok v) (by decide) k
  rw [h1, h2] at this
  exact this
theorem pldropS {p : Pool (TNode TSlot TSize)} {i g : Int} {x : ((TNode TSlot TSize) × Bool) × Pool (TNode TSlot TSize)} (h : pDrop zNodeS p i g = some x) (k : Nat) : SCon Try.prog 98 [SV.p k 0, SV.agg [.i i, .i g]] [(k, plS k p)] (.tup [avS x.1.1, .c (.b x.1.2)]) [(k, plS k x.2)] [] := by
  obtain ⟨hp, hx⟩ := grd h
  cases hx
  refine SCon.hide fun v => ?_
  obtain ⟨h1, v', h2⟩ := drop_vis (p := p) (z := zNodeS) v i g
  refine ⟨v', ?_⟩
  have := dropS' { p with vis := v } i g (hp.ok v) (by decide) k
  rw [h1, h2] at this
  exact this
theorem plnewS (c : Int) (k : Nat) : SCon Try.prog 90 [SV.i c] [] (SV.p k 0) [(k, plS k ⟨[], [], capOf c, 0, 0⟩)] [k] := SCon.hideNew (newS c k)
theorem Tree_NewS_con0 {k : Nat}  {a0 : Int} {r : TRef × Pool (TNode TSlot TSize)}  (H0 : Tree_New.f opsS k a0 = some r) : SCon Try.prog 74 [.a (.c (.v (.int .i64 a0)))] [] (.a (.c (.p 40 0))) [(40, blk 40 [.p 41 0, .i r.1.index, .i r.1.gen] 122), (41, plS 41 r.2)] [40, 41] := by
  rw [Tree_New.f] at H0
  refine spec_of [(0, _)] [] 7 Try.func74 rfl Try.ntmps74 rfl rfl rfl rfl (fun β W F => ?_)
  refine G.seq ?_
  refine G.rg ?_
  refine K.move (.inr rfl) (gd0 rfl) rfl rfl ?_
  refine K.nil ?_
  refine At.next ?_
  refine G.seq ?_
  refine G.rg ?_
  refine K.move (.inl rfl) (gd0 rfl) rfl rfl ?_
  refine K.call0 [(.func 90, _), ((.tmp 3), _)] (plnewS a0 100) (toFn_func (cf 90 rfl) rfl) (gd0 rfl) ⟨rfl, rfl, trivial⟩ trivial rfl rfl rfl rfl rfl rfl ?_
  refine K.build Y [(0, _)] [_, _, _] [((.tmp 4), _)] (gd0 rfl) (AllE.spec ⟨rfl, trivial⟩) rfl rfl t122 rfl rfl ?_
  refine K.box Y 101 [_, _, _] (gd0 rfl) rfl rfl rfl rfl rfl rfl ?_
  refine K.move (.inr rfl) (gd0 rfl) rfl rfl ?_
  refine K.nil ?_
  refine At.next ?_
  refine G.ret ?_
  refine At.ren (fs' := [(2, .a (.c (.p 40 0)))]) (tl := [(40, blk 40 [.p 41 0, .v (.int .i64 0), .v (.int .i64 0)] 122), (41, plS 41 (⟨[], [], capOf a0, 0, 0⟩ : Pool (TNode TSlot TSize)))]) [(40, 101), (41, 100)] [_, _] rfl ⟨rfl, trivial⟩ ⟨rfl, (blk_ren rfl rfl), rfl, (pl_ren rfl), trivial⟩ rfl ?_
  refine At.done Y [(.tmp 2, .c _)] rfl ⟨.tmp rfl, trivial⟩ (to' := [(40, _), (41, _)]) ⟨rfl, rfl, trivial⟩ ?_ ?_ rfl rfl rfl (.inl rfl)
  · cases H0; rfl
  · cases H0; rfl
theorem Tree_NewS_con {k : Nat}  {a0 : Int} {r : TRef × Pool (TNode TSlot TSize)}  (H0 : Tree_New.f opsS k a0 = some r) (m40 m41 : Nat) (hd : ndB [m40, m41] = true) : SCon Try.prog 74 [.a (.c (.v (.int .i64 a0)))] [] (.a (.c (.p m40 0))) [(m40, blk m40 [.p m41 0, .i r.1.index, .i r.1.gen] 122), (m41, plS m41 r.2)] [m40, m41] :=
  SCon.ren (rn [(40, m40), (41, m41)]) (Tree_NewS_con0 (k := k)   H0) trivial ⟨(blk_ren rfl rfl), (pl_ren rfl), trivial⟩ (rn_nd hd rfl rfl) (rn_ks hd rfl rfl rfl)
theorem Tree_getS_con0 {k : Nat}  {p1 : Pool (TNode TSlot TSize)} {a1 : TRef} {ri0 rg0 : Int} {r : TNode TSlot TSize}  (H0 : Tree_get.f opsS k p1 a1 = some r) : SCon Try.prog 76 [SV.p 0 0, .a (.agg ((eTRef a1).map .v))] [(0, blk 0 [.p 1 0, .i ri0, .i rg0] 122), (1, plS 1 p1)] (.a (.agg ((eTNode_TSlot_TSize r).map .v))) [(0, blk 0 [.p 1 0, .i ri0, .i rg0] 122), (1, plS 1 p1)] [] := by
  rw [Tree_get.f] at H0
  refine spec_of [(0, _), (1, _)] [(0, _), (1, _)] 21 Try.func76 rfl Try.ntmps76 rfl rfl rfl rfl (fun β W F => ?_)
  refine G.seq ?_
  refine G.rg ?_
  refine K.box Y 100 [_, _] (gd0 rfl) rfl rfl rfl rfl rfl rfl ?_
  refine K.alloc Y 101 [_, _, _, _, _, _, _, _, _, _] (gd0 rfl) t124 rfl rfl rfl rfl rfl ?_
  refine K.nil ?_
  refine At.next ?_
  refine G.seq ?_
  refine G.seq ?_
  refine G.rg ?_
  refine K.fieldAddr Y (gd0 rfl) rfl t99 rfl rfl ?_
  refine K.load1 Y (gd0 rfl) rfl rfl t3 rfl rfl ?_
  refine K.bin (V := .bool (a1.gen == 0)) (gd0 rfl) rfl rfl (fun _ => rfl) rfl ?_
  refine K.nil ?_
  refine At.next ?_
  refine G.cond rfl (fun h1 => ?_) (fun h1 => ?_)
  ·
    replace H0 := bif_t H0 h1
    refine G.seq ?_
    refine G.rg ?_
    refine K.build Y [] [_, _, _, _, _, _, _, _, _, _] [] (gd0 rfl) (AllE.spec trivial) rfl rfl t124 rfl rfl ?_
    refine K.store Y [_, _, _, _, _, _, _, _, _, _] (gd0 rfl) rfl rfl rfl t124 rfl rfl rfl rfl rfl ?_
    refine K.nil ?_
    refine At.next ?_
    refine G.ret ?_
    refine At.over_ret ?_
    refine At.done Y [(.cell 4 124, .agg [_, _, _, _, _, _, _, _, _, _])] rfl ⟨.st rfl rfl t124 rfl rfl, trivial⟩ (to' := [(0, _), (1, _)]) ⟨rfl, rfl, trivial⟩ ?_ ?_ rfl rfl rfl (.inl rfl)
    · cases H0; rfl
    · cases H0; rfl
  ·
    replace H0 := bif_f H0 h1
    refine G.skip ?_
    refine At.next ?_
    refine G.seq ?_
    obtain ⟨x1, hx1, H0⟩ := bnd H0
    refine G.rd mixed ?_
    refine K.move (.inl rfl) (gd0 rfl) rfl rfl ?_
    refine K.nilCheck (gd0 rfl) rfl rfl ?_
    refine K.fieldAddr Y (gd0 rfl) rfl t122 rfl rfl ?_
    refine K.load1 Y (gd0 rfl) rfl rfl t120 rfl rfl ?_
    refine K.loadS Y [_, _] (gd0 rfl) rfl rfl t99 rfl rfl rfl ?_
    refine K.callR [(.func 95, _), ((.tmp 15), _), ((.tmp 16), _)] (plgetS hx1 1) (toFn_func (cf 95 rfl) rfl) (gd0 rfl) ⟨rfl, rfl, rfl, trivial⟩ ⟨rfl, trivial⟩ rfl rfl rfl ?_
    refine K.move (.inl rfl) (gd0 rfl) rfl rfl ?_
    refine K.extract (gd0 rfl) rfl rfl rfl ?_
    refine K.extract (gd0 rfl) rfl rfl rfl ?_
    refine K.alloc Y 102 [_, _, _, _, _, _, _, _, _, _] (gd0 rfl) t124 rfl rfl rfl rfl rfl ?_
    refine K.store Y [_, _, _, _, _, _, _, _, _, _] (gd0 rfl) rfl rfl rfl t124 rfl rfl rfl rfl rfl ?_
    refine K.move (.inr rfl) (gd0 rfl) rfl rfl ?_
    refine K.nil ?_
    refine ⟨by kernel_rfl, ?_⟩
    refine At.next ?_
    refine G.seq ?_
    refine G.rg ?_
    refine K.loadS Y [_, _, _, _, _, _, _, _, _, _] (gd0 rfl) rfl rfl t124 rfl rfl rfl ?_
    refine K.store Y [_, _, _, _, _, _, _, _, _, _] (gd0 rfl) rfl rfl rfl t124 rfl rfl rfl rfl rfl ?_
    refine K.nil ?_
    refine At.next ?_
    refine G.ret ?_
    refine At.done Y [(.cell 4 124, .agg [_, _, _, _, _, _, _, _, _, _])] rfl ⟨.st rfl rfl t124 rfl rfl, trivial⟩ (to' := [(0, _), (1, _)]) ⟨rfl, rfl, trivial⟩ ?_ ?_ rfl rfl rfl (.inl rfl)
    · cases H0; rfl
    · cases H0; rfl
theorem Tree_getS_con {k : Nat}  {p1 : Pool (TNode TSlot TSize)} {a1 : TRef} {ri0 rg0 : Int} {r : TNode TSlot TSize}  (H0 : Tree_get.f opsS k p1 a1 = some r) (m0 m1 : Nat) : SCon Try.prog 76 [SV.p m0 0, .a (.agg ((eTRef a1).map .v))] [(m0, blk m0 [.p m1 0, .i ri0, .i rg0] 122), (m1, plS m1 p1)] (.a (.agg ((eTNode_TSlot_TSize r).map .v))) [(m0, blk m0 [.p m1 0, .i ri0, .i rg0] 122), (m1, plS m1 p1)] [] :=
  SCon.ren (rn [(0, m0), (1, m1)]) (Tree_getS_con0 (k := k)   H0) ⟨(blk_ren rfl rfl), (pl_ren rfl), trivial⟩ ⟨(blk_ren rfl rfl), (pl_ren rfl), trivial⟩ (by simp) (by simp)
theorem Tree_weightS_con0 {k : Nat}  {p1 : Pool (TNode TSlot TSize)} {a1 : TRef} {ri0 rg0 : Int} {r : Int}  (H0 : Tree_weight.f opsS k p1 a1 = some r) : SCon Try.prog 101 [SV.p 0 0, .a (.agg ((eTRef a1).map .v))] [(0, blk 0 [.p 1 0, .i ri0, .i rg0] 122), (1, plS 1 p1)] (.a (.c (.v (.int .i64 r)))) [(0, blk 0 [.p 1 0, .i ri0, .i rg0] 122), (1, plS 1 p1)] [] := by
  rw [Tree_weight.f] at H0
  refine spec_of [(0, _), (1, _)] [(0, _), (1, _)] 10 Try.func101 rfl Try.ntmps101 rfl rfl rfl rfl (fun β W F => ?_)
  refine G.seq ?_
  refine G.rg ?_
  refine K.box Y 100 [_, _] (gd0 rfl) rfl rfl rfl rfl rfl rfl ?_
  refine K.move (.inr rfl) (gd0 rfl) rfl rfl ?_
  refine K.nil ?_
  refine At.next ?_
  refine G.seq ?_
  obtain ⟨x1, hx1, H0⟩ := bnd H0
  refine G.rg ?_
  refine K.move (.inl rfl) (gd0 rfl) rfl rfl ?_
  refine K.loadS Y [_, _] (gd0 rfl) rfl rfl t99 rfl rfl rfl ?_
  refine K.callR [(.func 76, _), ((.tmp 5), _), ((.tmp 6), _)] (Tree_getS_con (k := k) hx1 0 1) (toFn_func (cf 76 rfl) rfl) (gd0 rfl) ⟨rfl, rfl, rfl, trivial⟩ ⟨rfl, rfl, trivial⟩ rfl rfl rfl ?_
  refine K.field1 Y (gd0 rfl) rfl t124 rfl t3 rfl rfl ?_
  refine K.bin (V := .int .i64 (w64 (x1.size + 1))) (gd0 rfl) rfl rfl (fun _ => rfl) rfl ?_
  refine K.move (.inr rfl) (gd0 rfl) rfl rfl ?_
  refine K.nil ?_
  refine At.next ?_
  refine G.ret ?_
  refine At.done Y [(.tmp 4, .c _)] rfl ⟨.tmp rfl, trivial⟩ (to' := [(0, _), (1, _)]) ⟨rfl, rfl, trivial⟩ ?_ ?_ rfl rfl rfl (.inl rfl)
  · cases H0; rfl
  · cases H0; rfl
theorem Tree_weightS_con {k : Nat}  {p1 : Pool (TNode TSlot TSize)} {a1 : TRef} {ri0 rg0 : Int} {r : Int}  (H0 : Tree_weight.f opsS k p1 a1 = some r) (m0 m1 : Nat) : SCon Try.prog 101 [SV.p m0 0, .a (.agg ((eTRef a1).map .v))] [(m0, blk m0 [.p m1 0, .i ri0, .i rg0] 122), (m1, plS m1 p1)] (.a (.c (.v (.int .i64 r)))) [(m0, blk m0 [.p m1 0, .i ri0, .i rg0] 122), (m1, plS m1 p1)] [] :=
  SCon.ren (rn [(0, m0), (1, m1)]) (Tree_weightS_con0 (k := k)   H0) ⟨(blk_ren rfl rfl), (pl_ren rfl), trivial⟩ ⟨(blk_ren rfl rfl), (pl_ren rfl), trivial⟩ (by simp) (by simp)
theorem Tree_layS_con0 {k : Nat}  {p1 : Pool (TNode TSlot TSize)} {a1 : TRef} {a2 : TRef} {a3 : TRef} {ri0 rg0 : Int} {r : TRef × Pool (TNode TSlot TSize)}  (H0 : Tree_lay.f opsS k p1 a1 a2 a3 = some r) : SCon Try.prog 94 [SV.p 0 0, .a (.agg ((eTRef a1).map .v)), .a (.agg ((eTRef a2).map .v)), .a (.agg ((eTRef a3).map .v))] [(0, blk 0 [.p 1 0, .i ri0, .i rg0] 122), (1, plS 1 p1)] (.a (.agg ((eTRef r.1).map .v))) [(0, blk 0 [.p 1 0, .i ri0, .i rg0] 122), (1, plS 1 r.2)] [] := by
  rw [Tree_lay.f] at H0
  refine spec_of [(0, _), (1, _), (2, _), (3, _)] [(0, _), (1, _)] 53 Try.func94 rfl Try.ntmps94 rfl rfl rfl rfl (fun β W F => ?_)
  refine G.seq ?_
  refine G.rg ?_
  refine K.box Y 100 [_, _] (gd0 rfl) rfl rfl rfl rfl rfl rfl ?_
  refine K.box Y 101 [_, _] (gd0 rfl) rfl rfl rfl rfl rfl rfl ?_
  refine K.box Y 102 [_, _] (gd0 rfl) rfl rfl rfl rfl rfl rfl ?_
  refine K.alloc Y 103 [_, _] (gd0 rfl) t99 rfl rfl rfl rfl rfl ?_
  refine K.nil ?_
  refine At.next ?_
  refine G.seq ?_
  obtain ⟨x1, hx1, H0⟩ := bnd H0
  refine G.rg ?_
  refine K.move (.inl rfl) (gd0 rfl) rfl rfl ?_
  refine K.loadS Y [_, _] (gd0 rfl) rfl rfl t99 rfl rfl rfl ?_
  refine K.callR [(.func 76, _), ((.tmp 12), _), ((.tmp 13), _)] (Tree_getS_con (k := k) hx1 0 1) (toFn_func (cf 76 rfl) rfl) (gd0 rfl) ⟨rfl, rfl, rfl, trivial⟩ ⟨rfl, rfl, trivial⟩ rfl rfl rfl ?_
  refine K.alloc Y 104 [_, _, _, _, _, _, _, _, _, _] (gd0 rfl) t124 rfl rfl rfl rfl rfl ?_
  refine K.store Y [_, _, _, _, _, _, _, _, _, _] (gd0 rfl) rfl rfl rfl t124 rfl rfl rfl rfl rfl ?_
  refine K.nil ?_
  refine At.next ?_
  refine G.seq ?_
  obtain ⟨x2, hx2, H0⟩ := bnd H0
  obtain ⟨x3, hx3, H0⟩ := bnd H0
  refine G.rd mixed ?_
  refine K.move (.inl rfl) (gd0 rfl) rfl rfl ?_
  refine K.loadS Y [_, _] (gd0 rfl) rfl rfl t99 rfl rfl rfl ?_
  refine K.callR [(.func 76, _), ((.tmp 15), _), ((.tmp 16), _)] (Tree_getS_con (k := k) hx2 0 1) (toFn_func (cf 76 rfl) rfl) (gd0 rfl) ⟨rfl, rfl, rfl, trivial⟩ ⟨rfl, rfl, trivial⟩ rfl rfl rfl ?_
  refine K.move (.inl rfl) (gd0 rfl) rfl rfl ?_
  refine K.loadS Y [_, _] (gd0 rfl) rfl rfl t99 rfl rfl rfl ?_
  refine K.callR [(.func 76, _), ((.tmp 18), _), ((.tmp 19), _)] (Tree_getS_con (k := k) hx3 0 1) (toFn_func (cf 76 rfl) rfl) (gd0 rfl) ⟨rfl, rfl, rfl, trivial⟩ ⟨rfl, rfl, trivial⟩ rfl rfl rfl ?_
  refine K.alloc Y 105 [_, _, _, _, _, _, _, _, _, _] (gd0 rfl) t124 rfl rfl rfl rfl rfl ?_
  refine K.alloc Y 106 [_, _, _, _, _, _, _, _, _, _] (gd0 rfl) t124 rfl rfl rfl rfl rfl ?_
  refine K.store Y [_, _, _, _, _, _, _, _, _, _] (gd0 rfl) rfl rfl rfl t124 rfl rfl rfl rfl rfl ?_
  refine K.store Y [_, _, _, _, _, _, _, _, _, _] (gd0 rfl) rfl rfl rfl t124 rfl rfl rfl rfl rfl ?_
  refine K.nil ?_
  refine ⟨by kernel_rfl, ?_⟩
  refine At.next ?_
  refine G.seq ?_
  refine G.rd mixed ?_
  refine K.loadS Y [_, _] (gd0 rfl) rfl rfl t99 rfl rfl rfl ?_
  refine K.loadS Y [_, _] (gd0 rfl) rfl rfl t99 rfl rfl rfl ?_
  refine K.fieldAddr Y (gd0 rfl) rfl t124 rfl rfl ?_
  refine K.store Y [_, _, _, _, _, _, _, _, _, _] (gd0 rfl) rfl rfl rfl t99 rfl rfl rfl rfl rfl ?_
  refine K.fieldAddr Y (gd0 rfl) rfl t124 rfl rfl ?_
  refine K.store Y [_, _, _, _, _, _, _, _, _, _] (gd0 rfl) rfl rfl rfl t99 rfl rfl rfl rfl rfl ?_
  refine K.nil ?_
  refine ⟨by kernel_rfl, ?_⟩
  refine At.next ?_
  refine G.seq ?_
  refine G.rg ?_
  refine K.fieldAddr Y (gd0 rfl) rfl t124 rfl rfl ?_
  refine K.load1 Y (gd0 rfl) rfl rfl t3 rfl rfl ?_
  refine K.bin (V := .int .i64 (w64 (x2.size + 1))) (gd0 rfl) rfl rfl (fun _ => rfl) rfl ?_
  refine K.fieldAddr Y (gd0 rfl) rfl t124 rfl rfl ?_
  refine K.load1 Y (gd0 rfl) rfl rfl t3 rfl rfl ?_
  refine K.bin (V := .int .i64 (w64 ((w64 (x2.size + 1)) + x3.size))) (gd0 rfl) rfl rfl (fun _ => rfl) rfl ?_
  refine K.fieldAddr Y (gd0 rfl) rfl t124 rfl rfl ?_
  refine K.store Y [_, _, _, _, _, _, _, _, _, _] (gd0 rfl) rfl rfl rfl t3 rfl rfl rfl rfl rfl ?_
  refine K.nil ?_
  refine At.next ?_
  refine G.seq ?_
  obtain ⟨x4, hx4, H0⟩ := bnd H0
  obtain ⟨x5, hx5, H0⟩ := bnd H0
  obtain ⟨x6, hx6, H0⟩ := bnd H0
  refine G.rd mixed ?_
  refine K.fieldAddr Y (gd0 rfl) rfl t124 rfl rfl ?_
  refine K.load1 Y (gd0 rfl) rfl rfl t76 rfl rfl ?_
  refine K.mkIface Y (gd0 rfl) rfl (mkI Try.underlying76 rfl) rfl ?_
  refine K.fieldAddr Y (gd0 rfl) rfl t124 rfl rfl ?_
  refine K.loadS Y [_, _, _, _] (gd0 rfl) rfl rfl t72 rfl rfl rfl ?_
  refine K.mkIface Y (gd0 rfl) rfl (mkI Try.underlying72 rfl) rfl ?_
  refine K.callR [((.tmp 37), _)] (shelf_Slot_Sum_con (k := k) hx4) (toFn_invoke (cf 47 rfl) (me72_47) rfl) (gd0 rfl) ⟨rfl, trivial⟩ trivial rfl rfl rfl ?_
  refine K.callR [((.tmp 34), _), ((.tmp 38), _)] (shelf_Size_Plus_con (k := k) hx5) (toFn_invoke (cf 48 rfl) (me76_48) rfl) (gd0 rfl) ⟨rfl, rfl, trivial⟩ trivial rfl rfl rfl ?_
  refine K.mkIface Y (gd0 rfl) rfl (mkI Try.underlying76 rfl) rfl ?_
  refine K.fieldAddr Y (gd0 rfl) rfl t124 rfl rfl ?_
  refine K.load1 Y (gd0 rfl) rfl rfl t76 rfl rfl ?_
  refine K.callR [((.tmp 40), _), ((.tmp 42), _)] (shelf_Size_Plus_con (k := k) hx6) (toFn_invoke (cf 48 rfl) (me76_48) rfl) (gd0 rfl) ⟨rfl, rfl, trivial⟩ trivial rfl rfl rfl ?_
  refine K.fieldAddr Y (gd0 rfl) rfl t124 rfl rfl ?_
  refine K.store Y [_, _, _, _, _, _, _, _, _, _] (gd0 rfl) rfl rfl rfl t76 rfl rfl rfl rfl rfl ?_
  refine K.nil ?_
  refine ⟨by kernel_rfl, ?_⟩
  refine At.next ?_
  refine G.seq ?_
  obtain ⟨x7, hx7, H0⟩ := bnd H0
  refine G.rd mixed ?_
  refine K.move (.inl rfl) (gd0 rfl) rfl rfl ?_
  refine K.nilCheck (gd0 rfl) rfl rfl ?_
  refine K.fieldAddr Y (gd0 rfl) rfl t122 rfl rfl ?_
  refine K.load1 Y (gd0 rfl) rfl rfl t120 rfl rfl ?_
  refine K.loadS Y [_, _] (gd0 rfl) rfl rfl t99 rfl rfl rfl ?_
  refine K.loadS Y [_, _, _, _, _, _, _, _, _, _] (gd0 rfl) rfl rfl t124 rfl rfl rfl ?_
  refine K.call0 [(.func 93, _), ((.tmp 48), _), ((.tmp 49), _), ((.tmp 50), _)] (plsetS hx7 1) (toFn_func (cf 93 rfl) rfl) (gd0 rfl) ⟨rfl, rfl, rfl, rfl, trivial⟩ ⟨rfl, trivial⟩ rfl rfl rfl rfl rfl rfl ?_
  refine K.nil ?_
  refine ⟨by kernel_rfl, ?_⟩
  refine At.next ?_
  refine G.seq ?_
  refine G.rg ?_
  refine K.loadS Y [_, _] (gd0 rfl) rfl rfl t99 rfl rfl rfl ?_
  refine K.store Y [_, _] (gd0 rfl) rfl rfl rfl t99 rfl rfl rfl rfl rfl ?_
  refine K.nil ?_
  refine At.next ?_
  refine G.ret ?_
  refine At.done Y [(.cell 8 99, .agg [_, _])] rfl ⟨.st rfl rfl t99 rfl rfl, trivial⟩ (to' := [(0, _), (1, _)]) ⟨rfl, rfl, trivial⟩ ?_ ?_ rfl rfl rfl (.inl rfl)
  · cases H0; rfl
  · cases H0; rfl
theorem Tree_layS_con {k : Nat}  {p1 : Pool (TNode TSlot TSize)} {a1 : TRef} {a2 : TRef} {a3 : TRef} {ri0 rg0 : Int} {r : TRef × Pool (TNode TSlot TSize)}  (H0 : Tree_lay.f opsS k p1 a1 a2 a3 = some r) (m0 m1 : Nat) : SCon Try.prog 94 [SV.p m0 0, .a (.agg ((eTRef a1).map .v)), .a (.agg ((eTRef a2).map .v)), .a (.agg ((eTRef a3).map .v))] [(m0, blk m0 [.p m1 0, .i ri0, .i rg0] 122), (m1, plS m1 p1)] (.a (.agg ((eTRef r.1).map .v))) [(m0, blk m0 [.p m1 0, .i ri0, .i rg0] 122), (m1, plS m1 r.2)] [] :=
  SCon.ren (rn [(0, m0), (1, m1)]) (Tree_layS_con0 (k := k)   H0) ⟨(blk_ren rfl rfl), (pl_ren rfl), trivial⟩ ⟨(blk_ren rfl rfl), (pl_ren rfl), trivial⟩ (by simp) (by simp)
theorem Tree_turnRightS_con0 {k : Nat}  {p1 : Pool (TNode TSlot TSize)} {a1 : TRef} {ri0 rg0 : Int} {r : TRef × Pool (TNode TSlot TSize)}  (H0 : Tree_turnRight.f opsS k p1 a1 = some r) : SCon Try.prog 112 [SV.p 0 0, .a (.agg ((eTRef a1).map .v))] [(0, blk 0 [.p 1 0, .i ri0, .i rg0] 122), (1, plS 1 p1)] (.a (.agg ((eTRef r.1).map .v))) [(0, blk 0 [.p 1 0, .i ri0, .i rg0] 122), (1, plS 1 r.2)] [] := by
  rw [Tree_turnRight.f] at H0
  refine spec_of [(0, _), (1, _)] [(0, _), (1, _)] 28 Try.func112 rfl Try.ntmps112 rfl rfl rfl rfl (fun β W F => ?_)
  refine G.seq ?_
  refine G.rg ?_
  refine K.box Y 100 [_, _] (gd0 rfl) rfl rfl rfl rfl rfl rfl ?_
  refine K.alloc Y 101 [_, _] (gd0 rfl) t99 rfl rfl rfl rfl rfl ?_
  refine K.nil ?_
  refine At.next ?_
  refine G.seq ?_
  obtain ⟨x1, hx1, H0⟩ := bnd H0
  refine G.rg ?_
  refine K.move (.inl rfl) (gd0 rfl) rfl rfl ?_
  refine K.loadS Y [_, _] (gd0 rfl) rfl rfl t99 rfl rfl rfl ?_
  refine K.callR [(.func 76, _), ((.tmp 7), _), ((.tmp 8), _)] (Tree_getS_con (k := k) hx1 0 1) (toFn_func (cf 76 rfl) rfl) (gd0 rfl) ⟨rfl, rfl, rfl, trivial⟩ ⟨rfl, rfl, trivial⟩ rfl rfl rfl ?_
  refine K.alloc Y 102 [_, _, _, _, _, _, _, _, _, _] (gd0 rfl) t124 rfl rfl rfl rfl rfl ?_
  refine K.store Y [_, _, _, _, _, _, _, _, _, _] (gd0 rfl) rfl rfl rfl t124 rfl rfl rfl rfl rfl ?_
  refine K.nil ?_
  refine At.next ?_
  refine G.seq ?_
  obtain ⟨x2, hx2, H0⟩ := bnd H0
  refine G.rg ?_
  refine K.move (.inl rfl) (gd0 rfl) rfl rfl ?_
  refine K.fieldAddr Y (gd0 rfl) rfl t124 rfl rfl ?_
  refine K.loadS Y [_, _] (gd0 rfl) rfl rfl t99 rfl rfl rfl ?_
  refine K.callR [(.func 76, _), ((.tmp 10), _), ((.tmp 12), _)] (Tree_getS_con (k := k) hx2 0 1) (toFn_func (cf 76 rfl) rfl) (gd0 rfl) ⟨rfl, rfl, rfl, trivial⟩ ⟨rfl, rfl, trivial⟩ rfl rfl rfl ?_
  refine K.alloc Y 103 [_, _, _, _, _, _, _, _, _, _] (gd0 rfl) t124 rfl rfl rfl rfl rfl ?_
  refine K.store Y [_, _, _, _, _, _, _, _, _, _] (gd0 rfl) rfl rfl rfl t124 rfl rfl rfl rfl rfl ?_
  refine K.nil ?_
  refine At.next ?_
  refine G.seq ?_
  obtain ⟨x3, hx3, H0⟩ := bnd H0
  refine G.rg ?_
  refine K.move (.inl rfl) (gd0 rfl) rfl rfl ?_
  refine K.loadS Y [_, _] (gd0 rfl) rfl rfl t99 rfl rfl rfl ?_
  refine K.fieldAddr Y (gd0 rfl) rfl t124 rfl rfl ?_
  refine K.loadS Y [_, _] (gd0 rfl) rfl rfl t99 rfl rfl rfl ?_
  refine K.fieldAddr Y (gd0 rfl) rfl t124 rfl rfl ?_
  refine K.loadS Y [_, _] (gd0 rfl) rfl rfl t99 rfl rfl rfl ?_
  refine K.call0 [(.func 94, _), ((.tmp 14), _), ((.tmp 15), _), ((.tmp 17), _), ((.tmp 19), _)] (Tree_layS_con (k := k) hx3 0 1) (toFn_func (cf 94 rfl) rfl) (gd0 rfl) ⟨rfl, rfl, rfl, rfl, rfl, trivial⟩ ⟨rfl, rfl, trivial⟩ rfl rfl rfl rfl rfl rfl ?_
  refine K.nil ?_
  refine At.next ?_
  refine G.seq ?_
  obtain ⟨x4, hx4, H0⟩ := bnd H0
  refine G.rg ?_
  refine K.move (.inl rfl) (gd0 rfl) rfl rfl ?_
  refine K.fieldAddr Y (gd0 rfl) rfl t124 rfl rfl ?_
  refine K.loadS Y [_, _] (gd0 rfl) rfl rfl t99 rfl rfl rfl ?_
  refine K.fieldAddr Y (gd0 rfl) rfl t124 rfl rfl ?_
  refine K.loadS Y [_, _] (gd0 rfl) rfl rfl t99 rfl rfl rfl ?_
  refine K.loadS Y [_, _] (gd0 rfl) rfl rfl t99 rfl rfl rfl ?_
  refine K.call0 [(.func 94, _), ((.tmp 21), _), ((.tmp 23), _), ((.tmp 25), _), ((.tmp 26), _)] (Tree_layS_con (k := k) hx4 0 1) (toFn_func (cf 94 rfl) rfl) (gd0 rfl) ⟨rfl, rfl, rfl, rfl, rfl, trivial⟩ ⟨rfl, rfl, trivial⟩ rfl rfl rfl rfl rfl rfl ?_
  refine K.store Y [_, _] (gd0 rfl) rfl rfl rfl t99 rfl rfl rfl rfl rfl ?_
  refine K.nil ?_
  refine At.next ?_
  refine G.ret ?_
  refine At.done Y [(.cell 4 99, .agg [_, _])] rfl ⟨.st rfl rfl t99 rfl rfl, trivial⟩ (to' := [(0, _), (1, _)]) ⟨rfl, rfl, trivial⟩ ?_ ?_ rfl rfl rfl (.inl rfl)
  · cases H0; rfl
  · cases H0; rfl
theorem Tree_turnRightS_con {k : Nat}  {p1 : Pool (TNode TSlot TSize)} {a1 : TRef} {ri0 rg0 : Int} {r : TRef × Pool (TNode TSlot TSize)}  (H0 : Tree_turnRight.f opsS k p1 a1 = some r) (m0 m1 : Nat) : SCon Try.prog 112 [SV.p m0 0, .a (.agg ((eTRef a1).map .v))] [(m0, blk m0 [.p m1 0, .i ri0, .i rg0] 122), (m1, plS m1 p1)] (.a (.agg ((eTRef r.1).map .v))) [(m0, blk m0 [.p m1 0, .i ri0, .i rg0] 122), (m1, plS m1 r.2)] [] :=
  SCon.ren (rn [(0, m0), (1, m1)]) (Tree_turnRightS_con0 (k := k)   H0) ⟨(blk_ren rfl rfl), (pl_ren rfl), trivial⟩ ⟨(blk_ren rfl rfl), (pl_ren rfl), trivial⟩ (by simp) (by simp)
theorem Tree_turnLeftS_con0 {k : Nat}  {p1 : Pool (TNode TSlot TSize)} {a1 : TRef} {ri0 rg0 : Int} {r : TRef × Pool (TNode TSlot TSize)}  (H0 : Tree_turnLeft.f opsS k p1 a1 = some r) : SCon Try.prog 113 [SV.p 0 0, .a (.agg ((eTRef a1).map .v))] [(0, blk 0 [.p 1 0, .i ri0, .i rg0] 122), (1, plS 1 p1)] (.a (.agg ((eTRef r.1).map .v))) [(0, blk 0 [.p 1 0, .i ri0, .i rg0] 122), (1, plS 1 r.2)] [] := by
  rw [Tree_turnLeft.f] at H0
  refine spec_of [(0, _), (1, _)] [(0, _), (1, _)] 28 Try.func113 rfl Try.ntmps113 rfl rfl rfl rfl (fun β W F => ?_)
  refine G.seq ?_
  refine G.rg ?_
  refine K.box Y 100 [_, _] (gd0 rfl) rfl rfl rfl rfl rfl rfl ?_
  refine K.alloc Y 101 [_, _] (gd0 rfl) t99 rfl rfl rfl rfl rfl ?_
  refine K.nil ?_
  refine At.next ?_
  refine G.seq ?_
  obtain ⟨x1, hx1, H0⟩ := bnd H0
  refine G.rg ?_
  refine K.move (.inl rfl) (gd0 rfl) rfl rfl ?_
  refine K.loadS Y [_, _] (gd0 rfl) rfl rfl t99 rfl rfl rfl ?_
  refine K.callR [(.func 76, _), ((.tmp 7), _), ((.tmp 8), _)] (Tree_getS_con (k := k) hx1 0 1) (toFn_func (cf 76 rfl) rfl) (gd0 rfl) ⟨rfl, rfl, rfl, trivial⟩ ⟨rfl, rfl, trivial⟩ rfl rfl rfl ?_
  refine K.alloc Y 102 [_, _, _, _, _, _, _, _, _, _] (gd0 rfl) t124 rfl rfl rfl rfl rfl ?_
  refine K.store Y [_, _, _, _, _, _, _, _, _, _] (gd0 rfl) rfl rfl rfl t124 rfl rfl rfl rfl rfl ?_
  refine K.nil ?_
  refine At.next ?_
  refine G.seq ?_
  obtain ⟨x2, hx2, H0⟩ := bnd H0
  refine G.rg ?_
  refine K.move (.inl rfl) (gd0 rfl) rfl rfl ?_
  refine K.fieldAddr Y (gd0 rfl) rfl t124 rfl rfl ?_
  refine K.loadS Y [_, _] (gd0 rfl) rfl rfl t99 rfl rfl rfl ?_
  refine K.callR [(.func 76, _), ((.tmp 10), _), ((.tmp 12), _)] (Tree_getS_con (k := k) hx2 0 1) (toFn_func (cf 76 rfl) rfl) (gd0 rfl) ⟨rfl, rfl, rfl, trivial⟩ ⟨rfl, rfl, trivial⟩ rfl rfl rfl ?_
  refine K.alloc Y 103 [_, _, _, _, _, _, _, _, _, _] (gd0 rfl) t124 rfl rfl rfl rfl rfl ?_
  refine K.store Y [_, _, _, _, _, _, _, _, _, _] (gd0 rfl) rfl rfl rfl t124 rfl rfl rfl rfl rfl ?_
  refine K.nil ?_
  refine At.next ?_
  refine G.seq ?_
  obtain ⟨x3, hx3, H0⟩ := bnd H0
  refine G.rg ?_
  refine K.move (.inl rfl) (gd0 rfl) rfl rfl ?_
  refine K.loadS Y [_, _] (gd0 rfl) rfl rfl t99 rfl rfl rfl ?_
  refine K.fieldAddr Y (gd0 rfl) rfl t124 rfl rfl ?_
  refine K.loadS Y [_, _] (gd0 rfl) rfl rfl t99 rfl rfl rfl ?_
  refine K.fieldAddr Y (gd0 rfl) rfl t124 rfl rfl ?_
  refine K.loadS Y [_, _] (gd0 rfl) rfl rfl t99 rfl rfl rfl ?_
  refine K.call0 [(.func 94, _), ((.tmp 14), _), ((.tmp 15), _), ((.tmp 17), _), ((.tmp 19), _)] (Tree_layS_con (k := k) hx3 0 1) (toFn_func (cf 94 rfl) rfl) (gd0 rfl) ⟨rfl, rfl, rfl, rfl, rfl, trivial⟩ ⟨rfl, rfl, trivial⟩ rfl rfl rfl rfl rfl rfl ?_
  refine K.nil ?_
  refine At.next ?_
  refine G.seq ?_
  obtain ⟨x4, hx4, H0⟩ := bnd H0
  refine G.rg ?_
  refine K.move (.inl rfl) (gd0 rfl) rfl rfl ?_
  refine K.fieldAddr Y (gd0 rfl) rfl t124 rfl rfl ?_
  refine K.loadS Y [_, _] (gd0 rfl) rfl rfl t99 rfl rfl rfl ?_
  refine K.loadS Y [_, _] (gd0 rfl) rfl rfl t99 rfl rfl rfl ?_
  refine K.fieldAddr Y (gd0 rfl) rfl t124 rfl rfl ?_
  refine K.loadS Y [_, _] (gd0 rfl) rfl rfl t99 rfl rfl rfl ?_
  refine K.call0 [(.func 94, _), ((.tmp 21), _), ((.tmp 23), _), ((.tmp 24), _), ((.tmp 26), _)] (Tree_layS_con (k := k) hx4 0 1) (toFn_func (cf 94 rfl) rfl) (gd0 rfl) ⟨rfl, rfl, rfl, rfl, rfl, trivial⟩ ⟨rfl, rfl, trivial⟩ rfl rfl rfl rfl rfl rfl ?_
  refine K.store Y [_, _] (gd0 rfl) rfl rfl rfl t99 rfl rfl rfl rfl rfl ?_
  refine K.nil ?_
  refine At.next ?_
  refine G.ret ?_
  refine At.done Y [(.cell 4 99, .agg [_, _])] rfl ⟨.st rfl rfl t99 rfl rfl, trivial⟩ (to' := [(0, _), (1, _)]) ⟨rfl, rfl, trivial⟩ ?_ ?_ rfl rfl rfl (.inl rfl)
  · cases H0; rfl
  · cases H0; rfl
theorem Tree_turnLeftS_con {k : Nat}  {p1 : Pool (TNode TSlot TSize)} {a1 : TRef} {ri0 rg0 : Int} {r : TRef × Pool (TNode TSlot TSize)}  (H0 : Tree_turnLeft.f opsS k p1 a1 = some r) (m0 m1 : Nat) : SCon Try.prog 113 [SV.p m0 0, .a (.agg ((eTRef a1).map .v))] [(m0, blk m0 [.p m1 0, .i ri0, .i rg0] 122), (m1, plS m1 p1)] (.a (.agg ((eTRef r.1).map .v))) [(m0, blk m0 [.p m1 0, .i ri0, .i rg0] 122), (m1, plS m1 r.2)] [] :=
  SCon.ren (rn [(0, m0), (1, m1)]) (Tree_turnLeftS_con0 (k := k)   H0) ⟨(blk_ren rfl rfl), (pl_ren rfl), trivial⟩ ⟨(blk_ren rfl rfl), (pl_ren rfl), trivial⟩ (by simp) (by simp)
theorem Tree_balanceS_con0 {k : Nat}  {p1 : Pool (TNode TSlot TSize)} {a1 : TRef} {ri0 rg0 : Int} {r : TRef × Pool (TNode TSlot TSize)}  (H0 : Tree_balance.f opsS k p1 a1 = some r) : SCon Try.prog 106 [SV.p 0 0, .a (.agg ((eTRef a1).map .v))] [(0, blk 0 [.p 1 0, .i ri0, .i rg0] 122), (1, plS 1 p1)] (.a (.agg ((eTRef r.1).map .v))) [(0, blk 0 [.p 1 0, .i ri0, .i rg0] 122), (1, plS 1 r.2)] [] := by
  rw [Tree_balance.f] at H0
  refine spec_of [(0, _), (1, _)] [(0, _), (1, _)] 84 Try.func106 rfl Try.ntmps106 rfl rfl rfl rfl (fun β W F => ?_)
  refine G.seq ?_
  refine G.rg ?_
  refine K.box Y 100 [_, _] (gd0 rfl) rfl rfl rfl rfl rfl rfl ?_
  refine K.alloc Y 101 [_, _] (gd0 rfl) t99 rfl rfl rfl rfl rfl ?_
  refine K.nil ?_
  refine At.next ?_
  refine G.seq ?_
  obtain ⟨x1, hx1, H0⟩ := bnd H0
  refine G.rg ?_
  refine K.move (.inl rfl) (gd0 rfl) rfl rfl ?_
  refine K.loadS Y [_, _] (gd0 rfl) rfl rfl t99 rfl rfl rfl ?_
  refine K.callR [(.func 76, _), ((.tmp 10), _), ((.tmp 11), _)] (Tree_getS_con (k := k) hx1 0 1) (toFn_func (cf 76 rfl) rfl) (gd0 rfl) ⟨rfl, rfl, rfl, trivial⟩ ⟨rfl, rfl, trivial⟩ rfl rfl rfl ?_
  refine K.alloc Y 102 [_, _, _, _, _, _, _, _, _, _] (gd0 rfl) t124 rfl rfl rfl rfl rfl ?_
  refine K.store Y [_, _, _, _, _, _, _, _, _, _] (gd0 rfl) rfl rfl rfl t124 rfl rfl rfl rfl rfl ?_
  refine K.nil ?_
  refine At.next ?_
  refine G.seq ?_
  obtain ⟨x2, hx2, H0⟩ := bnd H0
  obtain ⟨x3, hx3, H0⟩ := bnd H0
  refine G.rd mixed ?_
  refine K.move (.inl rfl) (gd0 rfl) rfl rfl ?_
  refine K.fieldAddr Y (gd0 rfl) rfl t124 rfl rfl ?_
  refine K.loadS Y [_, _] (gd0 rfl) rfl rfl t99 rfl rfl rfl ?_
  refine K.callR [(.func 101, _), ((.tmp 13), _), ((.tmp 15), _)] (Tree_weightS_con (k := k) hx2 0 1) (toFn_func (cf 101 rfl) rfl) (gd0 rfl) ⟨rfl, rfl, rfl, trivial⟩ ⟨rfl, rfl, trivial⟩ rfl rfl rfl ?_
  refine K.move (.inl rfl) (gd0 rfl) rfl rfl ?_
  refine K.fieldAddr Y (gd0 rfl) rfl t124 rfl rfl ?_
  refine K.loadS Y [_, _] (gd0 rfl) rfl rfl t99 rfl rfl rfl ?_
  refine K.callR [(.func 101, _), ((.tmp 17), _), ((.tmp 19), _)] (Tree_weightS_con (k := k) hx3 0 1) (toFn_func (cf 101 rfl) rfl) (gd0 rfl) ⟨rfl, rfl, rfl, trivial⟩ ⟨rfl, rfl, trivial⟩ rfl rfl rfl ?_
  refine K.move (.inr rfl) (gd0 rfl) rfl rfl ?_
  refine K.move (.inr rfl) (gd0 rfl) rfl rfl ?_
  refine K.nil ?_
  refine ⟨by kernel_rfl, ?_⟩
  refine At.next ?_
  refine G.seq ?_
  refine G.block ?_
  refine G.seq ?_
  refine G.rg ?_
  refine K.move (.inl rfl) (gd0 rfl) rfl rfl ?_
  refine K.move (.inl rfl) (gd0 rfl) rfl rfl ?_
  refine K.bin (V := .int .i64 (w64 (3 * x2))) (gd0 rfl) rfl rfl (fun _ => rfl) rfl ?_
  refine K.bin (V := .bool (decide (x3 > (w64 (3 * x2))))) (gd0 rfl) rfl rfl (fun _ => rfl) rfl ?_
  refine K.move (.inr rfl) (gd0 rfl) rfl rfl ?_
  refine K.nil ?_
  refine At.next ?_
  refine G.cond rfl (fun h1 => ?_) (fun h1 => ?_)
  ·
    replace H0 := bif_t H0 h1
    refine G.seq ?_
    obtain ⟨x4, hx4, H0⟩ := bnd H0
    refine G.rg ?_
    refine K.move (.inl rfl) (gd0 rfl) rfl rfl ?_
    refine K.fieldAddr Y (gd0 rfl) rfl t124 rfl rfl ?_
    refine K.loadS Y [_, _] (gd0 rfl) rfl rfl t99 rfl rfl rfl ?_
    refine K.callR [(.func 76, _), ((.tmp 26), _), ((.tmp 28), _)] (Tree_getS_con (k := k) hx4 0 1) (toFn_func (cf 76 rfl) rfl) (gd0 rfl) ⟨rfl, rfl, rfl, trivial⟩ ⟨rfl, rfl, trivial⟩ rfl rfl rfl ?_
    refine K.alloc Y 103 [_, _, _, _, _, _, _, _, _, _] (gd0 rfl) t124 rfl rfl rfl rfl rfl ?_
    refine K.store Y [_, _, _, _, _, _, _, _, _, _] (gd0 rfl) rfl rfl rfl t124 rfl rfl rfl rfl rfl ?_
    refine K.nil ?_
    refine At.next ?_
    refine G.seq ?_
    refine G.seq ?_
    obtain ⟨x5, hx5, H0⟩ := bnd H0
    obtain ⟨x6, hx6, H0⟩ := bnd H0
    refine G.rd mixed ?_
    refine K.move (.inl rfl) (gd0 rfl) rfl rfl ?_
    refine K.fieldAddr Y (gd0 rfl) rfl t124 rfl rfl ?_
    refine K.loadS Y [_, _] (gd0 rfl) rfl rfl t99 rfl rfl rfl ?_
    refine K.callR [(.func 101, _), ((.tmp 30), _), ((.tmp 32), _)] (Tree_weightS_con (k := k) hx5 0 1) (toFn_func (cf 101 rfl) rfl) (gd0 rfl) ⟨rfl, rfl, rfl, trivial⟩ ⟨rfl, rfl, trivial⟩ rfl rfl rfl ?_
    refine K.move (.inl rfl) (gd0 rfl) rfl rfl ?_
    refine K.fieldAddr Y (gd0 rfl) rfl t124 rfl rfl ?_
    refine K.loadS Y [_, _] (gd0 rfl) rfl rfl t99 rfl rfl rfl ?_
    refine K.callR [(.func 101, _), ((.tmp 34), _), ((.tmp 36), _)] (Tree_weightS_con (k := k) hx6 0 1) (toFn_func (cf 101 rfl) rfl) (gd0 rfl) ⟨rfl, rfl, rfl, trivial⟩ ⟨rfl, rfl, trivial⟩ rfl rfl rfl ?_
    refine K.bin (V := .int .i64 (w64 (2 * x6))) (gd0 rfl) rfl rfl (fun _ => rfl) rfl ?_
    refine K.bin (V := .bool (decide (x5 ≥ (w64 (2 * x6))))) (gd0 rfl) rfl rfl (fun _ => rfl) rfl ?_
    refine K.nil ?_
    refine ⟨by kernel_rfl, ?_⟩
    refine At.next ?_
    refine G.cond rfl (fun h2 => ?_) (fun h2 => ?_)
    ·
      replace H0 := bif_t H0 h2
      obtain ⟨x7, hx7, H0⟩ := bnd H0
      obtain ⟨x8, hx8, H0⟩ := bnd H0
      refine G.rd mixed ?_
      refine K.move (.inl rfl) (gd0 rfl) rfl rfl ?_
      refine K.loadS Y [_, _] (gd0 rfl) rfl rfl t99 rfl rfl rfl ?_
      refine K.fieldAddr Y (gd0 rfl) rfl t124 rfl rfl ?_
      refine K.loadS Y [_, _] (gd0 rfl) rfl rfl t99 rfl rfl rfl ?_
      refine K.move (.inl rfl) (gd0 rfl) rfl rfl ?_
      refine K.fieldAddr Y (gd0 rfl) rfl t124 rfl rfl ?_
      refine K.loadS Y [_, _] (gd0 rfl) rfl rfl t99 rfl rfl rfl ?_
      refine K.call0 [(.func 112, _), ((.tmp 44), _), ((.tmp 46), _)] (Tree_turnRightS_con (k := k) hx7 0 1) (toFn_func (cf 112 rfl) rfl) (gd0 rfl) ⟨rfl, rfl, rfl, trivial⟩ ⟨rfl, rfl, trivial⟩ rfl rfl rfl rfl rfl rfl ?_
      refine K.call0 [(.func 94, _), ((.tmp 40), _), ((.tmp 41), _), ((.tmp 43), _), ((.tmp 47), _)] (Tree_layS_con (k := k) hx8 0 1) (toFn_func (cf 94 rfl) rfl) (gd0 rfl) ⟨rfl, rfl, rfl, rfl, rfl, trivial⟩ ⟨rfl, rfl, trivial⟩ rfl rfl rfl rfl rfl rfl ?_
      refine K.nil ?_
      refine ⟨by kernel_rfl, ?_⟩
      refine At.next ?_
      refine G.seq ?_
      obtain ⟨x9, hx9, H0⟩ := bnd H0
      refine G.rg ?_
      refine K.move (.inl rfl) (gd0 rfl) rfl rfl ?_
      refine K.loadS Y [_, _] (gd0 rfl) rfl rfl t99 rfl rfl rfl ?_
      refine K.call0 [(.func 113, _), ((.tmp 49), _), ((.tmp 50), _)] (Tree_turnLeftS_con (k := k) hx9 0 1) (toFn_func (cf 113 rfl) rfl) (gd0 rfl) ⟨rfl, rfl, rfl, trivial⟩ ⟨rfl, rfl, trivial⟩ rfl rfl rfl rfl rfl rfl ?_
      refine K.store Y [_, _] (gd0 rfl) rfl rfl rfl t99 rfl rfl rfl rfl rfl ?_
      refine K.nil ?_
      refine At.next ?_
      refine G.ret ?_
      refine At.block_ret ?_
      refine At.over_ret ?_
      refine At.done Y [(.cell 4 99, .agg [_, _])] rfl ⟨.st rfl rfl t99 rfl rfl, trivial⟩ (to' := [(0, _), (1, _)]) ⟨rfl, rfl, trivial⟩ ?_ ?_ rfl rfl rfl (.inl rfl)
      · cases H0; rfl
      · cases H0; rfl
    ·
      replace H0 := bif_f H0 h2
      refine G.skip ?_
      refine At.next ?_
      refine G.seq ?_
      obtain ⟨x10, hx10, H0⟩ := bnd H0
      refine G.rg ?_
      refine K.move (.inl rfl) (gd0 rfl) rfl rfl ?_
      refine K.loadS Y [_, _] (gd0 rfl) rfl rfl t99 rfl rfl rfl ?_
      refine K.call0 [(.func 113, _), ((.tmp 49), _), ((.tmp 50), _)] (Tree_turnLeftS_con (k := k) hx10 0 1) (toFn_func (cf 113 rfl) rfl) (gd0 rfl) ⟨rfl, rfl, rfl, trivial⟩ ⟨rfl, rfl, trivial⟩ rfl rfl rfl rfl rfl rfl ?_
      refine K.store Y [_, _] (gd0 rfl) rfl rfl rfl t99 rfl rfl rfl rfl rfl ?_
      refine K.nil ?_
      refine At.next ?_
      refine G.ret ?_
      refine At.block_ret ?_
      refine At.over_ret ?_
      refine At.done Y [(.cell 4 99, .agg [_, _])] rfl ⟨.st rfl rfl t99 rfl rfl, trivial⟩ (to' := [(0, _), (1, _)]) ⟨rfl, rfl, trivial⟩ ?_ ?_ rfl rfl rfl (.inl rfl)
      · cases H0; rfl
      · cases H0; rfl
  ·
    replace H0 := bif_f H0 h1
    refine G.seq ?_
    refine G.rg ?_
    refine K.move (.inl rfl) (gd0 rfl) rfl rfl ?_
    refine K.move (.inl rfl) (gd0 rfl) rfl rfl ?_
    refine K.bin (V := .int .i64 (w64 (3 * x3))) (gd0 rfl) rfl rfl (fun _ => rfl) rfl ?_
    refine K.bin (V := .bool (decide (x2 > (w64 (3 * x3))))) (gd0 rfl) rfl rfl (fun _ => rfl) rfl ?_
    refine K.move (.inr rfl) (gd0 rfl) rfl rfl ?_
    refine K.nil ?_
    refine At.next ?_
    refine G.cond rfl (fun h3 => ?_) (fun h3 => ?_)
    ·
      replace H0 := bif_t H0 h3
      refine G.seq ?_
      obtain ⟨x11, hx11, H0⟩ := bnd H0
      refine G.rg ?_
      refine K.move (.inl rfl) (gd0 rfl) rfl rfl ?_
      refine K.fieldAddr Y (gd0 rfl) rfl t124 rfl rfl ?_
      refine K.loadS Y [_, _] (gd0 rfl) rfl rfl t99 rfl rfl rfl ?_
      refine K.callR [(.func 76, _), ((.tmp 57), _), ((.tmp 59), _)] (Tree_getS_con (k := k) hx11 0 1) (toFn_func (cf 76 rfl) rfl) (gd0 rfl) ⟨rfl, rfl, rfl, trivial⟩ ⟨rfl, rfl, trivial⟩ rfl rfl rfl ?_
      refine K.alloc Y 104 [_, _, _, _, _, _, _, _, _, _] (gd0 rfl) t124 rfl rfl rfl rfl rfl ?_
      refine K.store Y [_, _, _, _, _, _, _, _, _, _] (gd0 rfl) rfl rfl rfl t124 rfl rfl rfl rfl rfl ?_
      refine K.nil ?_
      refine At.next ?_
      refine G.seq ?_
      refine G.seq ?_
      obtain ⟨x12, hx12, H0⟩ := bnd H0
      obtain ⟨x13, hx13, H0⟩ := bnd H0
      refine G.rd mixed ?_
      refine K.move (.inl rfl) (gd0 rfl) rfl rfl ?_
      refine K.fieldAddr Y (gd0 rfl) rfl t124 rfl rfl ?_
      refine K.loadS Y [_, _] (gd0 rfl) rfl rfl t99 rfl rfl rfl ?_
      refine K.callR [(.func 101, _), ((.tmp 61), _), ((.tmp 63), _)] (Tree_weightS_con (k := k) hx12 0 1) (toFn_func (cf 101 rfl) rfl) (gd0 rfl) ⟨rfl, rfl, rfl, trivial⟩ ⟨rfl, rfl, trivial⟩ rfl rfl rfl ?_
      refine K.move (.inl rfl) (gd0 rfl) rfl rfl ?_
      refine K.fieldAddr Y (gd0 rfl) rfl t124 rfl rfl ?_
      refine K.loadS Y [_, _] (gd0 rfl) rfl rfl t99 rfl rfl rfl ?_
      refine K.callR [(.func 101, _), ((.tmp 65), _), ((.tmp 67), _)] (Tree_weightS_con (k := k) hx13 0 1) (toFn_func (cf 101 rfl) rfl) (gd0 rfl) ⟨rfl, rfl, rfl, trivial⟩ ⟨rfl, rfl, trivial⟩ rfl rfl rfl ?_
      refine K.bin (V := .int .i64 (w64 (2 * x13))) (gd0 rfl) rfl rfl (fun _ => rfl) rfl ?_
      refine K.bin (V := .bool (decide (x12 ≥ (w64 (2 * x13))))) (gd0 rfl) rfl rfl (fun _ => rfl) rfl ?_
      refine K.nil ?_
      refine ⟨by kernel_rfl, ?_⟩
      refine At.next ?_
      refine G.cond rfl (fun h4 => ?_) (fun h4 => ?_)
      ·
        replace H0 := bif_t H0 h4
        obtain ⟨x14, hx14, H0⟩ := bnd H0
        obtain ⟨x15, hx15, H0⟩ := bnd H0
        refine G.rd mixed ?_
        refine K.move (.inl rfl) (gd0 rfl) rfl rfl ?_
        refine K.loadS Y [_, _] (gd0 rfl) rfl rfl t99 rfl rfl rfl ?_
        refine K.move (.inl rfl) (gd0 rfl) rfl rfl ?_
        refine K.fieldAddr Y (gd0 rfl) rfl t124 rfl rfl ?_
        refine K.loadS Y [_, _] (gd0 rfl) rfl rfl t99 rfl rfl rfl ?_
        refine K.call0 [(.func 113, _), ((.tmp 73), _), ((.tmp 75), _)] (Tree_turnLeftS_con (k := k) hx14 0 1) (toFn_func (cf 113 rfl) rfl) (gd0 rfl) ⟨rfl, rfl, rfl, trivial⟩ ⟨rfl, rfl, trivial⟩ rfl rfl rfl rfl rfl rfl ?_
        refine K.fieldAddr Y (gd0 rfl) rfl t124 rfl rfl ?_
        refine K.loadS Y [_, _] (gd0 rfl) rfl rfl t99 rfl rfl rfl ?_
        refine K.call0 [(.func 94, _), ((.tmp 71), _), ((.tmp 72), _), ((.tmp 76), _), ((.tmp 78), _)] (Tree_layS_con (k := k) hx15 0 1) (toFn_func (cf 94 rfl) rfl) (gd0 rfl) ⟨rfl, rfl, rfl, rfl, rfl, trivial⟩ ⟨rfl, rfl, trivial⟩ rfl rfl rfl rfl rfl rfl ?_
        refine K.nil ?_
        refine ⟨by kernel_rfl, ?_⟩
        refine At.next ?_
        refine G.seq ?_
        obtain ⟨x16, hx16, H0⟩ := bnd H0
        refine G.rg ?_
        refine K.move (.inl rfl) (gd0 rfl) rfl rfl ?_
        refine K.loadS Y [_, _] (gd0 rfl) rfl rfl t99 rfl rfl rfl ?_
        refine K.call0 [(.func 112, _), ((.tmp 80), _), ((.tmp 81), _)] (Tree_turnRightS_con (k := k) hx16 0 1) (toFn_func (cf 112 rfl) rfl) (gd0 rfl) ⟨rfl, rfl, rfl, trivial⟩ ⟨rfl, rfl, trivial⟩ rfl rfl rfl rfl rfl rfl ?_
        refine K.store Y [_, _] (gd0 rfl) rfl rfl rfl t99 rfl rfl rfl rfl rfl ?_
        refine K.nil ?_
        refine At.next ?_
        refine G.ret ?_
        refine At.block_ret ?_
        refine At.over_ret ?_
        refine At.done Y [(.cell 4 99, .agg [_, _])] rfl ⟨.st rfl rfl t99 rfl rfl, trivial⟩ (to' := [(0, _), (1, _)]) ⟨rfl, rfl, trivial⟩ ?_ ?_ rfl rfl rfl (.inl rfl)
        · cases H0; rfl
        · cases H0; rfl
      ·
        replace H0 := bif_f H0 h4
        refine G.skip ?_
        refine At.next ?_
        refine G.seq ?_
        obtain ⟨x17, hx17, H0⟩ := bnd H0
        refine G.rg ?_
        refine K.move (.inl rfl) (gd0 rfl) rfl rfl ?_
        refine K.loadS Y [_, _] (gd0 rfl) rfl rfl t99 rfl rfl rfl ?_
        refine K.call0 [(.func 112, _), ((.tmp 80), _), ((.tmp 81), _)] (Tree_turnRightS_con (k := k) hx17 0 1) (toFn_func (cf 112 rfl) rfl) (gd0 rfl) ⟨rfl, rfl, rfl, trivial⟩ ⟨rfl, rfl, trivial⟩ rfl rfl rfl rfl rfl rfl ?_
        refine K.store Y [_, _] (gd0 rfl) rfl rfl rfl t99 rfl rfl rfl rfl rfl ?_
        refine K.nil ?_
        refine At.next ?_
        refine G.ret ?_
        refine At.block_ret ?_
        refine At.over_ret ?_
        refine At.done Y [(.cell 4 99, .agg [_, _])] rfl ⟨.st rfl rfl t99 rfl rfl, trivial⟩ (to' := [(0, _), (1, _)]) ⟨rfl, rfl, trivial⟩ ?_ ?_ rfl rfl rfl (.inl rfl)
        · cases H0; rfl
        · cases H0; rfl
    ·
      replace H0 := bif_f H0 h3
      refine G.skip ?_
      refine At.block_normal ?_
      refine At.next ?_
      refine G.seq ?_
      refine G.rg ?_
      refine K.loadS Y [_, _] (gd0 rfl) rfl rfl t99 rfl rfl rfl ?_
      refine K.store Y [_, _] (gd0 rfl) rfl rfl rfl t99 rfl rfl rfl rfl rfl ?_
      refine K.nil ?_
      refine At.next ?_
      refine G.ret ?_
      refine At.done Y [(.cell 4 99, .agg [_, _])] rfl ⟨.st rfl rfl t99 rfl rfl, trivial⟩ (to' := [(0, _), (1, _)]) ⟨rfl, rfl, trivial⟩ ?_ ?_ rfl rfl rfl (.inl rfl)
      · cases H0; rfl
      · cases H0; rfl
theorem Tree_balanceS_con {k : Nat}  {p1 : Pool (TNode TSlot TSize)} {a1 : TRef} {ri0 rg0 : Int} {r : TRef × Pool (TNode TSlot TSize)}  (H0 : Tree_balance.f opsS k p1 a1 = some r) (m0 m1 : Nat) : SCon Try.prog 106 [SV.p m0 0, .a (.agg ((eTRef a1).map .v))] [(m0, blk m0 [.p m1 0, .i ri0, .i rg0] 122), (m1, plS m1 p1)] (.a (.agg ((eTRef r.1).map .v))) [(m0, blk m0 [.p m1 0, .i ri0, .i rg0] 122), (m1, plS m1 r.2)] [] :=
  SCon.ren (rn [(0, m0), (1, m1)]) (Tree_balanceS_con0 (k := k)   H0) ⟨(blk_ren rfl rfl), (pl_ren rfl), trivial⟩ ⟨(blk_ren rfl rfl), (pl_ren rfl), trivial⟩ (by simp) (by simp)
theorem Tree_linkS_con0 {k : Nat}  : ∀ {n : Nat} {p1 : Pool (TNode TSlot TSize)} {a1 : TRef} {a2 : TRef} {a3 : TRef} {ri0 rg0 : Int} {r : TRef × Pool (TNode TSlot TSize)}  (H0 : Tree_link.r opsS k n p1 a1 a2 a3 = some r), SCon Try.prog 92 [SV.p 0 0, .a (.agg ((eTRef a1).map .v)), .a (.agg ((eTRef a2).map .v)), .a (.agg ((eTRef a3).map .v))] [(0, blk 0 [.p 1 0, .i ri0, .i rg0] 122), (1, plS 1 p1)] (.a (.agg ((eTRef r.1).map .v))) [(0, blk 0 [.p 1 0, .i ri0, .i rg0] 122), (1, plS 1 r.2)] [] := by
  intro n
  induction n with
  | zero => intro p1 a1 a2 a3 ri0 rg0 r H0; exact absurd H0 (by simp [Tree_link.r])
  | succ n ih =>
    intro p1 a1 a2 a3 ri0 rg0 r H0
    rw [Tree_link.r] at H0
    refine spec_of [(0, _), (1, _), (2, _), (3, _)] [(0, _), (1, _)] 66 Try.func92 rfl Try.ntmps92 rfl rfl rfl rfl (fun β W F => ?_)
    refine G.seq ?_
    refine G.rg ?_
    refine K.box Y 100 [_, _] (gd0 rfl) rfl rfl rfl rfl rfl rfl ?_
    refine K.box Y 101 [_, _] (gd0 rfl) rfl rfl rfl rfl rfl rfl ?_
    refine K.box Y 102 [_, _] (gd0 rfl) rfl rfl rfl rfl rfl rfl ?_
    refine K.alloc Y 103 [_, _] (gd0 rfl) t99 rfl rfl rfl rfl rfl ?_
    refine K.nil ?_
    refine At.next ?_
    refine G.seq ?_
    obtain ⟨x1, hx1, H0⟩ := bnd H0
    obtain ⟨x2, hx2, H0⟩ := bnd H0
    refine G.rd mixed ?_
    refine K.move (.inl rfl) (gd0 rfl) rfl rfl ?_
    refine K.loadS Y [_, _] (gd0 rfl) rfl rfl t99 rfl rfl rfl ?_
    refine K.callR [(.func 101, _), ((.tmp 13), _), ((.tmp 14), _)] (Tree_weightS_con (k := k) hx1 0 1) (toFn_func (cf 101 rfl) rfl) (gd0 rfl) ⟨rfl, rfl, rfl, trivial⟩ ⟨rfl, rfl, trivial⟩ rfl rfl rfl ?_
    refine K.move (.inl rfl) (gd0 rfl) rfl rfl ?_
    refine K.loadS Y [_, _] (gd0 rfl) rfl rfl t99 rfl rfl rfl ?_
    refine K.callR [(.func 101, _), ((.tmp 16), _), ((.tmp 17), _)] (Tree_weightS_con (k := k) hx2 0 1) (toFn_func (cf 101 rfl) rfl) (gd0 rfl) ⟨rfl, rfl, rfl, trivial⟩ ⟨rfl, rfl, trivial⟩ rfl rfl rfl ?_
    refine K.move (.inr rfl) (gd0 rfl) rfl rfl ?_
    refine K.move (.inr rfl) (gd0 rfl) rfl rfl ?_
    refine K.nil ?_
    refine ⟨by kernel_rfl, ?_⟩
    refine At.next ?_
    refine G.seq ?_
    refine G.block ?_
    refine G.seq ?_
    refine G.rg ?_
    refine K.move (.inl rfl) (gd0 rfl) rfl rfl ?_
    refine K.move (.inl rfl) (gd0 rfl) rfl rfl ?_
    refine K.bin (V := .int .i64 (w64 (3 * x1))) (gd0 rfl) rfl rfl (fun _ => rfl) rfl ?_
    refine K.bin (V := .bool (decide (x2 > (w64 (3 * x1))))) (gd0 rfl) rfl rfl (fun _ => rfl) rfl ?_
    refine K.move (.inr rfl) (gd0 rfl) rfl rfl ?_
    refine K.nil ?_
    refine At.next ?_
    refine G.cond rfl (fun h1 => ?_) (fun h1 => ?_)
    ·
      replace H0 := bif_t H0 h1
      refine G.seq ?_
      obtain ⟨x3, hx3, H0⟩ := bnd H0
      refine G.rg ?_
      refine K.move (.inl rfl) (gd0 rfl) rfl rfl ?_
      refine K.loadS Y [_, _] (gd0 rfl) rfl rfl t99 rfl rfl rfl ?_
      refine K.callR [(.func 76, _), ((.tmp 24), _), ((.tmp 25), _)] (Tree_getS_con (k := k) hx3 0 1) (toFn_func (cf 76 rfl) rfl) (gd0 rfl) ⟨rfl, rfl, rfl, trivial⟩ ⟨rfl, rfl, trivial⟩ rfl rfl rfl ?_
      refine K.alloc Y 104 [_, _, _, _, _, _, _, _, _, _] (gd0 rfl) t124 rfl rfl rfl rfl rfl ?_
      refine K.store Y [_, _, _, _, _, _, _, _, _, _] (gd0 rfl) rfl rfl rfl t124 rfl rfl rfl rfl rfl ?_
      refine K.nil ?_
      refine At.next ?_
      refine G.seq ?_
      obtain ⟨x4, hx4, H0⟩ := bnd H0
      obtain ⟨x5, hx5, H0⟩ := bnd H0
      obtain ⟨x6, hx6, H0⟩ := bnd H0
      refine G.rd mixed ?_
      refine K.move (.inl rfl) (gd0 rfl) rfl rfl ?_
      refine K.move (.inl rfl) (gd0 rfl) rfl rfl ?_
      refine K.loadS Y [_, _] (gd0 rfl) rfl rfl t99 rfl rfl rfl ?_
      refine K.move (.inl rfl) (gd0 rfl) rfl rfl ?_
      refine K.loadS Y [_, _] (gd0 rfl) rfl rfl t99 rfl rfl rfl ?_
      refine K.loadS Y [_, _] (gd0 rfl) rfl rfl t99 rfl rfl rfl ?_
      refine K.fieldAddr Y (gd0 rfl) rfl t124 rfl rfl ?_
      refine K.loadS Y [_, _] (gd0 rfl) rfl rfl t99 rfl rfl rfl ?_
      refine K.call0 [(.func 92, _), ((.tmp 30), _), ((.tmp 31), _), ((.tmp 32), _), ((.tmp 34), _)] (ih hx4) (toFn_func (cf 92 rfl) rfl) (gd0 rfl) ⟨rfl, rfl, rfl, rfl, rfl, trivial⟩ ⟨rfl, rfl, trivial⟩ rfl rfl rfl rfl rfl rfl ?_
      refine K.fieldAddr Y (gd0 rfl) rfl t124 rfl rfl ?_
      refine K.loadS Y [_, _] (gd0 rfl) rfl rfl t99 rfl rfl rfl ?_
      refine K.call0 [(.func 94, _), ((.tmp 28), _), ((.tmp 29), _), ((.tmp 35), _), ((.tmp 37), _)] (Tree_layS_con (k := k) hx5 0 1) (toFn_func (cf 94 rfl) rfl) (gd0 rfl) ⟨rfl, rfl, rfl, rfl, rfl, trivial⟩ ⟨rfl, rfl, trivial⟩ rfl rfl rfl rfl rfl rfl ?_
      refine K.call0 [(.func 106, _), ((.tmp 27), _), ((.tmp 38), _)] (Tree_balanceS_con (k := k) hx6 0 1) (toFn_func (cf 106 rfl) rfl) (gd0 rfl) ⟨rfl, rfl, rfl, trivial⟩ ⟨rfl, rfl, trivial⟩ rfl rfl rfl rfl rfl rfl ?_
      refine K.store Y [_, _] (gd0 rfl) rfl rfl rfl t99 rfl rfl rfl rfl rfl ?_
      refine K.nil ?_
      refine ⟨by kernel_rfl, ?_⟩
      refine At.next ?_
      refine G.ret ?_
      refine At.block_ret ?_
      refine At.over_ret ?_
      refine At.done Y [(.cell 8 99, .agg [_, _])] rfl ⟨.st rfl rfl t99 rfl rfl, trivial⟩ (to' := [(0, _), (1, _)]) ⟨rfl, rfl, trivial⟩ ?_ ?_ rfl rfl rfl (.inl rfl)
      · cases H0; rfl
      · cases H0; rfl
    ·
      replace H0 := bif_f H0 h1
      refine G.seq ?_
      refine G.rg ?_
      refine K.move (.inl rfl) (gd0 rfl) rfl rfl ?_
      refine K.move (.inl rfl) (gd0 rfl) rfl rfl ?_
      refine K.bin (V := .int .i64 (w64 (3 * x2))) (gd0 rfl) rfl rfl (fun _ => rfl) rfl ?_
      refine K.bin (V := .bool (decide (x1 > (w64 (3 * x2))))) (gd0 rfl) rfl rfl (fun _ => rfl) rfl ?_
      refine K.move (.inr rfl) (gd0 rfl) rfl rfl ?_
      refine K.nil ?_
      refine At.next ?_
      refine G.cond rfl (fun h2 => ?_) (fun h2 => ?_)
      ·
        replace H0 := bif_t H0 h2
        refine G.seq ?_
        obtain ⟨x7, hx7, H0⟩ := bnd H0
        refine G.rg ?_
        refine K.move (.inl rfl) (gd0 rfl) rfl rfl ?_
        refine K.loadS Y [_, _] (gd0 rfl) rfl rfl t99 rfl rfl rfl ?_
        refine K.callR [(.func 76, _), ((.tmp 45), _), ((.tmp 46), _)] (Tree_getS_con (k := k) hx7 0 1) (toFn_func (cf 76 rfl) rfl) (gd0 rfl) ⟨rfl, rfl, rfl, trivial⟩ ⟨rfl, rfl, trivial⟩ rfl rfl rfl ?_
        refine K.alloc Y 105 [_, _, _, _, _, _, _, _, _, _] (gd0 rfl) t124 rfl rfl rfl rfl rfl ?_
        refine K.store Y [_, _, _, _, _, _, _, _, _, _] (gd0 rfl) rfl rfl rfl t124 rfl rfl rfl rfl rfl ?_
        refine K.nil ?_
        refine At.next ?_
        refine G.seq ?_
        obtain ⟨x8, hx8, H0⟩ := bnd H0
        obtain ⟨x9, hx9, H0⟩ := bnd H0
        obtain ⟨x10, hx10, H0⟩ := bnd H0
        refine G.rd mixed ?_
        refine K.move (.inl rfl) (gd0 rfl) rfl rfl ?_
        refine K.move (.inl rfl) (gd0 rfl) rfl rfl ?_
        refine K.loadS Y [_, _] (gd0 rfl) rfl rfl t99 rfl rfl rfl ?_
        refine K.fieldAddr Y (gd0 rfl) rfl t124 rfl rfl ?_
        refine K.loadS Y [_, _] (gd0 rfl) rfl rfl t99 rfl rfl rfl ?_
        refine K.move (.inl rfl) (gd0 rfl) rfl rfl ?_
        refine K.fieldAddr Y (gd0 rfl) rfl t124 rfl rfl ?_
        refine K.loadS Y [_, _] (gd0 rfl) rfl rfl t99 rfl rfl rfl ?_
        refine K.loadS Y [_, _] (gd0 rfl) rfl rfl t99 rfl rfl rfl ?_
        refine K.loadS Y [_, _] (gd0 rfl) rfl rfl t99 rfl rfl rfl ?_
        refine K.call0 [(.func 92, _), ((.tmp 53), _), ((.tmp 55), _), ((.tmp 56), _), ((.tmp 57), _)] (ih hx8) (toFn_func (cf 92 rfl) rfl) (gd0 rfl) ⟨rfl, rfl, rfl, rfl, rfl, trivial⟩ ⟨rfl, rfl, trivial⟩ rfl rfl rfl rfl rfl rfl ?_
        refine K.call0 [(.func 94, _), ((.tmp 49), _), ((.tmp 50), _), ((.tmp 52), _), ((.tmp 58), _)] (Tree_layS_con (k := k) hx9 0 1) (toFn_func (cf 94 rfl) rfl) (gd0 rfl) ⟨rfl, rfl, rfl, rfl, rfl, trivial⟩ ⟨rfl, rfl, trivial⟩ rfl rfl rfl rfl rfl rfl ?_
        refine K.call0 [(.func 106, _), ((.tmp 48), _), ((.tmp 59), _)] (Tree_balanceS_con (k := k) hx10 0 1) (toFn_func (cf 106 rfl) rfl) (gd0 rfl) ⟨rfl, rfl, rfl, trivial⟩ ⟨rfl, rfl, trivial⟩ rfl rfl rfl rfl rfl rfl ?_
        refine K.store Y [_, _] (gd0 rfl) rfl rfl rfl t99 rfl rfl rfl rfl rfl ?_
        refine K.nil ?_
        refine ⟨by kernel_rfl, ?_⟩
        refine At.next ?_
        refine G.ret ?_
        refine At.block_ret ?_
        refine At.over_ret ?_
        refine At.done Y [(.cell 8 99, .agg [_, _])] rfl ⟨.st rfl rfl t99 rfl rfl, trivial⟩ (to' := [(0, _), (1, _)]) ⟨rfl, rfl, trivial⟩ ?_ ?_ rfl rfl rfl (.inl rfl)
        · cases H0; rfl
        · cases H0; rfl
      ·
        replace H0 := bif_f H0 h2
        refine G.skip ?_
        refine At.block_normal ?_
        refine At.next ?_
        refine G.seq ?_
        obtain ⟨x11, hx11, H0⟩ := bnd H0
        refine G.rg ?_
        refine K.move (.inl rfl) (gd0 rfl) rfl rfl ?_
        refine K.loadS Y [_, _] (gd0 rfl) rfl rfl t99 rfl rfl rfl ?_
        refine K.loadS Y [_, _] (gd0 rfl) rfl rfl t99 rfl rfl rfl ?_
        refine K.loadS Y [_, _] (gd0 rfl) rfl rfl t99 rfl rfl rfl ?_
        refine K.call0 [(.func 94, _), ((.tmp 61), _), ((.tmp 62), _), ((.tmp 63), _), ((.tmp 64), _)] (Tree_layS_con (k := k) hx11 0 1) (toFn_func (cf 94 rfl) rfl) (gd0 rfl) ⟨rfl, rfl, rfl, rfl, rfl, trivial⟩ ⟨rfl, rfl, trivial⟩ rfl rfl rfl rfl rfl rfl ?_
        refine K.store Y [_, _] (gd0 rfl) rfl rfl rfl t99 rfl rfl rfl rfl rfl ?_
        refine K.nil ?_
        refine At.next ?_
        refine G.ret ?_
        refine At.done Y [(.cell 8 99, .agg [_, _])] rfl ⟨.st rfl rfl t99 rfl rfl, trivial⟩ (to' := [(0, _), (1, _)]) ⟨rfl, rfl, trivial⟩ ?_ ?_ rfl rfl rfl (.inl rfl)
        · cases H0; rfl
        · cases H0; rfl
theorem Tree_linkS_con {k n : Nat}  {p1 : Pool (TNode TSlot TSize)} {a1 : TRef} {a2 : TRef} {a3 : TRef} {ri0 rg0 : Int} {r : TRef × Pool (TNode TSlot TSize)}  (H0 : Tree_link.r opsS k n p1 a1 a2 a3 = some r) (m0 m1 : Nat) : SCon Try.prog 92 [SV.p m0 0, .a (.agg ((eTRef a1).map .v)), .a (.agg ((eTRef a2).map .v)), .a (.agg ((eTRef a3).map .v))] [(m0, blk m0 [.p m1 0, .i ri0, .i rg0] 122), (m1, plS m1 p1)] (.a (.agg ((eTRef r.1).map .v))) [(m0, blk m0 [.p m1 0, .i ri0, .i rg0] 122), (m1, plS m1 r.2)] [] :=
  SCon.ren (rn [(0, m0), (1, m1)]) (Tree_linkS_con0 (k := k)   H0) ⟨(blk_ren rfl rfl), (pl_ren rfl), trivial⟩ ⟨(blk_ren rfl rfl), (pl_ren rfl), trivial⟩ (by simp) (by simp)
theorem Tree_putS_con0 {k : Nat}  : ∀ {n : Nat} {p1 : Pool (TNode TSlot TSize)} {a1 : TRef} {a2 : TSlot} {ri0 rg0 : Int} {r : TRef × Bool × Pool (TNode TSlot TSize)}  (H0 : Tree_put.r opsS k n p1 a1 a2 = some r), SCon Try.prog 75 [SV.p 0 0, .a (.agg ((eTRef a1).map .v)), .a (.agg ((eTSlot a2).map .v))] [(0, blk 0 [.p 1 0, .i ri0, .i rg0] 122), (1, plS 1 p1)] (.tup [.agg ((eTRef r.1).map .v), .c (.v (.bool r.2.1))]) [(0, blk 0 [.p 1 0, .i ri0, .i rg0] 122), (1, plS 1 r.2.2)] [] := by
  intro n
  induction n with
  | zero => intro p1 a1 a2 ri0 rg0 r H0; exact absurd H0 (by simp [Tree_put.r])
  | succ n ih =>
    intro p1 a1 a2 ri0 rg0 r H0
    rw [Tree_put.r] at H0
    refine spec_of [(0, _), (1, _), (2, _)] [(0, _), (1, _)] 98 Try.func75 rfl Try.ntmps75 rfl rfl rfl rfl (fun β W F => ?_)
    refine G.seq ?_
    refine G.rg ?_
    refine K.box Y 100 [_, _] (gd0 rfl) rfl rfl rfl rfl rfl rfl ?_
    refine K.box Y 101 [_, _, _, _] (gd0 rfl) rfl rfl rfl rfl rfl rfl ?_
    refine K.alloc Y 102 [_, _] (gd0 rfl) t99 rfl rfl rfl rfl rfl ?_
    refine K.move (.inr rfl) (gd0 rfl) rfl rfl ?_
    refine K.nil ?_
    refine At.next ?_
    refine G.seq ?_
    refine G.seq ?_
    refine G.rg ?_
    refine K.fieldAddr Y (gd0 rfl) rfl t99 rfl rfl ?_
    refine K.load1 Y (gd0 rfl) rfl rfl t3 rfl rfl ?_
    refine K.bin (V := .bool (a1.gen == 0)) (gd0 rfl) rfl rfl (fun _ => rfl) rfl ?_
    refine K.nil ?_
    refine At.next ?_
    refine G.cond rfl (fun h1 => ?_) (fun h1 => ?_)
    ·
      replace H0 := bif_t H0 h1
      refine G.seq ?_
      obtain ⟨x1, hx1, H0⟩ := bnd H0
      obtain ⟨x2, hx2, H0⟩ := bnd H0
      refine G.rd mixed ?_
      refine K.move (.inl rfl) (gd0 rfl) rfl rfl ?_
      refine K.nilCheck (gd0 rfl) rfl rfl ?_
      refine K.fieldAddr Y (gd0 rfl) rfl t122 rfl rfl ?_
      refine K.load1 Y (gd0 rfl) rfl rfl t120 rfl rfl ?_
      refine K.loadS Y [_, _, _, _] (gd0 rfl) rfl rfl t72 rfl rfl rfl ?_
      refine K.loadS Y [_, _, _, _] (gd0 rfl) rfl rfl t72 rfl rfl rfl ?_
      refine K.mkIface Y (gd0 rfl) rfl (mkI Try.underlying72 rfl) rfl ?_
      refine K.callR [((.tmp 26), _)] (shelf_Slot_Sum_con (k := k) hx1) (toFn_invoke (cf 47 rfl) (me72_47) rfl) (gd0 rfl) ⟨rfl, trivial⟩ trivial rfl rfl rfl ?_
      refine K.build Y [(0, _), (3, _), (4, _)] [_, _, _, _, _, _, _, _, _, _] [((.tmp 24), _), (_, _), ((.tmp 27), _)] (gd0 rfl) (AllE.spec ⟨rfl, rfl, rfl, trivial⟩) rfl rfl t124 rfl rfl ?_
      refine K.call0 [(.func 91, _), ((.tmp 23), _), ((.tmp 28), _)] (plputS hx2 1) (toFn_func (cf 91 rfl) rfl) (gd0 rfl) ⟨rfl, rfl, rfl, trivial⟩ ⟨rfl, trivial⟩ rfl rfl rfl rfl rfl rfl ?_
      refine K.move (.inl rfl) (gd0 rfl) rfl rfl ?_
      refine K.extract (gd0 rfl) rfl rfl rfl ?_
      refine K.extract (gd0 rfl) rfl rfl rfl ?_
      refine K.alloc Y 103 [_, _] (gd0 rfl) t99 rfl rfl rfl rfl rfl ?_
      refine K.store Y [_, _] (gd0 rfl) rfl rfl rfl t99 rfl rfl rfl rfl rfl ?_
      refine K.move (.inr rfl) (gd0 rfl) rfl rfl ?_
      refine K.nil ?_
      refine ⟨by kernel_rfl, ?_⟩
      refine At.next ?_
      refine G.seq ?_
      refine G.rg ?_
      refine K.loadS Y [_, _] (gd0 rfl) rfl rfl t99 rfl rfl rfl ?_
      refine K.move (.inl rfl) (gd0 rfl) rfl rfl ?_
      refine K.store Y [_, _] (gd0 rfl) rfl rfl rfl t99 rfl rfl rfl rfl rfl ?_
      refine K.move (.inr rfl) (gd0 rfl) rfl rfl ?_
      refine K.nil ?_
      refine At.next ?_
      refine G.ret ?_
      refine At.over_ret ?_
      refine At.done Y [(.cell 6 99, .agg [_, _]), (.tmp 7, .c _)] rfl ⟨.st rfl rfl t99 rfl rfl, .tmp rfl, trivial⟩ (to' := [(0, _), (1, _)]) ⟨rfl, rfl, trivial⟩ ?_ ?_ rfl rfl rfl (.inl rfl)
      · cases H0; rfl
      · cases H0; rfl
    ·
      replace H0 := bif_f H0 h1
      refine G.skip ?_
      refine At.next ?_
      refine G.seq ?_
      obtain ⟨x3, hx3, H0⟩ := bnd H0
      refine G.rg ?_
      refine K.move (.inl rfl) (gd0 rfl) rfl rfl ?_
      refine K.loadS Y [_, _] (gd0 rfl) rfl rfl t99 rfl rfl rfl ?_
      refine K.callR [(.func 76, _), ((.tmp 34), _), ((.tmp 35), _)] (Tree_getS_con (k := k) hx3 0 1) (toFn_func (cf 76 rfl) rfl) (gd0 rfl) ⟨rfl, rfl, rfl, trivial⟩ ⟨rfl, rfl, trivial⟩ rfl rfl rfl ?_
      refine K.alloc Y 104 [_, _, _, _, _, _, _, _, _, _] (gd0 rfl) t124 rfl rfl rfl rfl rfl ?_
      refine K.store Y [_, _, _, _, _, _, _, _, _, _] (gd0 rfl) rfl rfl rfl t124 rfl rfl rfl rfl rfl ?_
      refine K.nil ?_
      refine At.next ?_
      refine G.seq ?_
      obtain ⟨x4, hx4, H0⟩ := bnd H0
      refine G.rg ?_
      refine K.loadS Y [_, _, _, _] (gd0 rfl) rfl rfl t72 rfl rfl rfl ?_
      refine K.mkIface Y (gd0 rfl) rfl (mkI Try.underlying72 rfl) rfl ?_
      refine K.fieldAddr Y (gd0 rfl) rfl t124 rfl rfl ?_
      refine K.loadS Y [_, _, _, _] (gd0 rfl) rfl rfl t72 rfl rfl rfl ?_
      refine K.callR [((.tmp 38), _), ((.tmp 40), _)] (shelf_Slot_Compare_con (k := k) hx4) (toFn_invoke (cf 45 rfl) (me72_45) rfl) (gd0 rfl) ⟨rfl, rfl, trivial⟩ trivial rfl rfl rfl ?_
      refine K.move (.inr rfl) (gd0 rfl) rfl rfl ?_
      refine K.nil ?_
      refine At.next ?_
      refine G.seq ?_
      refine G.block ?_
      refine G.seq ?_
      refine G.rg ?_
      refine K.move (.inl rfl) (gd0 rfl) rfl rfl ?_
      refine K.bin (V := .bool (decide (x4 < 0))) (gd0 rfl) rfl rfl (fun _ => rfl) rfl ?_
      refine K.move (.inr rfl) (gd0 rfl) rfl rfl ?_
      refine K.nil ?_
      refine At.next ?_
      refine G.cond rfl (fun h2 => ?_) (fun h2 => ?_)
      ·
        replace H0 := bif_t H0 h2
        refine G.seq ?_
        obtain ⟨x5, hx5, H0⟩ := bnd H0
        refine G.rg ?_
        refine K.move (.inl rfl) (gd0 rfl) rfl rfl ?_
        refine K.fieldAddr Y (gd0 rfl) rfl t124 rfl rfl ?_
        refine K.loadS Y [_, _] (gd0 rfl) rfl rfl t99 rfl rfl rfl ?_
        refine K.loadS Y [_, _, _, _] (gd0 rfl) rfl rfl t72 rfl rfl rfl ?_
        refine K.call0 [(.func 75, _), ((.tmp 46), _), ((.tmp 48), _), ((.tmp 49), _)] (ih hx5) (toFn_func (cf 75 rfl) rfl) (gd0 rfl) ⟨rfl, rfl, rfl, rfl, trivial⟩ ⟨rfl, rfl, trivial⟩ rfl rfl rfl rfl rfl rfl ?_
        refine K.move (.inl rfl) (gd0 rfl) rfl rfl ?_
        refine K.extract (gd0 rfl) rfl rfl rfl ?_
        refine K.extract (gd0 rfl) rfl rfl rfl ?_
        refine K.alloc Y 105 [_, _] (gd0 rfl) t99 rfl rfl rfl rfl rfl ?_
        refine K.store Y [_, _] (gd0 rfl) rfl rfl rfl t99 rfl rfl rfl rfl rfl ?_
        refine K.move (.inr rfl) (gd0 rfl) rfl rfl ?_
        refine K.nil ?_
        refine At.next ?_
        refine G.seq ?_
        refine G.seq ?_
        refine G.rg ?_
        refine K.move (.inl rfl) (gd0 rfl) rfl rfl ?_
        refine K.un (V := .bool (!x5.2.1)) (gd0 rfl) rfl (fun _ => rfl) rfl ?_
        refine K.nil ?_
        refine At.next ?_
        refine G.cond rfl (fun h3 => ?_) (fun h3 => ?_)
        ·
          replace H0 := bif_t H0 h3
          refine G.seq ?_
          refine G.rg ?_
          refine K.loadS Y [_, _] (gd0 rfl) rfl rfl t99 rfl rfl rfl ?_
          refine K.store Y [_, _] (gd0 rfl) rfl rfl rfl t99 rfl rfl rfl rfl rfl ?_
          refine K.move (.inr rfl) (gd0 rfl) rfl rfl ?_
          refine K.nil ?_
          refine At.next ?_
          refine G.ret ?_
          refine At.over_ret ?_
          refine At.block_ret ?_
          refine At.over_ret ?_
          refine At.done Y [(.cell 6 99, .agg [_, _]), (.tmp 7, .c _)] rfl ⟨.st rfl rfl t99 rfl rfl, .tmp rfl, trivial⟩ (to' := [(0, _), (1, _)]) ⟨rfl, rfl, trivial⟩ ?_ ?_ rfl rfl rfl (.inl rfl)
          · cases H0; rfl
          · cases H0; rfl
        ·
          replace H0 := bif_f H0 h3
          refine G.skip ?_
          refine At.next ?_
          refine G.seq ?_
          obtain ⟨x6, hx6, H0⟩ := bnd H0
          refine G.rg ?_
          refine K.move (.inl rfl) (gd0 rfl) rfl rfl ?_
          refine K.loadS Y [_, _] (gd0 rfl) rfl rfl t99 rfl rfl rfl ?_
          refine K.loadS Y [_, _] (gd0 rfl) rfl rfl t99 rfl rfl rfl ?_
          refine K.fieldAddr Y (gd0 rfl) rfl t124 rfl rfl ?_
          refine K.loadS Y [_, _] (gd0 rfl) rfl rfl t99 rfl rfl rfl ?_
          refine K.call0 [(.func 92, _), ((.tmp 56), _), ((.tmp 57), _), ((.tmp 58), _), ((.tmp 60), _)] (Tree_linkS_con (k := k) hx6 0 1) (toFn_func (cf 92 rfl) rfl) (gd0 rfl) ⟨rfl, rfl, rfl, rfl, rfl, trivial⟩ ⟨rfl, rfl, trivial⟩ rfl rfl rfl rfl rfl rfl ?_
          refine K.store Y [_, _] (gd0 rfl) rfl rfl rfl t99 rfl rfl rfl rfl rfl ?_
          refine K.move (.inr rfl) (gd0 rfl) rfl rfl ?_
          refine K.nil ?_
          refine At.next ?_
          refine G.ret ?_
          refine At.block_ret ?_
          refine At.over_ret ?_
          refine At.done Y [(.cell 6 99, .agg [_, _]), (.tmp 7, .c _)] rfl ⟨.st rfl rfl t99 rfl rfl, .tmp rfl, trivial⟩ (to' := [(0, _), (1, _)]) ⟨rfl, rfl, trivial⟩ ?_ ?_ rfl rfl rfl (.inl rfl)
          · cases H0; rfl
          · cases H0; rfl
      ·
        replace H0 := bif_f H0 h2
        refine G.seq ?_
        refine G.rg ?_
        refine K.move (.inl rfl) (gd0 rfl) rfl rfl ?_
        refine K.bin (V := .bool (decide (x4 > 0))) (gd0 rfl) rfl rfl (fun _ => rfl) rfl ?_
        refine K.move (.inr rfl) (gd0 rfl) rfl rfl ?_
        refine K.nil ?_
        refine At.next ?_
        refine G.cond rfl (fun h4 => ?_) (fun h4 => ?_)
        ·
          replace H0 := bif_t H0 h4
          refine G.seq ?_
          obtain ⟨x7, hx7, H0⟩ := bnd H0
          refine G.rg ?_
          refine K.move (.inl rfl) (gd0 rfl) rfl rfl ?_
          refine K.fieldAddr Y (gd0 rfl) rfl t124 rfl rfl ?_
          refine K.loadS Y [_, _] (gd0 rfl) rfl rfl t99 rfl rfl rfl ?_
          refine K.loadS Y [_, _, _, _] (gd0 rfl) rfl rfl t72 rfl rfl rfl ?_
          refine K.call0 [(.func 75, _), ((.tmp 66), _), ((.tmp 68), _), ((.tmp 69), _)] (ih hx7) (toFn_func (cf 75 rfl) rfl) (gd0 rfl) ⟨rfl, rfl, rfl, rfl, trivial⟩ ⟨rfl, rfl, trivial⟩ rfl rfl rfl rfl rfl rfl ?_
          refine K.move (.inl rfl) (gd0 rfl) rfl rfl ?_
          refine K.extract (gd0 rfl) rfl rfl rfl ?_
          refine K.extract (gd0 rfl) rfl rfl rfl ?_
          refine K.alloc Y 106 [_, _] (gd0 rfl) t99 rfl rfl rfl rfl rfl ?_
          refine K.store Y [_, _] (gd0 rfl) rfl rfl rfl t99 rfl rfl rfl rfl rfl ?_
          refine K.move (.inr rfl) (gd0 rfl) rfl rfl ?_
          refine K.nil ?_
          refine At.next ?_
          refine G.seq ?_
          refine G.seq ?_
          refine G.rg ?_
          refine K.move (.inl rfl) (gd0 rfl) rfl rfl ?_
          refine K.un (V := .bool (!x7.2.1)) (gd0 rfl) rfl (fun _ => rfl) rfl ?_
          refine K.nil ?_
          refine At.next ?_
          refine G.cond rfl (fun h5 => ?_) (fun h5 => ?_)
          ·
            replace H0 := bif_t H0 h5
            refine G.seq ?_
            refine G.rg ?_
            refine K.loadS Y [_, _] (gd0 rfl) rfl rfl t99 rfl rfl rfl ?_
            refine K.store Y [_, _] (gd0 rfl) rfl rfl rfl t99 rfl rfl rfl rfl rfl ?_
            refine K.move (.inr rfl) (gd0 rfl) rfl rfl ?_
            refine K.nil ?_
            refine At.next ?_
            refine G.ret ?_
            refine At.over_ret ?_
            refine At.block_ret ?_
            refine At.over_ret ?_
            refine At.done Y [(.cell 6 99, .agg [_, _]), (.tmp 7, .c _)] rfl ⟨.st rfl rfl t99 rfl rfl, .tmp rfl, trivial⟩ (to' := [(0, _), (1, _)]) ⟨rfl, rfl, trivial⟩ ?_ ?_ rfl rfl rfl (.inl rfl)
            · cases H0; rfl
            · cases H0; rfl
          ·
            replace H0 := bif_f H0 h5
            refine G.skip ?_
            refine At.next ?_
            refine G.seq ?_
            obtain ⟨x8, hx8, H0⟩ := bnd H0
            refine G.rg ?_
            refine K.move (.inl rfl) (gd0 rfl) rfl rfl ?_
            refine K.fieldAddr Y (gd0 rfl) rfl t124 rfl rfl ?_
            refine K.loadS Y [_, _] (gd0 rfl) rfl rfl t99 rfl rfl rfl ?_
            refine K.loadS Y [_, _] (gd0 rfl) rfl rfl t99 rfl rfl rfl ?_
            refine K.loadS Y [_, _] (gd0 rfl) rfl rfl t99 rfl rfl rfl ?_
            refine K.call0 [(.func 92, _), ((.tmp 76), _), ((.tmp 78), _), ((.tmp 79), _), ((.tmp 80), _)] (Tree_linkS_con (k := k) hx8 0 1) (toFn_func (cf 92 rfl) rfl) (gd0 rfl) ⟨rfl, rfl, rfl, rfl, rfl, trivial⟩ ⟨rfl, rfl, trivial⟩ rfl rfl rfl rfl rfl rfl ?_
            refine K.store Y [_, _] (gd0 rfl) rfl rfl rfl t99 rfl rfl rfl rfl rfl ?_
            refine K.move (.inr rfl) (gd0 rfl) rfl rfl ?_
            refine K.nil ?_
            refine At.next ?_
            refine G.ret ?_
            refine At.block_ret ?_
            refine At.over_ret ?_
            refine At.done Y [(.cell 6 99, .agg [_, _]), (.tmp 7, .c _)] rfl ⟨.st rfl rfl t99 rfl rfl, .tmp rfl, trivial⟩ (to' := [(0, _), (1, _)]) ⟨rfl, rfl, trivial⟩ ?_ ?_ rfl rfl rfl (.inl rfl)
            · cases H0; rfl
            · cases H0; rfl
        ·
          replace H0 := bif_f H0 h4
          refine G.skip ?_
          refine At.block_normal ?_
          refine At.next ?_
          refine G.seq ?_
          refine G.rg ?_
          refine K.loadS Y [_, _, _, _] (gd0 rfl) rfl rfl t72 rfl rfl rfl ?_
          refine K.fieldAddr Y (gd0 rfl) rfl t124 rfl rfl ?_
          refine K.store Y [_, _, _, _, _, _, _, _, _, _] (gd0 rfl) rfl rfl rfl t72 rfl rfl rfl rfl rfl ?_
          refine K.nil ?_
          refine At.next ?_
          refine G.seq ?_
          obtain ⟨x9, hx9, H0⟩ := bnd H0
          refine G.rd mixed ?_
          refine K.move (.inl rfl) (gd0 rfl) rfl rfl ?_
          refine K.nilCheck (gd0 rfl) rfl rfl ?_
          refine K.fieldAddr Y (gd0 rfl) rfl t122 rfl rfl ?_
          refine K.load1 Y (gd0 rfl) rfl rfl t120 rfl rfl ?_
          refine K.loadS Y [_, _] (gd0 rfl) rfl rfl t99 rfl rfl rfl ?_
          refine K.loadS Y [_, _, _, _, _, _, _, _, _, _] (gd0 rfl) rfl rfl t124 rfl rfl rfl ?_
          refine K.call0 [(.func 93, _), ((.tmp 87), _), ((.tmp 88), _), ((.tmp 89), _)] (plsetS hx9 1) (toFn_func (cf 93 rfl) rfl) (gd0 rfl) ⟨rfl, rfl, rfl, rfl, trivial⟩ ⟨rfl, trivial⟩ rfl rfl rfl rfl rfl rfl ?_
          refine K.nil ?_
          refine ⟨by kernel_rfl, ?_⟩
          refine At.next ?_
          refine G.seq ?_
          obtain ⟨x10, hx10, H0⟩ := bnd H0
          refine G.rg ?_
          refine K.move (.inl rfl) (gd0 rfl) rfl rfl ?_
          refine K.loadS Y [_, _] (gd0 rfl) rfl rfl t99 rfl rfl rfl ?_
          refine K.fieldAddr Y (gd0 rfl) rfl t124 rfl rfl ?_
          refine K.loadS Y [_, _] (gd0 rfl) rfl rfl t99 rfl rfl rfl ?_
          refine K.fieldAddr Y (gd0 rfl) rfl t124 rfl rfl ?_
          refine K.loadS Y [_, _] (gd0 rfl) rfl rfl t99 rfl rfl rfl ?_
          refine K.call0 [(.func 94, _), ((.tmp 91), _), ((.tmp 92), _), ((.tmp 94), _), ((.tmp 96), _)] (Tree_layS_con (k := k) hx10 0 1) (toFn_func (cf 94 rfl) rfl) (gd0 rfl) ⟨rfl, rfl, rfl, rfl, rfl, trivial⟩ ⟨rfl, rfl, trivial⟩ rfl rfl rfl rfl rfl rfl ?_
          refine K.store Y [_, _] (gd0 rfl) rfl rfl rfl t99 rfl rfl rfl rfl rfl ?_
          refine K.move (.inr rfl) (gd0 rfl) rfl rfl ?_
          refine K.nil ?_
          refine At.next ?_
          refine G.ret ?_
          refine At.done Y [(.cell 6 99, .agg [_, _]), (.tmp 7, .c _)] rfl ⟨.st rfl rfl t99 rfl rfl, .tmp rfl, trivial⟩ (to' := [(0, _), (1, _)]) ⟨rfl, rfl, trivial⟩ ?_ ?_ rfl rfl rfl (.inl rfl)
          · cases H0; rfl
          · cases H0; rfl
theorem Tree_putS_con {k n : Nat}  {p1 : Pool (TNode TSlot TSize)} {a1 : TRef} {a2 : TSlot} {ri0 rg0 : Int} {r : TRef × Bool × Pool (TNode TSlot TSize)}  (H0 : Tree_put.r opsS k n p1 a1 a2 = some r) (m0 m1 : Nat) : SCon Try.prog 75 [SV.p m0 0, .a (.agg ((eTRef a1).map .v)), .a (.agg ((eTSlot a2).map .v))] [(m0, blk m0 [.p m1 0, .i ri0, .i rg0] 122), (m1, plS m1 p1)] (.tup [.agg ((eTRef r.1).map .v), .c (.v (.bool r.2.1))]) [(m0, blk m0 [.p m1 0, .i ri0, .i rg0] 122), (m1, plS m1 r.2.2)] [] :=
  SCon.ren (rn [(0, m0), (1, m1)]) (Tree_putS_con0 (k := k)   H0) ⟨(blk_ren rfl rfl), (pl_ren rfl), trivial⟩ ⟨(blk_ren rfl rfl), (pl_ren rfl), trivial⟩ (by simp) (by simp)
theorem Tree_PutS_con0 {k : Nat}  {p1 : Pool (TNode TSlot TSize)} {rt0 : TRef} {a1 : TSlot} {r : Bool × TRef × Pool (TNode TSlot TSize)}  (H0 : Tree_Put.f opsS k p1 rt0 a1 = some r) : SCon Try.prog 42 [SV.p 0 0, .a (.agg ((eTSlot a1).map .v))] [(0, blk 0 [.p 1 0, .i rt0.index, .i rt0.gen] 122), (1, plS 1 p1)] (.a (.c (.v (.bool r.1)))) [(0, blk 0 [.p 1 0, .i r.2.1.index, .i r.2.1.gen] 122), (1, plS 1 r.2.2)] [] := by
  rw [Tree_Put.f] at H0
  refine spec_of [(0, _), (1, _)] [(0, _), (1, _)] 23 Try.func42 rfl Try.ntmps42 rfl rfl rfl rfl (fun β W F => ?_)
  refine G.seq ?_
  refine G.rg ?_
  refine K.box Y 100 [_, _, _, _] (gd0 rfl) rfl rfl rfl rfl rfl rfl ?_
  refine K.move (.inr rfl) (gd0 rfl) rfl rfl ?_
  refine K.nil ?_
  refine At.next ?_
  refine G.seq ?_
  obtain ⟨x1, hx1, H0⟩ := bnd H0
  refine G.rd mixed ?_
  refine K.move (.inl rfl) (gd0 rfl) rfl rfl ?_
  refine K.move (.inl rfl) (gd0 rfl) rfl rfl ?_
  refine K.nilCheck (gd0 rfl) rfl rfl ?_
  refine K.fieldAddr Y (gd0 rfl) rfl t122 rfl rfl ?_
  refine K.loadS Y [_, _] (gd0 rfl) rfl rfl t99 rfl rfl rfl ?_
  refine K.loadS Y [_, _, _, _] (gd0 rfl) rfl rfl t72 rfl rfl rfl ?_
  refine K.call0 [(.func 75, _), ((.tmp 8), _), ((.tmp 12), _), ((.tmp 13), _)] (Tree_putS_con (k := k) hx1 0 1) (toFn_func (cf 75 rfl) rfl) (gd0 rfl) ⟨rfl, rfl, rfl, rfl, trivial⟩ ⟨rfl, rfl, trivial⟩ rfl rfl rfl rfl rfl rfl ?_
  refine K.move (.inl rfl) (gd0 rfl) rfl rfl ?_
  refine K.extract (gd0 rfl) rfl rfl rfl ?_
  refine K.extract (gd0 rfl) rfl rfl rfl ?_
  refine K.alloc Y 101 [_, _] (gd0 rfl) t99 rfl rfl rfl rfl rfl ?_
  refine K.store Y [_, _] (gd0 rfl) rfl rfl rfl t99 rfl rfl rfl rfl rfl ?_
  refine K.move (.inr rfl) (gd0 rfl) rfl rfl ?_
  refine K.nil ?_
  refine ⟨by kernel_rfl, ?_⟩
  refine At.next ?_
  refine G.seq ?_
  refine G.seq ?_
  refine G.rg ?_
  refine K.move (.inl rfl) (gd0 rfl) rfl rfl ?_
  refine K.nil ?_
  refine At.next ?_
  refine G.cond rfl (fun h1 => ?_) (fun h1 => ?_)
  ·
    replace H0 := bif_t H0 h1
    refine G.rg ?_
    refine K.move (.inl rfl) (gd0 rfl) rfl rfl ?_
    refine K.loadS Y [_, _] (gd0 rfl) rfl rfl t99 rfl rfl rfl ?_
    refine K.nilCheck (gd0 rfl) rfl rfl ?_
    refine K.fieldAddr Y (gd0 rfl) rfl t122 rfl rfl ?_
    refine K.store Y [_, _, _] (gd0 rfl) rfl rfl rfl t99 rfl rfl rfl rfl rfl ?_
    refine K.nil ?_
    refine At.next ?_
    refine G.seq ?_
    refine G.rg ?_
    refine K.move (.inl rfl) (gd0 rfl) rfl rfl ?_
    refine K.move (.inr rfl) (gd0 rfl) rfl rfl ?_
    refine K.nil ?_
    refine At.next ?_
    refine G.ret ?_
    refine At.done Y [(.tmp 4, .c _)] rfl ⟨.tmp rfl, trivial⟩ (to' := [(0, _), (1, _)]) ⟨rfl, rfl, trivial⟩ ?_ ?_ rfl rfl rfl (.inl rfl)
    · cases H0; rfl
    · cases H0; rfl
  ·
    replace H0 := bif_f H0 h1
    refine G.skip ?_
    refine At.next ?_
    refine G.seq ?_
    refine G.rg ?_
    refine K.move (.inl rfl) (gd0 rfl) rfl rfl ?_
    refine K.move (.inr rfl) (gd0 rfl) rfl rfl ?_
    refine K.nil ?_
    refine At.next ?_
    refine G.ret ?_
    refine At.done Y [(.tmp 4, .c _)] rfl ⟨.tmp rfl, trivial⟩ (to' := [(0, _), (1, _)]) ⟨rfl, rfl, trivial⟩ ?_ ?_ rfl rfl rfl (.inl rfl)
    · cases H0; rfl
    · cases H0; rfl
theorem Tree_PutS_con {k : Nat}  {p1 : Pool (TNode TSlot TSize)} {rt0 : TRef} {a1 : TSlot} {r : Bool × TRef × Pool (TNode TSlot TSize)}  (H0 : Tree_Put.f opsS k p1 rt0 a1 = some r) (m0 m1 : Nat) : SCon Try.prog 42 [SV.p m0 0, .a (.agg ((eTSlot a1).map .v))] [(m0, blk m0 [.p m1 0, .i rt0.index, .i rt0.gen] 122), (m1, plS m1 p1)] (.a (.c (.v (.bool r.1)))) [(m0, blk m0 [.p m1 0, .i r.2.1.index, .i r.2.1.gen] 122), (m1, plS m1 r.2.2)] [] :=
  SCon.ren (rn [(0, m0), (1, m1)]) (Tree_PutS_con0 (k := k)   H0) ⟨(blk_ren rfl rfl), (pl_ren rfl), trivial⟩ ⟨(blk_ren rfl rfl), (pl_ren rfl), trivial⟩ (by simp) (by simp)
theorem Tree_LenS_con0 {k : Nat}  {p1 : Pool (TNode TSlot TSize)} {rt0 : TRef} {r : Int}  (H0 : Tree_Len.f opsS k p1 rt0 = some r) : SCon Try.prog 56 [SV.p 0 0] [(0, blk 0 [.p 1 0, .i rt0.index, .i rt0.gen] 122), (1, plS 1 p1)] (.a (.c (.v (.int .i64 r)))) [(0, blk 0 [.p 1 0, .i rt0.index, .i rt0.gen] 122), (1, plS 1 p1)] [] := by
  rw [Tree_Len.f] at H0
  refine spec_of [(0, _)] [(0, _), (1, _)] 10 Try.func56 rfl Try.ntmps56 rfl rfl rfl rfl (fun β W F => ?_)
  refine G.seq ?_
  refine G.rg ?_
  refine K.move (.inr rfl) (gd0 rfl) rfl rfl ?_
  refine K.nil ?_
  refine At.next ?_
  refine G.seq ?_
  obtain ⟨x1, hx1, H0⟩ := bnd H0
  refine G.rg ?_
  refine K.move (.inl rfl) (gd0 rfl) rfl rfl ?_
  refine K.move (.inl rfl) (gd0 rfl) rfl rfl ?_
  refine K.nilCheck (gd0 rfl) rfl rfl ?_
  refine K.fieldAddr Y (gd0 rfl) rfl t122 rfl rfl ?_
  refine K.loadS Y [_, _] (gd0 rfl) rfl rfl t99 rfl rfl rfl ?_
  refine K.callR [(.func 76, _), ((.tmp 3), _), ((.tmp 7), _)] (Tree_getS_con (k := k) hx1 0 1) (toFn_func (cf 76 rfl) rfl) (gd0 rfl) ⟨rfl, rfl, rfl, trivial⟩ ⟨rfl, rfl, trivial⟩ rfl rfl rfl ?_
  refine K.field1 Y (gd0 rfl) rfl t124 rfl t3 rfl rfl ?_
  refine K.move (.inr rfl) (gd0 rfl) rfl rfl ?_
  refine K.nil ?_
  refine At.next ?_
  refine G.ret ?_
  refine At.done Y [(.tmp 2, .c _)] rfl ⟨.tmp rfl, trivial⟩ (to' := [(0, _), (1, _)]) ⟨rfl, rfl, trivial⟩ ?_ ?_ rfl rfl rfl (.inl rfl)
  · cases H0; rfl
  · cases H0; rfl
theorem Tree_LenS_con {k : Nat}  {p1 : Pool (TNode TSlot TSize)} {rt0 : TRef} {r : Int}  (H0 : Tree_Len.f opsS k p1 rt0 = some r) (m0 m1 : Nat) : SCon Try.prog 56 [SV.p m0 0] [(m0, blk m0 [.p m1 0, .i rt0.index, .i rt0.gen] 122), (m1, plS m1 p1)] (.a (.c (.v (.int .i64 r)))) [(m0, blk m0 [.p m1 0, .i rt0.index, .i rt0.gen] 122), (m1, plS m1 p1)] [] :=
  SCon.ren (rn [(0, m0), (1, m1)]) (Tree_LenS_con0 (k := k)   H0) ⟨(blk_ren rfl rfl), (pl_ren rfl), trivial⟩ ⟨(blk_ren rfl rfl), (pl_ren rfl), trivial⟩ (by simp) (by simp)
theorem Tree_RankS_con0 {k : Nat}  {p1 : Pool (TNode TSlot TSize)} {rt0 : TRef} {a1 : TSlot} {r : Int}  (H0 : Tree_Rank.f opsS k p1 rt0 a1 = some r) : SCon Try.prog 82 [SV.p 0 0, .a (.agg ((eTSlot a1).map .v))] [(0, blk 0 [.p 1 0, .i rt0.index, .i rt0.gen] 122), (1, plS 1 p1)] (.a (.c (.v (.int .i64 r)))) [(0, blk 0 [.p 1 0, .i rt0.index, .i rt0.gen] 122), (1, plS 1 p1)] [] := by
  rw [Tree_Rank.f] at H0
  refine spec_of [(0, _), (1, _)] [(0, _), (1, _)] 36 Try.func82 rfl Try.ntmps82 rfl rfl rfl rfl (fun β W F => ?_)
  refine G.seq ?_
  refine G.rg ?_
  refine K.box Y 100 [_, _, _, _] (gd0 rfl) rfl rfl rfl rfl rfl rfl ?_
  refine K.move (.inr rfl) (gd0 rfl) rfl rfl ?_
  refine K.nil ?_
  refine At.next ?_
  refine G.seq ?_
  refine G.rg ?_
  refine K.move (.inr rfl) (gd0 rfl) rfl rfl ?_
  refine K.nil ?_
  refine At.next ?_
  obtain ⟨x1, H1, H0⟩ := bnd H0
  refine G.seqJ (σ := { v : Int // x1 = v }) (fun q => [(5, .a (.c (.v (.int .i64 q.1))))]) (fun q => [(1, plS 1 p1), (0, blk 0 [.p 1 0, .v (.int .i64 rt0.index), .v (.int .i64 rt0.gen)] 122)]) ?_ ?_
  ·
    refine G.seq ?_
    refine G.rg ?_
    refine K.move (.inl rfl) (gd0 rfl) rfl rfl ?_
    refine K.nilCheck (gd0 rfl) rfl rfl ?_
    refine K.fieldAddr Y (gd0 rfl) rfl t122 rfl rfl ?_
    refine K.loadS Y [_, _] (gd0 rfl) rfl rfl t99 rfl rfl rfl ?_
    refine K.alloc Y 101 [_, _] (gd0 rfl) t99 rfl rfl rfl rfl rfl ?_
    refine K.store Y [_, _] (gd0 rfl) rfl rfl rfl t99 rfl rfl rfl rfl rfl ?_
    refine K.nil ?_
    refine At.next ?_
    refine G.block ?_
    refine G.loop (σ := { q : Nat × (Int × TRef) // Tree_Rank.l0 opsS k p1 a1 q.1 q.2 = some x1 }) (fun q => [(0, .a (.c (.p 0 0))), (3, .a (.c (.p 106 0))), (5, .a (.c (.v (.int .i64 q.1.2.1)))), (6, .a (.c (.p 107 0)))]) (fun q => [(1, plS 1 p1), (0, blk 0 [.p 1 0, .v (.int .i64 rt0.index), .v (.int .i64 rt0.gen)] 122), (106, blk 106 [.v (.int .i64 a1.item.key), .v (.int .i64 a1.item.id), .v (.bool a1.eaten), .v (.int .i64 a1.time)] 72), (107, blk 107 [.v (.int .i64 q.1.2.2.index), .v (.int .i64 q.1.2.2.gen)] 99)]) (fun q => q.1.1) ⟨(k, (0, rt0)), H1⟩ ?_ ?_
    · exact At.into [(106, 100), (107, 101)] [_, _, _, _] rfl ⟨rfl, rfl, rfl, rfl, trivial⟩ ⟨rfl, (pl_ren rfl), rfl, (blk_ren rfl rfl), rfl, (blk_ren rfl rfl), rfl, (blk_ren rfl rfl), trivial⟩ rfl
    ·
      rintro ⟨⟨n0, v1, v2⟩, H1⟩
      show G _ _ [(0, .a (.c (.p 0 0))), (3, .a (.c (.p 106 0))), (5, .a (.c (.v (.int .i64 v1)))), (6, .a (.c (.p 107 0)))] [(1, some (plS 1 p1)), (0, some (blk 0 [.p 1 0, .v (.int .i64 rt0.index), .v (.int .i64 rt0.gen)] 122)), (106, some (blk 106 [.v (.int .i64 a1.item.key), .v (.int .i64 a1.item.id), .v (.bool a1.eaten), .v (.int .i64 a1.time)] 72)), (107, some (blk 107 [.v (.int .i64 v2.index), .v (.int .i64 v2.gen)] 99))] _ _
      cases n0 with
      | zero => exact absurd H1 (by simp [Tree_Rank.l0])
      | succ n0 =>
        have HL0 := H1
        rw [Tree_Rank.l0] at H1
        refine G.seq ?_
        refine G.seq ?_
        refine G.rg ?_
        refine K.fieldAddr Y (gd0 rfl) rfl t99 rfl rfl ?_
        refine K.load1 Y (gd0 rfl) rfl rfl t3 rfl rfl ?_
        refine K.bin (V := .bool (v2.gen != 0)) (gd0 rfl) rfl rfl (fun _ => rfl) rfl ?_
        refine K.nil ?_
        refine At.next ?_
        refine G.cond rfl (fun h1 => ?_) (fun h1 => ?_)
        ·
          replace H1 := bif_t H1 h1
          refine G.skip ?_
          refine At.next ?_
          refine G.seq ?_
          refine G.block ?_
          refine G.seq ?_
          obtain ⟨x2, hx2, H1⟩ := bnd H1
          refine G.rg ?_
          refine K.move (.inl rfl) (gd0 rfl) rfl rfl ?_
          refine K.loadS Y [_, _] (gd0 rfl) rfl rfl t99 rfl rfl rfl ?_
          refine K.callR [(.func 76, _), ((.tmp 15), _), ((.tmp 16), _)] (Tree_getS_con (k := k) hx2 0 1) (toFn_func (cf 76 rfl) rfl) (gd0 rfl) ⟨rfl, rfl, rfl, trivial⟩ ⟨rfl, rfl, trivial⟩ rfl rfl rfl ?_
          refine K.alloc Y 108 [_, _, _, _, _, _, _, _, _, _] (gd0 rfl) t124 rfl rfl rfl rfl rfl ?_
          refine K.store Y [_, _, _, _, _, _, _, _, _, _] (gd0 rfl) rfl rfl rfl t124 rfl rfl rfl rfl rfl ?_
          refine K.nil ?_
          refine At.next ?_
          refine G.seq ?_
          refine G.seq ?_
          obtain ⟨x3, hx3, H1⟩ := bnd H1
          refine G.rg ?_
          refine K.loadS Y [_, _, _, _] (gd0 rfl) rfl rfl t72 rfl rfl rfl ?_
          refine K.mkIface Y (gd0 rfl) rfl (mkI Try.underlying72 rfl) rfl ?_
          refine K.fieldAddr Y (gd0 rfl) rfl t124 rfl rfl ?_
          refine K.loadS Y [_, _, _, _] (gd0 rfl) rfl rfl t72 rfl rfl rfl ?_
          refine K.callR [((.tmp 19), _), ((.tmp 21), _)] (shelf_Slot_Compare_con (k := k) hx3) (toFn_invoke (cf 45 rfl) (me72_45) rfl) (gd0 rfl) ⟨rfl, rfl, trivial⟩ trivial rfl rfl rfl ?_
          refine K.bin (V := .bool (decide (x3 ≤ 0))) (gd0 rfl) rfl rfl (fun _ => rfl) rfl ?_
          refine K.nil ?_
          refine At.next ?_
          refine G.cond rfl (fun h2 => ?_) (fun h2 => ?_)
          ·
            replace H1 := bif_t H1 h2
            refine G.seq ?_
            refine G.rg ?_
            refine K.fieldAddr Y (gd0 rfl) rfl t124 rfl rfl ?_
            refine K.loadS Y [_, _] (gd0 rfl) rfl rfl t99 rfl rfl rfl ?_
            refine K.store Y [_, _] (gd0 rfl) rfl rfl rfl t99 rfl rfl rfl rfl rfl ?_
            refine K.nil ?_
            refine At.next ?_
            refine G.exit ?_
            refine At.over_exit ?_
            refine At.block_hit ?_
            refine At.next ?_
            refine G.seq ?_
            refine G.rg ?_
            refine K.loadS Y [_, _] (gd0 rfl) rfl rfl t99 rfl rfl rfl ?_
            refine K.nil ?_
            refine At.next ?_
            refine G.rg ?_
            refine K.alloc Y 109 [_, _] (gd0 rfl) t99 rfl rfl rfl rfl rfl ?_
            refine K.store Y [_, _] (gd0 rfl) rfl rfl rfl t99 rfl rfl rfl rfl rfl ?_
            refine K.nil ?_
            exact At.again (σ := { q : Nat × (Int × TRef) // Tree_Rank.l0 opsS k p1 a1 q.1 q.2 = some x1 }) (Fs := fun q => [(0, .a (.c (.p 0 0))), (3, .a (.c (.p 106 0))), (5, .a (.c (.v (.int .i64 q.1.2.1)))), (6, .a (.c (.p 107 0)))]) (Tl := fun q => [(1, plS 1 p1), (0, blk 0 [.p 1 0, .v (.int .i64 rt0.index), .v (.int .i64 rt0.gen)] 122), (106, blk 106 [.v (.int .i64 a1.item.key), .v (.int .i64 a1.item.id), .v (.bool a1.eaten), .v (.int .i64 a1.time)] 72), (107, blk 107 [.v (.int .i64 q.1.2.2.index), .v (.int .i64 q.1.2.2.gen)] 99)]) (μ := fun q => q.1.1) (s := ⟨(n0 + 1, (v1, v2)), HL0⟩) ⟨(n0, (v1, x2.left)), H1⟩ [(107, 109)] [_, _, _, _] (Nat.lt_succ_self _) rfl ⟨rfl, rfl, rfl, rfl, trivial⟩ ⟨rfl, (pl_ren rfl), rfl, (blk_ren rfl rfl), rfl, (blk_ren rfl rfl), rfl, (blk_ren rfl rfl), trivial⟩ rfl
          ·
            replace H1 := bif_f H1 h2
            refine G.skip ?_
            refine At.next ?_
            refine G.seq ?_
            obtain ⟨x4, hx4, H1⟩ := bnd H1
            refine G.rg ?_
            refine K.move (.inl rfl) (gd0 rfl) rfl rfl ?_
            refine K.move (.inl rfl) (gd0 rfl) rfl rfl ?_
            refine K.fieldAddr Y (gd0 rfl) rfl t124 rfl rfl ?_
            refine K.loadS Y [_, _] (gd0 rfl) rfl rfl t99 rfl rfl rfl ?_
            refine K.callR [(.func 101, _), ((.tmp 27), _), ((.tmp 29), _)] (Tree_weightS_con (k := k) hx4 0 1) (toFn_func (cf 101 rfl) rfl) (gd0 rfl) ⟨rfl, rfl, rfl, trivial⟩ ⟨rfl, rfl, trivial⟩ rfl rfl rfl ?_
            refine K.bin (V := .int .i64 (w64 (v1 + x4))) (gd0 rfl) rfl rfl (fun _ => rfl) rfl ?_
            refine K.move (.inr rfl) (gd0 rfl) rfl rfl ?_
            refine K.nil ?_
            refine At.next ?_
            refine G.rg ?_
            refine K.fieldAddr Y (gd0 rfl) rfl t124 rfl rfl ?_
            refine K.loadS Y [_, _] (gd0 rfl) rfl rfl t99 rfl rfl rfl ?_
            refine K.store Y [_, _] (gd0 rfl) rfl rfl rfl t99 rfl rfl rfl rfl rfl ?_
            refine K.nil ?_
            refine At.block_normal ?_
            refine At.next ?_
            refine G.seq ?_
            refine G.rg ?_
            refine K.loadS Y [_, _] (gd0 rfl) rfl rfl t99 rfl rfl rfl ?_
            refine K.nil ?_
            refine At.next ?_
            refine G.rg ?_
            refine K.alloc Y 110 [_, _] (gd0 rfl) t99 rfl rfl rfl rfl rfl ?_
            refine K.store Y [_, _] (gd0 rfl) rfl rfl rfl t99 rfl rfl rfl rfl rfl ?_
            refine K.nil ?_
            exact At.again (σ := { q : Nat × (Int × TRef) // Tree_Rank.l0 opsS k p1 a1 q.1 q.2 = some x1 }) (Fs := fun q => [(0, .a (.c (.p 0 0))), (3, .a (.c (.p 106 0))), (5, .a (.c (.v (.int .i64 q.1.2.1)))), (6, .a (.c (.p 107 0)))]) (Tl := fun q => [(1, plS 1 p1), (0, blk 0 [.p 1 0, .v (.int .i64 rt0.index), .v (.int .i64 rt0.gen)] 122), (106, blk 106 [.v (.int .i64 a1.item.key), .v (.int .i64 a1.item.id), .v (.bool a1.eaten), .v (.int .i64 a1.time)] 72), (107, blk 107 [.v (.int .i64 q.1.2.2.index), .v (.int .i64 q.1.2.2.gen)] 99)]) (μ := fun q => q.1.1) (s := ⟨(n0 + 1, (v1, v2)), HL0⟩) ⟨(n0, ((w64 (v1 + x4)), x2.right)), H1⟩ [(107, 110)] [_, _, _, _] (Nat.lt_succ_self _) rfl ⟨rfl, rfl, rfl, rfl, trivial⟩ ⟨rfl, (pl_ren rfl), rfl, (blk_ren rfl rfl), rfl, (blk_ren rfl rfl), rfl, (blk_ren rfl rfl), trivial⟩ rfl
        ·
          replace H1 := bif_f H1 h1
          refine G.exit ?_
          refine At.over_exit ?_
          refine At.over_exit ?_
          refine At.block_hit ?_
          exact At.joined (σ := { v : Int // x1 = v }) (Fs := fun q => [(5, .a (.c (.v (.int .i64 q.1))))]) (Tl := fun q => [(1, plS 1 p1), (0, blk 0 [.p 1 0, .v (.int .i64 rt0.index), .v (.int .i64 rt0.gen)] 122)]) ⟨v1, (Option.some.inj H1).symm⟩ [] [_, _] rfl ⟨rfl, trivial⟩ ⟨rfl, (pl_ren rfl), rfl, (blk_ren rfl rfl), trivial⟩ rfl
  ·
    rintro ⟨_, rfl⟩
    show G _ _ [(5, .a (.c (.v (.int .i64 x1))))] [(1, some (plS 1 p1)), (0, some (blk 0 [.p 1 0, .v (.int .i64 rt0.index), .v (.int .i64 rt0.gen)] 122))] _ _
    refine G.seq ?_
    refine G.rg ?_
    refine K.move (.inl rfl) (gd0 rfl) rfl rfl ?_
    refine K.move (.inr rfl) (gd0 rfl) rfl rfl ?_
    refine K.nil ?_
    refine At.next ?_
    refine G.ret ?_
    refine At.done Y [(.tmp 4, .c _)] rfl ⟨.tmp rfl, trivial⟩ (to' := [(0, _), (1, _)]) ⟨rfl, rfl, trivial⟩ ?_ ?_ rfl rfl rfl (.inl rfl)
    · cases H0; rfl
    · cases H0; rfl
theorem Tree_RankS_con {k : Nat}  {p1 : Pool (TNode TSlot TSize)} {rt0 : TRef} {a1 : TSlot} {r : Int}  (H0 : Tree_Rank.f opsS k p1 rt0 a1 = some r) (m0 m1 : Nat) : SCon Try.prog 82 [SV.p m0 0, .a (.agg ((eTSlot a1).map .v))] [(m0, blk m0 [.p m1 0, .i rt0.index, .i rt0.gen] 122), (m1, plS m1 p1)] (.a (.c (.v (.int .i64 r)))) [(m0, blk m0 [.p m1 0, .i rt0.index, .i rt0.gen] 122), (m1, plS m1 p1)] [] :=
  SCon.ren (rn [(0, m0), (1, m1)]) (Tree_RankS_con0 (k := k)   H0) ⟨(blk_ren rfl rfl), (pl_ren rfl), trivial⟩ ⟨(blk_ren rfl rfl), (pl_ren rfl), trivial⟩ (by simp) (by simp)
theorem Tree_FindS_con0 {k : Nat}  {p1 : Pool (TNode TSlot TSize)} {rt0 : TRef} {a1 : TSlot} {r : TSlot × Bool}  (H0 : Tree_Find.f opsS k p1 rt0 a1 = some r) : SCon Try.prog 43 [SV.p 0 0, .a (.agg ((eTSlot a1).map .v))] [(0, blk 0 [.p 1 0, .i rt0.index, .i rt0.gen] 122), (1, plS 1 p1)] (.tup [.agg ((eTSlot r.1).map .v), .c (.v (.bool r.2))]) [(0, blk 0 [.p 1 0, .i rt0.index, .i rt0.gen] 122), (1, plS 1 p1)] [] := by
  rw [Tree_Find.f] at H0
  refine spec_of [(0, _), (1, _)] [(0, _), (1, _)] 37 Try.func43 rfl Try.ntmps43 rfl rfl rfl rfl (fun β W F => ?_)
  refine G.seq ?_
  refine G.rg ?_
  refine K.box Y 100 [_, _, _, _] (gd0 rfl) rfl rfl rfl rfl rfl rfl ?_
  refine K.alloc Y 101 [_, _, _, _] (gd0 rfl) t72 rfl rfl rfl rfl rfl ?_
  refine K.move (.inr rfl) (gd0 rfl) rfl rfl ?_
  refine K.nil ?_
  refine At.next ?_
  obtain ⟨x1, H1, H0⟩ := bnd H0
  refine G.seqJ (σ := { v : Unit // x1 = Sum.inr v }) (fun q => [(4, .a (.c (.p 102 0)))]) (fun q => [(102, blk 102 [.v (.int .i64 0), .v (.int .i64 0), .v (.bool false), .v (.int .i64 0)] 72), (1, plS 1 p1), (0, blk 0 [.p 1 0, .v (.int .i64 rt0.index), .v (.int .i64 rt0.gen)] 122)]) ?_ ?_
  ·
    refine G.seq ?_
    refine G.rg ?_
    refine K.move (.inl rfl) (gd0 rfl) rfl rfl ?_
    refine K.nilCheck (gd0 rfl) rfl rfl ?_
    refine K.fieldAddr Y (gd0 rfl) rfl t122 rfl rfl ?_
    refine K.loadS Y [_, _] (gd0 rfl) rfl rfl t99 rfl rfl rfl ?_
    refine K.alloc Y 103 [_, _] (gd0 rfl) t99 rfl rfl rfl rfl rfl ?_
    refine K.store Y [_, _] (gd0 rfl) rfl rfl rfl t99 rfl rfl rfl rfl rfl ?_
    refine K.nil ?_
    refine At.next ?_
    refine G.block ?_
    refine G.loop (σ := { q : Nat × (TRef) // Tree_Find.l0 opsS k p1 a1 q.1 q.2 = some x1 }) (fun q => [(0, .a (.c (.p 0 0))), (3, .a (.c (.p 110 0))), (4, .a (.c (.p 111 0))), (6, .a (.c (.p 112 0)))]) (fun q => [(1, plS 1 p1), (0, blk 0 [.p 1 0, .v (.int .i64 rt0.index), .v (.int .i64 rt0.gen)] 122), (110, blk 110 [.v (.int .i64 a1.item.key), .v (.int .i64 a1.item.id), .v (.bool a1.eaten), .v (.int .i64 a1.time)] 72), (111, blk 111 [.v (.int .i64 0), .v (.int .i64 0), .v (.bool false), .v (.int .i64 0)] 72), (112, blk 112 [.v (.int .i64 q.1.2.index), .v (.int .i64 q.1.2.gen)] 99)]) (fun q => q.1.1) ⟨(k, rt0), H1⟩ ?_ ?_
    · exact At.into [(110, 100), (111, 101), (112, 103)] [_, _, _, _, _] rfl ⟨rfl, rfl, rfl, rfl, trivial⟩ ⟨rfl, (pl_ren rfl), rfl, (blk_ren rfl rfl), rfl, (blk_ren rfl rfl), rfl, (blk_ren rfl rfl), rfl, (blk_ren rfl rfl), trivial⟩ rfl
    ·
      rintro ⟨⟨n0, v1⟩, H1⟩
      show G _ _ [(0, .a (.c (.p 0 0))), (3, .a (.c (.p 110 0))), (4, .a (.c (.p 111 0))), (6, .a (.c (.p 112 0)))] [(1, some (plS 1 p1)), (0, some (blk 0 [.p 1 0, .v (.int .i64 rt0.index), .v (.int .i64 rt0.gen)] 122)), (110, some (blk 110 [.v (.int .i64 a1.item.key), .v (.int .i64 a1.item.id), .v (.bool a1.eaten), .v (.int .i64 a1.time)] 72)), (111, some (blk 111 [.v (.int .i64 0), .v (.int .i64 0), .v (.bool false), .v (.int .i64 0)] 72)), (112, some (blk 112 [.v (.int .i64 v1.index), .v (.int .i64 v1.gen)] 99))] _ _
      cases n0 with
      | zero => exact absurd H1 (by simp [Tree_Find.l0])
      | succ n0 =>
        have HL0 := H1
        rw [Tree_Find.l0] at H1
        refine G.seq ?_
        refine G.seq ?_
        refine G.rg ?_
        refine K.fieldAddr Y (gd0 rfl) rfl t99 rfl rfl ?_
        refine K.load1 Y (gd0 rfl) rfl rfl t3 rfl rfl ?_
        refine K.bin (V := .bool (v1.gen != 0)) (gd0 rfl) rfl rfl (fun _ => rfl) rfl ?_
        refine K.nil ?_
        refine At.next ?_
        refine G.cond rfl (fun h1 => ?_) (fun h1 => ?_)
        ·
          replace H1 := bif_t H1 h1
          refine G.skip ?_
          refine At.next ?_
          refine G.seq ?_
          refine G.block ?_
          refine G.seq ?_
          obtain ⟨x2, hx2, H1⟩ := bnd H1
          refine G.rg ?_
          refine K.move (.inl rfl) (gd0 rfl) rfl rfl ?_
          refine K.loadS Y [_, _] (gd0 rfl) rfl rfl t99 rfl rfl rfl ?_
          refine K.callR [(.func 76, _), ((.tmp 17), _), ((.tmp 18), _)] (Tree_getS_con (k := k) hx2 0 1) (toFn_func (cf 76 rfl) rfl) (gd0 rfl) ⟨rfl, rfl, rfl, trivial⟩ ⟨rfl, rfl, trivial⟩ rfl rfl rfl ?_
          refine K.alloc Y 113 [_, _, _, _, _, _, _, _, _, _] (gd0 rfl) t124 rfl rfl rfl rfl rfl ?_
          refine K.store Y [_, _, _, _, _, _, _, _, _, _] (gd0 rfl) rfl rfl rfl t124 rfl rfl rfl rfl rfl ?_
          refine K.nil ?_
          refine At.next ?_
          refine G.seq ?_
          obtain ⟨x3, hx3, H1⟩ := bnd H1
          refine G.rg ?_
          refine K.loadS Y [_, _, _, _] (gd0 rfl) rfl rfl t72 rfl rfl rfl ?_
          refine K.mkIface Y (gd0 rfl) rfl (mkI Try.underlying72 rfl) rfl ?_
          refine K.fieldAddr Y (gd0 rfl) rfl t124 rfl rfl ?_
          refine K.loadS Y [_, _, _, _] (gd0 rfl) rfl rfl t72 rfl rfl rfl ?_
          refine K.callR [((.tmp 21), _), ((.tmp 23), _)] (shelf_Slot_Compare_con (k := k) hx3) (toFn_invoke (cf 45 rfl) (me72_45) rfl) (gd0 rfl) ⟨rfl, rfl, trivial⟩ trivial rfl rfl rfl ?_
          refine K.move (.inr rfl) (gd0 rfl) rfl rfl ?_
          refine K.nil ?_
          refine At.next ?_
          refine G.seq ?_
          refine G.seq ?_
          refine G.rg ?_
          refine K.move (.inl rfl) (gd0 rfl) rfl rfl ?_
          refine K.bin (V := .bool (x3 == 0)) (gd0 rfl) rfl rfl (fun _ => rfl) rfl ?_
          refine K.nil ?_
          refine At.next ?_
          refine G.cond rfl (fun h2 => ?_) (fun h2 => ?_)
          ·
            replace H1 := bif_t H1 h2
            refine G.seq ?_
            refine G.rg ?_
            refine K.fieldAddr Y (gd0 rfl) rfl t124 rfl rfl ?_
            refine K.loadS Y [_, _, _, _] (gd0 rfl) rfl rfl t72 rfl rfl rfl ?_
            refine K.store Y [_, _, _, _] (gd0 rfl) rfl rfl rfl t72 rfl rfl rfl rfl rfl ?_
            refine K.move (.inr rfl) (gd0 rfl) rfl rfl ?_
            refine K.nil ?_
            refine At.next ?_
            refine G.ret ?_
            refine At.over_ret ?_
            refine At.block_ret ?_
            refine At.over_ret ?_
            refine At.over_ret ?_
            refine At.block_ret ?_
            refine At.over_ret ?_
            cases H1
            replace H0 := sum_l H0
            refine At.done Y [(.cell 4 72, .agg [_, _, _, _]), (.tmp 5, .c _)] rfl ⟨.st rfl rfl t72 rfl rfl, .tmp rfl, trivial⟩ (to' := [(0, _), (1, _)]) ⟨rfl, rfl, trivial⟩ ?_ ?_ rfl rfl rfl (.inl rfl)
            · cases H0; rfl
            · cases H0; rfl
          ·
            replace H1 := bif_f H1 h2
            refine G.skip ?_
            refine At.next ?_
            refine G.seq ?_
            refine G.rg ?_
            refine K.fieldAddr Y (gd0 rfl) rfl t124 rfl rfl ?_
            refine K.loadS Y [_, _] (gd0 rfl) rfl rfl t99 rfl rfl rfl ?_
            refine K.store Y [_, _] (gd0 rfl) rfl rfl rfl t99 rfl rfl rfl rfl rfl ?_
            refine K.nil ?_
            refine At.next ?_
            refine G.seq ?_
            refine G.rg ?_
            refine K.move (.inl rfl) (gd0 rfl) rfl rfl ?_
            refine K.bin (V := .bool (decide (x3 < 0))) (gd0 rfl) rfl rfl (fun _ => rfl) rfl ?_
            refine K.nil ?_
            refine At.next ?_
            refine G.cond rfl (fun h3 => ?_) (fun h3 => ?_)
            ·
              replace H1 := bif_t H1 h3
              refine G.rg ?_
              refine K.fieldAddr Y (gd0 rfl) rfl t124 rfl rfl ?_
              refine K.loadS Y [_, _] (gd0 rfl) rfl rfl t99 rfl rfl rfl ?_
              refine K.store Y [_, _] (gd0 rfl) rfl rfl rfl t99 rfl rfl rfl rfl rfl ?_
              refine K.nil ?_
              refine At.block_normal ?_
              refine At.next ?_
              refine G.seq ?_
              refine G.rg ?_
              refine K.loadS Y [_, _] (gd0 rfl) rfl rfl t99 rfl rfl rfl ?_
              refine K.nil ?_
              refine At.next ?_
              refine G.rg ?_
              refine K.alloc Y 114 [_, _] (gd0 rfl) t99 rfl rfl rfl rfl rfl ?_
              refine K.store Y [_, _] (gd0 rfl) rfl rfl rfl t99 rfl rfl rfl rfl rfl ?_
              refine K.nil ?_
              exact At.again (σ := { q : Nat × (TRef) // Tree_Find.l0 opsS k p1 a1 q.1 q.2 = some x1 }) (Fs := fun q => [(0, .a (.c (.p 0 0))), (3, .a (.c (.p 110 0))), (4, .a (.c (.p 111 0))), (6, .a (.c (.p 112 0)))]) (Tl := fun q => [(1, plS 1 p1), (0, blk 0 [.p 1 0, .v (.int .i64 rt0.index), .v (.int .i64 rt0.gen)] 122), (110, blk 110 [.v (.int .i64 a1.item.key), .v (.int .i64 a1.item.id), .v (.bool a1.eaten), .v (.int .i64 a1.time)] 72), (111, blk 111 [.v (.int .i64 0), .v (.int .i64 0), .v (.bool false), .v (.int .i64 0)] 72), (112, blk 112 [.v (.int .i64 q.1.2.index), .v (.int .i64 q.1.2.gen)] 99)]) (μ := fun q => q.1.1) (s := ⟨(n0 + 1, v1), HL0⟩) ⟨(n0, x2.left), H1⟩ [(112, 114)] [_, _, _, _, _] (Nat.lt_succ_self _) rfl ⟨rfl, rfl, rfl, rfl, trivial⟩ ⟨rfl, (pl_ren rfl), rfl, (blk_ren rfl rfl), rfl, (blk_ren rfl rfl), rfl, (blk_ren rfl rfl), rfl, (blk_ren rfl rfl), trivial⟩ rfl
            ·
              replace H1 := bif_f H1 h3
              refine G.skip ?_
              refine At.block_normal ?_
              refine At.next ?_
              refine G.seq ?_
              refine G.rg ?_
              refine K.loadS Y [_, _] (gd0 rfl) rfl rfl t99 rfl rfl rfl ?_
              refine K.nil ?_
              refine At.next ?_
              refine G.rg ?_
              refine K.alloc Y 115 [_, _] (gd0 rfl) t99 rfl rfl rfl rfl rfl ?_
              refine K.store Y [_, _] (gd0 rfl) rfl rfl rfl t99 rfl rfl rfl rfl rfl ?_
              refine K.nil ?_
              exact At.again (σ := { q : Nat × (TRef) // Tree_Find.l0 opsS k p1 a1 q.1 q.2 = some x1 }) (Fs := fun q => [(0, .a (.c (.p 0 0))), (3, .a (.c (.p 110 0))), (4, .a (.c (.p 111 0))), (6, .a (.c (.p 112 0)))]) (Tl := fun q => [(1, plS 1 p1), (0, blk 0 [.p 1 0, .v (.int .i64 rt0.index), .v (.int .i64 rt0.gen)] 122), (110, blk 110 [.v (.int .i64 a1.item.key), .v (.int .i64 a1.item.id), .v (.bool a1.eaten), .v (.int .i64 a1.time)] 72), (111, blk 111 [.v (.int .i64 0), .v (.int .i64 0), .v (.bool false), .v (.int .i64 0)] 72), (112, blk 112 [.v (.int .i64 q.1.2.index), .v (.int .i64 q.1.2.gen)] 99)]) (μ := fun q => q.1.1) (s := ⟨(n0 + 1, v1), HL0⟩) ⟨(n0, x2.right), H1⟩ [(112, 115)] [_, _, _, _, _] (Nat.lt_succ_self _) rfl ⟨rfl, rfl, rfl, rfl, trivial⟩ ⟨rfl, (pl_ren rfl), rfl, (blk_ren rfl rfl), rfl, (blk_ren rfl rfl), rfl, (blk_ren rfl rfl), rfl, (blk_ren rfl rfl), trivial⟩ rfl
        ·
          replace H1 := bif_f H1 h1
          refine G.exit ?_
          refine At.over_exit ?_
          refine At.over_exit ?_
          refine At.block_hit ?_
          exact At.joined (σ := { v : Unit // x1 = Sum.inr v }) (Fs := fun q => [(4, .a (.c (.p 102 0)))]) (Tl := fun q => [(102, blk 102 [.v (.int .i64 0), .v (.int .i64 0), .v (.bool false), .v (.int .i64 0)] 72), (1, plS 1 p1), (0, blk 0 [.p 1 0, .v (.int .i64 rt0.index), .v (.int .i64 rt0.gen)] 122)]) ⟨(), (Option.some.inj H1).symm⟩ [(102, 111)] [_, _, _] rfl ⟨rfl, trivial⟩ ⟨rfl, (blk_ren rfl rfl), rfl, (pl_ren rfl), rfl, (blk_ren rfl rfl), trivial⟩ rfl
  ·
    rintro ⟨v1, rfl⟩
    replace H0 := sum_r H0
    show G _ _ [(4, .a (.c (.p 102 0)))] [(102, some (blk 102 [.v (.int .i64 0), .v (.int .i64 0), .v (.bool false), .v (.int .i64 0)] 72)), (1, some (plS 1 p1)), (0, some (blk 0 [.p 1 0, .v (.int .i64 rt0.index), .v (.int .i64 rt0.gen)] 122))] _ _
    refine G.seq ?_
    refine G.rg ?_
    refine K.alloc Y 116 [_, _, _, _] (gd0 rfl) t72 rfl rfl rfl rfl rfl ?_
    refine K.nil ?_
    refine At.next ?_
    refine G.seq ?_
    refine G.rg ?_
    refine K.loadS Y [_, _, _, _] (gd0 rfl) rfl rfl t72 rfl rfl rfl ?_
    refine K.store Y [_, _, _, _] (gd0 rfl) rfl rfl rfl t72 rfl rfl rfl rfl rfl ?_
    refine K.move (.inr rfl) (gd0 rfl) rfl rfl ?_
    refine K.nil ?_
    refine At.next ?_
    refine G.ret ?_
    refine At.done Y [(.cell 4 72, .agg [_, _, _, _]), (.tmp 5, .c _)] rfl ⟨.st rfl rfl t72 rfl rfl, .tmp rfl, trivial⟩ (to' := [(0, _), (1, _)]) ⟨rfl, rfl, trivial⟩ ?_ ?_ rfl rfl rfl (.inl rfl)
    · cases H0; rfl
    · cases H0; rfl
theorem Tree_FindS_con {k : Nat}  {p1 : Pool (TNode TSlot TSize)} {rt0 : TRef} {a1 : TSlot} {r : TSlot × Bool}  (H0 : Tree_Find.f opsS k p1 rt0 a1 = some r) (m0 m1 : Nat) : SCon Try.prog 43 [SV.p m0 0, .a (.agg ((eTSlot a1).map .v))] [(m0, blk m0 [.p m1 0, .i rt0.index, .i rt0.gen] 122), (m1, plS m1 p1)] (.tup [.agg ((eTSlot r.1).map .v), .c (.v (.bool r.2))]) [(m0, blk m0 [.p m1 0, .i rt0.index, .i rt0.gen] 122), (m1, plS m1 p1)] [] :=
  SCon.ren (rn [(0, m0), (1, m1)]) (Tree_FindS_con0 (k := k)   H0) ⟨(blk_ren rfl rfl), (pl_ren rfl), trivial⟩ ⟨(blk_ren rfl rfl), (pl_ren rfl), trivial⟩ (by simp) (by simp)
theorem Tree_betweenS_con0 {k : Nat}  : ∀ {n : Nat} {p1 : Pool (TNode TSlot TSize)} {a1 : TRef} {a2 : Int} {a3 : Int} {ri0 rg0 : Int} {r : TSize}  (H0 : Tree_between.r opsS k n p1 a1 a2 a3 = some r), SCon Try.prog 81 [SV.p 0 0, .a (.agg ((eTRef a1).map .v)), .a (.c (.v (.int .i64 a2))), .a (.c (.v (.int .i64 a3)))] [(0, blk 0 [.p 1 0, .i ri0, .i rg0] 122), (1, plS 1 p1)] (.a (.c (.v (.int .i64 r)))) [(0, blk 0 [.p 1 0, .i ri0, .i rg0] 122), (1, plS 1 p1)] [] := by
  intro n
  induction n with
  | zero => intro p1 a1 a2 a3 ri0 rg0 r H0; exact absurd H0 (by simp [Tree_between.r])
  | succ n ih =>
    intro p1 a1 a2 a3 ri0 rg0 r H0
    rw [Tree_between.r] at H0
    refine spec_of [(0, _), (1, _), (2, _), (3, _)] [(0, _), (1, _)] 85 Try.func81 rfl Try.ntmps81 rfl rfl rfl rfl (fun β W F => ?_)
    refine G.seq ?_
    refine G.rg ?_
    refine K.box Y 100 [_, _] (gd0 rfl) rfl rfl rfl rfl rfl rfl ?_
    refine K.move (.inr rfl) (gd0 rfl) rfl rfl ?_
    refine K.nil ?_
    refine At.next ?_
    refine G.seq ?_
    obtain ⟨x1, hx1, H0⟩ := bnd H0
    refine G.rg ?_
    refine K.move (.inl rfl) (gd0 rfl) rfl rfl ?_
    refine K.loadS Y [_, _] (gd0 rfl) rfl rfl t99 rfl rfl rfl ?_
    refine K.callR [(.func 76, _), ((.tmp 12), _), ((.tmp 13), _)] (Tree_getS_con (k := k) hx1 0 1) (toFn_func (cf 76 rfl) rfl) (gd0 rfl) ⟨rfl, rfl, rfl, trivial⟩ ⟨rfl, rfl, trivial⟩ rfl rfl rfl ?_
    refine K.alloc Y 101 [_, _, _, _, _, _, _, _, _, _] (gd0 rfl) t124 rfl rfl rfl rfl rfl ?_
    refine K.store Y [_, _, _, _, _, _, _, _, _, _] (gd0 rfl) rfl rfl rfl t124 rfl rfl rfl rfl rfl ?_
    refine K.nil ?_
    refine At.next ?_
    refine G.seq ?_
    refine G.rg ?_
    refine K.move (.inr rfl) (gd0 rfl) rfl rfl ?_
    refine K.nil ?_
    refine At.next ?_
    obtain ⟨x2, H1, H0⟩ := bnd H0
    refine G.seqJ (σ := { v : Unit // x2 = Sum.inr v }) (fun q => [(0, .a (.c (.p 0 0))), (2, .a (.c (.v (.int .i64 a2)))), (3, .a (.c (.v (.int .i64 a3)))), (9, .a (.c (.p 102 0)))]) (fun q => [(1, plS 1 p1), (0, blk 0 [.p 1 0, .v (.int .i64 ri0), .v (.int .i64 rg0)] 122), (102, blk 102 [.v (.int .i64 x1.e.item.key), .v (.int .i64 x1.e.item.id), .v (.bool x1.e.eaten), .v (.int .i64 x1.e.time), .v (.int .i64 x1.left.index), .v (.int .i64 x1.left.gen), .v (.int .i64 x1.right.index), .v (.int .i64 x1.right.gen), .v (.int .i64 x1.size), .v (.int .i64 x1.sum)] 124)]) ?_ ?_
    ·
      refine G.seq ?_
      rcases Bool.eq_false_or_eq_true (decide (a2 ≥ a3)) with h1 | h1
      ·
        replace H1 := bif_t H1 h1
        refine G.rg ?_
        refine K.move (.inl rfl) (gd0 rfl) rfl rfl ?_
        refine K.move (.inl rfl) (gd0 rfl) rfl rfl ?_
        refine K.bin (V := .bool (decide (a2 ≥ a3))) (gd0 rfl) rfl rfl (fun _ => rfl) rfl ?_
        refine K.move (.inl rfl) (gd0 rfl) rfl rfl ?_
        refine K.skip rfl rfl rfl rfl (h1) rfl ?_
        refine K.skip rfl rfl rfl rfl (h1) rfl ?_
        refine K.skip rfl rfl rfl rfl (h1) rfl ?_
        refine K.skip rfl rfl rfl rfl (h1) rfl ?_
        refine K.pickT (gd0 rfl) rfl (h1) rfl rfl ?_
        refine K.move (.inl rfl) (gd0 rfl) rfl rfl ?_
        refine K.skip rfl rfl rfl rfl (rfl) rfl ?_
        refine K.skip rfl rfl rfl rfl (rfl) rfl ?_
        refine K.pickT (gd0 rfl) rfl (rfl) rfl rfl ?_
        refine K.move (.inl rfl) (gd0 rfl) rfl rfl ?_
        refine K.skip rfl rfl rfl rfl (rfl) rfl ?_
        refine K.skip rfl rfl rfl rfl (rfl) rfl ?_
        refine K.skip rfl rfl rfl rfl (rfl) rfl ?_
        refine K.pickT (gd0 rfl) rfl (rfl) rfl rfl ?_
        refine K.nil ?_
        refine At.next ?_
        refine G.cond rfl (fun h2 => ?_) (fun h2 => ?_)
        ·
          refine G.seq ?_
          refine G.rg ?_
          refine K.move (.inl rfl) (gd0 rfl) rfl rfl ?_
          refine K.move (.inr rfl) (gd0 rfl) rfl rfl ?_
          refine K.nil ?_
          refine At.next ?_
          refine G.ret ?_
          refine At.over_ret ?_
          cases H1
          replace H0 := sum_l H0
          refine At.done Y [(.tmp 8, .c _)] rfl ⟨.tmp rfl, trivial⟩ (to' := [(0, _), (1, _)]) ⟨rfl, rfl, trivial⟩ ?_ ?_ rfl rfl rfl (.inl rfl)
          · cases H0; rfl
          · cases H0; rfl
        · cases h2
      ·
        replace H1 := bif_f H1 h1
        rcases Bool.eq_false_or_eq_true (decide (a2 ≥ x1.size)) with h3 | h3
        ·
          replace H1 := bif_t H1 h3
          refine G.rg ?_
          refine K.move (.inl rfl) (gd0 rfl) rfl rfl ?_
          refine K.move (.inl rfl) (gd0 rfl) rfl rfl ?_
          refine K.bin (V := .bool (decide (a2 ≥ a3))) (gd0 rfl) rfl rfl (fun _ => rfl) rfl ?_
          refine K.move (.inl rfl) (gd0 rfl) rfl rfl ?_
          refine K.move (.inl rfl) (gd1 rfl rfl rfl (h1)) rfl rfl ?_
          refine K.fieldAddr Y (gd1 rfl rfl rfl (h1)) rfl t124 rfl rfl ?_
          refine K.load1 Y (gd1 rfl rfl rfl (h1)) rfl rfl t3 rfl rfl ?_
          refine K.bin (V := .bool (decide (a2 ≥ x1.size))) (gd1 rfl rfl rfl (h1)) rfl rfl (fun _ => rfl) rfl ?_
          refine K.pickF (gd0 rfl) rfl (h1) rfl rfl ?_
          refine K.move (.inl rfl) (gd0 rfl) rfl rfl ?_
          refine K.skip rfl rfl rfl rfl (h3) rfl ?_
          refine K.skip rfl rfl rfl rfl (h3) rfl ?_
          refine K.pickT (gd0 rfl) rfl (h3) rfl rfl ?_
          refine K.move (.inl rfl) (gd0 rfl) rfl rfl ?_
          refine K.skip rfl rfl rfl rfl (rfl) rfl ?_
          refine K.skip rfl rfl rfl rfl (rfl) rfl ?_
          refine K.skip rfl rfl rfl rfl (rfl) rfl ?_
          refine K.pickT (gd0 rfl) rfl (rfl) rfl rfl ?_
          refine K.nil ?_
          refine At.next ?_
          refine G.cond rfl (fun h4 => ?_) (fun h4 => ?_)
          ·
            refine G.seq ?_
            refine G.rg ?_
            refine K.move (.inl rfl) (gd0 rfl) rfl rfl ?_
            refine K.move (.inr rfl) (gd0 rfl) rfl rfl ?_
            refine K.nil ?_
            refine At.next ?_
            refine G.ret ?_
            refine At.over_ret ?_
            cases H1
            replace H0 := sum_l H0
            refine At.done Y [(.tmp 8, .c _)] rfl ⟨.tmp rfl, trivial⟩ (to' := [(0, _), (1, _)]) ⟨rfl, rfl, trivial⟩ ?_ ?_ rfl rfl rfl (.inl rfl)
            · cases H0; rfl
            · cases H0; rfl
          · cases h4
        ·
          replace H1 := bif_f H1 h3
          rcases Bool.eq_false_or_eq_true (decide (a3 ≤ 0)) with h5 | h5
          ·
            replace H1 := bif_t H1 h5
            refine G.rg ?_
            refine K.move (.inl rfl) (gd0 rfl) rfl rfl ?_
            refine K.move (.inl rfl) (gd0 rfl) rfl rfl ?_
            refine K.bin (V := .bool (decide (a2 ≥ a3))) (gd0 rfl) rfl rfl (fun _ => rfl) rfl ?_
            refine K.move (.inl rfl) (gd0 rfl) rfl rfl ?_
            refine K.move (.inl rfl) (gd1 rfl rfl rfl (h1)) rfl rfl ?_
            refine K.fieldAddr Y (gd1 rfl rfl rfl (h1)) rfl t124 rfl rfl ?_
            refine K.load1 Y (gd1 rfl rfl rfl (h1)) rfl rfl t3 rfl rfl ?_
            refine K.bin (V := .bool (decide (a2 ≥ x1.size))) (gd1 rfl rfl rfl (h1)) rfl rfl (fun _ => rfl) rfl ?_
            refine K.pickF (gd0 rfl) rfl (h1) rfl rfl ?_
            refine K.move (.inl rfl) (gd0 rfl) rfl rfl ?_
            refine K.move (.inl rfl) (gd1 rfl rfl rfl (h3)) rfl rfl ?_
            refine K.bin (V := .bool (decide (a3 ≤ 0))) (gd1 rfl rfl rfl (h3)) rfl rfl (fun _ => rfl) rfl ?_
            refine K.pickF (gd0 rfl) rfl (h3) rfl rfl ?_
            refine K.move (.inl rfl) (gd0 rfl) rfl rfl ?_
            refine K.skip rfl rfl rfl rfl (h5) rfl ?_
            refine K.skip rfl rfl rfl rfl (h5) rfl ?_
            refine K.skip rfl rfl rfl rfl (h5) rfl ?_
            refine K.pickT (gd0 rfl) rfl (h5) rfl rfl ?_
            refine K.nil ?_
            refine At.next ?_
            refine G.cond rfl (fun h6 => ?_) (fun h6 => ?_)
            ·
              refine G.seq ?_
              refine G.rg ?_
              refine K.move (.inl rfl) (gd0 rfl) rfl rfl ?_
              refine K.move (.inr rfl) (gd0 rfl) rfl rfl ?_
              refine K.nil ?_
              refine At.next ?_
              refine G.ret ?_
              refine At.over_ret ?_
              cases H1
              replace H0 := sum_l H0
              refine At.done Y [(.tmp 8, .c _)] rfl ⟨.tmp rfl, trivial⟩ (to' := [(0, _), (1, _)]) ⟨rfl, rfl, trivial⟩ ?_ ?_ rfl rfl rfl (.inl rfl)
              · cases H0; rfl
              · cases H0; rfl
            · cases h6
          ·
            replace H1 := bif_f H1 h5
            refine G.rg ?_
            refine K.move (.inl rfl) (gd0 rfl) rfl rfl ?_
            refine K.move (.inl rfl) (gd0 rfl) rfl rfl ?_
            refine K.bin (V := .bool (decide (a2 ≥ a3))) (gd0 rfl) rfl rfl (fun _ => rfl) rfl ?_
            refine K.move (.inl rfl) (gd0 rfl) rfl rfl ?_
            refine K.move (.inl rfl) (gd1 rfl rfl rfl (h1)) rfl rfl ?_
            refine K.fieldAddr Y (gd1 rfl rfl rfl (h1)) rfl t124 rfl rfl ?_
            refine K.load1 Y (gd1 rfl rfl rfl (h1)) rfl rfl t3 rfl rfl ?_
            refine K.bin (V := .bool (decide (a2 ≥ x1.size))) (gd1 rfl rfl rfl (h1)) rfl rfl (fun _ => rfl) rfl ?_
            refine K.pickF (gd0 rfl) rfl (h1) rfl rfl ?_
            refine K.move (.inl rfl) (gd0 rfl) rfl rfl ?_
            refine K.move (.inl rfl) (gd1 rfl rfl rfl (h3)) rfl rfl ?_
            refine K.bin (V := .bool (decide (a3 ≤ 0))) (gd1 rfl rfl rfl (h3)) rfl rfl (fun _ => rfl) rfl ?_
            refine K.pickF (gd0 rfl) rfl (h3) rfl rfl ?_
            refine K.move (.inl rfl) (gd0 rfl) rfl rfl ?_
            refine K.fieldAddr Y (gd1 rfl rfl rfl (h5)) rfl t124 rfl rfl ?_
            refine K.load1 Y (gd1 rfl rfl rfl (h5)) rfl rfl t3 rfl rfl ?_
            refine K.bin (V := .bool (x1.size == 0)) (gd1 rfl rfl rfl (h5)) rfl rfl (fun _ => rfl) rfl ?_
            refine K.pickF (gd0 rfl) rfl (h5) rfl rfl ?_
            refine K.nil ?_
            refine At.next ?_
            refine G.cond rfl (fun h7 => ?_) (fun h7 => ?_)
            ·
              replace H1 := bif_t H1 h7
              refine G.seq ?_
              refine G.rg ?_
              refine K.move (.inl rfl) (gd0 rfl) rfl rfl ?_
              refine K.move (.inr rfl) (gd0 rfl) rfl rfl ?_
              refine K.nil ?_
              refine At.next ?_
              refine G.ret ?_
              refine At.over_ret ?_
              cases H1
              replace H0 := sum_l H0
              refine At.done Y [(.tmp 8, .c _)] rfl ⟨.tmp rfl, trivial⟩ (to' := [(0, _), (1, _)]) ⟨rfl, rfl, trivial⟩ ?_ ?_ rfl rfl rfl (.inl rfl)
              · cases H0; rfl
              · cases H0; rfl
            ·
              replace H1 := bif_f H1 h7
              refine G.skip ?_
              exact At.joined (σ := { v : Unit // x2 = Sum.inr v }) (Fs := fun q => [(0, .a (.c (.p 0 0))), (2, .a (.c (.v (.int .i64 a2)))), (3, .a (.c (.v (.int .i64 a3)))), (9, .a (.c (.p 102 0)))]) (Tl := fun q => [(1, plS 1 p1), (0, blk 0 [.p 1 0, .v (.int .i64 ri0), .v (.int .i64 rg0)] 122), (102, blk 102 [.v (.int .i64 x1.e.item.key), .v (.int .i64 x1.e.item.id), .v (.bool x1.e.eaten), .v (.int .i64 x1.e.time), .v (.int .i64 x1.left.index), .v (.int .i64 x1.left.gen), .v (.int .i64 x1.right.index), .v (.int .i64 x1.right.gen), .v (.int .i64 x1.size), .v (.int .i64 x1.sum)] 124)]) ⟨(), (Option.some.inj H1).symm⟩ [(102, 101)] [_, _, _] rfl ⟨rfl, rfl, rfl, rfl, trivial⟩ ⟨rfl, (pl_ren rfl), rfl, (blk_ren rfl rfl), rfl, (blk_ren rfl rfl), trivial⟩ rfl
    ·
      rintro ⟨v2, rfl⟩
      replace H0 := sum_r H0
      show G _ _ [(0, .a (.c (.p 0 0))), (2, .a (.c (.v (.int .i64 a2)))), (3, .a (.c (.v (.int .i64 a3)))), (9, .a (.c (.p 102 0)))] [(1, some (plS 1 p1)), (0, some (blk 0 [.p 1 0, .v (.int .i64 ri0), .v (.int .i64 rg0)] 122)), (102, some (blk 102 [.v (.int .i64 x1.e.item.key), .v (.int .i64 x1.e.item.id), .v (.bool x1.e.eaten), .v (.int .i64 x1.e.time), .v (.int .i64 x1.left.index), .v (.int .i64 x1.left.gen), .v (.int .i64 x1.right.index), .v (.int .i64 x1.right.gen), .v (.int .i64 x1.size), .v (.int .i64 x1.sum)] 124))] _ _
      obtain ⟨x3, H1, H0⟩ := bnd H0
      refine G.seqJ (σ := { v : Unit // x3 = Sum.inr v }) (fun q => [(0, .a (.c (.p 0 0))), (2, .a (.c (.v (.int .i64 a2)))), (3, .a (.c (.v (.int .i64 a3)))), (9, .a (.c (.p 103 0)))]) (fun q => [(1, plS 1 p1), (0, blk 0 [.p 1 0, .v (.int .i64 ri0), .v (.int .i64 rg0)] 122), (103, blk 103 [.v (.int .i64 x1.e.item.key), .v (.int .i64 x1.e.item.id), .v (.bool x1.e.eaten), .v (.int .i64 x1.e.time), .v (.int .i64 x1.left.index), .v (.int .i64 x1.left.gen), .v (.int .i64 x1.right.index), .v (.int .i64 x1.right.gen), .v (.int .i64 x1.size), .v (.int .i64 x1.sum)] 124)]) ?_ ?_
      ·
        refine G.seq ?_
        rcases Bool.eq_false_or_eq_true (decide (a2 ≤ 0)) with h8 | h8
        ·
          replace H1 := bif_t H1 h8
          refine G.rg ?_
          refine K.move (.inl rfl) (gd0 rfl) rfl rfl ?_
          refine K.bin (V := .bool (decide (a2 ≤ 0))) (gd0 rfl) rfl rfl (fun _ => rfl) rfl ?_
          refine K.move (.inl rfl) (gd0 rfl) rfl rfl ?_
          refine K.move (.inl rfl) (gd1 rfl rfl rfl (h8)) rfl rfl ?_
          refine K.fieldAddr Y (gd1 rfl rfl rfl (h8)) rfl t124 rfl rfl ?_
          refine K.load1 Y (gd1 rfl rfl rfl (h8)) rfl rfl t3 rfl rfl ?_
          refine K.bin (V := .bool (decide (a3 ≥ x1.size))) (gd1 rfl rfl rfl (h8)) rfl rfl (fun _ => rfl) rfl ?_
          refine K.pickT (gd0 rfl) rfl (h8) rfl rfl ?_
          refine K.nil ?_
          refine At.next ?_
          refine G.cond rfl (fun h9 => ?_) (fun h9 => ?_)
          ·
            replace H1 := bif_t H1 h9
            refine G.seq ?_
            refine G.rg ?_
            refine K.fieldAddr Y (gd0 rfl) rfl t124 rfl rfl ?_
            refine K.load1 Y (gd0 rfl) rfl rfl t76 rfl rfl ?_
            refine K.move (.inr rfl) (gd0 rfl) rfl rfl ?_
            refine K.nil ?_
            refine At.next ?_
            refine G.ret ?_
            refine At.over_ret ?_
            cases H1
            replace H0 := sum_l H0
            refine At.done Y [(.tmp 8, .c _)] rfl ⟨.tmp rfl, trivial⟩ (to' := [(0, _), (1, _)]) ⟨rfl, rfl, trivial⟩ ?_ ?_ rfl rfl rfl (.inl rfl)
            · cases H0; rfl
            · cases H0; rfl
          ·
            replace H1 := bif_f H1 h9
            refine G.skip ?_
            exact At.joined (σ := { v : Unit // x3 = Sum.inr v }) (Fs := fun q => [(0, .a (.c (.p 0 0))), (2, .a (.c (.v (.int .i64 a2)))), (3, .a (.c (.v (.int .i64 a3)))), (9, .a (.c (.p 103 0)))]) (Tl := fun q => [(1, plS 1 p1), (0, blk 0 [.p 1 0, .v (.int .i64 ri0), .v (.int .i64 rg0)] 122), (103, blk 103 [.v (.int .i64 x1.e.item.key), .v (.int .i64 x1.e.item.id), .v (.bool x1.e.eaten), .v (.int .i64 x1.e.time), .v (.int .i64 x1.left.index), .v (.int .i64 x1.left.gen), .v (.int .i64 x1.right.index), .v (.int .i64 x1.right.gen), .v (.int .i64 x1.size), .v (.int .i64 x1.sum)] 124)]) ⟨(), (Option.some.inj H1).symm⟩ [(103, 102)] [_, _, _] rfl ⟨rfl, rfl, rfl, rfl, trivial⟩ ⟨rfl, (pl_ren rfl), rfl, (blk_ren rfl rfl), rfl, (blk_ren rfl rfl), trivial⟩ rfl
        ·
          replace H1 := bif_f H1 h8
          refine G.rg ?_
          refine K.move (.inl rfl) (gd0 rfl) rfl rfl ?_
          refine K.bin (V := .bool (decide (a2 ≤ 0))) (gd0 rfl) rfl rfl (fun _ => rfl) rfl ?_
          refine K.move (.inl rfl) (gd0 rfl) rfl rfl ?_
          refine K.skip rfl rfl rfl rfl (h8) rfl ?_
          refine K.skip rfl rfl rfl rfl (h8) rfl ?_
          refine K.skip rfl rfl rfl rfl (h8) rfl ?_
          refine K.skip rfl rfl rfl rfl (h8) rfl ?_
          refine K.pickF (gd0 rfl) rfl (h8) rfl rfl ?_
          refine K.nil ?_
          refine At.next ?_
          refine G.cond rfl (fun h10 => ?_) (fun h10 => ?_)
          · cases h10
          ·
            refine G.skip ?_
            exact At.joined (σ := { v : Unit // x3 = Sum.inr v }) (Fs := fun q => [(0, .a (.c (.p 0 0))), (2, .a (.c (.v (.int .i64 a2)))), (3, .a (.c (.v (.int .i64 a3)))), (9, .a (.c (.p 103 0)))]) (Tl := fun q => [(1, plS 1 p1), (0, blk 0 [.p 1 0, .v (.int .i64 ri0), .v (.int .i64 rg0)] 122), (103, blk 103 [.v (.int .i64 x1.e.item.key), .v (.int .i64 x1.e.item.id), .v (.bool x1.e.eaten), .v (.int .i64 x1.e.time), .v (.int .i64 x1.left.index), .v (.int .i64 x1.left.gen), .v (.int .i64 x1.right.index), .v (.int .i64 x1.right.gen), .v (.int .i64 x1.size), .v (.int .i64 x1.sum)] 124)]) ⟨(), (Option.some.inj H1).symm⟩ [(103, 102)] [_, _, _] rfl ⟨rfl, rfl, rfl, rfl, trivial⟩ ⟨rfl, (pl_ren rfl), rfl, (blk_ren rfl rfl), rfl, (blk_ren rfl rfl), trivial⟩ rfl
      ·
        rintro ⟨v3, rfl⟩
        replace H0 := sum_r H0
        show G _ _ [(0, .a (.c (.p 0 0))), (2, .a (.c (.v (.int .i64 a2)))), (3, .a (.c (.v (.int .i64 a3)))), (9, .a (.c (.p 103 0)))] [(1, some (plS 1 p1)), (0, some (blk 0 [.p 1 0, .v (.int .i64 ri0), .v (.int .i64 rg0)] 122)), (103, some (blk 103 [.v (.int .i64 x1.e.item.key), .v (.int .i64 x1.e.item.id), .v (.bool x1.e.eaten), .v (.int .i64 x1.e.time), .v (.int .i64 x1.left.index), .v (.int .i64 x1.left.gen), .v (.int .i64 x1.right.index), .v (.int .i64 x1.right.gen), .v (.int .i64 x1.size), .v (.int .i64 x1.sum)] 124))] _ _
        refine G.seq ?_
        obtain ⟨x4, hx4, H0⟩ := bnd H0
        refine G.rg ?_
        refine K.move (.inl rfl) (gd0 rfl) rfl rfl ?_
        refine K.fieldAddr Y (gd0 rfl) rfl t124 rfl rfl ?_
        refine K.loadS Y [_, _] (gd0 rfl) rfl rfl t99 rfl rfl rfl ?_
        refine K.callR [(.func 76, _), ((.tmp 44), _), ((.tmp 46), _)] (Tree_getS_con (k := k) hx4 0 1) (toFn_func (cf 76 rfl) rfl) (gd0 rfl) ⟨rfl, rfl, rfl, trivial⟩ ⟨rfl, rfl, trivial⟩ rfl rfl rfl ?_
        refine K.field1 Y (gd0 rfl) rfl t124 rfl t3 rfl rfl ?_
        refine K.move (.inr rfl) (gd0 rfl) rfl rfl ?_
        refine K.nil ?_
        refine At.next ?_
        refine G.seq ?_
        obtain ⟨x5, hx5, H0⟩ := bnd H0
        refine G.rg ?_
        refine K.move (.inl rfl) (gd0 rfl) rfl rfl ?_
        refine K.fieldAddr Y (gd0 rfl) rfl t124 rfl rfl ?_
        refine K.loadS Y [_, _] (gd0 rfl) rfl rfl t99 rfl rfl rfl ?_
        refine K.move (.inl rfl) (gd0 rfl) rfl rfl ?_
        refine K.move (.inl rfl) (gd0 rfl) rfl rfl ?_
        refine K.callR [(.func 81, _), ((.tmp 49), _), ((.tmp 51), _), ((.tmp 52), _), ((.tmp 53), _)] (ih hx5) (toFn_func (cf 81 rfl) rfl) (gd0 rfl) ⟨rfl, rfl, rfl, rfl, rfl, trivial⟩ ⟨rfl, rfl, trivial⟩ rfl rfl rfl ?_
        refine K.move (.inr rfl) (gd0 rfl) rfl rfl ?_
        refine K.nil ?_
        refine At.next ?_
        obtain ⟨x6, H1, H0⟩ := bnd H0
        refine G.seqJ (σ := { v : TSize // x6 = v }) (fun q => [(0, .a (.c (.p 0 0))), (2, .a (.c (.v (.int .i64 a2)))), (3, .a (.c (.v (.int .i64 a3)))), (9, .a (.c (.p 104 0))), (10, .a (.c (.v (.int .i64 q.1)))), (11, .a (.c (.v (.int .i64 x4.size))))]) (fun q => [(1, plS 1 p1), (0, blk 0 [.p 1 0, .v (.int .i64 ri0), .v (.int .i64 rg0)] 122), (104, blk 104 [.v (.int .i64 x1.e.item.key), .v (.int .i64 x1.e.item.id), .v (.bool x1.e.eaten), .v (.int .i64 x1.e.time), .v (.int .i64 x1.left.index), .v (.int .i64 x1.left.gen), .v (.int .i64 x1.right.index), .v (.int .i64 x1.right.gen), .v (.int .i64 x1.size), .v (.int .i64 x1.sum)] 124)]) ?_ ?_
        ·
          refine G.seq ?_
          rcases Bool.eq_false_or_eq_true (decide (a2 ≤ x4.size)) with h11 | h11
          ·
            replace H1 := bif_t H1 h11
            refine G.rg ?_
            refine K.move (.inl rfl) (gd0 rfl) rfl rfl ?_
            refine K.move (.inl rfl) (gd0 rfl) rfl rfl ?_
            refine K.bin (V := .bool (decide (a2 ≤ x4.size))) (gd0 rfl) rfl rfl (fun _ => rfl) rfl ?_
            refine K.move (.inl rfl) (gd0 rfl) rfl rfl ?_
            refine K.move (.inl rfl) (gd1 rfl rfl rfl (h11)) rfl rfl ?_
            refine K.move (.inl rfl) (gd1 rfl rfl rfl (h11)) rfl rfl ?_
            refine K.bin (V := .bool (decide (a3 > x4.size))) (gd1 rfl rfl rfl (h11)) rfl rfl (fun _ => rfl) rfl ?_
            refine K.pickT (gd0 rfl) rfl (h11) rfl rfl ?_
            refine K.nil ?_
            refine At.next ?_
            refine G.cond rfl (fun h12 => ?_) (fun h12 => ?_)
            ·
              replace H1 := bif_t H1 h12
              obtain ⟨x7, hx7, H1⟩ := bnd H1
              obtain ⟨x8, hx8, H1⟩ := bnd H1
              refine G.rg ?_
              refine K.move (.inl rfl) (gd0 rfl) rfl rfl ?_
              refine K.mkIface Y (gd0 rfl) rfl (mkI Try.underlying76 rfl) rfl ?_
              refine K.fieldAddr Y (gd0 rfl) rfl t124 rfl rfl ?_
              refine K.loadS Y [_, _, _, _] (gd0 rfl) rfl rfl t72 rfl rfl rfl ?_
              refine K.mkIface Y (gd0 rfl) rfl (mkI Try.underlying72 rfl) rfl ?_
              refine K.callR [((.tmp 67), _)] (shelf_Slot_Sum_con (k := k) hx7) (toFn_invoke (cf 47 rfl) (me72_47) rfl) (gd0 rfl) ⟨rfl, trivial⟩ trivial rfl rfl rfl ?_
              refine K.callR [((.tmp 64), _), ((.tmp 68), _)] (shelf_Size_Plus_con (k := k) hx8) (toFn_invoke (cf 48 rfl) (me76_48) rfl) (gd0 rfl) ⟨rfl, rfl, trivial⟩ trivial rfl rfl rfl ?_
              refine K.move (.inr rfl) (gd0 rfl) rfl rfl ?_
              refine K.nil ?_
              exact At.joined (σ := { v : TSize // x6 = v }) (Fs := fun q => [(0, .a (.c (.p 0 0))), (2, .a (.c (.v (.int .i64 a2)))), (3, .a (.c (.v (.int .i64 a3)))), (9, .a (.c (.p 104 0))), (10, .a (.c (.v (.int .i64 q.1)))), (11, .a (.c (.v (.int .i64 x4.size))))]) (Tl := fun q => [(1, plS 1 p1), (0, blk 0 [.p 1 0, .v (.int .i64 ri0), .v (.int .i64 rg0)] 122), (104, blk 104 [.v (.int .i64 x1.e.item.key), .v (.int .i64 x1.e.item.id), .v (.bool x1.e.eaten), .v (.int .i64 x1.e.time), .v (.int .i64 x1.left.index), .v (.int .i64 x1.left.gen), .v (.int .i64 x1.right.index), .v (.int .i64 x1.right.gen), .v (.int .i64 x1.size), .v (.int .i64 x1.sum)] 124)]) ⟨x8, (Option.some.inj H1).symm⟩ [(104, 103)] [_, _, _] rfl ⟨rfl, rfl, rfl, rfl, rfl, rfl, trivial⟩ ⟨rfl, (pl_ren rfl), rfl, (blk_ren rfl rfl), rfl, (blk_ren rfl rfl), trivial⟩ rfl
            ·
              replace H1 := bif_f H1 h12
              refine G.skip ?_
              exact At.joined (σ := { v : TSize // x6 = v }) (Fs := fun q => [(0, .a (.c (.p 0 0))), (2, .a (.c (.v (.int .i64 a2)))), (3, .a (.c (.v (.int .i64 a3)))), (9, .a (.c (.p 104 0))), (10, .a (.c (.v (.int .i64 q.1)))), (11, .a (.c (.v (.int .i64 x4.size))))]) (Tl := fun q => [(1, plS 1 p1), (0, blk 0 [.p 1 0, .v (.int .i64 ri0), .v (.int .i64 rg0)] 122), (104, blk 104 [.v (.int .i64 x1.e.item.key), .v (.int .i64 x1.e.item.id), .v (.bool x1.e.eaten), .v (.int .i64 x1.e.time), .v (.int .i64 x1.left.index), .v (.int .i64 x1.left.gen), .v (.int .i64 x1.right.index), .v (.int .i64 x1.right.gen), .v (.int .i64 x1.size), .v (.int .i64 x1.sum)] 124)]) ⟨x5, (Option.some.inj H1).symm⟩ [(104, 103)] [_, _, _] rfl ⟨rfl, rfl, rfl, rfl, rfl, rfl, trivial⟩ ⟨rfl, (pl_ren rfl), rfl, (blk_ren rfl rfl), rfl, (blk_ren rfl rfl), trivial⟩ rfl
          ·
            replace H1 := bif_f H1 h11
            refine G.rg ?_
            refine K.move (.inl rfl) (gd0 rfl) rfl rfl ?_
            refine K.move (.inl rfl) (gd0 rfl) rfl rfl ?_
            refine K.bin (V := .bool (decide (a2 ≤ x4.size))) (gd0 rfl) rfl rfl (fun _ => rfl) rfl ?_
            refine K.move (.inl rfl) (gd0 rfl) rfl rfl ?_
            refine K.skip rfl rfl rfl rfl (h11) rfl ?_
            refine K.skip rfl rfl rfl rfl (h11) rfl ?_
            refine K.skip rfl rfl rfl rfl (h11) rfl ?_
            refine K.pickF (gd0 rfl) rfl (h11) rfl rfl ?_
            refine K.nil ?_
            refine At.next ?_
            refine G.cond rfl (fun h13 => ?_) (fun h13 => ?_)
            · cases h13
            ·
              refine G.skip ?_
              exact At.joined (σ := { v : TSize // x6 = v }) (Fs := fun q => [(0, .a (.c (.p 0 0))), (2, .a (.c (.v (.int .i64 a2)))), (3, .a (.c (.v (.int .i64 a3)))), (9, .a (.c (.p 104 0))), (10, .a (.c (.v (.int .i64 q.1)))), (11, .a (.c (.v (.int .i64 x4.size))))]) (Tl := fun q => [(1, plS 1 p1), (0, blk 0 [.p 1 0, .v (.int .i64 ri0), .v (.int .i64 rg0)] 122), (104, blk 104 [.v (.int .i64 x1.e.item.key), .v (.int .i64 x1.e.item.id), .v (.bool x1.e.eaten), .v (.int .i64 x1.e.time), .v (.int .i64 x1.left.index), .v (.int .i64 x1.left.gen), .v (.int .i64 x1.right.index), .v (.int .i64 x1.right.gen), .v (.int .i64 x1.size), .v (.int .i64 x1.sum)] 124)]) ⟨x5, (Option.some.inj H1).symm⟩ [(104, 103)] [_, _, _] rfl ⟨rfl, rfl, rfl, rfl, rfl, rfl, trivial⟩ ⟨rfl, (pl_ren rfl), rfl, (blk_ren rfl rfl), rfl, (blk_ren rfl rfl), trivial⟩ rfl
        ·
          rintro ⟨_, rfl⟩
          show G _ _ [(0, .a (.c (.p 0 0))), (2, .a (.c (.v (.int .i64 a2)))), (3, .a (.c (.v (.int .i64 a3)))), (9, .a (.c (.p 104 0))), (10, .a (.c (.v (.int .i64 x6)))), (11, .a (.c (.v (.int .i64 x4.size))))] [(1, some (plS 1 p1)), (0, some (blk 0 [.p 1 0, .v (.int .i64 ri0), .v (.int .i64 rg0)] 122)), (104, some (blk 104 [.v (.int .i64 x1.e.item.key), .v (.int .i64 x1.e.item.id), .v (.bool x1.e.eaten), .v (.int .i64 x1.e.time), .v (.int .i64 x1.left.index), .v (.int .i64 x1.left.gen), .v (.int .i64 x1.right.index), .v (.int .i64 x1.right.gen), .v (.int .i64 x1.size), .v (.int .i64 x1.sum)] 124))] _ _
          refine G.seq ?_
          obtain ⟨x9, hx9, H0⟩ := bnd H0
          obtain ⟨x10, hx10, H0⟩ := bnd H0
          refine G.rg ?_
          refine K.move (.inl rfl) (gd0 rfl) rfl rfl ?_
          refine K.mkIface Y (gd0 rfl) rfl (mkI Try.underlying76 rfl) rfl ?_
          refine K.move (.inl rfl) (gd0 rfl) rfl rfl ?_
          refine K.fieldAddr Y (gd0 rfl) rfl t124 rfl rfl ?_
          refine K.loadS Y [_, _] (gd0 rfl) rfl rfl t99 rfl rfl rfl ?_
          refine K.move (.inl rfl) (gd0 rfl) rfl rfl ?_
          refine K.move (.inl rfl) (gd0 rfl) rfl rfl ?_
          refine K.bin (V := .int .i64 (w64 (a2 - x4.size))) (gd0 rfl) rfl rfl (fun _ => rfl) rfl ?_
          refine K.bin (V := .int .i64 (w64 ((w64 (a2 - x4.size)) - 1))) (gd0 rfl) rfl rfl (fun _ => rfl) rfl ?_
          refine K.move (.inl rfl) (gd0 rfl) rfl rfl ?_
          refine K.move (.inl rfl) (gd0 rfl) rfl rfl ?_
          refine K.bin (V := .int .i64 (w64 (a3 - x4.size))) (gd0 rfl) rfl rfl (fun _ => rfl) rfl ?_
          refine K.bin (V := .int .i64 (w64 ((w64 (a3 - x4.size)) - 1))) (gd0 rfl) rfl rfl (fun _ => rfl) rfl ?_
          refine K.callR [(.func 81, _), ((.tmp 72), _), ((.tmp 74), _), ((.tmp 78), _), ((.tmp 82), _)] (ih hx9) (toFn_func (cf 81 rfl) rfl) (gd0 rfl) ⟨rfl, rfl, rfl, rfl, rfl, trivial⟩ ⟨rfl, rfl, trivial⟩ rfl rfl rfl ?_
          refine K.callR [((.tmp 71), _), ((.tmp 83), _)] (shelf_Size_Plus_con (k := k) hx10) (toFn_invoke (cf 48 rfl) (me76_48) rfl) (gd0 rfl) ⟨rfl, rfl, trivial⟩ trivial rfl rfl rfl ?_
          refine K.move (.inr rfl) (gd0 rfl) rfl rfl ?_
          refine K.nil ?_
          refine At.next ?_
          refine G.ret ?_
          refine At.done Y [(.tmp 8, .c _)] rfl ⟨.tmp rfl, trivial⟩ (to' := [(0, _), (1, _)]) ⟨rfl, rfl, trivial⟩ ?_ ?_ rfl rfl rfl (.inl rfl)
          · cases H0; rfl
          · cases H0; rfl
theorem Tree_betweenS_con {k n : Nat}  {p1 : Pool (TNode TSlot TSize)} {a1 : TRef} {a2 : Int} {a3 : Int} {ri0 rg0 : Int} {r : TSize}  (H0 : Tree_between.r opsS k n p1 a1 a2 a3 = some r) (m0 m1 : Nat) : SCon Try.prog 81 [SV.p m0 0, .a (.agg ((eTRef a1).map .v)), .a (.c (.v (.int .i64 a2))), .a (.c (.v (.int .i64 a3)))] [(m0, blk m0 [.p m1 0, .i ri0, .i rg0] 122), (m1, plS m1 p1)] (.a (.c (.v (.int .i64 r)))) [(m0, blk m0 [.p m1 0, .i ri0, .i rg0] 122), (m1, plS m1 p1)] [] :=
  SCon.ren (rn [(0, m0), (1, m1)]) (Tree_betweenS_con0 (k := k)   H0) ⟨(blk_ren rfl rfl), (pl_ren rfl), trivial⟩ ⟨(blk_ren rfl rfl), (pl_ren rfl), trivial⟩ (by simp) (by simp)
theorem Tree_BetweenS_con0 {k : Nat}  {p1 : Pool (TNode TSlot TSize)} {rt0 : TRef} {a1 : Int} {a2 : Int} {r : TSize}  (H0 : Tree_Between.f opsS k p1 rt0 a1 a2 = some r) : SCon Try.prog 55 [SV.p 0 0, .a (.c (.v (.int .i64 a1))), .a (.c (.v (.int .i64 a2)))] [(0, blk 0 [.p 1 0, .i rt0.index, .i rt0.gen] 122), (1, plS 1 p1)] (.a (.c (.v (.int .i64 r)))) [(0, blk 0 [.p 1 0, .i rt0.index, .i rt0.gen] 122), (1, plS 1 p1)] [] := by
  rw [Tree_Between.f] at H0
  refine spec_of [(0, _), (1, _), (2, _)] [(0, _), (1, _)] 24 Try.func55 rfl Try.ntmps55 rfl rfl rfl rfl (fun β W F => ?_)
  refine G.seq ?_
  refine G.rg ?_
  refine K.move (.inr rfl) (gd0 rfl) rfl rfl ?_
  refine K.nil ?_
  refine At.next ?_
  refine G.seq ?_
  obtain ⟨x1, hx1, H0⟩ := bnd H0
  refine G.rg ?_
  refine K.move (.inl rfl) (gd0 rfl) rfl rfl ?_
  refine K.callR [(.func 56, _), ((.tmp 8), _)] (Tree_LenS_con (k := k) hx1 0 1) (toFn_func (cf 56 rfl) rfl) (gd0 rfl) ⟨rfl, rfl, trivial⟩ ⟨rfl, rfl, trivial⟩ rfl rfl rfl ?_
  refine K.move (.inr rfl) (gd0 rfl) rfl rfl ?_
  refine K.nil ?_
  refine At.next ?_
  refine G.seq ?_
  obtain ⟨x2, hx2, H0⟩ := bnd H0
  refine G.rg ?_
  refine K.move (.inl rfl) (gd0 rfl) rfl rfl ?_
  refine K.move (.inl rfl) (gd0 rfl) rfl rfl ?_
  refine K.nilCheck (gd0 rfl) rfl rfl ?_
  refine K.fieldAddr Y (gd0 rfl) rfl t122 rfl rfl ?_
  refine K.loadS Y [_, _] (gd0 rfl) rfl rfl t99 rfl rfl rfl ?_
  refine K.move (.inl rfl) (gd0 rfl) rfl rfl ?_
  refine K.bi2 (V := .int .i64 (gmax a1 0)) (gd0 rfl) rfl rfl (fun _ _ => rfl) rfl ?_
  refine K.move (.inl rfl) (gd0 rfl) rfl rfl ?_
  refine K.bi2 (V := .int .i64 (gmin (gmax a1 0) x1)) (gd0 rfl) rfl rfl (fun _ _ => rfl) rfl ?_
  refine K.move (.inl rfl) (gd0 rfl) rfl rfl ?_
  refine K.bi2 (V := .int .i64 (gmax a2 0)) (gd0 rfl) rfl rfl (fun _ _ => rfl) rfl ?_
  refine K.move (.inl rfl) (gd0 rfl) rfl rfl ?_
  refine K.bi2 (V := .int .i64 (gmin (gmax a2 0) x1)) (gd0 rfl) rfl rfl (fun _ _ => rfl) rfl ?_
  refine K.callR [(.func 81, _), ((.tmp 10), _), ((.tmp 14), _), ((.tmp 18), _), ((.tmp 22), _)] (Tree_betweenS_con (k := k) hx2 0 1) (toFn_func (cf 81 rfl) rfl) (gd0 rfl) ⟨rfl, rfl, rfl, rfl, rfl, trivial⟩ ⟨rfl, rfl, trivial⟩ rfl rfl rfl ?_
  refine K.move (.inr rfl) (gd0 rfl) rfl rfl ?_
  refine K.nil ?_
  refine At.next ?_
  refine G.ret ?_
  refine At.done Y [(.tmp 6, .c _)] rfl ⟨.tmp rfl, trivial⟩ (to' := [(0, _), (1, _)]) ⟨rfl, rfl, trivial⟩ ?_ ?_ rfl rfl rfl (.inl rfl)
  · cases H0; rfl
  · cases H0; rfl
theorem Tree_BetweenS_con {k : Nat}  {p1 : Pool (TNode TSlot TSize)} {rt0 : TRef} {a1 : Int} {a2 : Int} {r : TSize}  (H0 : Tree_Between.f opsS k p1 rt0 a1 a2 = some r) (m0 m1 : Nat) : SCon Try.prog 55 [SV.p m0 0, .a (.c (.v (.int .i64 a1))), .a (.c (.v (.int .i64 a2)))] [(m0, blk m0 [.p m1 0, .i rt0.index, .i rt0.gen] 122), (m1, plS m1 p1)] (.a (.c (.v (.int .i64 r)))) [(m0, blk m0 [.p m1 0, .i rt0.index, .i rt0.gen] 122), (m1, plS m1 p1)] [] :=
  SCon.ren (rn [(0, m0), (1, m1)]) (Tree_BetweenS_con0 (k := k)   H0) ⟨(blk_ren rfl rfl), (pl_ren rfl), trivial⟩ ⟨(blk_ren rfl rfl), (pl_ren rfl), trivial⟩ (by simp) (by simp)
theorem Tree_lastS_con0 {k : Nat}  : ∀ {n : Nat} {p1 : Pool (TNode TSlot TSize)} {a1 : TRef} {ri0 rg0 : Int} {r : TRef × TRef × Pool (TNode TSlot TSize)}  (H0 : Tree_last.r opsS k n p1 a1 = some r), SCon Try.prog 109 [SV.p 0 0, .a (.agg ((eTRef a1).map .v))] [(0, blk 0 [.p 1 0, .i ri0, .i rg0] 122), (1, plS 1 p1)] (.tup [.agg ((eTRef r.1).map .v), .agg ((eTRef r.2.1).map .v)]) [(0, blk 0 [.p 1 0, .i ri0, .i rg0] 122), (1, plS 1 r.2.2)] [] := by
  intro n
  induction n with
  | zero => intro p1 a1 ri0 rg0 r H0; exact absurd H0 (by simp [Tree_last.r])
  | succ n ih =>
    intro p1 a1 ri0 rg0 r H0
    rw [Tree_last.r] at H0
    refine spec_of [(0, _), (1, _)] [(0, _), (1, _)] 33 Try.func109 rfl Try.ntmps109 rfl rfl rfl rfl (fun β W F => ?_)
    refine G.seq ?_
    refine G.rg ?_
    refine K.box Y 100 [_, _] (gd0 rfl) rfl rfl rfl rfl rfl rfl ?_
    refine K.alloc Y 101 [_, _] (gd0 rfl) t99 rfl rfl rfl rfl rfl ?_
    refine K.alloc Y 102 [_, _] (gd0 rfl) t99 rfl rfl rfl rfl rfl ?_
    refine K.nil ?_
    refine At.next ?_
    refine G.seq ?_
    obtain ⟨x1, hx1, H0⟩ := bnd H0
    refine G.rg ?_
    refine K.move (.inl rfl) (gd0 rfl) rfl rfl ?_
    refine K.loadS Y [_, _] (gd0 rfl) rfl rfl t99 rfl rfl rfl ?_
    refine K.callR [(.func 76, _), ((.tmp 9), _), ((.tmp 10), _)] (Tree_getS_con (k := k) hx1 0 1) (toFn_func (cf 76 rfl) rfl) (gd0 rfl) ⟨rfl, rfl, rfl, trivial⟩ ⟨rfl, rfl, trivial⟩ rfl rfl rfl ?_
    refine K.alloc Y 103 [_, _, _, _, _, _, _, _, _, _] (gd0 rfl) t124 rfl rfl rfl rfl rfl ?_
    refine K.store Y [_, _, _, _, _, _, _, _, _, _] (gd0 rfl) rfl rfl rfl t124 rfl rfl rfl rfl rfl ?_
    refine K.nil ?_
    refine At.next ?_
    refine G.seq ?_
    refine G.seq ?_
    refine G.rg ?_
    refine K.fieldAddr Y (gd0 rfl) rfl t124 rfl rfl ?_
    refine K.fieldAddr Y (gd0 rfl) rfl t99 rfl rfl ?_
    refine K.load1 Y (gd0 rfl) rfl rfl t3 rfl rfl ?_
    refine K.bin (V := .bool (x1.right.gen == 0)) (gd0 rfl) rfl rfl (fun _ => rfl) rfl ?_
    refine K.nil ?_
    refine At.next ?_
    refine G.cond rfl (fun h1 => ?_) (fun h1 => ?_)
    ·
      replace H0 := bif_t H0 h1
      refine G.seq ?_
      refine G.rd mixed ?_
      refine K.fieldAddr Y (gd0 rfl) rfl t124 rfl rfl ?_
      refine K.loadS Y [_, _] (gd0 rfl) rfl rfl t99 rfl rfl rfl ?_
      refine K.loadS Y [_, _] (gd0 rfl) rfl rfl t99 rfl rfl rfl ?_
      refine K.store Y [_, _] (gd0 rfl) rfl rfl rfl t99 rfl rfl rfl rfl rfl ?_
      refine K.store Y [_, _] (gd0 rfl) rfl rfl rfl t99 rfl rfl rfl rfl rfl ?_
      refine K.nil ?_
      refine ⟨by kernel_rfl, ?_⟩
      refine At.next ?_
      refine G.ret ?_
      refine At.over_ret ?_
      refine At.done Y [(.cell 4 99, .agg [_, _]), (.cell 5 99, .agg [_, _])] rfl ⟨.st rfl rfl t99 rfl rfl, .st rfl rfl t99 rfl rfl, trivial⟩ (to' := [(0, _), (1, _)]) ⟨rfl, rfl, trivial⟩ ?_ ?_ rfl rfl rfl (.inl rfl)
      · cases H0; rfl
      · cases H0; rfl
    ·
      replace H0 := bif_f H0 h1
      refine G.skip ?_
      refine At.next ?_
      refine G.seq ?_
      obtain ⟨x2, hx2, H0⟩ := bnd H0
      refine G.rg ?_
      refine K.move (.inl rfl) (gd0 rfl) rfl rfl ?_
      refine K.fieldAddr Y (gd0 rfl) rfl t124 rfl rfl ?_
      refine K.loadS Y [_, _] (gd0 rfl) rfl rfl t99 rfl rfl rfl ?_
      refine K.call0 [(.func 109, _), ((.tmp 20), _), ((.tmp 22), _)] (ih hx2) (toFn_func (cf 109 rfl) rfl) (gd0 rfl) ⟨rfl, rfl, rfl, trivial⟩ ⟨rfl, rfl, trivial⟩ rfl rfl rfl rfl rfl rfl ?_
      refine K.move (.inl rfl) (gd0 rfl) rfl rfl ?_
      refine K.extract (gd0 rfl) rfl rfl rfl ?_
      refine K.extract (gd0 rfl) rfl rfl rfl ?_
      refine K.alloc Y 104 [_, _] (gd0 rfl) t99 rfl rfl rfl rfl rfl ?_
      refine K.alloc Y 105 [_, _] (gd0 rfl) t99 rfl rfl rfl rfl rfl ?_
      refine K.store Y [_, _] (gd0 rfl) rfl rfl rfl t99 rfl rfl rfl rfl rfl ?_
      refine K.store Y [_, _] (gd0 rfl) rfl rfl rfl t99 rfl rfl rfl rfl rfl ?_
      refine K.nil ?_
      refine At.next ?_
      refine G.seq ?_
      obtain ⟨x3, hx3, H0⟩ := bnd H0
      refine G.rd mixed ?_
      refine K.move (.inl rfl) (gd0 rfl) rfl rfl ?_
      refine K.fieldAddr Y (gd0 rfl) rfl t124 rfl rfl ?_
      refine K.loadS Y [_, _] (gd0 rfl) rfl rfl t99 rfl rfl rfl ?_
      refine K.loadS Y [_, _] (gd0 rfl) rfl rfl t99 rfl rfl rfl ?_
      refine K.loadS Y [_, _] (gd0 rfl) rfl rfl t99 rfl rfl rfl ?_
      refine K.call0 [(.func 92, _), ((.tmp 26), _), ((.tmp 28), _), ((.tmp 29), _), ((.tmp 30), _)] (Tree_linkS_con (k := k) hx3 0 1) (toFn_func (cf 92 rfl) rfl) (gd0 rfl) ⟨rfl, rfl, rfl, rfl, rfl, trivial⟩ ⟨rfl, rfl, trivial⟩ rfl rfl rfl rfl rfl rfl ?_
      refine K.loadS Y [_, _] (gd0 rfl) rfl rfl t99 rfl rfl rfl ?_
      refine K.store Y [_, _] (gd0 rfl) rfl rfl rfl t99 rfl rfl rfl rfl rfl ?_
      refine K.store Y [_, _] (gd0 rfl) rfl rfl rfl t99 rfl rfl rfl rfl rfl ?_
      refine K.nil ?_
      refine ⟨by kernel_rfl, ?_⟩
      refine At.next ?_
      refine G.ret ?_
      refine At.done Y [(.cell 4 99, .agg [_, _]), (.cell 5 99, .agg [_, _])] rfl ⟨.st rfl rfl t99 rfl rfl, .st rfl rfl t99 rfl rfl, trivial⟩ (to' := [(0, _), (1, _)]) ⟨rfl, rfl, trivial⟩ ?_ ?_ rfl rfl rfl (.inl rfl)
      · cases H0; rfl
      · cases H0; rfl
theorem Tree_lastS_con {k n : Nat}  {p1 : Pool (TNode TSlot TSize)} {a1 : TRef} {ri0 rg0 : Int} {r : TRef × TRef × Pool (TNode TSlot TSize)}  (H0 : Tree_last.r opsS k n p1 a1 = some r) (m0 m1 : Nat) : SCon Try.prog 109 [SV.p m0 0, .a (.agg ((eTRef a1).map .v))] [(m0, blk m0 [.p m1 0, .i ri0, .i rg0] 122), (m1, plS m1 p1)] (.tup [.agg ((eTRef r.1).map .v), .agg ((eTRef r.2.1).map .v)]) [(m0, blk m0 [.p m1 0, .i ri0, .i rg0] 122), (m1, plS m1 r.2.2)] [] :=
  SCon.ren (rn [(0, m0), (1, m1)]) (Tree_lastS_con0 (k := k)   H0) ⟨(blk_ren rfl rfl), (pl_ren rfl), trivial⟩ ⟨(blk_ren rfl rfl), (pl_ren rfl), trivial⟩ (by simp) (by simp)
theorem Tree_mergeS_con0 {k : Nat}  {p1 : Pool (TNode TSlot TSize)} {a1 : TRef} {a2 : TRef} {ri0 rg0 : Int} {r : TRef × Pool (TNode TSlot TSize)}  (H0 : Tree_merge.f opsS k p1 a1 a2 = some r) : SCon Try.prog 99 [SV.p 0 0, .a (.agg ((eTRef a1).map .v)), .a (.agg ((eTRef a2).map .v))] [(0, blk 0 [.p 1 0, .i ri0, .i rg0] 122), (1, plS 1 p1)] (.a (.agg ((eTRef r.1).map .v))) [(0, blk 0 [.p 1 0, .i ri0, .i rg0] 122), (1, plS 1 r.2)] [] := by
  rw [Tree_merge.f] at H0
  refine spec_of [(0, _), (1, _), (2, _)] [(0, _), (1, _)] 30 Try.func99 rfl Try.ntmps99 rfl rfl rfl rfl (fun β W F => ?_)
  refine G.seq ?_
  refine G.rg ?_
  refine K.box Y 100 [_, _] (gd0 rfl) rfl rfl rfl rfl rfl rfl ?_
  refine K.box Y 101 [_, _] (gd0 rfl) rfl rfl rfl rfl rfl rfl ?_
  refine K.alloc Y 102 [_, _] (gd0 rfl) t99 rfl rfl rfl rfl rfl ?_
  refine K.nil ?_
  refine At.next ?_
  refine G.seq ?_
  refine G.block ?_
  refine G.seq ?_
  refine G.rg ?_
  refine K.fieldAddr Y (gd0 rfl) rfl t99 rfl rfl ?_
  refine K.load1 Y (gd0 rfl) rfl rfl t3 rfl rfl ?_
  refine K.bin (V := .bool (a1.gen == 0)) (gd0 rfl) rfl rfl (fun _ => rfl) rfl ?_
  refine K.move (.inr rfl) (gd0 rfl) rfl rfl ?_
  refine K.nil ?_
  refine At.next ?_
  refine G.cond rfl (fun h1 => ?_) (fun h1 => ?_)
  ·
    replace H0 := bif_t H0 h1
    refine G.seq ?_
    refine G.rg ?_
    refine K.loadS Y [_, _] (gd0 rfl) rfl rfl t99 rfl rfl rfl ?_
    refine K.store Y [_, _] (gd0 rfl) rfl rfl rfl t99 rfl rfl rfl rfl rfl ?_
    refine K.nil ?_
    refine At.next ?_
    refine G.ret ?_
    refine At.block_ret ?_
    refine At.over_ret ?_
    refine At.done Y [(.cell 6 99, .agg [_, _])] rfl ⟨.st rfl rfl t99 rfl rfl, trivial⟩ (to' := [(0, _), (1, _)]) ⟨rfl, rfl, trivial⟩ ?_ ?_ rfl rfl rfl (.inl rfl)
    · cases H0; rfl
    · cases H0; rfl
  ·
    replace H0 := bif_f H0 h1
    refine G.seq ?_
    refine G.rg ?_
    refine K.fieldAddr Y (gd0 rfl) rfl t99 rfl rfl ?_
    refine K.load1 Y (gd0 rfl) rfl rfl t3 rfl rfl ?_
    refine K.bin (V := .bool (a2.gen == 0)) (gd0 rfl) rfl rfl (fun _ => rfl) rfl ?_
    refine K.move (.inr rfl) (gd0 rfl) rfl rfl ?_
    refine K.nil ?_
    refine At.next ?_
    refine G.cond rfl (fun h2 => ?_) (fun h2 => ?_)
    ·
      replace H0 := bif_t H0 h2
      refine G.seq ?_
      refine G.rg ?_
      refine K.loadS Y [_, _] (gd0 rfl) rfl rfl t99 rfl rfl rfl ?_
      refine K.store Y [_, _] (gd0 rfl) rfl rfl rfl t99 rfl rfl rfl rfl rfl ?_
      refine K.nil ?_
      refine At.next ?_
      refine G.ret ?_
      refine At.block_ret ?_
      refine At.over_ret ?_
      refine At.done Y [(.cell 6 99, .agg [_, _])] rfl ⟨.st rfl rfl t99 rfl rfl, trivial⟩ (to' := [(0, _), (1, _)]) ⟨rfl, rfl, trivial⟩ ?_ ?_ rfl rfl rfl (.inl rfl)
      · cases H0; rfl
      · cases H0; rfl
    ·
      replace H0 := bif_f H0 h2
      refine G.skip ?_
      refine At.block_normal ?_
      refine At.next ?_
      refine G.seq ?_
      obtain ⟨x1, hx1, H0⟩ := bnd H0
      refine G.rg ?_
      refine K.move (.inl rfl) (gd0 rfl) rfl rfl ?_
      refine K.loadS Y [_, _] (gd0 rfl) rfl rfl t99 rfl rfl rfl ?_
      refine K.call0 [(.func 109, _), ((.tmp 20), _), ((.tmp 21), _)] (Tree_lastS_con (k := k) hx1 0 1) (toFn_func (cf 109 rfl) rfl) (gd0 rfl) ⟨rfl, rfl, rfl, trivial⟩ ⟨rfl, rfl, trivial⟩ rfl rfl rfl rfl rfl rfl ?_
      refine K.move (.inl rfl) (gd0 rfl) rfl rfl ?_
      refine K.extract (gd0 rfl) rfl rfl rfl ?_
      refine K.extract (gd0 rfl) rfl rfl rfl ?_
      refine K.alloc Y 103 [_, _] (gd0 rfl) t99 rfl rfl rfl rfl rfl ?_
      refine K.alloc Y 104 [_, _] (gd0 rfl) t99 rfl rfl rfl rfl rfl ?_
      refine K.store Y [_, _] (gd0 rfl) rfl rfl rfl t99 rfl rfl rfl rfl rfl ?_
      refine K.store Y [_, _] (gd0 rfl) rfl rfl rfl t99 rfl rfl rfl rfl rfl ?_
      refine K.nil ?_
      refine At.next ?_
      refine G.seq ?_
      obtain ⟨x2, hx2, H0⟩ := bnd H0
      refine G.rg ?_
      refine K.move (.inl rfl) (gd0 rfl) rfl rfl ?_
      refine K.loadS Y [_, _] (gd0 rfl) rfl rfl t99 rfl rfl rfl ?_
      refine K.loadS Y [_, _] (gd0 rfl) rfl rfl t99 rfl rfl rfl ?_
      refine K.loadS Y [_, _] (gd0 rfl) rfl rfl t99 rfl rfl rfl ?_
      refine K.call0 [(.func 92, _), ((.tmp 25), _), ((.tmp 26), _), ((.tmp 27), _), ((.tmp 28), _)] (Tree_linkS_con (k := k) hx2 0 1) (toFn_func (cf 92 rfl) rfl) (gd0 rfl) ⟨rfl, rfl, rfl, rfl, rfl, trivial⟩ ⟨rfl, rfl, trivial⟩ rfl rfl rfl rfl rfl rfl ?_
      refine K.store Y [_, _] (gd0 rfl) rfl rfl rfl t99 rfl rfl rfl rfl rfl ?_
      refine K.nil ?_
      refine At.next ?_
      refine G.ret ?_
      refine At.done Y [(.cell 6 99, .agg [_, _])] rfl ⟨.st rfl rfl t99 rfl rfl, trivial⟩ (to' := [(0, _), (1, _)]) ⟨rfl, rfl, trivial⟩ ?_ ?_ rfl rfl rfl (.inl rfl)
      · cases H0; rfl
      · cases H0; rfl
theorem Tree_mergeS_con {k : Nat}  {p1 : Pool (TNode TSlot TSize)} {a1 : TRef} {a2 : TRef} {ri0 rg0 : Int} {r : TRef × Pool (TNode TSlot TSize)}  (H0 : Tree_merge.f opsS k p1 a1 a2 = some r) (m0 m1 : Nat) : SCon Try.prog 99 [SV.p m0 0, .a (.agg ((eTRef a1).map .v)), .a (.agg ((eTRef a2).map .v))] [(m0, blk m0 [.p m1 0, .i ri0, .i rg0] 122), (m1, plS m1 p1)] (.a (.agg ((eTRef r.1).map .v))) [(m0, blk m0 [.p m1 0, .i ri0, .i rg0] 122), (m1, plS m1 r.2)] [] :=
  SCon.ren (rn [(0, m0), (1, m1)]) (Tree_mergeS_con0 (k := k)   H0) ⟨(blk_ren rfl rfl), (pl_ren rfl), trivial⟩ ⟨(blk_ren rfl rfl), (pl_ren rfl), trivial⟩ (by simp) (by simp)
theorem Tree_dropS_con0 {k : Nat}  : ∀ {n : Nat} {p1 : Pool (TNode TSlot TSize)} {a1 : TRef} {a2 : TSlot} {ri0 rg0 : Int} {r : TRef × TSlot × Bool × Pool (TNode TSlot TSize)}  (H0 : Tree_drop.r opsS k n p1 a1 a2 = some r), SCon Try.prog 78 [SV.p 0 0, .a (.agg ((eTRef a1).map .v)), .a (.agg ((eTSlot a2).map .v))] [(0, blk 0 [.p 1 0, .i ri0, .i rg0] 122), (1, plS 1 p1)] (.tup [.agg ((eTRef r.1).map .v), .agg ((eTSlot r.2.1).map .v), .c (.v (.bool r.2.2.1))]) [(0, blk 0 [.p 1 0, .i ri0, .i rg0] 122), (1, plS 1 r.2.2.2)] [] := by
  intro n
  induction n with
  | zero => intro p1 a1 a2 ri0 rg0 r H0; exact absurd H0 (by simp [Tree_drop.r])
  | succ n ih =>
    intro p1 a1 a2 ri0 rg0 r H0
    rw [Tree_drop.r] at H0
    refine spec_of [(0, _), (1, _), (2, _)] [(0, _), (1, _)] 91 Try.func78 rfl Try.ntmps78 rfl rfl rfl rfl (fun β W F => ?_)
    refine G.seq ?_
    refine G.rg ?_
    refine K.box Y 100 [_, _] (gd0 rfl) rfl rfl rfl rfl rfl rfl ?_
    refine K.box Y 101 [_, _, _, _] (gd0 rfl) rfl rfl rfl rfl rfl rfl ?_
    refine K.alloc Y 102 [_, _] (gd0 rfl) t99 rfl rfl rfl rfl rfl ?_
    refine K.alloc Y 103 [_, _, _, _] (gd0 rfl) t72 rfl rfl rfl rfl rfl ?_
    refine K.move (.inr rfl) (gd0 rfl) rfl rfl ?_
    refine K.nil ?_
    refine At.next ?_
    refine G.seq ?_
    refine G.seq ?_
    refine G.rg ?_
    refine K.fieldAddr Y (gd0 rfl) rfl t99 rfl rfl ?_
    refine K.load1 Y (gd0 rfl) rfl rfl t3 rfl rfl ?_
    refine K.bin (V := .bool (a1.gen == 0)) (gd0 rfl) rfl rfl (fun _ => rfl) rfl ?_
    refine K.nil ?_
    refine At.next ?_
    refine G.cond rfl (fun h1 => ?_) (fun h1 => ?_)
    ·
      replace H0 := bif_t H0 h1
      refine G.seq ?_
      refine G.rg ?_
      refine K.alloc Y 104 [_, _, _, _] (gd0 rfl) t72 rfl rfl rfl rfl rfl ?_
      refine K.nil ?_
      refine At.next ?_
      refine G.seq ?_
      refine G.rd mixed ?_
      refine K.loadS Y [_, _] (gd0 rfl) rfl rfl t99 rfl rfl rfl ?_
      refine K.loadS Y [_, _, _, _] (gd0 rfl) rfl rfl t72 rfl rfl rfl ?_
      refine K.store Y [_, _] (gd0 rfl) rfl rfl rfl t99 rfl rfl rfl rfl rfl ?_
      refine K.store Y [_, _, _, _] (gd0 rfl) rfl rfl rfl t72 rfl rfl rfl rfl rfl ?_
      refine K.move (.inr rfl) (gd0 rfl) rfl rfl ?_
      refine K.nil ?_
      refine ⟨by kernel_rfl, ?_⟩
      refine At.next ?_
      refine G.ret ?_
      refine At.over_ret ?_
      refine At.done Y [(.cell 6 99, .agg [_, _]), (.cell 7 72, .agg [_, _, _, _]), (.tmp 8, .c _)] rfl ⟨.st rfl rfl t99 rfl rfl, .st rfl rfl t72 rfl rfl, .tmp rfl, trivial⟩ (to' := [(0, _), (1, _)]) ⟨rfl, rfl, trivial⟩ ?_ ?_ rfl rfl rfl (.inl rfl)
      · cases H0; rfl
      · cases H0; rfl
    ·
      replace H0 := bif_f H0 h1
      refine G.skip ?_
      refine At.next ?_
      refine G.seq ?_
      obtain ⟨x1, hx1, H0⟩ := bnd H0
      refine G.rg ?_
      refine K.move (.inl rfl) (gd0 rfl) rfl rfl ?_
      refine K.loadS Y [_, _] (gd0 rfl) rfl rfl t99 rfl rfl rfl ?_
      refine K.callR [(.func 76, _), ((.tmp 23), _), ((.tmp 24), _)] (Tree_getS_con (k := k) hx1 0 1) (toFn_func (cf 76 rfl) rfl) (gd0 rfl) ⟨rfl, rfl, rfl, trivial⟩ ⟨rfl, rfl, trivial⟩ rfl rfl rfl ?_
      refine K.alloc Y 105 [_, _, _, _, _, _, _, _, _, _] (gd0 rfl) t124 rfl rfl rfl rfl rfl ?_
      refine K.store Y [_, _, _, _, _, _, _, _, _, _] (gd0 rfl) rfl rfl rfl t124 rfl rfl rfl rfl rfl ?_
      refine K.nil ?_
      refine At.next ?_
      refine G.seq ?_
      obtain ⟨x2, hx2, H0⟩ := bnd H0
      refine G.rg ?_
      refine K.loadS Y [_, _, _, _] (gd0 rfl) rfl rfl t72 rfl rfl rfl ?_
      refine K.mkIface Y (gd0 rfl) rfl (mkI Try.underlying72 rfl) rfl ?_
      refine K.fieldAddr Y (gd0 rfl) rfl t124 rfl rfl ?_
      refine K.loadS Y [_, _, _, _] (gd0 rfl) rfl rfl t72 rfl rfl rfl ?_
      refine K.callR [((.tmp 27), _), ((.tmp 29), _)] (shelf_Slot_Compare_con (k := k) hx2) (toFn_invoke (cf 45 rfl) (me72_45) rfl) (gd0 rfl) ⟨rfl, rfl, trivial⟩ trivial rfl rfl rfl ?_
      refine K.move (.inr rfl) (gd0 rfl) rfl rfl ?_
      refine K.nil ?_
      refine At.next ?_
      refine G.seq ?_
      refine G.block ?_
      refine G.seq ?_
      refine G.rg ?_
      refine K.move (.inl rfl) (gd0 rfl) rfl rfl ?_
      refine K.bin (V := .bool (decide (x2 < 0))) (gd0 rfl) rfl rfl (fun _ => rfl) rfl ?_
      refine K.move (.inr rfl) (gd0 rfl) rfl rfl ?_
      refine K.nil ?_
      refine At.next ?_
      refine G.cond rfl (fun h2 => ?_) (fun h2 => ?_)
      ·
        replace H0 := bif_t H0 h2
        refine G.seq ?_
        obtain ⟨x3, hx3, H0⟩ := bnd H0
        refine G.rg ?_
        refine K.move (.inl rfl) (gd0 rfl) rfl rfl ?_
        refine K.fieldAddr Y (gd0 rfl) rfl t124 rfl rfl ?_
        refine K.loadS Y [_, _] (gd0 rfl) rfl rfl t99 rfl rfl rfl ?_
        refine K.loadS Y [_, _, _, _] (gd0 rfl) rfl rfl t72 rfl rfl rfl ?_
        refine K.call0 [(.func 78, _), ((.tmp 35), _), ((.tmp 37), _), ((.tmp 38), _)] (ih hx3) (toFn_func (cf 78 rfl) rfl) (gd0 rfl) ⟨rfl, rfl, rfl, rfl, trivial⟩ ⟨rfl, rfl, trivial⟩ rfl rfl rfl rfl rfl rfl ?_
        refine K.move (.inl rfl) (gd0 rfl) rfl rfl ?_
        refine K.extract (gd0 rfl) rfl rfl rfl ?_
        refine K.extract (gd0 rfl) rfl rfl rfl ?_
        refine K.extract (gd0 rfl) rfl rfl rfl ?_
        refine K.alloc Y 106 [_, _] (gd0 rfl) t99 rfl rfl rfl rfl rfl ?_
        refine K.alloc Y 107 [_, _, _, _] (gd0 rfl) t72 rfl rfl rfl rfl rfl ?_
        refine K.store Y [_, _] (gd0 rfl) rfl rfl rfl t99 rfl rfl rfl rfl rfl ?_
        refine K.store Y [_, _, _, _] (gd0 rfl) rfl rfl rfl t72 rfl rfl rfl rfl rfl ?_
        refine K.move (.inr rfl) (gd0 rfl) rfl rfl ?_
        refine K.nil ?_
        refine At.next ?_
        refine G.seq ?_
        refine G.seq ?_
        refine G.rg ?_
        refine K.move (.inl rfl) (gd0 rfl) rfl rfl ?_
        refine K.un (V := .bool (!x3.2.2.1)) (gd0 rfl) rfl (fun _ => rfl) rfl ?_
        refine K.nil ?_
        refine At.next ?_
        refine G.cond rfl (fun h3 => ?_) (fun h3 => ?_)
        ·
          replace H0 := bif_t H0 h3
          refine G.seq ?_
          refine G.rd mixed ?_
          refine K.loadS Y [_, _] (gd0 rfl) rfl rfl t99 rfl rfl rfl ?_
          refine K.loadS Y [_, _, _, _] (gd0 rfl) rfl rfl t72 rfl rfl rfl ?_
          refine K.store Y [_, _] (gd0 rfl) rfl rfl rfl t99 rfl rfl rfl rfl rfl ?_
          refine K.store Y [_, _, _, _] (gd0 rfl) rfl rfl rfl t72 rfl rfl rfl rfl rfl ?_
          refine K.move (.inr rfl) (gd0 rfl) rfl rfl ?_
          refine K.nil ?_
          refine ⟨by kernel_rfl, ?_⟩
          refine At.next ?_
          refine G.ret ?_
          refine At.over_ret ?_
          refine At.block_ret ?_
          refine At.over_ret ?_
          refine At.done Y [(.cell 6 99, .agg [_, _]), (.cell 7 72, .agg [_, _, _, _]), (.tmp 8, .c _)] rfl ⟨.st rfl rfl t99 rfl rfl, .st rfl rfl t72 rfl rfl, .tmp rfl, trivial⟩ (to' := [(0, _), (1, _)]) ⟨rfl, rfl, trivial⟩ ?_ ?_ rfl rfl rfl (.inl rfl)
          · cases H0; rfl
          · cases H0; rfl
        ·
          replace H0 := bif_f H0 h3
          refine G.skip ?_
          refine At.next ?_
          refine G.seq ?_
          obtain ⟨x4, hx4, H0⟩ := bnd H0
          refine G.rd mixed ?_
          refine K.move (.inl rfl) (gd0 rfl) rfl rfl ?_
          refine K.loadS Y [_, _] (gd0 rfl) rfl rfl t99 rfl rfl rfl ?_
          refine K.loadS Y [_, _] (gd0 rfl) rfl rfl t99 rfl rfl rfl ?_
          refine K.fieldAddr Y (gd0 rfl) rfl t124 rfl rfl ?_
          refine K.loadS Y [_, _] (gd0 rfl) rfl rfl t99 rfl rfl rfl ?_
          refine K.call0 [(.func 92, _), ((.tmp 47), _), ((.tmp 48), _), ((.tmp 49), _), ((.tmp 51), _)] (Tree_linkS_con (k := k) hx4 0 1) (toFn_func (cf 92 rfl) rfl) (gd0 rfl) ⟨rfl, rfl, rfl, rfl, rfl, trivial⟩ ⟨rfl, rfl, trivial⟩ rfl rfl rfl rfl rfl rfl ?_
          refine K.loadS Y [_, _, _, _] (gd0 rfl) rfl rfl t72 rfl rfl rfl ?_
          refine K.store Y [_, _] (gd0 rfl) rfl rfl rfl t99 rfl rfl rfl rfl rfl ?_
          refine K.store Y [_, _, _, _] (gd0 rfl) rfl rfl rfl t72 rfl rfl rfl rfl rfl ?_
          refine K.move (.inr rfl) (gd0 rfl) rfl rfl ?_
          refine K.nil ?_
          refine ⟨by kernel_rfl, ?_⟩
          refine At.next ?_
          refine G.ret ?_
          refine At.block_ret ?_
          refine At.over_ret ?_
          refine At.done Y [(.cell 6 99, .agg [_, _]), (.cell 7 72, .agg [_, _, _, _]), (.tmp 8, .c _)] rfl ⟨.st rfl rfl t99 rfl rfl, .st rfl rfl t72 rfl rfl, .tmp rfl, trivial⟩ (to' := [(0, _), (1, _)]) ⟨rfl, rfl, trivial⟩ ?_ ?_ rfl rfl rfl (.inl rfl)
          · cases H0; rfl
          · cases H0; rfl
      ·
        replace H0 := bif_f H0 h2
        refine G.seq ?_
        refine G.rg ?_
        refine K.move (.inl rfl) (gd0 rfl) rfl rfl ?_
        refine K.bin (V := .bool (decide (x2 > 0))) (gd0 rfl) rfl rfl (fun _ => rfl) rfl ?_
        refine K.move (.inr rfl) (gd0 rfl) rfl rfl ?_
        refine K.nil ?_
        refine At.next ?_
        refine G.cond rfl (fun h4 => ?_) (fun h4 => ?_)
        ·
          replace H0 := bif_t H0 h4
          refine G.seq ?_
          obtain ⟨x5, hx5, H0⟩ := bnd H0
          refine G.rg ?_
          refine K.move (.inl rfl) (gd0 rfl) rfl rfl ?_
          refine K.fieldAddr Y (gd0 rfl) rfl t124 rfl rfl ?_
          refine K.loadS Y [_, _] (gd0 rfl) rfl rfl t99 rfl rfl rfl ?_
          refine K.loadS Y [_, _, _, _] (gd0 rfl) rfl rfl t72 rfl rfl rfl ?_
          refine K.call0 [(.func 78, _), ((.tmp 58), _), ((.tmp 60), _), ((.tmp 61), _)] (ih hx5) (toFn_func (cf 78 rfl) rfl) (gd0 rfl) ⟨rfl, rfl, rfl, rfl, trivial⟩ ⟨rfl, rfl, trivial⟩ rfl rfl rfl rfl rfl rfl ?_
          refine K.move (.inl rfl) (gd0 rfl) rfl rfl ?_
          refine K.extract (gd0 rfl) rfl rfl rfl ?_
          refine K.extract (gd0 rfl) rfl rfl rfl ?_
          refine K.extract (gd0 rfl) rfl rfl rfl ?_
          refine K.alloc Y 108 [_, _] (gd0 rfl) t99 rfl rfl rfl rfl rfl ?_
          refine K.alloc Y 109 [_, _, _, _] (gd0 rfl) t72 rfl rfl rfl rfl rfl ?_
          refine K.store Y [_, _] (gd0 rfl) rfl rfl rfl t99 rfl rfl rfl rfl rfl ?_
          refine K.store Y [_, _, _, _] (gd0 rfl) rfl rfl rfl t72 rfl rfl rfl rfl rfl ?_
          refine K.move (.inr rfl) (gd0 rfl) rfl rfl ?_
          refine K.nil ?_
          refine At.next ?_
          refine G.seq ?_
          refine G.seq ?_
          refine G.rg ?_
          refine K.move (.inl rfl) (gd0 rfl) rfl rfl ?_
          refine K.un (V := .bool (!x5.2.2.1)) (gd0 rfl) rfl (fun _ => rfl) rfl ?_
          refine K.nil ?_
          refine At.next ?_
          refine G.cond rfl (fun h5 => ?_) (fun h5 => ?_)
          ·
            replace H0 := bif_t H0 h5
            refine G.seq ?_
            refine G.rd mixed ?_
            refine K.loadS Y [_, _] (gd0 rfl) rfl rfl t99 rfl rfl rfl ?_
            refine K.loadS Y [_, _, _, _] (gd0 rfl) rfl rfl t72 rfl rfl rfl ?_
            refine K.store Y [_, _] (gd0 rfl) rfl rfl rfl t99 rfl rfl rfl rfl rfl ?_
            refine K.store Y [_, _, _, _] (gd0 rfl) rfl rfl rfl t72 rfl rfl rfl rfl rfl ?_
            refine K.move (.inr rfl) (gd0 rfl) rfl rfl ?_
            refine K.nil ?_
            refine ⟨by kernel_rfl, ?_⟩
            refine At.next ?_
            refine G.ret ?_
            refine At.over_ret ?_
            refine At.block_ret ?_
            refine At.over_ret ?_
            refine At.done Y [(.cell 6 99, .agg [_, _]), (.cell 7 72, .agg [_, _, _, _]), (.tmp 8, .c _)] rfl ⟨.st rfl rfl t99 rfl rfl, .st rfl rfl t72 rfl rfl, .tmp rfl, trivial⟩ (to' := [(0, _), (1, _)]) ⟨rfl, rfl, trivial⟩ ?_ ?_ rfl rfl rfl (.inl rfl)
            · cases H0; rfl
            · cases H0; rfl
          ·
            replace H0 := bif_f H0 h5
            refine G.skip ?_
            refine At.next ?_
            refine G.seq ?_
            obtain ⟨x6, hx6, H0⟩ := bnd H0
            refine G.rd mixed ?_
            refine K.move (.inl rfl) (gd0 rfl) rfl rfl ?_
            refine K.fieldAddr Y (gd0 rfl) rfl t124 rfl rfl ?_
            refine K.loadS Y [_, _] (gd0 rfl) rfl rfl t99 rfl rfl rfl ?_
            refine K.loadS Y [_, _] (gd0 rfl) rfl rfl t99 rfl rfl rfl ?_
            refine K.loadS Y [_, _] (gd0 rfl) rfl rfl t99 rfl rfl rfl ?_
            refine K.call0 [(.func 92, _), ((.tmp 70), _), ((.tmp 72), _), ((.tmp 73), _), ((.tmp 74), _)] (Tree_linkS_con (k := k) hx6 0 1) (toFn_func (cf 92 rfl) rfl) (gd0 rfl) ⟨rfl, rfl, rfl, rfl, rfl, trivial⟩ ⟨rfl, rfl, trivial⟩ rfl rfl rfl rfl rfl rfl ?_
            refine K.loadS Y [_, _, _, _] (gd0 rfl) rfl rfl t72 rfl rfl rfl ?_
            refine K.store Y [_, _] (gd0 rfl) rfl rfl rfl t99 rfl rfl rfl rfl rfl ?_
            refine K.store Y [_, _, _, _] (gd0 rfl) rfl rfl rfl t72 rfl rfl rfl rfl rfl ?_
            refine K.move (.inr rfl) (gd0 rfl) rfl rfl ?_
            refine K.nil ?_
            refine ⟨by kernel_rfl, ?_⟩
            refine At.next ?_
            refine G.ret ?_
            refine At.block_ret ?_
            refine At.over_ret ?_
            refine At.done Y [(.cell 6 99, .agg [_, _]), (.cell 7 72, .agg [_, _, _, _]), (.tmp 8, .c _)] rfl ⟨.st rfl rfl t99 rfl rfl, .st rfl rfl t72 rfl rfl, .tmp rfl, trivial⟩ (to' := [(0, _), (1, _)]) ⟨rfl, rfl, trivial⟩ ?_ ?_ rfl rfl rfl (.inl rfl)
            · cases H0; rfl
            · cases H0; rfl
        ·
          replace H0 := bif_f H0 h4
          refine G.skip ?_
          refine At.block_normal ?_
          refine At.next ?_
          refine G.seq ?_
          obtain ⟨x7, hx7, H0⟩ := bnd H0
          refine G.rd mixed ?_
          refine K.move (.inl rfl) (gd0 rfl) rfl rfl ?_
          refine K.nilCheck (gd0 rfl) rfl rfl ?_
          refine K.fieldAddr Y (gd0 rfl) rfl t122 rfl rfl ?_
          refine K.load1 Y (gd0 rfl) rfl rfl t120 rfl rfl ?_
          refine K.loadS Y [_, _] (gd0 rfl) rfl rfl t99 rfl rfl rfl ?_
          refine K.call0 [(.func 98, _), ((.tmp 80), _), ((.tmp 81), _)] (pldropS hx7 1) (toFn_func (cf 98 rfl) rfl) (gd0 rfl) ⟨rfl, rfl, rfl, trivial⟩ ⟨rfl, trivial⟩ rfl rfl rfl rfl rfl rfl ?_
          refine K.nil ?_
          refine ⟨by kernel_rfl, ?_⟩
          refine At.next ?_
          refine G.seq ?_
          obtain ⟨x8, hx8, H0⟩ := bnd H0
          refine G.rd mixed ?_
          refine K.move (.inl rfl) (gd0 rfl) rfl rfl ?_
          refine K.fieldAddr Y (gd0 rfl) rfl t124 rfl rfl ?_
          refine K.loadS Y [_, _] (gd0 rfl) rfl rfl t99 rfl rfl rfl ?_
          refine K.fieldAddr Y (gd0 rfl) rfl t124 rfl rfl ?_
          refine K.loadS Y [_, _] (gd0 rfl) rfl rfl t99 rfl rfl rfl ?_
          refine K.call0 [(.func 99, _), ((.tmp 83), _), ((.tmp 85), _), ((.tmp 87), _)] (Tree_mergeS_con (k := k) hx8 0 1) (toFn_func (cf 99 rfl) rfl) (gd0 rfl) ⟨rfl, rfl, rfl, rfl, trivial⟩ ⟨rfl, rfl, trivial⟩ rfl rfl rfl rfl rfl rfl ?_
          refine K.fieldAddr Y (gd0 rfl) rfl t124 rfl rfl ?_
          refine K.loadS Y [_, _, _, _] (gd0 rfl) rfl rfl t72 rfl rfl rfl ?_
          refine K.store Y [_, _] (gd0 rfl) rfl rfl rfl t99 rfl rfl rfl rfl rfl ?_
          refine K.store Y [_, _, _, _] (gd0 rfl) rfl rfl rfl t72 rfl rfl rfl rfl rfl ?_
          refine K.move (.inr rfl) (gd0 rfl) rfl rfl ?_
          refine K.nil ?_
          refine ⟨by kernel_rfl, ?_⟩
          refine At.next ?_
          refine G.ret ?_
          refine At.done Y [(.cell 6 99, .agg [_, _]), (.cell 7 72, .agg [_, _, _, _]), (.tmp 8, .c _)] rfl ⟨.st rfl rfl t99 rfl rfl, .st rfl rfl t72 rfl rfl, .tmp rfl, trivial⟩ (to' := [(0, _), (1, _)]) ⟨rfl, rfl, trivial⟩ ?_ ?_ rfl rfl rfl (.inl rfl)
          · cases H0; rfl
          · cases H0; rfl
theorem Tree_dropS_con {k n : Nat}  {p1 : Pool (TNode TSlot TSize)} {a1 : TRef} {a2 : TSlot} {ri0 rg0 : Int} {r : TRef × TSlot × Bool × Pool (TNode TSlot TSize)}  (H0 : Tree_drop.r opsS k n p1 a1 a2 = some r) (m0 m1 : Nat) : SCon Try.prog 78 [SV.p m0 0, .a (.agg ((eTRef a1).map .v)), .a (.agg ((eTSlot a2).map .v))] [(m0, blk m0 [.p m1 0, .i ri0, .i rg0] 122), (m1, plS m1 p1)] (.tup [.agg ((eTRef r.1).map .v), .agg ((eTSlot r.2.1).map .v), .c (.v (.bool r.2.2.1))]) [(m0, blk m0 [.p m1 0, .i ri0, .i rg0] 122), (m1, plS m1 r.2.2.2)] [] :=
  SCon.ren (rn [(0, m0), (1, m1)]) (Tree_dropS_con0 (k := k)   H0) ⟨(blk_ren rfl rfl), (pl_ren rfl), trivial⟩ ⟨(blk_ren rfl rfl), (pl_ren rfl), trivial⟩ (by simp) (by simp)
theorem Tree_DropS_con0 {k : Nat}  {p1 : Pool (TNode TSlot TSize)} {rt0 : TRef} {a1 : TSlot} {r : TSlot × Bool × TRef × Pool (TNode TSlot TSize)}  (H0 : Tree_Drop.f opsS k p1 rt0 a1 = some r) : SCon Try.prog 49 [SV.p 0 0, .a (.agg ((eTSlot a1).map .v))] [(0, blk 0 [.p 1 0, .i rt0.index, .i rt0.gen] 122), (1, plS 1 p1)] (.tup [.agg ((eTSlot r.1).map .v), .c (.v (.bool r.2.1))]) [(0, blk 0 [.p 1 0, .i r.2.2.1.index, .i r.2.2.1.gen] 122), (1, plS 1 r.2.2.2)] [] := by
  rw [Tree_Drop.f] at H0
  refine spec_of [(0, _), (1, _)] [(0, _), (1, _)] 26 Try.func49 rfl Try.ntmps49 rfl rfl rfl rfl (fun β W F => ?_)
  refine G.seq ?_
  refine G.rg ?_
  refine K.box Y 100 [_, _, _, _] (gd0 rfl) rfl rfl rfl rfl rfl rfl ?_
  refine K.alloc Y 101 [_, _, _, _] (gd0 rfl) t72 rfl rfl rfl rfl rfl ?_
  refine K.move (.inr rfl) (gd0 rfl) rfl rfl ?_
  refine K.nil ?_
  refine At.next ?_
  refine G.seq ?_
  obtain ⟨x1, hx1, H0⟩ := bnd H0
  refine G.rd mixed ?_
  refine K.move (.inl rfl) (gd0 rfl) rfl rfl ?_
  refine K.move (.inl rfl) (gd0 rfl) rfl rfl ?_
  refine K.nilCheck (gd0 rfl) rfl rfl ?_
  refine K.fieldAddr Y (gd0 rfl) rfl t122 rfl rfl ?_
  refine K.loadS Y [_, _] (gd0 rfl) rfl rfl t99 rfl rfl rfl ?_
  refine K.loadS Y [_, _, _, _] (gd0 rfl) rfl rfl t72 rfl rfl rfl ?_
  refine K.call0 [(.func 78, _), ((.tmp 10), _), ((.tmp 14), _), ((.tmp 15), _)] (Tree_dropS_con (k := k) hx1 0 1) (toFn_func (cf 78 rfl) rfl) (gd0 rfl) ⟨rfl, rfl, rfl, rfl, trivial⟩ ⟨rfl, rfl, trivial⟩ rfl rfl rfl rfl rfl rfl ?_
  refine K.move (.inl rfl) (gd0 rfl) rfl rfl ?_
  refine K.extract (gd0 rfl) rfl rfl rfl ?_
  refine K.extract (gd0 rfl) rfl rfl rfl ?_
  refine K.extract (gd0 rfl) rfl rfl rfl ?_
  refine K.alloc Y 102 [_, _] (gd0 rfl) t99 rfl rfl rfl rfl rfl ?_
  refine K.alloc Y 103 [_, _, _, _] (gd0 rfl) t72 rfl rfl rfl rfl rfl ?_
  refine K.store Y [_, _] (gd0 rfl) rfl rfl rfl t99 rfl rfl rfl rfl rfl ?_
  refine K.store Y [_, _, _, _] (gd0 rfl) rfl rfl rfl t72 rfl rfl rfl rfl rfl ?_
  refine K.move (.inr rfl) (gd0 rfl) rfl rfl ?_
  refine K.nil ?_
  refine ⟨by kernel_rfl, ?_⟩
  refine At.next ?_
  refine G.seq ?_
  refine G.rg ?_
  refine K.move (.inl rfl) (gd0 rfl) rfl rfl ?_
  refine K.loadS Y [_, _] (gd0 rfl) rfl rfl t99 rfl rfl rfl ?_
  refine K.nilCheck (gd0 rfl) rfl rfl ?_
  refine K.fieldAddr Y (gd0 rfl) rfl t122 rfl rfl ?_
  refine K.store Y [_, _, _] (gd0 rfl) rfl rfl rfl t99 rfl rfl rfl rfl rfl ?_
  refine K.nil ?_
  refine At.next ?_
  refine G.seq ?_
  refine G.rg ?_
  refine K.loadS Y [_, _, _, _] (gd0 rfl) rfl rfl t72 rfl rfl rfl ?_
  refine K.move (.inl rfl) (gd0 rfl) rfl rfl ?_
  refine K.store Y [_, _, _, _] (gd0 rfl) rfl rfl rfl t72 rfl rfl rfl rfl rfl ?_
  refine K.move (.inr rfl) (gd0 rfl) rfl rfl ?_
  refine K.nil ?_
  refine At.next ?_
  refine G.ret ?_
  refine At.done Y [(.cell 4 72, .agg [_, _, _, _]), (.tmp 5, .c _)] rfl ⟨.st rfl rfl t72 rfl rfl, .tmp rfl, trivial⟩ (to' := [(0, _), (1, _)]) ⟨rfl, rfl, trivial⟩ ?_ ?_ rfl rfl rfl (.inl rfl)
  · cases H0; rfl
  · cases H0; rfl
theorem Tree_DropS_con {k : Nat}  {p1 : Pool (TNode TSlot TSize)} {rt0 : TRef} {a1 : TSlot} {r : TSlot × Bool × TRef × Pool (TNode TSlot TSize)}  (H0 : Tree_Drop.f opsS k p1 rt0 a1 = some r) (m0 m1 : Nat) : SCon Try.prog 49 [SV.p m0 0, .a (.agg ((eTSlot a1).map .v))] [(m0, blk m0 [.p m1 0, .i rt0.index, .i rt0.gen] 122), (m1, plS m1 p1)] (.tup [.agg ((eTSlot r.1).map .v), .c (.v (.bool r.2.1))]) [(m0, blk m0 [.p m1 0, .i r.2.2.1.index, .i r.2.2.1.gen] 122), (m1, plS m1 r.2.2.2)] [] :=
  SCon.ren (rn [(0, m0), (1, m1)]) (Tree_DropS_con0 (k := k)   H0) ⟨(blk_ren rfl rfl), (pl_ren rfl), trivial⟩ ⟨(blk_ren rfl rfl), (pl_ren rfl), trivial⟩ (by simp) (by simp)
theorem Tree_allS_o2_con0 {k : Nat}  : ∀ {n : Nat} {p1 : Pool (TNode TSlot TSize)} {a1 : TRef} {l2 : List TSlot} {ri0 rg0 : Int} {r : List TSlot}  (H0 : Tree_all.r opsS k n p1 a1 l2 = some r), SCon Try.prog 100 [SV.p 0 0, .a (.agg ((eTRef a1).map .v)), .a (.c (.nv 2))] [(0, blk 0 [.p 1 0, .i ri0, .i rg0] 122), (1, plS 1 p1), (2, lrow 2 72 eTSlot 4 l2)] (.a (.c (.nv 30))) [(0, blk 0 [.p 1 0, .i ri0, .i rg0] 122), (1, plS 1 p1), (30, lrow 30 72 eTSlot 4 r)] [30] := by
  intro n
  induction n with
  | zero => intro p1 a1 l2 ri0 rg0 r H0; exact absurd H0 (by simp [Tree_all.r])
  | succ n ih =>
    intro p1 a1 l2 ri0 rg0 r H0
    rw [Tree_all.r] at H0
    refine spec_of [(0, _), (1, _), (2, _)] [(0, _), (1, _), (2, _)] 28 Try.func100 rfl Try.ntmps100 rfl rfl rfl rfl (fun β W F => ?_)
    refine G.seq ?_
    refine G.rg ?_
    refine K.box Y 100 [_, _] (gd0 rfl) rfl rfl rfl rfl rfl rfl ?_
    refine K.nilRow 101 72 eTSlot 4 (.inl rfl) (gd0 rfl) rfl rfl rfl ?_
    refine K.nil ?_
    refine At.next ?_
    refine G.seq ?_
    refine G.seq ?_
    refine G.rg ?_
    refine K.fieldAddr Y (gd0 rfl) rfl t99 rfl rfl ?_
    refine K.load1 Y (gd0 rfl) rfl rfl t3 rfl rfl ?_
    refine K.bin (V := .bool (a1.gen == 0)) (gd0 rfl) rfl rfl (fun _ => rfl) rfl ?_
    refine K.nil ?_
    refine At.next ?_
    refine G.cond rfl (fun h1 => ?_) (fun h1 => ?_)
    ·
      replace H0 := bif_t H0 h1
      refine G.seq ?_
      refine G.rg ?_
      refine K.move (.inl rfl) (gd0 rfl) rfl rfl ?_
      refine K.move (.inr rfl) (gd0 rfl) rfl rfl ?_
      refine K.nil ?_
      refine At.next ?_
      refine G.ret ?_
      refine At.over_ret ?_
      refine At.ren (fs' := [(6, .a (.c (.nv 30)))]) (tl := [(0, blk 0 [.p 1 0, .v (.int .i64 ri0), .v (.int .i64 rg0)] 122), (1, plS 1 p1), (30, lrow 30 72 eTSlot 4 l2)]) [(30, 2)] [_, _, _] rfl ⟨rfl, trivial⟩ ⟨rfl, (blk_ren rfl rfl), rfl, (pl_ren rfl), rfl, (lrow_ren rfl), trivial⟩ rfl ?_
      refine At.done Y [(.tmp 6, .c _)] rfl ⟨.tmp rfl, trivial⟩ (to' := [(0, _), (1, _), (30, _)]) ⟨rfl, rfl, rfl, trivial⟩ ?_ ?_ rfl rfl rfl (.inl rfl)
      · cases H0; rfl
      · cases H0; rfl
    ·
      replace H0 := bif_f H0 h1
      refine G.skip ?_
      refine At.next ?_
      refine G.seq ?_
      obtain ⟨x1, hx1, H0⟩ := bnd H0
      refine G.rg ?_
      refine K.move (.inl rfl) (gd0 rfl) rfl rfl ?_
      refine K.loadS Y [_, _] (gd0 rfl) rfl rfl t99 rfl rfl rfl ?_
      refine K.callR [(.func 76, _), ((.tmp 12), _), ((.tmp 13), _)] (Tree_getS_con (k := k) hx1 0 1) (toFn_func (cf 76 rfl) rfl) (gd0 rfl) ⟨rfl, rfl, rfl, trivial⟩ ⟨rfl, rfl, trivial⟩ rfl rfl rfl ?_
      refine K.alloc Y 102 [_, _, _, _, _, _, _, _, _, _] (gd0 rfl) t124 rfl rfl rfl rfl rfl ?_
      refine K.store Y [_, _, _, _, _, _, _, _, _, _] (gd0 rfl) rfl rfl rfl t124 rfl rfl rfl rfl rfl ?_
      refine K.nil ?_
      refine At.next ?_
      refine G.seq ?_
      obtain ⟨x2, hx2, H0⟩ := bnd H0
      obtain ⟨h2, H0⟩ := grd H0
      obtain ⟨x3, hx3, H0⟩ := bnd H0
      refine G.rd mixed ?_
      refine K.move (.inl rfl) (gd0 rfl) rfl rfl ?_
      refine K.fieldAddr Y (gd0 rfl) rfl t124 rfl rfl ?_
      refine K.loadS Y [_, _] (gd0 rfl) rfl rfl t99 rfl rfl rfl ?_
      refine K.move (.inl rfl) (gd0 rfl) rfl rfl ?_
      refine K.fieldAddr Y (gd0 rfl) rfl t124 rfl rfl ?_
      refine K.loadS Y [_, _] (gd0 rfl) rfl rfl t99 rfl rfl rfl ?_
      refine K.move (.inl rfl) (gd0 rfl) rfl rfl ?_
      refine K.callC [(.func 100, _), ((.tmp 18), _), ((.tmp 20), _), ((.tmp 21), _)] [] [(0, _), (1, _), (2, _)] [(0, _), (1, _), (103, _)] (fun β => [SV.p 0 0, .a (.agg ((eTRef x1.left).map .v)), .a (.c (.nv 2))]) (fun β w S2 h => SCon.rd0 (SCon.ren (ti' := [(0, _), (1, _), (2, _)]) (to' := [(0, _), (1, _), (103, _)]) (rn [(0, 0), (1, 1), (2, 2), (30, 103)]) (ih  hx2) ⟨(blk_ren rfl rfl), (pl_ren rfl), (lrow_ren rfl), trivial⟩ ⟨(blk_ren rfl rfl), (pl_ren rfl), (lrow_ren rfl), trivial⟩ (rn_nd (hd_ [0, 1, 2, 103] rfl) rfl rfl) (rn_ks (hd_ [0, 1, 2, 103] rfl) rfl rfl rfl)) S2 w h) (toFn_func (cf 100 rfl) rfl) (gd0 rfl) ⟨rfl, rfl, rfl, rfl, trivial⟩ (fun _ => rfl) ⟨rfl, rfl, rfl, trivial⟩ rfl rfl rfl rfl rfl rfl ?_
      refine K.fieldAddr Y (gd0 rfl) rfl t124 rfl rfl ?_
      refine K.loadS Y [_, _, _, _] (gd0 rfl) rfl rfl t72 rfl rfl rfl ?_
      refine K.buildL Y 104 ([x1.e] : List TSlot) [(0, _)] [((.tmp 24), _)] eTSlot_len (gd0 rfl) (AllE.spec ⟨rfl, trivial⟩) rfl rfl Try.underlying130 t72 rfl rfl rfl rfl rfl rfl rfl rfl ?_
      refine K.appendL 105 (lrowV 104 72 eTSlot 4 ([x1.e] : List TSlot)) _ el130 (lrowV_is eTSlot_len (by decide)) eTSlot_one (gd0 rfl) rfl rfl rfl rfl rfl (ap_m h2) (ap_b h2 (by decide)) rfl rfl rfl rfl rfl rfl ?_
      refine K.callC [(.func 100, _), ((.tmp 15), _), ((.tmp 17), _), ((.tmp 26), _)] [] [(0, _), (1, _), (105, _)] [(0, _), (1, _), (106, _)] (fun β => [SV.p 0 0, .a (.agg ((eTRef x1.right).map .v)), .a (.c (.nv 105))]) (fun β w S2 h => SCon.rd0 (SCon.ren (ti' := [(0, _), (1, _), (105, _)]) (to' := [(0, _), (1, _), (106, _)]) (rn [(0, 0), (1, 1), (2, 105), (30, 106)]) (ih  hx3) ⟨(blk_ren rfl rfl), (pl_ren rfl), (lrow_ren rfl), trivial⟩ ⟨(blk_ren rfl rfl), (pl_ren rfl), (lrow_ren rfl), trivial⟩ (rn_nd (hd_ [0, 1, 105, 106] rfl) rfl rfl) (rn_ks (hd_ [0, 1, 105, 106] rfl) rfl rfl rfl)) S2 w h) (toFn_func (cf 100 rfl) rfl) (gd0 rfl) ⟨rfl, rfl, rfl, rfl, trivial⟩ (fun _ => rfl) ⟨rfl, rfl, rfl, trivial⟩ rfl rfl rfl rfl rfl rfl ?_
      refine K.move (.inr rfl) (gd0 rfl) rfl rfl ?_
      refine K.nil ?_
      refine ⟨by kernel_rfl, ?_⟩
      refine At.next ?_
      refine G.ret ?_
      refine At.ren (fs' := [(6, .a (.c (.nv 30)))]) (tl := [(0, blk 0 [.p 1 0, .v (.int .i64 ri0), .v (.int .i64 rg0)] 122), (1, plS 1 p1), (30, lrow 30 72 eTSlot 4 x3)]) [(30, 106)] [_, _, _] rfl ⟨rfl, trivial⟩ ⟨rfl, (blk_ren rfl rfl), rfl, (pl_ren rfl), rfl, (lrow_ren rfl), trivial⟩ rfl ?_
      refine At.done Y [(.tmp 6, .c _)] rfl ⟨.tmp rfl, trivial⟩ (to' := [(0, _), (1, _), (30, _)]) ⟨rfl, rfl, rfl, trivial⟩ ?_ ?_ rfl rfl rfl (.inl rfl)
      · cases H0; rfl
      · cases H0; rfl
theorem Tree_allS_o2_con {k n : Nat}  {p1 : Pool (TNode TSlot TSize)} {a1 : TRef} {l2 : List TSlot} {ri0 rg0 : Int} {r : List TSlot}  (H0 : Tree_all.r opsS k n p1 a1 l2 = some r) (m0 m1 m2 m30 : Nat) (hd : ndB [m0, m1, m2, m30] = true) : SCon Try.prog 100 [SV.p m0 0, .a (.agg ((eTRef a1).map .v)), .a (.c (.nv m2))] [(m0, blk m0 [.p m1 0, .i ri0, .i rg0] 122), (m1, plS m1 p1), (m2, lrow m2 72 eTSlot 4 l2)] (.a (.c (.nv m30))) [(m0, blk m0 [.p m1 0, .i ri0, .i rg0] 122), (m1, plS m1 p1), (m30, lrow m30 72 eTSlot 4 r)] [m30] :=
  SCon.ren (rn [(0, m0), (1, m1), (2, m2), (30, m30)]) (Tree_allS_o2_con0 (k := k)   H0) ⟨(blk_ren rfl rfl), (pl_ren rfl), (lrow_ren rfl), trivial⟩ ⟨(blk_ren rfl rfl), (pl_ren rfl), (lrow_ren rfl), trivial⟩ (rn_nd hd rfl rfl) (rn_ks hd rfl rfl rfl)
theorem Tree_allS_n2_con0 {k : Nat}  : ∀ {n : Nat} {p1 : Pool (TNode TSlot TSize)} {a1 : TRef} {ri0 rg0 : Int} {r : List TSlot}  (H0 : Tree_all.r opsS k n p1 a1 ([] : List TSlot) = some r), SCon Try.prog 100 [SV.p 0 0, .a (.agg ((eTRef a1).map .v)), SV.raw (.slice none 0 0)] [(0, blk 0 [.p 1 0, .i ri0, .i rg0] 122), (1, plS 1 p1)] (.a (.c (.nv 30))) [(0, blk 0 [.p 1 0, .i ri0, .i rg0] 122), (1, plS 1 p1), (30, lrow 30 72 eTSlot 4 r)] [30] := by
  intro n
  cases n with
  | zero => intro p1 a1 ri0 rg0 r H0; exact absurd H0 (by simp [Tree_all.r])
  | succ n =>
    intro p1 a1 ri0 rg0 r H0
    rw [Tree_all.r] at H0
    refine spec_of [(0, _), (1, _), (2, _)] [(0, _), (1, _)] 28 Try.func100 rfl Try.ntmps100 rfl rfl rfl rfl (fun β W F => ?_)
    refine G.seq ?_
    refine G.rg ?_
    refine K.box Y 100 [_, _] (gd0 rfl) rfl rfl rfl rfl rfl rfl ?_
    refine K.nilRow 101 72 eTSlot 4 (.inl rfl) (gd0 rfl) rfl rfl rfl ?_
    refine K.nil ?_
    refine At.next ?_
    refine G.seq ?_
    refine G.seq ?_
    refine G.rg ?_
    refine K.fieldAddr Y (gd0 rfl) rfl t99 rfl rfl ?_
    refine K.load1 Y (gd0 rfl) rfl rfl t3 rfl rfl ?_
    refine K.bin (V := .bool (a1.gen == 0)) (gd0 rfl) rfl rfl (fun _ => rfl) rfl ?_
    refine K.nil ?_
    refine At.next ?_
    refine G.cond rfl (fun h1 => ?_) (fun h1 => ?_)
    ·
      replace H0 := bif_t H0 h1
      refine G.seq ?_
      refine G.rg ?_
      refine K.nilRowS 102 72 eTSlot 4 (.inr rfl) (gd0 rfl) rfl rfl rfl rfl ?_
      refine K.move (.inr rfl) (gd0 rfl) rfl rfl ?_
      refine K.nil ?_
      refine At.next ?_
      refine G.ret ?_
      refine At.over_ret ?_
      refine At.ren (fs' := [(6, .a (.c (.nv 30)))]) (tl := [(0, blk 0 [.p 1 0, .v (.int .i64 ri0), .v (.int .i64 rg0)] 122), (1, plS 1 p1), (30, lrow 30 72 eTSlot 4 ([] : List TSlot))]) [(30, 102)] [_, _, _] rfl ⟨rfl, trivial⟩ ⟨rfl, (blk_ren rfl rfl), rfl, (pl_ren rfl), rfl, (lrow_ren rfl), trivial⟩ rfl ?_
      refine At.done Y [(.tmp 6, .c _)] rfl ⟨.tmp rfl, trivial⟩ (to' := [(0, _), (1, _), (30, _)]) ⟨rfl, rfl, rfl, trivial⟩ ?_ ?_ rfl rfl rfl (.inl rfl)
      · cases H0; rfl
      · cases H0; rfl
    ·
      replace H0 := bif_f H0 h1
      refine G.skip ?_
      refine At.next ?_
      refine G.seq ?_
      obtain ⟨x1, hx1, H0⟩ := bnd H0
      refine G.rg ?_
      refine K.move (.inl rfl) (gd0 rfl) rfl rfl ?_
      refine K.loadS Y [_, _] (gd0 rfl) rfl rfl t99 rfl rfl rfl ?_
      refine K.callR [(.func 76, _), ((.tmp 12), _), ((.tmp 13), _)] (Tree_getS_con (k := k) hx1 0 1) (toFn_func (cf 76 rfl) rfl) (gd0 rfl) ⟨rfl, rfl, rfl, trivial⟩ ⟨rfl, rfl, trivial⟩ rfl rfl rfl ?_
      refine K.alloc Y 103 [_, _, _, _, _, _, _, _, _, _] (gd0 rfl) t124 rfl rfl rfl rfl rfl ?_
      refine K.store Y [_, _, _, _, _, _, _, _, _, _] (gd0 rfl) rfl rfl rfl t124 rfl rfl rfl rfl rfl ?_
      refine K.nil ?_
      refine At.next ?_
      refine G.seq ?_
      obtain ⟨x2, hx2, H0⟩ := bnd H0
      obtain ⟨h2, H0⟩ := grd H0
      obtain ⟨x3, hx3, H0⟩ := bnd H0
      refine G.rd mixed ?_
      refine K.move (.inl rfl) (gd0 rfl) rfl rfl ?_
      refine K.fieldAddr Y (gd0 rfl) rfl t124 rfl rfl ?_
      refine K.loadS Y [_, _] (gd0 rfl) rfl rfl t99 rfl rfl rfl ?_
      refine K.move (.inl rfl) (gd0 rfl) rfl rfl ?_
      refine K.fieldAddr Y (gd0 rfl) rfl t124 rfl rfl ?_
      refine K.loadS Y [_, _] (gd0 rfl) rfl rfl t99 rfl rfl rfl ?_
      refine K.nilRowS 104 72 eTSlot 4 (.inr rfl) (gd0 rfl) rfl rfl rfl rfl ?_
      refine K.callC [(.func 100, _), ((.tmp 18), _), ((.tmp 20), _), ((.tmp 21), _)] [] [(0, _), (1, _), (104, _)] [(0, _), (1, _), (105, _)] (fun β => [SV.p 0 0, .a (.agg ((eTRef x1.left).map .v)), .a (.c (.nv 104))]) (fun β w S2 h => SCon.rd0 (Tree_allS_o2_con (k := k) hx2 0 1 104 105 rfl) S2 w h) (toFn_func (cf 100 rfl) rfl) (gd0 rfl) ⟨rfl, rfl, rfl, rfl, trivial⟩ (fun _ => rfl) ⟨rfl, rfl, rfl, trivial⟩ rfl rfl rfl rfl rfl rfl ?_
      refine K.fieldAddr Y (gd0 rfl) rfl t124 rfl rfl ?_
      refine K.loadS Y [_, _, _, _] (gd0 rfl) rfl rfl t72 rfl rfl rfl ?_
      refine K.buildL Y 106 ([x1.e] : List TSlot) [(0, _)] [((.tmp 24), _)] eTSlot_len (gd0 rfl) (AllE.spec ⟨rfl, trivial⟩) rfl rfl Try.underlying130 t72 rfl rfl rfl rfl rfl rfl rfl rfl ?_
      refine K.appendL 107 (lrowV 106 72 eTSlot 4 ([x1.e] : List TSlot)) _ el130 (lrowV_is eTSlot_len (by decide)) eTSlot_one (gd0 rfl) rfl rfl rfl rfl rfl (ap_m h2) (ap_b h2 (by decide)) rfl rfl rfl rfl rfl rfl ?_
      refine K.callC [(.func 100, _), ((.tmp 15), _), ((.tmp 17), _), ((.tmp 26), _)] [] [(0, _), (1, _), (107, _)] [(0, _), (1, _), (108, _)] (fun β => [SV.p 0 0, .a (.agg ((eTRef x1.right).map .v)), .a (.c (.nv 107))]) (fun β w S2 h => SCon.rd0 (Tree_allS_o2_con (k := k) hx3 0 1 107 108 rfl) S2 w h) (toFn_func (cf 100 rfl) rfl) (gd0 rfl) ⟨rfl, rfl, rfl, rfl, trivial⟩ (fun _ => rfl) ⟨rfl, rfl, rfl, trivial⟩ rfl rfl rfl rfl rfl rfl ?_
      refine K.move (.inr rfl) (gd0 rfl) rfl rfl ?_
      refine K.nil ?_
      refine ⟨by kernel_rfl, ?_⟩
      refine At.next ?_
      refine G.ret ?_
      refine At.ren (fs' := [(6, .a (.c (.nv 30)))]) (tl := [(0, blk 0 [.p 1 0, .v (.int .i64 ri0), .v (.int .i64 rg0)] 122), (1, plS 1 p1), (30, lrow 30 72 eTSlot 4 x3)]) [(30, 108)] [_, _, _] rfl ⟨rfl, trivial⟩ ⟨rfl, (blk_ren rfl rfl), rfl, (pl_ren rfl), rfl, (lrow_ren rfl), trivial⟩ rfl ?_
      refine At.done Y [(.tmp 6, .c _)] rfl ⟨.tmp rfl, trivial⟩ (to' := [(0, _), (1, _), (30, _)]) ⟨rfl, rfl, rfl, trivial⟩ ?_ ?_ rfl rfl rfl (.inl rfl)
      · cases H0; rfl
      · cases H0; rfl
theorem Tree_allS_n2_con {k n : Nat}  {p1 : Pool (TNode TSlot TSize)} {a1 : TRef} {ri0 rg0 : Int} {r : List TSlot}  (H0 : Tree_all.r opsS k n p1 a1 ([] : List TSlot) = some r) (m0 m1 m30 : Nat) (hd : ndB [m0, m1, m30] = true) : SCon Try.prog 100 [SV.p m0 0, .a (.agg ((eTRef a1).map .v)), SV.raw (.slice none 0 0)] [(m0, blk m0 [.p m1 0, .i ri0, .i rg0] 122), (m1, plS m1 p1)] (.a (.c (.nv m30))) [(m0, blk m0 [.p m1 0, .i ri0, .i rg0] 122), (m1, plS m1 p1), (m30, lrow m30 72 eTSlot 4 r)] [m30] :=
  SCon.ren (rn [(0, m0), (1, m1), (30, m30)]) (Tree_allS_n2_con0 (k := k)   H0) ⟨(blk_ren rfl rfl), (pl_ren rfl), trivial⟩ ⟨(blk_ren rfl rfl), (pl_ren rfl), (lrow_ren rfl), trivial⟩ (rn_nd hd rfl rfl) (rn_ks hd rfl rfl rfl)
theorem Tree_AllS_con0 {k : Nat}  {p1 : Pool (TNode TSlot TSize)} {rt0 : TRef} {r : List TSlot}  (H0 : Tree_All.f opsS k p1 rt0 = some r) : SCon Try.prog 80 [SV.p 0 0] [(0, blk 0 [.p 1 0, .i rt0.index, .i rt0.gen] 122), (1, plS 1 p1)] (.a (.c (.nv 30))) [(0, blk 0 [.p 1 0, .i rt0.index, .i rt0.gen] 122), (1, plS 1 p1), (30, lrow 30 72 eTSlot 4 r)] [30] := by
  rw [Tree_All.f] at H0
  refine spec_of [(0, _)] [(0, _), (1, _)] 9 Try.func80 rfl Try.ntmps80 rfl rfl rfl rfl (fun β W F => ?_)
  refine G.seq ?_
  refine G.rg ?_
  refine K.nilRow 100 72 eTSlot 4 (.inl rfl) (gd0 rfl) rfl rfl rfl ?_
  refine K.nil ?_
  refine At.next ?_
  refine G.seq ?_
  obtain ⟨x1, hx1, H0⟩ := bnd H0
  refine G.rg ?_
  refine K.move (.inl rfl) (gd0 rfl) rfl rfl ?_
  refine K.move (.inl rfl) (gd0 rfl) rfl rfl ?_
  refine K.nilCheck (gd0 rfl) rfl rfl ?_
  refine K.fieldAddr Y (gd0 rfl) rfl t122 rfl rfl ?_
  refine K.loadS Y [_, _] (gd0 rfl) rfl rfl t99 rfl rfl rfl ?_
  refine K.call0 [(.func 100, _), ((.tmp 3), _), ((.tmp 7), _), (_, _)] (Tree_allS_n2_con (k := k) hx1 0 1 101 rfl) (toFn_func (cf 100 rfl) rfl) (gd0 rfl) ⟨rfl, rfl, rfl, rfl, trivial⟩ ⟨rfl, rfl, trivial⟩ rfl rfl rfl rfl rfl rfl ?_
  refine K.move (.inr rfl) (gd0 rfl) rfl rfl ?_
  refine K.nil ?_
  refine At.next ?_
  refine G.ret ?_
  refine At.ren (fs' := [(2, .a (.c (.nv 30)))]) (tl := [(0, blk 0 [.p 1 0, .v (.int .i64 rt0.index), .v (.int .i64 rt0.gen)] 122), (1, plS 1 p1), (30, lrow 30 72 eTSlot 4 x1)]) [(30, 101)] [_, _, _] rfl ⟨rfl, trivial⟩ ⟨rfl, (blk_ren rfl rfl), rfl, (pl_ren rfl), rfl, (lrow_ren rfl), trivial⟩ rfl ?_
  refine At.done Y [(.tmp 2, .c _)] rfl ⟨.tmp rfl, trivial⟩ (to' := [(0, _), (1, _), (30, _)]) ⟨rfl, rfl, rfl, trivial⟩ ?_ ?_ rfl rfl rfl (.inl rfl)
  · cases H0; rfl
  · cases H0; rfl
theorem Tree_AllS_con {k : Nat}  {p1 : Pool (TNode TSlot TSize)} {rt0 : TRef} {r : List TSlot}  (H0 : Tree_All.f opsS k p1 rt0 = some r) (m0 m1 m30 : Nat) (hd : ndB [m0, m1, m30] = true) : SCon Try.prog 80 [SV.p m0 0] [(m0, blk m0 [.p m1 0, .i rt0.index, .i rt0.gen] 122), (m1, plS m1 p1)] (.a (.c (.nv m30))) [(m0, blk m0 [.p m1 0, .i rt0.index, .i rt0.gen] 122), (m1, plS m1 p1), (m30, lrow m30 72 eTSlot 4 r)] [m30] :=
  SCon.ren (rn [(0, m0), (1, m1), (30, m30)]) (Tree_AllS_con0 (k := k)   H0) ⟨(blk_ren rfl rfl), (pl_ren rfl), trivial⟩ ⟨(blk_ren rfl rfl), (pl_ren rfl), (lrow_ren rfl), trivial⟩ (rn_nd hd rfl rfl) (rn_ks hd rfl rfl rfl)
end Go.Proofs.Ytjokolmijhhinaa


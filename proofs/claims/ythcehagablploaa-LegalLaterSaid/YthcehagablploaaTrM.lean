/- Walks of trees. Printed by a program of mine. -/
import Derived.KernelRfl
import Derived.Test.YthcehagablploaaMa
import Derived.Test.YthcehagablploaaArM
namespace Go.Proofs.Ythcehagablploaa
open Go Go.Proofs.Ythcehagablploaa.Sx
set_option linter.unusedVariables false
set_option linter.unusedSimpArgs false
abbrev plM (k : Nat) (p : Pool (TNode TMark TSwell)) : Tok := pl k 93 104 3 31 fCM p
theorem plgetM {p : Pool (TNode TMark TSwell)} {i g : Int} {x : (TNode TMark TSwell) × Bool} (h : pGet zNodeM p i g = some x) (k : Nat) : SCon Try.prog 65 [SV.p k 0, SV.agg [.i i, .i g]] [(k, plM k p)] (.tup [avM x.1, .c (.b x.2)]) [(k, plM k p)] [] := by
  obtain ⟨hp, hx⟩ := grd h
  cases hx
  refine SCon.hide fun v => ?_
  obtain ⟨h1, v', h2⟩ := get_vis (p := p) (z := zNodeM) v i g
  refine ⟨v', ?_⟩
  have := getM' { p with vis := v } i g (hp.ok v) (by decide) k
  rw [h1, h2] at this
  exact this
theorem plsetM {p : Pool (TNode TMark TSwell)} {i g : Int} {y : (TNode TMark TSwell)} {x : Bool × Pool (TNode TMark TSwell)} (h : pSet p i g y = some x) (k : Nat) : SCon Try.prog 71 [SV.p k 0, SV.agg [.i i, .i g], .a (avM y)] [(k, plM k p)] (SV.b x.1) [(k, plM k x.2)] [] := by
  obtain ⟨hp, hx⟩ := grd h
  cases hx
  refine SCon.hide fun v => ?_
  obtain ⟨h1, v', h2⟩ := set_vis (p := p) v i g y
  refine ⟨v', ?_⟩
  have := setM' { p with vis := v } i g y (hp.ok v) (by decide) k
  rw [h1, h2] at this
  exact this
theorem plputM {p : Pool (TNode TMark TSwell)} {y : (TNode TMark TSwell)} {x : ((Int × Int) × Bool) × Pool (TNode TMark TSwell)} (h : pPut zNodeM p y = some x) (k : Nat) : SCon Try.prog 69 [SV.p k 0, .a (avM y)] [(k, plM k p)] (.tup [.agg [.i x.1.1.1, .i x.1.1.2], .c (.b x.1.2)]) [(k, plM k x.2)] [] := by
  obtain ⟨hp, hx⟩ := grd h
  cases hx
  refine SCon.hide fun v => ?_
  obtain ⟨h1, v', h2⟩ := put_vis (p := p) (z := zNodeM) v y
  refine ⟨v', ?_⟩
  have := putM { p with vis := v } y (hp.ok v) (by decide) k
  rw [h1, h2] at this
  exact this
theorem plnewM (c : Int) (k : Nat) : SCon Try.prog 68 [SV.i c] [] (SV.p k 0) [(k, plM k ⟨[], [], capOf c, 0, 0⟩)] [k] := SCon.hideNew (newM c k)
theorem Tree_NewM_con0 {k : Nat}  {a0 : Int} {r : TRef × Pool (TNode TMark TSwell)}  (H0 : Tree_New.f opsM k a0 = some r) : SCon Try.prog 60 [.a (.c (.v (.int .i64 a0)))] [] (.a (.c (.p 40 0))) [(40, blk 40 [.p 41 0, .i r.1.index, .i r.1.gen] 74), (41, plM 41 r.2)] [40, 41] := by
  rw [Tree_New.f] at H0
  refine spec_of [(0, _)] [] 7 Try.func60 rfl Try.ntmps60 rfl rfl rfl rfl (fun β W F => ?_)
  refine G.seq ?_
  refine G.rg ?_
  refine K.move (.inr rfl) (gd0 rfl) rfl rfl ?_
  refine K.nil ?_
  refine At.next ?_
  refine G.seq ?_
  refine G.rg ?_
  refine K.move (.inl rfl) (gd0 rfl) rfl rfl ?_
  refine K.call0 [(.func 68, _), ((.tmp 3), _)] (plnewM a0 100) (toFn_func (cf 68 rfl) rfl) (gd0 rfl) ⟨rfl, rfl, trivial⟩ trivial rfl rfl rfl rfl rfl rfl ?_
  refine K.build Y [(0, _)] [_, _, _] [((.tmp 4), _)] (gd0 rfl) (AllE.spec ⟨rfl, trivial⟩) rfl rfl t74 rfl rfl ?_
  refine K.box Y 101 [_, _, _] (gd0 rfl) rfl rfl rfl rfl rfl rfl ?_
  refine K.move (.inr rfl) (gd0 rfl) rfl rfl ?_
  refine K.nil ?_
  refine At.next ?_
  refine G.ret ?_
  refine At.ren (fs' := [(2, .a (.c (.p 40 0)))]) (tl := [(40, blk 40 [.p 41 0, .v (.int .i64 0), .v (.int .i64 0)] 74), (41, plM 41 (⟨[], [], capOf a0, 0, 0⟩ : Pool (TNode TMark TSwell)))]) [(40, 101), (41, 100)] [_, _] rfl ⟨rfl, trivial⟩ ⟨rfl, (blk_ren rfl rfl), rfl, (pl_ren rfl), trivial⟩ rfl ?_
  refine At.done Y [(.tmp 2, .c _)] rfl ⟨.tmp rfl, trivial⟩ (to' := [(40, _), (41, _)]) ⟨rfl, rfl, trivial⟩ ?_ ?_ rfl rfl rfl (.inl rfl)
  · cases H0; rfl
  · cases H0; rfl
theorem Tree_NewM_con {k : Nat}  {a0 : Int} {r : TRef × Pool (TNode TMark TSwell)}  (H0 : Tree_New.f opsM k a0 = some r) (m40 m41 : Nat) (hd : ndB [m40, m41] = true) : SCon Try.prog 60 [.a (.c (.v (.int .i64 a0)))] [] (.a (.c (.p m40 0))) [(m40, blk m40 [.p m41 0, .i r.1.index, .i r.1.gen] 74), (m41, plM m41 r.2)] [m40, m41] :=
  SCon.ren (rn [(40, m40), (41, m41)]) (Tree_NewM_con0 (k := k)   H0) trivial ⟨(blk_ren rfl rfl), (pl_ren rfl), trivial⟩ (rn_nd hd rfl rfl) (rn_ks hd rfl rfl rfl)
theorem Tree_getM_con0 {k : Nat}  {p1 : Pool (TNode TMark TSwell)} {a1 : TRef} {ri0 rg0 : Int} {r : TNode TMark TSwell}  (H0 : Tree_get.f opsM k p1 a1 = some r) : SCon Try.prog 50 [SV.p 0 0, .a (.agg ((eTRef a1).map .v))] [(0, blk 0 [.p 1 0, .i ri0, .i rg0] 74), (1, plM 1 p1)] (.a (.agg ((eTNode_TMark_TSwell r).map .v))) [(0, blk 0 [.p 1 0, .i ri0, .i rg0] 74), (1, plM 1 p1)] [] := by
  rw [Tree_get.f] at H0
  refine spec_of [(0, _), (1, _)] [(0, _), (1, _)] 21 Try.func50 rfl Try.ntmps50 rfl rfl rfl rfl (fun β W F => ?_)
  refine G.seq ?_
  refine G.rg ?_
  refine K.box Y 100 [_, _] (gd0 rfl) rfl rfl rfl rfl rfl rfl ?_
  refine K.alloc Y 101 [_, _, _, _, _, _, _, _, _, _, _, _, _, _, _, _, _, _, _, _, _, _, _, _, _, _, _, _, _] (gd0 rfl) t70 rfl rfl rfl rfl rfl ?_
  refine K.nil ?_
  refine At.next ?_
  refine G.seq ?_
  refine G.seq ?_
  refine G.rg ?_
  refine K.fieldAddr Y (gd0 rfl) rfl t68 rfl rfl ?_
  refine K.load1 Y (gd0 rfl) rfl rfl t3 rfl rfl ?_
  refine K.bin (V := .bool (a1.gen == 0)) (gd0 rfl) rfl rfl (fun _ => rfl) rfl ?_
  refine K.nil ?_
  refine At.next ?_
  refine G.cond rfl (fun h1 => ?_) (fun h1 => ?_)
  ·
    replace H0 := bif_t H0 h1
    refine G.seq ?_
    refine G.rg ?_
    refine K.build Y [] [_, _, _, _, _, _, _, _, _, _, _, _, _, _, _, _, _, _, _, _, _, _, _, _, _, _, _, _, _] [] (gd0 rfl) (AllE.spec trivial) rfl rfl t70 rfl rfl ?_
    refine K.store Y [_, _, _, _, _, _, _, _, _, _, _, _, _, _, _, _, _, _, _, _, _, _, _, _, _, _, _, _, _] (gd0 rfl) rfl rfl rfl t70 rfl rfl rfl rfl rfl ?_
    refine K.nil ?_
    refine At.next ?_
    refine G.ret ?_
    refine At.over_ret ?_
    refine At.done Y [(.cell 4 70, .agg [_, _, _, _, _, _, _, _, _, _, _, _, _, _, _, _, _, _, _, _, _, _, _, _, _, _, _, _, _])] rfl ⟨.st rfl rfl t70 rfl rfl, trivial⟩ (to' := [(0, _), (1, _)]) ⟨rfl, rfl, trivial⟩ ?_ ?_ rfl rfl rfl (.inl rfl)
    · cases H0; rfl
    · cases H0; rfl
  ·
    replace H0 := bif_f H0 h1
    refine G.skip ?_
    refine At.next ?_
    refine G.seq ?_
    obtain ⟨x1, hx1, H0⟩ := bnd H0
    refine G.rd mixed ?_
    refine K.move (.inl rfl) (gd0 rfl) rfl rfl ?_
    refine K.nilCheck (gd0 rfl) rfl rfl ?_
    refine K.fieldAddr Y (gd0 rfl) rfl t74 rfl rfl ?_
    refine K.load1 Y (gd0 rfl) rfl rfl t72 rfl rfl ?_
    refine K.loadS Y [_, _] (gd0 rfl) rfl rfl t68 rfl rfl rfl ?_
    refine K.callR [(.func 65, _), ((.tmp 15), _), ((.tmp 16), _)] (plgetM hx1 1) (toFn_func (cf 65 rfl) rfl) (gd0 rfl) ⟨rfl, rfl, rfl, trivial⟩ ⟨rfl, trivial⟩ rfl rfl rfl ?_
    refine K.move (.inl rfl) (gd0 rfl) rfl rfl ?_
    refine K.extract (gd0 rfl) rfl rfl rfl ?_
    refine K.extract (gd0 rfl) rfl rfl rfl ?_
    refine K.alloc Y 102 [_, _, _, _, _, _, _, _, _, _, _, _, _, _, _, _, _, _, _, _, _, _, _, _, _, _, _, _, _] (gd0 rfl) t70 rfl rfl rfl rfl rfl ?_
    refine K.store Y [_, _, _, _, _, _, _, _, _, _, _, _, _, _, _, _, _, _, _, _, _, _, _, _, _, _, _, _, _] (gd0 rfl) rfl rfl rfl t70 rfl rfl rfl rfl rfl ?_
    refine K.move (.inr rfl) (gd0 rfl) rfl rfl ?_
    refine K.nil ?_
    refine ⟨by kernel_rfl, ?_⟩
    refine At.next ?_
    refine G.seq ?_
    refine G.rg ?_
    refine K.loadS Y [_, _, _, _, _, _, _, _, _, _, _, _, _, _, _, _, _, _, _, _, _, _, _, _, _, _, _, _, _] (gd0 rfl) rfl rfl t70 rfl rfl rfl ?_
    refine K.store Y [_, _, _, _, _, _, _, _, _, _, _, _, _, _, _, _, _, _, _, _, _, _, _, _, _, _, _, _, _] (gd0 rfl) rfl rfl rfl t70 rfl rfl rfl rfl rfl ?_
    refine K.nil ?_
    refine At.next ?_
    refine G.ret ?_
    refine At.done Y [(.cell 4 70, .agg [_, _, _, _, _, _, _, _, _, _, _, _, _, _, _, _, _, _, _, _, _, _, _, _, _, _, _, _, _])] rfl ⟨.st rfl rfl t70 rfl rfl, trivial⟩ (to' := [(0, _), (1, _)]) ⟨rfl, rfl, trivial⟩ ?_ ?_ rfl rfl rfl (.inl rfl)
    · cases H0; rfl
    · cases H0; rfl
theorem Tree_getM_con {k : Nat}  {p1 : Pool (TNode TMark TSwell)} {a1 : TRef} {ri0 rg0 : Int} {r : TNode TMark TSwell}  (H0 : Tree_get.f opsM k p1 a1 = some r) (m0 m1 : Nat) : SCon Try.prog 50 [SV.p m0 0, .a (.agg ((eTRef a1).map .v))] [(m0, blk m0 [.p m1 0, .i ri0, .i rg0] 74), (m1, plM m1 p1)] (.a (.agg ((eTNode_TMark_TSwell r).map .v))) [(m0, blk m0 [.p m1 0, .i ri0, .i rg0] 74), (m1, plM m1 p1)] [] :=
  SCon.ren (rn [(0, m0), (1, m1)]) (Tree_getM_con0 (k := k)   H0) ⟨(blk_ren rfl rfl), (pl_ren rfl), trivial⟩ ⟨(blk_ren rfl rfl), (pl_ren rfl), trivial⟩ (by simp) (by simp)
theorem Tree_weightM_con0 {k : Nat}  {p1 : Pool (TNode TMark TSwell)} {a1 : TRef} {ri0 rg0 : Int} {r : Int}  (H0 : Tree_weight.f opsM k p1 a1 = some r) : SCon Try.prog 67 [SV.p 0 0, .a (.agg ((eTRef a1).map .v))] [(0, blk 0 [.p 1 0, .i ri0, .i rg0] 74), (1, plM 1 p1)] (.a (.c (.v (.int .i64 r)))) [(0, blk 0 [.p 1 0, .i ri0, .i rg0] 74), (1, plM 1 p1)] [] := by
  rw [Tree_weight.f] at H0
  refine spec_of [(0, _), (1, _)] [(0, _), (1, _)] 10 Try.func67 rfl Try.ntmps67 rfl rfl rfl rfl (fun β W F => ?_)
  refine G.seq ?_
  refine G.rg ?_
  refine K.box Y 100 [_, _] (gd0 rfl) rfl rfl rfl rfl rfl rfl ?_
  refine K.move (.inr rfl) (gd0 rfl) rfl rfl ?_
  refine K.nil ?_
  refine At.next ?_
  refine G.seq ?_
  obtain ⟨x1, hx1, H0⟩ := bnd H0
  refine G.rg ?_
  refine K.move (.inl rfl) (gd0 rfl) rfl rfl ?_
  refine K.loadS Y [_, _] (gd0 rfl) rfl rfl t68 rfl rfl rfl ?_
  refine K.callR [(.func 50, _), ((.tmp 5), _), ((.tmp 6), _)] (Tree_getM_con (k := k) hx1 0 1) (toFn_func (cf 50 rfl) rfl) (gd0 rfl) ⟨rfl, rfl, rfl, trivial⟩ ⟨rfl, rfl, trivial⟩ rfl rfl rfl ?_
  refine K.field1 Y (gd0 rfl) rfl t70 rfl t3 rfl rfl ?_
  refine K.bin (V := .int .i64 (w64 (x1.size + 1))) (gd0 rfl) rfl rfl (fun _ => rfl) rfl ?_
  refine K.move (.inr rfl) (gd0 rfl) rfl rfl ?_
  refine K.nil ?_
  refine At.next ?_
  refine G.ret ?_
  refine At.done Y [(.tmp 4, .c _)] rfl ⟨.tmp rfl, trivial⟩ (to' := [(0, _), (1, _)]) ⟨rfl, rfl, trivial⟩ ?_ ?_ rfl rfl rfl (.inl rfl)
  · cases H0; rfl
  · cases H0; rfl
theorem Tree_weightM_con {k : Nat}  {p1 : Pool (TNode TMark TSwell)} {a1 : TRef} {ri0 rg0 : Int} {r : Int}  (H0 : Tree_weight.f opsM k p1 a1 = some r) (m0 m1 : Nat) : SCon Try.prog 67 [SV.p m0 0, .a (.agg ((eTRef a1).map .v))] [(m0, blk m0 [.p m1 0, .i ri0, .i rg0] 74), (m1, plM m1 p1)] (.a (.c (.v (.int .i64 r)))) [(m0, blk m0 [.p m1 0, .i ri0, .i rg0] 74), (m1, plM m1 p1)] [] :=
  SCon.ren (rn [(0, m0), (1, m1)]) (Tree_weightM_con0 (k := k)   H0) ⟨(blk_ren rfl rfl), (pl_ren rfl), trivial⟩ ⟨(blk_ren rfl rfl), (pl_ren rfl), trivial⟩ (by simp) (by simp)
theorem Tree_layM_con0 {k : Nat}  {p1 : Pool (TNode TMark TSwell)} {a1 : TRef} {a2 : TRef} {a3 : TRef} {ri0 rg0 : Int} {r : TRef × Pool (TNode TMark TSwell)}  (H0 : Tree_lay.f opsM k p1 a1 a2 a3 = some r) : SCon Try.prog 72 [SV.p 0 0, .a (.agg ((eTRef a1).map .v)), .a (.agg ((eTRef a2).map .v)), .a (.agg ((eTRef a3).map .v))] [(0, blk 0 [.p 1 0, .i ri0, .i rg0] 74), (1, plM 1 p1)] (.a (.agg ((eTRef r.1).map .v))) [(0, blk 0 [.p 1 0, .i ri0, .i rg0] 74), (1, plM 1 r.2)] [] := by
  rw [Tree_lay.f] at H0
  refine spec_of [(0, _), (1, _), (2, _), (3, _)] [(0, _), (1, _)] 53 Try.func72 rfl Try.ntmps72 rfl rfl rfl rfl (fun β W F => ?_)
  refine G.seq ?_
  refine G.rg ?_
  refine K.box Y 100 [_, _] (gd0 rfl) rfl rfl rfl rfl rfl rfl ?_
  refine K.box Y 101 [_, _] (gd0 rfl) rfl rfl rfl rfl rfl rfl ?_
  refine K.box Y 102 [_, _] (gd0 rfl) rfl rfl rfl rfl rfl rfl ?_
  refine K.alloc Y 103 [_, _] (gd0 rfl) t68 rfl rfl rfl rfl rfl ?_
  refine K.nil ?_
  refine At.next ?_
  refine G.seq ?_
  obtain ⟨x1, hx1, H0⟩ := bnd H0
  refine G.rg ?_
  refine K.move (.inl rfl) (gd0 rfl) rfl rfl ?_
  refine K.loadS Y [_, _] (gd0 rfl) rfl rfl t68 rfl rfl rfl ?_
  refine K.callR [(.func 50, _), ((.tmp 12), _), ((.tmp 13), _)] (Tree_getM_con (k := k) hx1 0 1) (toFn_func (cf 50 rfl) rfl) (gd0 rfl) ⟨rfl, rfl, rfl, trivial⟩ ⟨rfl, rfl, trivial⟩ rfl rfl rfl ?_
  refine K.alloc Y 104 [_, _, _, _, _, _, _, _, _, _, _, _, _, _, _, _, _, _, _, _, _, _, _, _, _, _, _, _, _] (gd0 rfl) t70 rfl rfl rfl rfl rfl ?_
  refine K.store Y [_, _, _, _, _, _, _, _, _, _, _, _, _, _, _, _, _, _, _, _, _, _, _, _, _, _, _, _, _] (gd0 rfl) rfl rfl rfl t70 rfl rfl rfl rfl rfl ?_
  refine K.nil ?_
  refine At.next ?_
  refine G.seq ?_
  obtain ⟨x2, hx2, H0⟩ := bnd H0
  obtain ⟨x3, hx3, H0⟩ := bnd H0
  refine G.rd mixed ?_
  refine K.move (.inl rfl) (gd0 rfl) rfl rfl ?_
  refine K.loadS Y [_, _] (gd0 rfl) rfl rfl t68 rfl rfl rfl ?_
  refine K.callR [(.func 50, _), ((.tmp 15), _), ((.tmp 16), _)] (Tree_getM_con (k := k) hx2 0 1) (toFn_func (cf 50 rfl) rfl) (gd0 rfl) ⟨rfl, rfl, rfl, trivial⟩ ⟨rfl, rfl, trivial⟩ rfl rfl rfl ?_
  refine K.move (.inl rfl) (gd0 rfl) rfl rfl ?_
  refine K.loadS Y [_, _] (gd0 rfl) rfl rfl t68 rfl rfl rfl ?_
  refine K.callR [(.func 50, _), ((.tmp 18), _), ((.tmp 19), _)] (Tree_getM_con (k := k) hx3 0 1) (toFn_func (cf 50 rfl) rfl) (gd0 rfl) ⟨rfl, rfl, rfl, trivial⟩ ⟨rfl, rfl, trivial⟩ rfl rfl rfl ?_
  refine K.alloc Y 105 [_, _, _, _, _, _, _, _, _, _, _, _, _, _, _, _, _, _, _, _, _, _, _, _, _, _, _, _, _] (gd0 rfl) t70 rfl rfl rfl rfl rfl ?_
  refine K.alloc Y 106 [_, _, _, _, _, _, _, _, _, _, _, _, _, _, _, _, _, _, _, _, _, _, _, _, _, _, _, _, _] (gd0 rfl) t70 rfl rfl rfl rfl rfl ?_
  refine K.store Y [_, _, _, _, _, _, _, _, _, _, _, _, _, _, _, _, _, _, _, _, _, _, _, _, _, _, _, _, _] (gd0 rfl) rfl rfl rfl t70 rfl rfl rfl rfl rfl ?_
  refine K.store Y [_, _, _, _, _, _, _, _, _, _, _, _, _, _, _, _, _, _, _, _, _, _, _, _, _, _, _, _, _] (gd0 rfl) rfl rfl rfl t70 rfl rfl rfl rfl rfl ?_
  refine K.nil ?_
  refine ⟨by kernel_rfl, ?_⟩
  refine At.next ?_
  refine G.seq ?_
  refine G.rd mixed ?_
  refine K.loadS Y [_, _] (gd0 rfl) rfl rfl t68 rfl rfl rfl ?_
  refine K.loadS Y [_, _] (gd0 rfl) rfl rfl t68 rfl rfl rfl ?_
  refine K.fieldAddr Y (gd0 rfl) rfl t70 rfl rfl ?_
  refine K.store Y [_, _, _, _, _, _, _, _, _, _, _, _, _, _, _, _, _, _, _, _, _, _, _, _, _, _, _, _, _] (gd0 rfl) rfl rfl rfl t68 rfl rfl rfl rfl rfl ?_
  refine K.fieldAddr Y (gd0 rfl) rfl t70 rfl rfl ?_
  refine K.store Y [_, _, _, _, _, _, _, _, _, _, _, _, _, _, _, _, _, _, _, _, _, _, _, _, _, _, _, _, _] (gd0 rfl) rfl rfl rfl t68 rfl rfl rfl rfl rfl ?_
  refine K.nil ?_
  refine ⟨by kernel_rfl, ?_⟩
  refine At.next ?_
  refine G.seq ?_
  refine G.rg ?_
  refine K.fieldAddr Y (gd0 rfl) rfl t70 rfl rfl ?_
  refine K.load1 Y (gd0 rfl) rfl rfl t3 rfl rfl ?_
  refine K.bin (V := .int .i64 (w64 (x2.size + 1))) (gd0 rfl) rfl rfl (fun _ => rfl) rfl ?_
  refine K.fieldAddr Y (gd0 rfl) rfl t70 rfl rfl ?_
  refine K.load1 Y (gd0 rfl) rfl rfl t3 rfl rfl ?_
  refine K.bin (V := .int .i64 (w64 ((w64 (x2.size + 1)) + x3.size))) (gd0 rfl) rfl rfl (fun _ => rfl) rfl ?_
  refine K.fieldAddr Y (gd0 rfl) rfl t70 rfl rfl ?_
  refine K.store Y [_, _, _, _, _, _, _, _, _, _, _, _, _, _, _, _, _, _, _, _, _, _, _, _, _, _, _, _, _] (gd0 rfl) rfl rfl rfl t3 rfl rfl rfl rfl rfl ?_
  refine K.nil ?_
  refine At.next ?_
  refine G.seq ?_
  obtain ⟨x4, hx4, H0⟩ := bnd H0
  obtain ⟨x5, hx5, H0⟩ := bnd H0
  obtain ⟨x6, hx6, H0⟩ := bnd H0
  refine G.rd mixed ?_
  refine K.fieldAddr Y (gd0 rfl) rfl t70 rfl rfl ?_
  refine K.loadS Y [_, _, _, _, _, _, _, _, _, _, _, _, _, _, _, _] (gd0 rfl) rfl rfl t43 rfl rfl rfl ?_
  refine K.mkIface Y (gd0 rfl) rfl (mkI Try.underlying43 rfl) rfl ?_
  refine K.fieldAddr Y (gd0 rfl) rfl t70 rfl rfl ?_
  refine K.loadS Y [_, _, _, _, _, _, _, _] (gd0 rfl) rfl rfl t39 rfl rfl rfl ?_
  refine K.mkIface Y (gd0 rfl) rfl (mkI Try.underlying39 rfl) rfl ?_
  refine K.callR [((.tmp 37), _)] (wave_Mark_Sum_con (k := k) hx4) (toFn_invoke (cf 96 rfl) (me39_96) rfl) (gd0 rfl) ⟨rfl, trivial⟩ trivial rfl rfl rfl ?_
  refine K.callR [((.tmp 34), _), ((.tmp 38), _)] (wave_Swell_Plus_con (k := k) hx5) (toFn_invoke (cf 101 rfl) (me43_101) rfl) (gd0 rfl) ⟨rfl, rfl, trivial⟩ trivial rfl rfl rfl ?_
  refine K.mkIface Y (gd0 rfl) rfl (mkI Try.underlying43 rfl) rfl ?_
  refine K.fieldAddr Y (gd0 rfl) rfl t70 rfl rfl ?_
  refine K.loadS Y [_, _, _, _, _, _, _, _, _, _, _, _, _, _, _, _] (gd0 rfl) rfl rfl t43 rfl rfl rfl ?_
  refine K.callR [((.tmp 40), _), ((.tmp 42), _)] (wave_Swell_Plus_con (k := k) hx6) (toFn_invoke (cf 101 rfl) (me43_101) rfl) (gd0 rfl) ⟨rfl, rfl, trivial⟩ trivial rfl rfl rfl ?_
  refine K.fieldAddr Y (gd0 rfl) rfl t70 rfl rfl ?_
  refine K.store Y [_, _, _, _, _, _, _, _, _, _, _, _, _, _, _, _, _, _, _, _, _, _, _, _, _, _, _, _, _] (gd0 rfl) rfl rfl rfl t43 rfl rfl rfl rfl rfl ?_
  refine K.nil ?_
  refine ⟨by kernel_rfl, ?_⟩
  refine At.next ?_
  refine G.seq ?_
  obtain ⟨x7, hx7, H0⟩ := bnd H0
  refine G.rd mixed ?_
  refine K.move (.inl rfl) (gd0 rfl) rfl rfl ?_
  refine K.nilCheck (gd0 rfl) rfl rfl ?_
  refine K.fieldAddr Y (gd0 rfl) rfl t74 rfl rfl ?_
  refine K.load1 Y (gd0 rfl) rfl rfl t72 rfl rfl ?_
  refine K.loadS Y [_, _] (gd0 rfl) rfl rfl t68 rfl rfl rfl ?_
  refine K.loadS Y [_, _, _, _, _, _, _, _, _, _, _, _, _, _, _, _, _, _, _, _, _, _, _, _, _, _, _, _, _] (gd0 rfl) rfl rfl t70 rfl rfl rfl ?_
  refine K.call0 [(.func 71, _), ((.tmp 48), _), ((.tmp 49), _), ((.tmp 50), _)] (plsetM hx7 1) (toFn_func (cf 71 rfl) rfl) (gd0 rfl) ⟨rfl, rfl, rfl, rfl, trivial⟩ ⟨rfl, trivial⟩ rfl rfl rfl rfl rfl rfl ?_
  refine K.nil ?_
  refine ⟨by kernel_rfl, ?_⟩
  refine At.next ?_
  refine G.seq ?_
  refine G.rg ?_
  refine K.loadS Y [_, _] (gd0 rfl) rfl rfl t68 rfl rfl rfl ?_
  refine K.store Y [_, _] (gd0 rfl) rfl rfl rfl t68 rfl rfl rfl rfl rfl ?_
  refine K.nil ?_
  refine At.next ?_
  refine G.ret ?_
  refine At.done Y [(.cell 8 68, .agg [_, _])] rfl ⟨.st rfl rfl t68 rfl rfl, trivial⟩ (to' := [(0, _), (1, _)]) ⟨rfl, rfl, trivial⟩ ?_ ?_ rfl rfl rfl (.inl rfl)
  · cases H0; rfl
  · cases H0; rfl
theorem Tree_layM_con {k : Nat}  {p1 : Pool (TNode TMark TSwell)} {a1 : TRef} {a2 : TRef} {a3 : TRef} {ri0 rg0 : Int} {r : TRef × Pool (TNode TMark TSwell)}  (H0 : Tree_lay.f opsM k p1 a1 a2 a3 = some r) (m0 m1 : Nat) : SCon Try.prog 72 [SV.p m0 0, .a (.agg ((eTRef a1).map .v)), .a (.agg ((eTRef a2).map .v)), .a (.agg ((eTRef a3).map .v))] [(m0, blk m0 [.p m1 0, .i ri0, .i rg0] 74), (m1, plM m1 p1)] (.a (.agg ((eTRef r.1).map .v))) [(m0, blk m0 [.p m1 0, .i ri0, .i rg0] 74), (m1, plM m1 r.2)] [] :=
  SCon.ren (rn [(0, m0), (1, m1)]) (Tree_layM_con0 (k := k)   H0) ⟨(blk_ren rfl rfl), (pl_ren rfl), trivial⟩ ⟨(blk_ren rfl rfl), (pl_ren rfl), trivial⟩ (by simp) (by simp)
theorem Tree_turnRightM_con0 {k : Nat}  {p1 : Pool (TNode TMark TSwell)} {a1 : TRef} {ri0 rg0 : Int} {r : TRef × Pool (TNode TMark TSwell)}  (H0 : Tree_turnRight.f opsM k p1 a1 = some r) : SCon Try.prog 77 [SV.p 0 0, .a (.agg ((eTRef a1).map .v))] [(0, blk 0 [.p 1 0, .i ri0, .i rg0] 74), (1, plM 1 p1)] (.a (.agg ((eTRef r.1).map .v))) [(0, blk 0 [.p 1 0, .i ri0, .i rg0] 74), (1, plM 1 r.2)] [] := by
  rw [Tree_turnRight.f] at H0
  refine spec_of [(0, _), (1, _)] [(0, _), (1, _)] 28 Try.func77 rfl Try.ntmps77 rfl rfl rfl rfl (fun β W F => ?_)
  refine G.seq ?_
  refine G.rg ?_
  refine K.box Y 100 [_, _] (gd0 rfl) rfl rfl rfl rfl rfl rfl ?_
  refine K.alloc Y 101 [_, _] (gd0 rfl) t68 rfl rfl rfl rfl rfl ?_
  refine K.nil ?_
  refine At.next ?_
  refine G.seq ?_
  obtain ⟨x1, hx1, H0⟩ := bnd H0
  refine G.rg ?_
  refine K.move (.inl rfl) (gd0 rfl) rfl rfl ?_
  refine K.loadS Y [_, _] (gd0 rfl) rfl rfl t68 rfl rfl rfl ?_
  refine K.callR [(.func 50, _), ((.tmp 7), _), ((.tmp 8), _)] (Tree_getM_con (k := k) hx1 0 1) (toFn_func (cf 50 rfl) rfl) (gd0 rfl) ⟨rfl, rfl, rfl, trivial⟩ ⟨rfl, rfl, trivial⟩ rfl rfl rfl ?_
  refine K.alloc Y 102 [_, _, _, _, _, _, _, _, _, _, _, _, _, _, _, _, _, _, _, _, _, _, _, _, _, _, _, _, _] (gd0 rfl) t70 rfl rfl rfl rfl rfl ?_
  refine K.store Y [_, _, _, _, _, _, _, _, _, _, _, _, _, _, _, _, _, _, _, _, _, _, _, _, _, _, _, _, _] (gd0 rfl) rfl rfl rfl t70 rfl rfl rfl rfl rfl ?_
  refine K.nil ?_
  refine At.next ?_
  refine G.seq ?_
  obtain ⟨x2, hx2, H0⟩ := bnd H0
  refine G.rg ?_
  refine K.move (.inl rfl) (gd0 rfl) rfl rfl ?_
  refine K.fieldAddr Y (gd0 rfl) rfl t70 rfl rfl ?_
  refine K.loadS Y [_, _] (gd0 rfl) rfl rfl t68 rfl rfl rfl ?_
  refine K.callR [(.func 50, _), ((.tmp 10), _), ((.tmp 12), _)] (Tree_getM_con (k := k) hx2 0 1) (toFn_func (cf 50 rfl) rfl) (gd0 rfl) ⟨rfl, rfl, rfl, trivial⟩ ⟨rfl, rfl, trivial⟩ rfl rfl rfl ?_
  refine K.alloc Y 103 [_, _, _, _, _, _, _, _, _, _, _, _, _, _, _, _, _, _, _, _, _, _, _, _, _, _, _, _, _] (gd0 rfl) t70 rfl rfl rfl rfl rfl ?_
  refine K.store Y [_, _, _, _, _, _, _, _, _, _, _, _, _, _, _, _, _, _, _, _, _, _, _, _, _, _, _, _, _] (gd0 rfl) rfl rfl rfl t70 rfl rfl rfl rfl rfl ?_
  refine K.nil ?_
  refine At.next ?_
  refine G.seq ?_
  obtain ⟨x3, hx3, H0⟩ := bnd H0
  refine G.rg ?_
  refine K.move (.inl rfl) (gd0 rfl) rfl rfl ?_
  refine K.loadS Y [_, _] (gd0 rfl) rfl rfl t68 rfl rfl rfl ?_
  refine K.fieldAddr Y (gd0 rfl) rfl t70 rfl rfl ?_
  refine K.loadS Y [_, _] (gd0 rfl) rfl rfl t68 rfl rfl rfl ?_
  refine K.fieldAddr Y (gd0 rfl) rfl t70 rfl rfl ?_
  refine K.loadS Y [_, _] (gd0 rfl) rfl rfl t68 rfl rfl rfl ?_
  refine K.call0 [(.func 72, _), ((.tmp 14), _), ((.tmp 15), _), ((.tmp 17), _), ((.tmp 19), _)] (Tree_layM_con (k := k) hx3 0 1) (toFn_func (cf 72 rfl) rfl) (gd0 rfl) ⟨rfl, rfl, rfl, rfl, rfl, trivial⟩ ⟨rfl, rfl, trivial⟩ rfl rfl rfl rfl rfl rfl ?_
  refine K.nil ?_
  refine At.next ?_
  refine G.seq ?_
  obtain ⟨x4, hx4, H0⟩ := bnd H0
  refine G.rg ?_
  refine K.move (.inl rfl) (gd0 rfl) rfl rfl ?_
  refine K.fieldAddr Y (gd0 rfl) rfl t70 rfl rfl ?_
  refine K.loadS Y [_, _] (gd0 rfl) rfl rfl t68 rfl rfl rfl ?_
  refine K.fieldAddr Y (gd0 rfl) rfl t70 rfl rfl ?_
  refine K.loadS Y [_, _] (gd0 rfl) rfl rfl t68 rfl rfl rfl ?_
  refine K.loadS Y [_, _] (gd0 rfl) rfl rfl t68 rfl rfl rfl ?_
  refine K.call0 [(.func 72, _), ((.tmp 21), _), ((.tmp 23), _), ((.tmp 25), _), ((.tmp 26), _)] (Tree_layM_con (k := k) hx4 0 1) (toFn_func (cf 72 rfl) rfl) (gd0 rfl) ⟨rfl, rfl, rfl, rfl, rfl, trivial⟩ ⟨rfl, rfl, trivial⟩ rfl rfl rfl rfl rfl rfl ?_
  refine K.store Y [_, _] (gd0 rfl) rfl rfl rfl t68 rfl rfl rfl rfl rfl ?_
  refine K.nil ?_
  refine At.next ?_
  refine G.ret ?_
  refine At.done Y [(.cell 4 68, .agg [_, _])] rfl ⟨.st rfl rfl t68 rfl rfl, trivial⟩ (to' := [(0, _), (1, _)]) ⟨rfl, rfl, trivial⟩ ?_ ?_ rfl rfl rfl (.inl rfl)
  · cases H0; rfl
  · cases H0; rfl
theorem Tree_turnRightM_con {k : Nat}  {p1 : Pool (TNode TMark TSwell)} {a1 : TRef} {ri0 rg0 : Int} {r : TRef × Pool (TNode TMark TSwell)}  (H0 : Tree_turnRight.f opsM k p1 a1 = some r) (m0 m1 : Nat) : SCon Try.prog 77 [SV.p m0 0, .a (.agg ((eTRef a1).map .v))] [(m0, blk m0 [.p m1 0, .i ri0, .i rg0] 74), (m1, plM m1 p1)] (.a (.agg ((eTRef r.1).map .v))) [(m0, blk m0 [.p m1 0, .i ri0, .i rg0] 74), (m1, plM m1 r.2)] [] :=
  SCon.ren (rn [(0, m0), (1, m1)]) (Tree_turnRightM_con0 (k := k)   H0) ⟨(blk_ren rfl rfl), (pl_ren rfl), trivial⟩ ⟨(blk_ren rfl rfl), (pl_ren rfl), trivial⟩ (by simp) (by simp)
theorem Tree_turnLeftM_con0 {k : Nat}  {p1 : Pool (TNode TMark TSwell)} {a1 : TRef} {ri0 rg0 : Int} {r : TRef × Pool (TNode TMark TSwell)}  (H0 : Tree_turnLeft.f opsM k p1 a1 = some r) : SCon Try.prog 78 [SV.p 0 0, .a (.agg ((eTRef a1).map .v))] [(0, blk 0 [.p 1 0, .i ri0, .i rg0] 74), (1, plM 1 p1)] (.a (.agg ((eTRef r.1).map .v))) [(0, blk 0 [.p 1 0, .i ri0, .i rg0] 74), (1, plM 1 r.2)] [] := by
  rw [Tree_turnLeft.f] at H0
  refine spec_of [(0, _), (1, _)] [(0, _), (1, _)] 28 Try.func78 rfl Try.ntmps78 rfl rfl rfl rfl (fun β W F => ?_)
  refine G.seq ?_
  refine G.rg ?_
  refine K.box Y 100 [_, _] (gd0 rfl) rfl rfl rfl rfl rfl rfl ?_
  refine K.alloc Y 101 [_, _] (gd0 rfl) t68 rfl rfl rfl rfl rfl ?_
  refine K.nil ?_
  refine At.next ?_
  refine G.seq ?_
  obtain ⟨x1, hx1, H0⟩ := bnd H0
  refine G.rg ?_
  refine K.move (.inl rfl) (gd0 rfl) rfl rfl ?_
  refine K.loadS Y [_, _] (gd0 rfl) rfl rfl t68 rfl rfl rfl ?_
  refine K.callR [(.func 50, _), ((.tmp 7), _), ((.tmp 8), _)] (Tree_getM_con (k := k) hx1 0 1) (toFn_func (cf 50 rfl) rfl) (gd0 rfl) ⟨rfl, rfl, rfl, trivial⟩ ⟨rfl, rfl, trivial⟩ rfl rfl rfl ?_
  refine K.alloc Y 102 [_, _, _, _, _, _, _, _, _, _, _, _, _, _, _, _, _, _, _, _, _, _, _, _, _, _, _, _, _] (gd0 rfl) t70 rfl rfl rfl rfl rfl ?_
  refine K.store Y [_, _, _, _, _, _, _, _, _, _, _, _, _, _, _, _, _, _, _, _, _, _, _, _, _, _, _, _, _] (gd0 rfl) rfl rfl rfl t70 rfl rfl rfl rfl rfl ?_
  refine K.nil ?_
  refine At.next ?_
  refine G.seq ?_
  obtain ⟨x2, hx2, H0⟩ := bnd H0
  refine G.rg ?_
  refine K.move (.inl rfl) (gd0 rfl) rfl rfl ?_
  refine K.fieldAddr Y (gd0 rfl) rfl t70 rfl rfl ?_
  refine K.loadS Y [_, _] (gd0 rfl) rfl rfl t68 rfl rfl rfl ?_
  refine K.callR [(.func 50, _), ((.tmp 10), _), ((.tmp 12), _)] (Tree_getM_con (k := k) hx2 0 1) (toFn_func (cf 50 rfl) rfl) (gd0 rfl) ⟨rfl, rfl, rfl, trivial⟩ ⟨rfl, rfl, trivial⟩ rfl rfl rfl ?_
  refine K.alloc Y 103 [_, _, _, _, _, _, _, _, _, _, _, _, _, _, _, _, _, _, _, _, _, _, _, _, _, _, _, _, _] (gd0 rfl) t70 rfl rfl rfl rfl rfl ?_
  refine K.store Y [_, _, _, _, _, _, _, _, _, _, _, _, _, _, _, _, _, _, _, _, _, _, _, _, _, _, _, _, _] (gd0 rfl) rfl rfl rfl t70 rfl rfl rfl rfl rfl ?_
  refine K.nil ?_
  refine At.next ?_
  refine G.seq ?_
  obtain ⟨x3, hx3, H0⟩ := bnd H0
  refine G.rg ?_
  refine K.move (.inl rfl) (gd0 rfl) rfl rfl ?_
  refine K.loadS Y [_, _] (gd0 rfl) rfl rfl t68 rfl rfl rfl ?_
  refine K.fieldAddr Y (gd0 rfl) rfl t70 rfl rfl ?_
  refine K.loadS Y [_, _] (gd0 rfl) rfl rfl t68 rfl rfl rfl ?_
  refine K.fieldAddr Y (gd0 rfl) rfl t70 rfl rfl ?_
  refine K.loadS Y [_, _] (gd0 rfl) rfl rfl t68 rfl rfl rfl ?_
  refine K.call0 [(.func 72, _), ((.tmp 14), _), ((.tmp 15), _), ((.tmp 17), _), ((.tmp 19), _)] (Tree_layM_con (k := k) hx3 0 1) (toFn_func (cf 72 rfl) rfl) (gd0 rfl) ⟨rfl, rfl, rfl, rfl, rfl, trivial⟩ ⟨rfl, rfl, trivial⟩ rfl rfl rfl rfl rfl rfl ?_
  refine K.nil ?_
  refine At.next ?_
  refine G.seq ?_
  obtain ⟨x4, hx4, H0⟩ := bnd H0
  refine G.rg ?_
  refine K.move (.inl rfl) (gd0 rfl) rfl rfl ?_
  refine K.fieldAddr Y (gd0 rfl) rfl t70 rfl rfl ?_
  refine K.loadS Y [_, _] (gd0 rfl) rfl rfl t68 rfl rfl rfl ?_
  refine K.loadS Y [_, _] (gd0 rfl) rfl rfl t68 rfl rfl rfl ?_
  refine K.fieldAddr Y (gd0 rfl) rfl t70 rfl rfl ?_
  refine K.loadS Y [_, _] (gd0 rfl) rfl rfl t68 rfl rfl rfl ?_
  refine K.call0 [(.func 72, _), ((.tmp 21), _), ((.tmp 23), _), ((.tmp 24), _), ((.tmp 26), _)] (Tree_layM_con (k := k) hx4 0 1) (toFn_func (cf 72 rfl) rfl) (gd0 rfl) ⟨rfl, rfl, rfl, rfl, rfl, trivial⟩ ⟨rfl, rfl, trivial⟩ rfl rfl rfl rfl rfl rfl ?_
  refine K.store Y [_, _] (gd0 rfl) rfl rfl rfl t68 rfl rfl rfl rfl rfl ?_
  refine K.nil ?_
  refine At.next ?_
  refine G.ret ?_
  refine At.done Y [(.cell 4 68, .agg [_, _])] rfl ⟨.st rfl rfl t68 rfl rfl, trivial⟩ (to' := [(0, _), (1, _)]) ⟨rfl, rfl, trivial⟩ ?_ ?_ rfl rfl rfl (.inl rfl)
  · cases H0; rfl
  · cases H0; rfl
theorem Tree_turnLeftM_con {k : Nat}  {p1 : Pool (TNode TMark TSwell)} {a1 : TRef} {ri0 rg0 : Int} {r : TRef × Pool (TNode TMark TSwell)}  (H0 : Tree_turnLeft.f opsM k p1 a1 = some r) (m0 m1 : Nat) : SCon Try.prog 78 [SV.p m0 0, .a (.agg ((eTRef a1).map .v))] [(m0, blk m0 [.p m1 0, .i ri0, .i rg0] 74), (m1, plM m1 p1)] (.a (.agg ((eTRef r.1).map .v))) [(m0, blk m0 [.p m1 0, .i ri0, .i rg0] 74), (m1, plM m1 r.2)] [] :=
  SCon.ren (rn [(0, m0), (1, m1)]) (Tree_turnLeftM_con0 (k := k)   H0) ⟨(blk_ren rfl rfl), (pl_ren rfl), trivial⟩ ⟨(blk_ren rfl rfl), (pl_ren rfl), trivial⟩ (by simp) (by simp)
theorem Tree_balanceM_con0 {k : Nat}  {p1 : Pool (TNode TMark TSwell)} {a1 : TRef} {ri0 rg0 : Int} {r : TRef × Pool (TNode TMark TSwell)}  (H0 : Tree_balance.f opsM k p1 a1 = some r) : SCon Try.prog 76 [SV.p 0 0, .a (.agg ((eTRef a1).map .v))] [(0, blk 0 [.p 1 0, .i ri0, .i rg0] 74), (1, plM 1 p1)] (.a (.agg ((eTRef r.1).map .v))) [(0, blk 0 [.p 1 0, .i ri0, .i rg0] 74), (1, plM 1 r.2)] [] := by
  rw [Tree_balance.f] at H0
  refine spec_of [(0, _), (1, _)] [(0, _), (1, _)] 84 Try.func76 rfl Try.ntmps76 rfl rfl rfl rfl (fun β W F => ?_)
  refine G.seq ?_
  refine G.rg ?_
  refine K.box Y 100 [_, _] (gd0 rfl) rfl rfl rfl rfl rfl rfl ?_
  refine K.alloc Y 101 [_, _] (gd0 rfl) t68 rfl rfl rfl rfl rfl ?_
  refine K.nil ?_
  refine At.next ?_
  refine G.seq ?_
  obtain ⟨x1, hx1, H0⟩ := bnd H0
  refine G.rg ?_
  refine K.move (.inl rfl) (gd0 rfl) rfl rfl ?_
  refine K.loadS Y [_, _] (gd0 rfl) rfl rfl t68 rfl rfl rfl ?_
  refine K.callR [(.func 50, _), ((.tmp 10), _), ((.tmp 11), _)] (Tree_getM_con (k := k) hx1 0 1) (toFn_func (cf 50 rfl) rfl) (gd0 rfl) ⟨rfl, rfl, rfl, trivial⟩ ⟨rfl, rfl, trivial⟩ rfl rfl rfl ?_
  refine K.alloc Y 102 [_, _, _, _, _, _, _, _, _, _, _, _, _, _, _, _, _, _, _, _, _, _, _, _, _, _, _, _, _] (gd0 rfl) t70 rfl rfl rfl rfl rfl ?_
  refine K.store Y [_, _, _, _, _, _, _, _, _, _, _, _, _, _, _, _, _, _, _, _, _, _, _, _, _, _, _, _, _] (gd0 rfl) rfl rfl rfl t70 rfl rfl rfl rfl rfl ?_
  refine K.nil ?_
  refine At.next ?_
  refine G.seq ?_
  obtain ⟨x2, hx2, H0⟩ := bnd H0
  obtain ⟨x3, hx3, H0⟩ := bnd H0
  refine G.rd mixed ?_
  refine K.move (.inl rfl) (gd0 rfl) rfl rfl ?_
  refine K.fieldAddr Y (gd0 rfl) rfl t70 rfl rfl ?_
  refine K.loadS Y [_, _] (gd0 rfl) rfl rfl t68 rfl rfl rfl ?_
  refine K.callR [(.func 67, _), ((.tmp 13), _), ((.tmp 15), _)] (Tree_weightM_con (k := k) hx2 0 1) (toFn_func (cf 67 rfl) rfl) (gd0 rfl) ⟨rfl, rfl, rfl, trivial⟩ ⟨rfl, rfl, trivial⟩ rfl rfl rfl ?_
  refine K.move (.inl rfl) (gd0 rfl) rfl rfl ?_
  refine K.fieldAddr Y (gd0 rfl) rfl t70 rfl rfl ?_
  refine K.loadS Y [_, _] (gd0 rfl) rfl rfl t68 rfl rfl rfl ?_
  refine K.callR [(.func 67, _), ((.tmp 17), _), ((.tmp 19), _)] (Tree_weightM_con (k := k) hx3 0 1) (toFn_func (cf 67 rfl) rfl) (gd0 rfl) ⟨rfl, rfl, rfl, trivial⟩ ⟨rfl, rfl, trivial⟩ rfl rfl rfl ?_
  refine K.move (.inr rfl) (gd0 rfl) rfl rfl ?_
  refine K.move (.inr rfl) (gd0 rfl) rfl rfl ?_
  refine K.nil ?_
  refine ⟨by kernel_rfl, ?_⟩
  refine At.next ?_
  refine G.seq ?_
  refine G.block ?_
  refine G.seq ?_
  refine G.rg ?_
  refine K.move (.inl rfl) (gd0 rfl) rfl rfl ?_
  refine K.move (.inl rfl) (gd0 rfl) rfl rfl ?_
  refine K.bin (V := .int .i64 (w64 (3 * x2))) (gd0 rfl) rfl rfl (fun _ => rfl) rfl ?_
  refine K.bin (V := .bool (decide (x3 > (w64 (3 * x2))))) (gd0 rfl) rfl rfl (fun _ => rfl) rfl ?_
  refine K.move (.inr rfl) (gd0 rfl) rfl rfl ?_
  refine K.nil ?_
  refine At.next ?_
  refine G.cond rfl (fun h1 => ?_) (fun h1 => ?_)
  ·
    replace H0 := bif_t H0 h1
    refine G.seq ?_
    obtain ⟨x4, hx4, H0⟩ := bnd H0
    refine G.rg ?_
    refine K.move (.inl rfl) (gd0 rfl) rfl rfl ?_
    refine K.fieldAddr Y (gd0 rfl) rfl t70 rfl rfl ?_
    refine K.loadS Y [_, _] (gd0 rfl) rfl rfl t68 rfl rfl rfl ?_
    refine K.callR [(.func 50, _), ((.tmp 26), _), ((.tmp 28), _)] (Tree_getM_con (k := k) hx4 0 1) (toFn_func (cf 50 rfl) rfl) (gd0 rfl) ⟨rfl, rfl, rfl, trivial⟩ ⟨rfl, rfl, trivial⟩ rfl rfl rfl ?_
    refine K.alloc Y 103 [_, _, _, _, _, _, _, _, _, _, _, _, _, _, _, _, _, _, _, _, _, _, _, _, _, _, _, _, _] (gd0 rfl) t70 rfl rfl rfl rfl rfl ?_
    refine K.store Y [_, _, _, _, _, _, _, _, _, _, _, _, _, _, _, _, _, _, _, _, _, _, _, _, _, _, _, _, _] (gd0 rfl) rfl rfl rfl t70 rfl rfl rfl rfl rfl ?_
    refine K.nil ?_
    refine At.next ?_
    refine G.seq ?_
    refine G.seq ?_
    obtain ⟨x5, hx5, H0⟩ := bnd H0
    obtain ⟨x6, hx6, H0⟩ := bnd H0
    refine G.rd mixed ?_
    refine K.move (.inl rfl) (gd0 rfl) rfl rfl ?_
    refine K.fieldAddr Y (gd0 rfl) rfl t70 rfl rfl ?_
    refine K.loadS Y [_, _] (gd0 rfl) rfl rfl t68 rfl rfl rfl ?_
    refine K.callR [(.func 67, _), ((.tmp 30), _), ((.tmp 32), _)] (Tree_weightM_con (k := k) hx5 0 1) (toFn_func (cf 67 rfl) rfl) (gd0 rfl) ⟨rfl, rfl, rfl, trivial⟩ ⟨rfl, rfl, trivial⟩ rfl rfl rfl ?_
    refine K.move (.inl rfl) (gd0 rfl) rfl rfl ?_
    refine K.fieldAddr Y (gd0 rfl) rfl t70 rfl rfl ?_
    refine K.loadS Y [_, _] (gd0 rfl) rfl rfl t68 rfl rfl rfl ?_
    refine K.callR [(.func 67, _), ((.tmp 34), _), ((.tmp 36), _)] (Tree_weightM_con (k := k) hx6 0 1) (toFn_func (cf 67 rfl) rfl) (gd0 rfl) ⟨rfl, rfl, rfl, trivial⟩ ⟨rfl, rfl, trivial⟩ rfl rfl rfl ?_
    refine K.bin (V := .int .i64 (w64 (2 * x6))) (gd0 rfl) rfl rfl (fun _ => rfl) rfl ?_
    refine K.bin (V := .bool (decide (x5 ≥ (w64 (2 * x6))))) (gd0 rfl) rfl rfl (fun _ => rfl) rfl ?_
    refine K.nil ?_
    refine ⟨by kernel_rfl, ?_⟩
    refine At.next ?_
    refine G.cond rfl (fun h2 => ?_) (fun h2 => ?_)
    ·
      replace H0 := bif_t H0 h2
      obtain ⟨x7, hx7, H0⟩ := bnd H0
      obtain ⟨x8, hx8, H0⟩ := bnd H0
      refine G.rd mixed ?_
      refine K.move (.inl rfl) (gd0 rfl) rfl rfl ?_
      refine K.loadS Y [_, _] (gd0 rfl) rfl rfl t68 rfl rfl rfl ?_
      refine K.fieldAddr Y (gd0 rfl) rfl t70 rfl rfl ?_
      refine K.loadS Y [_, _] (gd0 rfl) rfl rfl t68 rfl rfl rfl ?_
      refine K.move (.inl rfl) (gd0 rfl) rfl rfl ?_
      refine K.fieldAddr Y (gd0 rfl) rfl t70 rfl rfl ?_
      refine K.loadS Y [_, _] (gd0 rfl) rfl rfl t68 rfl rfl rfl ?_
      refine K.call0 [(.func 77, _), ((.tmp 44), _), ((.tmp 46), _)] (Tree_turnRightM_con (k := k) hx7 0 1) (toFn_func (cf 77 rfl) rfl) (gd0 rfl) ⟨rfl, rfl, rfl, trivial⟩ ⟨rfl, rfl, trivial⟩ rfl rfl rfl rfl rfl rfl ?_
      refine K.call0 [(.func 72, _), ((.tmp 40), _), ((.tmp 41), _), ((.tmp 43), _), ((.tmp 47), _)] (Tree_layM_con (k := k) hx8 0 1) (toFn_func (cf 72 rfl) rfl) (gd0 rfl) ⟨rfl, rfl, rfl, rfl, rfl, trivial⟩ ⟨rfl, rfl, trivial⟩ rfl rfl rfl rfl rfl rfl ?_
      refine K.nil ?_
      refine ⟨by kernel_rfl, ?_⟩
      refine At.next ?_
      refine G.seq ?_
      obtain ⟨x9, hx9, H0⟩ := bnd H0
      refine G.rg ?_
      refine K.move (.inl rfl) (gd0 rfl) rfl rfl ?_
      refine K.loadS Y [_, _] (gd0 rfl) rfl rfl t68 rfl rfl rfl ?_
      refine K.call0 [(.func 78, _), ((.tmp 49), _), ((.tmp 50), _)] (Tree_turnLeftM_con (k := k) hx9 0 1) (toFn_func (cf 78 rfl) rfl) (gd0 rfl) ⟨rfl, rfl, rfl, trivial⟩ ⟨rfl, rfl, trivial⟩ rfl rfl rfl rfl rfl rfl ?_
      refine K.store Y [_, _] (gd0 rfl) rfl rfl rfl t68 rfl rfl rfl rfl rfl ?_
      refine K.nil ?_
      refine At.next ?_
      refine G.ret ?_
      refine At.block_ret ?_
      refine At.over_ret ?_
      refine At.done Y [(.cell 4 68, .agg [_, _])] rfl ⟨.st rfl rfl t68 rfl rfl, trivial⟩ (to' := [(0, _), (1, _)]) ⟨rfl, rfl, trivial⟩ ?_ ?_ rfl rfl rfl (.inl rfl)
      · cases H0; rfl
      · cases H0; rfl
    ·
      replace H0 := bif_f H0 h2
      refine G.skip ?_
      refine At.next ?_
      refine G.seq ?_
      obtain ⟨x10, hx10, H0⟩ := bnd H0
      refine G.rg ?_
      refine K.move (.inl rfl) (gd0 rfl) rfl rfl ?_
      refine K.loadS Y [_, _] (gd0 rfl) rfl rfl t68 rfl rfl rfl ?_
      refine K.call0 [(.func 78, _), ((.tmp 49), _), ((.tmp 50), _)] (Tree_turnLeftM_con (k := k) hx10 0 1) (toFn_func (cf 78 rfl) rfl) (gd0 rfl) ⟨rfl, rfl, rfl, trivial⟩ ⟨rfl, rfl, trivial⟩ rfl rfl rfl rfl rfl rfl ?_
      refine K.store Y [_, _] (gd0 rfl) rfl rfl rfl t68 rfl rfl rfl rfl rfl ?_
      refine K.nil ?_
      refine At.next ?_
      refine G.ret ?_
      refine At.block_ret ?_
      refine At.over_ret ?_
      refine At.done Y [(.cell 4 68, .agg [_, _])] rfl ⟨.st rfl rfl t68 rfl rfl, trivial⟩ (to' := [(0, _), (1, _)]) ⟨rfl, rfl, trivial⟩ ?_ ?_ rfl rfl rfl (.inl rfl)
      · cases H0; rfl
      · cases H0; rfl
  ·
    replace H0 := bif_f H0 h1
    refine G.seq ?_
    refine G.rg ?_
    refine K.move (.inl rfl) (gd0 rfl) rfl rfl ?_
    refine K.move (.inl rfl) (gd0 rfl) rfl rfl ?_
    refine K.bin (V := .int .i64 (w64 (3 * x3))) (gd0 rfl) rfl rfl (fun _ => rfl) rfl ?_
    refine K.bin (V := .bool (decide (x2 > (w64 (3 * x3))))) (gd0 rfl) rfl rfl (fun _ => rfl) rfl ?_
    refine K.move (.inr rfl) (gd0 rfl) rfl rfl ?_
    refine K.nil ?_
    refine At.next ?_
    refine G.cond rfl (fun h3 => ?_) (fun h3 => ?_)
    ·
      replace H0 := bif_t H0 h3
      refine G.seq ?_
      obtain ⟨x11, hx11, H0⟩ := bnd H0
      refine G.rg ?_
      refine K.move (.inl rfl) (gd0 rfl) rfl rfl ?_
      refine K.fieldAddr Y (gd0 rfl) rfl t70 rfl rfl ?_
      refine K.loadS Y [_, _] (gd0 rfl) rfl rfl t68 rfl rfl rfl ?_
      refine K.callR [(.func 50, _), ((.tmp 57), _), ((.tmp 59), _)] (Tree_getM_con (k := k) hx11 0 1) (toFn_func (cf 50 rfl) rfl) (gd0 rfl) ⟨rfl, rfl, rfl, trivial⟩ ⟨rfl, rfl, trivial⟩ rfl rfl rfl ?_
      refine K.alloc Y 104 [_, _, _, _, _, _, _, _, _, _, _, _, _, _, _, _, _, _, _, _, _, _, _, _, _, _, _, _, _] (gd0 rfl) t70 rfl rfl rfl rfl rfl ?_
      refine K.store Y [_, _, _, _, _, _, _, _, _, _, _, _, _, _, _, _, _, _, _, _, _, _, _, _, _, _, _, _, _] (gd0 rfl) rfl rfl rfl t70 rfl rfl rfl rfl rfl ?_
      refine K.nil ?_
      refine At.next ?_
      refine G.seq ?_
      refine G.seq ?_
      obtain ⟨x12, hx12, H0⟩ := bnd H0
      obtain ⟨x13, hx13, H0⟩ := bnd H0
      refine G.rd mixed ?_
      refine K.move (.inl rfl) (gd0 rfl) rfl rfl ?_
      refine K.fieldAddr Y (gd0 rfl) rfl t70 rfl rfl ?_
      refine K.loadS Y [_, _] (gd0 rfl) rfl rfl t68 rfl rfl rfl ?_
      refine K.callR [(.func 67, _), ((.tmp 61), _), ((.tmp 63), _)] (Tree_weightM_con (k := k) hx12 0 1) (toFn_func (cf 67 rfl) rfl) (gd0 rfl) ⟨rfl, rfl, rfl, trivial⟩ ⟨rfl, rfl, trivial⟩ rfl rfl rfl ?_
      refine K.move (.inl rfl) (gd0 rfl) rfl rfl ?_
      refine K.fieldAddr Y (gd0 rfl) rfl t70 rfl rfl ?_
      refine K.loadS Y [_, _] (gd0 rfl) rfl rfl t68 rfl rfl rfl ?_
      refine K.callR [(.func 67, _), ((.tmp 65), _), ((.tmp 67), _)] (Tree_weightM_con (k := k) hx13 0 1) (toFn_func (cf 67 rfl) rfl) (gd0 rfl) ⟨rfl, rfl, rfl, trivial⟩ ⟨rfl, rfl, trivial⟩ rfl rfl rfl ?_
      refine K.bin (V := .int .i64 (w64 (2 * x13))) (gd0 rfl) rfl rfl (fun _ => rfl) rfl ?_
      refine K.bin (V := .bool (decide (x12 ≥ (w64 (2 * x13))))) (gd0 rfl) rfl rfl (fun _ => rfl) rfl ?_
      refine K.nil ?_
      refine ⟨by kernel_rfl, ?_⟩
      refine At.next ?_
      refine G.cond rfl (fun h4 => ?_) (fun h4 => ?_)
      ·
        replace H0 := bif_t H0 h4
        obtain ⟨x14, hx14, H0⟩ := bnd H0
        obtain ⟨x15, hx15, H0⟩ := bnd H0
        refine G.rd mixed ?_
        refine K.move (.inl rfl) (gd0 rfl) rfl rfl ?_
        refine K.loadS Y [_, _] (gd0 rfl) rfl rfl t68 rfl rfl rfl ?_
        refine K.move (.inl rfl) (gd0 rfl) rfl rfl ?_
        refine K.fieldAddr Y (gd0 rfl) rfl t70 rfl rfl ?_
        refine K.loadS Y [_, _] (gd0 rfl) rfl rfl t68 rfl rfl rfl ?_
        refine K.call0 [(.func 78, _), ((.tmp 73), _), ((.tmp 75), _)] (Tree_turnLeftM_con (k := k) hx14 0 1) (toFn_func (cf 78 rfl) rfl) (gd0 rfl) ⟨rfl, rfl, rfl, trivial⟩ ⟨rfl, rfl, trivial⟩ rfl rfl rfl rfl rfl rfl ?_
        refine K.fieldAddr Y (gd0 rfl) rfl t70 rfl rfl ?_
        refine K.loadS Y [_, _] (gd0 rfl) rfl rfl t68 rfl rfl rfl ?_
        refine K.call0 [(.func 72, _), ((.tmp 71), _), ((.tmp 72), _), ((.tmp 76), _), ((.tmp 78), _)] (Tree_layM_con (k := k) hx15 0 1) (toFn_func (cf 72 rfl) rfl) (gd0 rfl) ⟨rfl, rfl, rfl, rfl, rfl, trivial⟩ ⟨rfl, rfl, trivial⟩ rfl rfl rfl rfl rfl rfl ?_
        refine K.nil ?_
        refine ⟨by kernel_rfl, ?_⟩
        refine At.next ?_
        refine G.seq ?_
        obtain ⟨x16, hx16, H0⟩ := bnd H0
        refine G.rg ?_
        refine K.move (.inl rfl) (gd0 rfl) rfl rfl ?_
        refine K.loadS Y [_, _] (gd0 rfl) rfl rfl t68 rfl rfl rfl ?_
        refine K.call0 [(.func 77, _), ((.tmp 80), _), ((.tmp 81), _)] (Tree_turnRightM_con (k := k) hx16 0 1) (toFn_func (cf 77 rfl) rfl) (gd0 rfl) ⟨rfl, rfl, rfl, trivial⟩ ⟨rfl, rfl, trivial⟩ rfl rfl rfl rfl rfl rfl ?_
        refine K.store Y [_, _] (gd0 rfl) rfl rfl rfl t68 rfl rfl rfl rfl rfl ?_
        refine K.nil ?_
        refine At.next ?_
        refine G.ret ?_
        refine At.block_ret ?_
        refine At.over_ret ?_
        refine At.done Y [(.cell 4 68, .agg [_, _])] rfl ⟨.st rfl rfl t68 rfl rfl, trivial⟩ (to' := [(0, _), (1, _)]) ⟨rfl, rfl, trivial⟩ ?_ ?_ rfl rfl rfl (.inl rfl)
        · cases H0; rfl
        · cases H0; rfl
      ·
        replace H0 := bif_f H0 h4
        refine G.skip ?_
        refine At.next ?_
        refine G.seq ?_
        obtain ⟨x17, hx17, H0⟩ := bnd H0
        refine G.rg ?_
        refine K.move (.inl rfl) (gd0 rfl) rfl rfl ?_
        refine K.loadS Y [_, _] (gd0 rfl) rfl rfl t68 rfl rfl rfl ?_
        refine K.call0 [(.func 77, _), ((.tmp 80), _), ((.tmp 81), _)] (Tree_turnRightM_con (k := k) hx17 0 1) (toFn_func (cf 77 rfl) rfl) (gd0 rfl) ⟨rfl, rfl, rfl, trivial⟩ ⟨rfl, rfl, trivial⟩ rfl rfl rfl rfl rfl rfl ?_
        refine K.store Y [_, _] (gd0 rfl) rfl rfl rfl t68 rfl rfl rfl rfl rfl ?_
        refine K.nil ?_
        refine At.next ?_
        refine G.ret ?_
        refine At.block_ret ?_
        refine At.over_ret ?_
        refine At.done Y [(.cell 4 68, .agg [_, _])] rfl ⟨.st rfl rfl t68 rfl rfl, trivial⟩ (to' := [(0, _), (1, _)]) ⟨rfl, rfl, trivial⟩ ?_ ?_ rfl rfl rfl (.inl rfl)
        · cases H0; rfl
        · cases H0; rfl
    ·
      replace H0 := bif_f H0 h3
      refine G.skip ?_
      refine At.block_normal ?_
      refine At.next ?_
      refine G.seq ?_
      refine G.rg ?_
      refine K.loadS Y [_, _] (gd0 rfl) rfl rfl t68 rfl rfl rfl ?_
      refine K.store Y [_, _] (gd0 rfl) rfl rfl rfl t68 rfl rfl rfl rfl rfl ?_
      refine K.nil ?_
      refine At.next ?_
      refine G.ret ?_
      refine At.done Y [(.cell 4 68, .agg [_, _])] rfl ⟨.st rfl rfl t68 rfl rfl, trivial⟩ (to' := [(0, _), (1, _)]) ⟨rfl, rfl, trivial⟩ ?_ ?_ rfl rfl rfl (.inl rfl)
      · cases H0; rfl
      · cases H0; rfl
theorem Tree_balanceM_con {k : Nat}  {p1 : Pool (TNode TMark TSwell)} {a1 : TRef} {ri0 rg0 : Int} {r : TRef × Pool (TNode TMark TSwell)}  (H0 : Tree_balance.f opsM k p1 a1 = some r) (m0 m1 : Nat) : SCon Try.prog 76 [SV.p m0 0, .a (.agg ((eTRef a1).map .v))] [(m0, blk m0 [.p m1 0, .i ri0, .i rg0] 74), (m1, plM m1 p1)] (.a (.agg ((eTRef r.1).map .v))) [(m0, blk m0 [.p m1 0, .i ri0, .i rg0] 74), (m1, plM m1 r.2)] [] :=
  SCon.ren (rn [(0, m0), (1, m1)]) (Tree_balanceM_con0 (k := k)   H0) ⟨(blk_ren rfl rfl), (pl_ren rfl), trivial⟩ ⟨(blk_ren rfl rfl), (pl_ren rfl), trivial⟩ (by simp) (by simp)
theorem Tree_linkM_con0 {k : Nat}  : ∀ {n : Nat} {p1 : Pool (TNode TMark TSwell)} {a1 : TRef} {a2 : TRef} {a3 : TRef} {ri0 rg0 : Int} {r : TRef × Pool (TNode TMark TSwell)}  (H0 : Tree_link.r opsM k n p1 a1 a2 a3 = some r), SCon Try.prog 70 [SV.p 0 0, .a (.agg ((eTRef a1).map .v)), .a (.agg ((eTRef a2).map .v)), .a (.agg ((eTRef a3).map .v))] [(0, blk 0 [.p 1 0, .i ri0, .i rg0] 74), (1, plM 1 p1)] (.a (.agg ((eTRef r.1).map .v))) [(0, blk 0 [.p 1 0, .i ri0, .i rg0] 74), (1, plM 1 r.2)] [] := by
  intro n
  induction n with
  | zero => intro p1 a1 a2 a3 ri0 rg0 r H0; exact absurd H0 (by simp [Tree_link.r])
  | succ n ih =>
    intro p1 a1 a2 a3 ri0 rg0 r H0
    rw [Tree_link.r] at H0
    refine spec_of [(0, _), (1, _), (2, _), (3, _)] [(0, _), (1, _)] 66 Try.func70 rfl Try.ntmps70 rfl rfl rfl rfl (fun β W F => ?_)
    refine G.seq ?_
    refine G.rg ?_
    refine K.box Y 100 [_, _] (gd0 rfl) rfl rfl rfl rfl rfl rfl ?_
    refine K.box Y 101 [_, _] (gd0 rfl) rfl rfl rfl rfl rfl rfl ?_
    refine K.box Y 102 [_, _] (gd0 rfl) rfl rfl rfl rfl rfl rfl ?_
    refine K.alloc Y 103 [_, _] (gd0 rfl) t68 rfl rfl rfl rfl rfl ?_
    refine K.nil ?_
    refine At.next ?_
    refine G.seq ?_
    obtain ⟨x1, hx1, H0⟩ := bnd H0
    obtain ⟨x2, hx2, H0⟩ := bnd H0
    refine G.rd mixed ?_
    refine K.move (.inl rfl) (gd0 rfl) rfl rfl ?_
    refine K.loadS Y [_, _] (gd0 rfl) rfl rfl t68 rfl rfl rfl ?_
    refine K.callR [(.func 67, _), ((.tmp 13), _), ((.tmp 14), _)] (Tree_weightM_con (k := k) hx1 0 1) (toFn_func (cf 67 rfl) rfl) (gd0 rfl) ⟨rfl, rfl, rfl, trivial⟩ ⟨rfl, rfl, trivial⟩ rfl rfl rfl ?_
    refine K.move (.inl rfl) (gd0 rfl) rfl rfl ?_
    refine K.loadS Y [_, _] (gd0 rfl) rfl rfl t68 rfl rfl rfl ?_
    refine K.callR [(.func 67, _), ((.tmp 16), _), ((.tmp 17), _)] (Tree_weightM_con (k := k) hx2 0 1) (toFn_func (cf 67 rfl) rfl) (gd0 rfl) ⟨rfl, rfl, rfl, trivial⟩ ⟨rfl, rfl, trivial⟩ rfl rfl rfl ?_
    refine K.move (.inr rfl) (gd0 rfl) rfl rfl ?_
    refine K.move (.inr rfl) (gd0 rfl) rfl rfl ?_
    refine K.nil ?_
    refine ⟨by kernel_rfl, ?_⟩
    refine At.next ?_
    refine G.seq ?_
    refine G.block ?_
    refine G.seq ?_
    refine G.rg ?_
    refine K.move (.inl rfl) (gd0 rfl) rfl rfl ?_
    refine K.move (.inl rfl) (gd0 rfl) rfl rfl ?_
    refine K.bin (V := .int .i64 (w64 (3 * x1))) (gd0 rfl) rfl rfl (fun _ => rfl) rfl ?_
    refine K.bin (V := .bool (decide (x2 > (w64 (3 * x1))))) (gd0 rfl) rfl rfl (fun _ => rfl) rfl ?_
    refine K.move (.inr rfl) (gd0 rfl) rfl rfl ?_
    refine K.nil ?_
    refine At.next ?_
    refine G.cond rfl (fun h1 => ?_) (fun h1 => ?_)
    ·
      replace H0 := bif_t H0 h1
      refine G.seq ?_
      obtain ⟨x3, hx3, H0⟩ := bnd H0
      refine G.rg ?_
      refine K.move (.inl rfl) (gd0 rfl) rfl rfl ?_
      refine K.loadS Y [_, _] (gd0 rfl) rfl rfl t68 rfl rfl rfl ?_
      refine K.callR [(.func 50, _), ((.tmp 24), _), ((.tmp 25), _)] (Tree_getM_con (k := k) hx3 0 1) (toFn_func (cf 50 rfl) rfl) (gd0 rfl) ⟨rfl, rfl, rfl, trivial⟩ ⟨rfl, rfl, trivial⟩ rfl rfl rfl ?_
      refine K.alloc Y 104 [_, _, _, _, _, _, _, _, _, _, _, _, _, _, _, _, _, _, _, _, _, _, _, _, _, _, _, _, _] (gd0 rfl) t70 rfl rfl rfl rfl rfl ?_
      refine K.store Y [_, _, _, _, _, _, _, _, _, _, _, _, _, _, _, _, _, _, _, _, _, _, _, _, _, _, _, _, _] (gd0 rfl) rfl rfl rfl t70 rfl rfl rfl rfl rfl ?_
      refine K.nil ?_
      refine At.next ?_
      refine G.seq ?_
      obtain ⟨x4, hx4, H0⟩ := bnd H0
      obtain ⟨x5, hx5, H0⟩ := bnd H0
      obtain ⟨x6, hx6, H0⟩ := bnd H0
      refine G.rd mixed ?_
      refine K.move (.inl rfl) (gd0 rfl) rfl rfl ?_
      refine K.move (.inl rfl) (gd0 rfl) rfl rfl ?_
      refine K.loadS Y [_, _] (gd0 rfl) rfl rfl t68 rfl rfl rfl ?_
      refine K.move (.inl rfl) (gd0 rfl) rfl rfl ?_
      refine K.loadS Y [_, _] (gd0 rfl) rfl rfl t68 rfl rfl rfl ?_
      refine K.loadS Y [_, _] (gd0 rfl) rfl rfl t68 rfl rfl rfl ?_
      refine K.fieldAddr Y (gd0 rfl) rfl t70 rfl rfl ?_
      refine K.loadS Y [_, _] (gd0 rfl) rfl rfl t68 rfl rfl rfl ?_
      refine K.call0 [(.func 70, _), ((.tmp 30), _), ((.tmp 31), _), ((.tmp 32), _), ((.tmp 34), _)] (ih hx4) (toFn_func (cf 70 rfl) rfl) (gd0 rfl) ⟨rfl, rfl, rfl, rfl, rfl, trivial⟩ ⟨rfl, rfl, trivial⟩ rfl rfl rfl rfl rfl rfl ?_
      refine K.fieldAddr Y (gd0 rfl) rfl t70 rfl rfl ?_
      refine K.loadS Y [_, _] (gd0 rfl) rfl rfl t68 rfl rfl rfl ?_
      refine K.call0 [(.func 72, _), ((.tmp 28), _), ((.tmp 29), _), ((.tmp 35), _), ((.tmp 37), _)] (Tree_layM_con (k := k) hx5 0 1) (toFn_func (cf 72 rfl) rfl) (gd0 rfl) ⟨rfl, rfl, rfl, rfl, rfl, trivial⟩ ⟨rfl, rfl, trivial⟩ rfl rfl rfl rfl rfl rfl ?_
      refine K.call0 [(.func 76, _), ((.tmp 27), _), ((.tmp 38), _)] (Tree_balanceM_con (k := k) hx6 0 1) (toFn_func (cf 76 rfl) rfl) (gd0 rfl) ⟨rfl, rfl, rfl, trivial⟩ ⟨rfl, rfl, trivial⟩ rfl rfl rfl rfl rfl rfl ?_
      refine K.store Y [_, _] (gd0 rfl) rfl rfl rfl t68 rfl rfl rfl rfl rfl ?_
      refine K.nil ?_
      refine ⟨by kernel_rfl, ?_⟩
      refine At.next ?_
      refine G.ret ?_
      refine At.block_ret ?_
      refine At.over_ret ?_
      refine At.done Y [(.cell 8 68, .agg [_, _])] rfl ⟨.st rfl rfl t68 rfl rfl, trivial⟩ (to' := [(0, _), (1, _)]) ⟨rfl, rfl, trivial⟩ ?_ ?_ rfl rfl rfl (.inl rfl)
      · cases H0; rfl
      · cases H0; rfl
    ·
      replace H0 := bif_f H0 h1
      refine G.seq ?_
      refine G.rg ?_
      refine K.move (.inl rfl) (gd0 rfl) rfl rfl ?_
      refine K.move (.inl rfl) (gd0 rfl) rfl rfl ?_
      refine K.bin (V := .int .i64 (w64 (3 * x2))) (gd0 rfl) rfl rfl (fun _ => rfl) rfl ?_
      refine K.bin (V := .bool (decide (x1 > (w64 (3 * x2))))) (gd0 rfl) rfl rfl (fun _ => rfl) rfl ?_
      refine K.move (.inr rfl) (gd0 rfl) rfl rfl ?_
      refine K.nil ?_
      refine At.next ?_
      refine G.cond rfl (fun h2 => ?_) (fun h2 => ?_)
      ·
        replace H0 := bif_t H0 h2
        refine G.seq ?_
        obtain ⟨x7, hx7, H0⟩ := bnd H0
        refine G.rg ?_
        refine K.move (.inl rfl) (gd0 rfl) rfl rfl ?_
        refine K.loadS Y [_, _] (gd0 rfl) rfl rfl t68 rfl rfl rfl ?_
        refine K.callR [(.func 50, _), ((.tmp 45), _), ((.tmp 46), _)] (Tree_getM_con (k := k) hx7 0 1) (toFn_func (cf 50 rfl) rfl) (gd0 rfl) ⟨rfl, rfl, rfl, trivial⟩ ⟨rfl, rfl, trivial⟩ rfl rfl rfl ?_
        refine K.alloc Y 105 [_, _, _, _, _, _, _, _, _, _, _, _, _, _, _, _, _, _, _, _, _, _, _, _, _, _, _, _, _] (gd0 rfl) t70 rfl rfl rfl rfl rfl ?_
        refine K.store Y [_, _, _, _, _, _, _, _, _, _, _, _, _, _, _, _, _, _, _, _, _, _, _, _, _, _, _, _, _] (gd0 rfl) rfl rfl rfl t70 rfl rfl rfl rfl rfl ?_
        refine K.nil ?_
        refine At.next ?_
        refine G.seq ?_
        obtain ⟨x8, hx8, H0⟩ := bnd H0
        obtain ⟨x9, hx9, H0⟩ := bnd H0
        obtain ⟨x10, hx10, H0⟩ := bnd H0
        refine G.rd mixed ?_
        refine K.move (.inl rfl) (gd0 rfl) rfl rfl ?_
        refine K.move (.inl rfl) (gd0 rfl) rfl rfl ?_
        refine K.loadS Y [_, _] (gd0 rfl) rfl rfl t68 rfl rfl rfl ?_
        refine K.fieldAddr Y (gd0 rfl) rfl t70 rfl rfl ?_
        refine K.loadS Y [_, _] (gd0 rfl) rfl rfl t68 rfl rfl rfl ?_
        refine K.move (.inl rfl) (gd0 rfl) rfl rfl ?_
        refine K.fieldAddr Y (gd0 rfl) rfl t70 rfl rfl ?_
        refine K.loadS Y [_, _] (gd0 rfl) rfl rfl t68 rfl rfl rfl ?_
        refine K.loadS Y [_, _] (gd0 rfl) rfl rfl t68 rfl rfl rfl ?_
        refine K.loadS Y [_, _] (gd0 rfl) rfl rfl t68 rfl rfl rfl ?_
        refine K.call0 [(.func 70, _), ((.tmp 53), _), ((.tmp 55), _), ((.tmp 56), _), ((.tmp 57), _)] (ih hx8) (toFn_func (cf 70 rfl) rfl) (gd0 rfl) ⟨rfl, rfl, rfl, rfl, rfl, trivial⟩ ⟨rfl, rfl, trivial⟩ rfl rfl rfl rfl rfl rfl ?_
        refine K.call0 [(.func 72, _), ((.tmp 49), _), ((.tmp 50), _), ((.tmp 52), _), ((.tmp 58), _)] (Tree_layM_con (k := k) hx9 0 1) (toFn_func (cf 72 rfl) rfl) (gd0 rfl) ⟨rfl, rfl, rfl, rfl, rfl, trivial⟩ ⟨rfl, rfl, trivial⟩ rfl rfl rfl rfl rfl rfl ?_
        refine K.call0 [(.func 76, _), ((.tmp 48), _), ((.tmp 59), _)] (Tree_balanceM_con (k := k) hx10 0 1) (toFn_func (cf 76 rfl) rfl) (gd0 rfl) ⟨rfl, rfl, rfl, trivial⟩ ⟨rfl, rfl, trivial⟩ rfl rfl rfl rfl rfl rfl ?_
        refine K.store Y [_, _] (gd0 rfl) rfl rfl rfl t68 rfl rfl rfl rfl rfl ?_
        refine K.nil ?_
        refine ⟨by kernel_rfl, ?_⟩
        refine At.next ?_
        refine G.ret ?_
        refine At.block_ret ?_
        refine At.over_ret ?_
        refine At.done Y [(.cell 8 68, .agg [_, _])] rfl ⟨.st rfl rfl t68 rfl rfl, trivial⟩ (to' := [(0, _), (1, _)]) ⟨rfl, rfl, trivial⟩ ?_ ?_ rfl rfl rfl (.inl rfl)
        · cases H0; rfl
        · cases H0; rfl
      ·
        replace H0 := bif_f H0 h2
        refine G.skip ?_
        refine At.block_normal ?_
        refine At.next ?_
        refine G.seq ?_
        obtain ⟨x11, hx11, H0⟩ := bnd H0
        refine G.rg ?_
        refine K.move (.inl rfl) (gd0 rfl) rfl rfl ?_
        refine K.loadS Y [_, _] (gd0 rfl) rfl rfl t68 rfl rfl rfl ?_
        refine K.loadS Y [_, _] (gd0 rfl) rfl rfl t68 rfl rfl rfl ?_
        refine K.loadS Y [_, _] (gd0 rfl) rfl rfl t68 rfl rfl rfl ?_
        refine K.call0 [(.func 72, _), ((.tmp 61), _), ((.tmp 62), _), ((.tmp 63), _), ((.tmp 64), _)] (Tree_layM_con (k := k) hx11 0 1) (toFn_func (cf 72 rfl) rfl) (gd0 rfl) ⟨rfl, rfl, rfl, rfl, rfl, trivial⟩ ⟨rfl, rfl, trivial⟩ rfl rfl rfl rfl rfl rfl ?_
        refine K.store Y [_, _] (gd0 rfl) rfl rfl rfl t68 rfl rfl rfl rfl rfl ?_
        refine K.nil ?_
        refine At.next ?_
        refine G.ret ?_
        refine At.done Y [(.cell 8 68, .agg [_, _])] rfl ⟨.st rfl rfl t68 rfl rfl, trivial⟩ (to' := [(0, _), (1, _)]) ⟨rfl, rfl, trivial⟩ ?_ ?_ rfl rfl rfl (.inl rfl)
        · cases H0; rfl
        · cases H0; rfl
theorem Tree_linkM_con {k n : Nat}  {p1 : Pool (TNode TMark TSwell)} {a1 : TRef} {a2 : TRef} {a3 : TRef} {ri0 rg0 : Int} {r : TRef × Pool (TNode TMark TSwell)}  (H0 : Tree_link.r opsM k n p1 a1 a2 a3 = some r) (m0 m1 : Nat) : SCon Try.prog 70 [SV.p m0 0, .a (.agg ((eTRef a1).map .v)), .a (.agg ((eTRef a2).map .v)), .a (.agg ((eTRef a3).map .v))] [(m0, blk m0 [.p m1 0, .i ri0, .i rg0] 74), (m1, plM m1 p1)] (.a (.agg ((eTRef r.1).map .v))) [(m0, blk m0 [.p m1 0, .i ri0, .i rg0] 74), (m1, plM m1 r.2)] [] :=
  SCon.ren (rn [(0, m0), (1, m1)]) (Tree_linkM_con0 (k := k)   H0) ⟨(blk_ren rfl rfl), (pl_ren rfl), trivial⟩ ⟨(blk_ren rfl rfl), (pl_ren rfl), trivial⟩ (by simp) (by simp)
theorem Tree_putM_con0 {k : Nat}  : ∀ {n : Nat} {p1 : Pool (TNode TMark TSwell)} {a1 : TRef} {a2 : TMark} {ri0 rg0 : Int} {r : TRef × Bool × Pool (TNode TMark TSwell)}  (H0 : Tree_put.r opsM k n p1 a1 a2 = some r), SCon Try.prog 61 [SV.p 0 0, .a (.agg ((eTRef a1).map .v)), .a (.agg ((eTMark a2).map .v))] [(0, blk 0 [.p 1 0, .i ri0, .i rg0] 74), (1, plM 1 p1)] (.tup [.agg ((eTRef r.1).map .v), .c (.v (.bool r.2.1))]) [(0, blk 0 [.p 1 0, .i ri0, .i rg0] 74), (1, plM 1 r.2.2)] [] := by
  intro n
  induction n with
  | zero => intro p1 a1 a2 ri0 rg0 r H0; exact absurd H0 (by simp [Tree_put.r])
  | succ n ih =>
    intro p1 a1 a2 ri0 rg0 r H0
    rw [Tree_put.r] at H0
    refine spec_of [(0, _), (1, _), (2, _)] [(0, _), (1, _)] 98 Try.func61 rfl Try.ntmps61 rfl rfl rfl rfl (fun β W F => ?_)
    refine G.seq ?_
    refine G.rg ?_
    refine K.box Y 100 [_, _] (gd0 rfl) rfl rfl rfl rfl rfl rfl ?_
    refine K.box Y 101 [_, _, _, _, _, _, _, _] (gd0 rfl) rfl rfl rfl rfl rfl rfl ?_
    refine K.alloc Y 102 [_, _] (gd0 rfl) t68 rfl rfl rfl rfl rfl ?_
    refine K.move (.inr rfl) (gd0 rfl) rfl rfl ?_
    refine K.nil ?_
    refine At.next ?_
    refine G.seq ?_
    refine G.seq ?_
    refine G.rg ?_
    refine K.fieldAddr Y (gd0 rfl) rfl t68 rfl rfl ?_
    refine K.load1 Y (gd0 rfl) rfl rfl t3 rfl rfl ?_
    refine K.bin (V := .bool (a1.gen == 0)) (gd0 rfl) rfl rfl (fun _ => rfl) rfl ?_
    refine K.nil ?_
    refine At.next ?_
    refine G.cond rfl (fun h1 => ?_) (fun h1 => ?_)
    ·
      replace H0 := bif_t H0 h1
      refine G.seq ?_
      obtain ⟨x1, hx1, H0⟩ := bnd H0
      obtain ⟨x2, hx2, H0⟩ := bnd H0
      refine G.rd mixed ?_
      refine K.move (.inl rfl) (gd0 rfl) rfl rfl ?_
      refine K.nilCheck (gd0 rfl) rfl rfl ?_
      refine K.fieldAddr Y (gd0 rfl) rfl t74 rfl rfl ?_
      refine K.load1 Y (gd0 rfl) rfl rfl t72 rfl rfl ?_
      refine K.loadS Y [_, _, _, _, _, _, _, _] (gd0 rfl) rfl rfl t39 rfl rfl rfl ?_
      refine K.loadS Y [_, _, _, _, _, _, _, _] (gd0 rfl) rfl rfl t39 rfl rfl rfl ?_
      refine K.mkIface Y (gd0 rfl) rfl (mkI Try.underlying39 rfl) rfl ?_
      refine K.callR [((.tmp 26), _)] (wave_Mark_Sum_con (k := k) hx1) (toFn_invoke (cf 96 rfl) (me39_96) rfl) (gd0 rfl) ⟨rfl, trivial⟩ trivial rfl rfl rfl ?_
      refine K.build Y [(0, _), (3, _), (4, _)] [_, _, _, _, _, _, _, _, _, _, _, _, _, _, _, _, _, _, _, _, _, _, _, _, _, _, _, _, _] [((.tmp 24), _), (_, _), ((.tmp 27), _)] (gd0 rfl) (AllE.spec ⟨rfl, rfl, rfl, trivial⟩) rfl rfl t70 rfl rfl ?_
      refine K.call0 [(.func 69, _), ((.tmp 23), _), ((.tmp 28), _)] (plputM hx2 1) (toFn_func (cf 69 rfl) rfl) (gd0 rfl) ⟨rfl, rfl, rfl, trivial⟩ ⟨rfl, trivial⟩ rfl rfl rfl rfl rfl rfl ?_
      refine K.move (.inl rfl) (gd0 rfl) rfl rfl ?_
      refine K.extract (gd0 rfl) rfl rfl rfl ?_
      refine K.extract (gd0 rfl) rfl rfl rfl ?_
      refine K.alloc Y 103 [_, _] (gd0 rfl) t68 rfl rfl rfl rfl rfl ?_
      refine K.store Y [_, _] (gd0 rfl) rfl rfl rfl t68 rfl rfl rfl rfl rfl ?_
      refine K.move (.inr rfl) (gd0 rfl) rfl rfl ?_
      refine K.nil ?_
      refine ⟨by kernel_rfl, ?_⟩
      refine At.next ?_
      refine G.seq ?_
      refine G.rg ?_
      refine K.loadS Y [_, _] (gd0 rfl) rfl rfl t68 rfl rfl rfl ?_
      refine K.move (.inl rfl) (gd0 rfl) rfl rfl ?_
      refine K.store Y [_, _] (gd0 rfl) rfl rfl rfl t68 rfl rfl rfl rfl rfl ?_
      refine K.move (.inr rfl) (gd0 rfl) rfl rfl ?_
      refine K.nil ?_
      refine At.next ?_
      refine G.ret ?_
      refine At.over_ret ?_
      refine At.done Y [(.cell 6 68, .agg [_, _]), (.tmp 7, .c _)] rfl ⟨.st rfl rfl t68 rfl rfl, .tmp rfl, trivial⟩ (to' := [(0, _), (1, _)]) ⟨rfl, rfl, trivial⟩ ?_ ?_ rfl rfl rfl (.inl rfl)
      · cases H0; rfl
      · cases H0; rfl
    ·
      replace H0 := bif_f H0 h1
      refine G.skip ?_
      refine At.next ?_
      refine G.seq ?_
      obtain ⟨x3, hx3, H0⟩ := bnd H0
      refine G.rg ?_
      refine K.move (.inl rfl) (gd0 rfl) rfl rfl ?_
      refine K.loadS Y [_, _] (gd0 rfl) rfl rfl t68 rfl rfl rfl ?_
      refine K.callR [(.func 50, _), ((.tmp 34), _), ((.tmp 35), _)] (Tree_getM_con (k := k) hx3 0 1) (toFn_func (cf 50 rfl) rfl) (gd0 rfl) ⟨rfl, rfl, rfl, trivial⟩ ⟨rfl, rfl, trivial⟩ rfl rfl rfl ?_
      refine K.alloc Y 104 [_, _, _, _, _, _, _, _, _, _, _, _, _, _, _, _, _, _, _, _, _, _, _, _, _, _, _, _, _] (gd0 rfl) t70 rfl rfl rfl rfl rfl ?_
      refine K.store Y [_, _, _, _, _, _, _, _, _, _, _, _, _, _, _, _, _, _, _, _, _, _, _, _, _, _, _, _, _] (gd0 rfl) rfl rfl rfl t70 rfl rfl rfl rfl rfl ?_
      refine K.nil ?_
      refine At.next ?_
      refine G.seq ?_
      obtain ⟨x4, hx4, H0⟩ := bnd H0
      refine G.rg ?_
      refine K.loadS Y [_, _, _, _, _, _, _, _] (gd0 rfl) rfl rfl t39 rfl rfl rfl ?_
      refine K.mkIface Y (gd0 rfl) rfl (mkI Try.underlying39 rfl) rfl ?_
      refine K.fieldAddr Y (gd0 rfl) rfl t70 rfl rfl ?_
      refine K.loadS Y [_, _, _, _, _, _, _, _] (gd0 rfl) rfl rfl t39 rfl rfl rfl ?_
      refine K.callR [((.tmp 38), _), ((.tmp 40), _)] (wave_Mark_Compare_con (k := k) hx4) (toFn_invoke (cf 95 rfl) (me39_95) rfl) (gd0 rfl) ⟨rfl, rfl, trivial⟩ trivial rfl rfl rfl ?_
      refine K.move (.inr rfl) (gd0 rfl) rfl rfl ?_
      refine K.nil ?_
      refine At.next ?_
      refine G.seq ?_
      refine G.block ?_
      refine G.seq ?_
      refine G.rg ?_
      refine K.move (.inl rfl) (gd0 rfl) rfl rfl ?_
      refine K.bin (V := .bool (decide (x4 < 0))) (gd0 rfl) rfl rfl (fun _ => rfl) rfl ?_
      refine K.move (.inr rfl) (gd0 rfl) rfl rfl ?_
      refine K.nil ?_
      refine At.next ?_
      refine G.cond rfl (fun h2 => ?_) (fun h2 => ?_)
      ·
        replace H0 := bif_t H0 h2
        refine G.seq ?_
        obtain ⟨x5, hx5, H0⟩ := bnd H0
        refine G.rg ?_
        refine K.move (.inl rfl) (gd0 rfl) rfl rfl ?_
        refine K.fieldAddr Y (gd0 rfl) rfl t70 rfl rfl ?_
        refine K.loadS Y [_, _] (gd0 rfl) rfl rfl t68 rfl rfl rfl ?_
        refine K.loadS Y [_, _, _, _, _, _, _, _] (gd0 rfl) rfl rfl t39 rfl rfl rfl ?_
        refine K.call0 [(.func 61, _), ((.tmp 46), _), ((.tmp 48), _), ((.tmp 49), _)] (ih hx5) (toFn_func (cf 61 rfl) rfl) (gd0 rfl) ⟨rfl, rfl, rfl, rfl, trivial⟩ ⟨rfl, rfl, trivial⟩ rfl rfl rfl rfl rfl rfl ?_
        refine K.move (.inl rfl) (gd0 rfl) rfl rfl ?_
        refine K.extract (gd0 rfl) rfl rfl rfl ?_
        refine K.extract (gd0 rfl) rfl rfl rfl ?_
        refine K.alloc Y 105 [_, _] (gd0 rfl) t68 rfl rfl rfl rfl rfl ?_
        refine K.store Y [_, _] (gd0 rfl) rfl rfl rfl t68 rfl rfl rfl rfl rfl ?_
        refine K.move (.inr rfl) (gd0 rfl) rfl rfl ?_
        refine K.nil ?_
        refine At.next ?_
        refine G.seq ?_
        refine G.seq ?_
        refine G.rg ?_
        refine K.move (.inl rfl) (gd0 rfl) rfl rfl ?_
        refine K.un (V := .bool (!x5.2.1)) (gd0 rfl) rfl (fun _ => rfl) rfl ?_
        refine K.nil ?_
        refine At.next ?_
        refine G.cond rfl (fun h3 => ?_) (fun h3 => ?_)
        ·
          replace H0 := bif_t H0 h3
          refine G.seq ?_
          refine G.rg ?_
          refine K.loadS Y [_, _] (gd0 rfl) rfl rfl t68 rfl rfl rfl ?_
          refine K.store Y [_, _] (gd0 rfl) rfl rfl rfl t68 rfl rfl rfl rfl rfl ?_
          refine K.move (.inr rfl) (gd0 rfl) rfl rfl ?_
          refine K.nil ?_
          refine At.next ?_
          refine G.ret ?_
          refine At.over_ret ?_
          refine At.block_ret ?_
          refine At.over_ret ?_
          refine At.done Y [(.cell 6 68, .agg [_, _]), (.tmp 7, .c _)] rfl ⟨.st rfl rfl t68 rfl rfl, .tmp rfl, trivial⟩ (to' := [(0, _), (1, _)]) ⟨rfl, rfl, trivial⟩ ?_ ?_ rfl rfl rfl (.inl rfl)
          · cases H0; rfl
          · cases H0; rfl
        ·
          replace H0 := bif_f H0 h3
          refine G.skip ?_
          refine At.next ?_
          refine G.seq ?_
          obtain ⟨x6, hx6, H0⟩ := bnd H0
          refine G.rg ?_
          refine K.move (.inl rfl) (gd0 rfl) rfl rfl ?_
          refine K.loadS Y [_, _] (gd0 rfl) rfl rfl t68 rfl rfl rfl ?_
          refine K.loadS Y [_, _] (gd0 rfl) rfl rfl t68 rfl rfl rfl ?_
          refine K.fieldAddr Y (gd0 rfl) rfl t70 rfl rfl ?_
          refine K.loadS Y [_, _] (gd0 rfl) rfl rfl t68 rfl rfl rfl ?_
          refine K.call0 [(.func 70, _), ((.tmp 56), _), ((.tmp 57), _), ((.tmp 58), _), ((.tmp 60), _)] (Tree_linkM_con (k := k) hx6 0 1) (toFn_func (cf 70 rfl) rfl) (gd0 rfl) ⟨rfl, rfl, rfl, rfl, rfl, trivial⟩ ⟨rfl, rfl, trivial⟩ rfl rfl rfl rfl rfl rfl ?_
          refine K.store Y [_, _] (gd0 rfl) rfl rfl rfl t68 rfl rfl rfl rfl rfl ?_
          refine K.move (.inr rfl) (gd0 rfl) rfl rfl ?_
          refine K.nil ?_
          refine At.next ?_
          refine G.ret ?_
          refine At.block_ret ?_
          refine At.over_ret ?_
          refine At.done Y [(.cell 6 68, .agg [_, _]), (.tmp 7, .c _)] rfl ⟨.st rfl rfl t68 rfl rfl, .tmp rfl, trivial⟩ (to' := [(0, _), (1, _)]) ⟨rfl, rfl, trivial⟩ ?_ ?_ rfl rfl rfl (.inl rfl)
          · cases H0; rfl
          · cases H0; rfl
      ·
        replace H0 := bif_f H0 h2
        refine G.seq ?_
        refine G.rg ?_
        refine K.move (.inl rfl) (gd0 rfl) rfl rfl ?_
        refine K.bin (V := .bool (decide (x4 > 0))) (gd0 rfl) rfl rfl (fun _ => rfl) rfl ?_
        refine K.move (.inr rfl) (gd0 rfl) rfl rfl ?_
        refine K.nil ?_
        refine At.next ?_
        refine G.cond rfl (fun h4 => ?_) (fun h4 => ?_)
        ·
          replace H0 := bif_t H0 h4
          refine G.seq ?_
          obtain ⟨x7, hx7, H0⟩ := bnd H0
          refine G.rg ?_
          refine K.move (.inl rfl) (gd0 rfl) rfl rfl ?_
          refine K.fieldAddr Y (gd0 rfl) rfl t70 rfl rfl ?_
          refine K.loadS Y [_, _] (gd0 rfl) rfl rfl t68 rfl rfl rfl ?_
          refine K.loadS Y [_, _, _, _, _, _, _, _] (gd0 rfl) rfl rfl t39 rfl rfl rfl ?_
          refine K.call0 [(.func 61, _), ((.tmp 66), _), ((.tmp 68), _), ((.tmp 69), _)] (ih hx7) (toFn_func (cf 61 rfl) rfl) (gd0 rfl) ⟨rfl, rfl, rfl, rfl, trivial⟩ ⟨rfl, rfl, trivial⟩ rfl rfl rfl rfl rfl rfl ?_
          refine K.move (.inl rfl) (gd0 rfl) rfl rfl ?_
          refine K.extract (gd0 rfl) rfl rfl rfl ?_
          refine K.extract (gd0 rfl) rfl rfl rfl ?_
          refine K.alloc Y 106 [_, _] (gd0 rfl) t68 rfl rfl rfl rfl rfl ?_
          refine K.store Y [_, _] (gd0 rfl) rfl rfl rfl t68 rfl rfl rfl rfl rfl ?_
          refine K.move (.inr rfl) (gd0 rfl) rfl rfl ?_
          refine K.nil ?_
          refine At.next ?_
          refine G.seq ?_
          refine G.seq ?_
          refine G.rg ?_
          refine K.move (.inl rfl) (gd0 rfl) rfl rfl ?_
          refine K.un (V := .bool (!x7.2.1)) (gd0 rfl) rfl (fun _ => rfl) rfl ?_
          refine K.nil ?_
          refine At.next ?_
          refine G.cond rfl (fun h5 => ?_) (fun h5 => ?_)
          ·
            replace H0 := bif_t H0 h5
            refine G.seq ?_
            refine G.rg ?_
            refine K.loadS Y [_, _] (gd0 rfl) rfl rfl t68 rfl rfl rfl ?_
            refine K.store Y [_, _] (gd0 rfl) rfl rfl rfl t68 rfl rfl rfl rfl rfl ?_
            refine K.move (.inr rfl) (gd0 rfl) rfl rfl ?_
            refine K.nil ?_
            refine At.next ?_
            refine G.ret ?_
            refine At.over_ret ?_
            refine At.block_ret ?_
            refine At.over_ret ?_
            refine At.done Y [(.cell 6 68, .agg [_, _]), (.tmp 7, .c _)] rfl ⟨.st rfl rfl t68 rfl rfl, .tmp rfl, trivial⟩ (to' := [(0, _), (1, _)]) ⟨rfl, rfl, trivial⟩ ?_ ?_ rfl rfl rfl (.inl rfl)
            · cases H0; rfl
            · cases H0; rfl
          ·
            replace H0 := bif_f H0 h5
            refine G.skip ?_
            refine At.next ?_
            refine G.seq ?_
            obtain ⟨x8, hx8, H0⟩ := bnd H0
            refine G.rg ?_
            refine K.move (.inl rfl) (gd0 rfl) rfl rfl ?_
            refine K.fieldAddr Y (gd0 rfl) rfl t70 rfl rfl ?_
            refine K.loadS Y [_, _] (gd0 rfl) rfl rfl t68 rfl rfl rfl ?_
            refine K.loadS Y [_, _] (gd0 rfl) rfl rfl t68 rfl rfl rfl ?_
            refine K.loadS Y [_, _] (gd0 rfl) rfl rfl t68 rfl rfl rfl ?_
            refine K.call0 [(.func 70, _), ((.tmp 76), _), ((.tmp 78), _), ((.tmp 79), _), ((.tmp 80), _)] (Tree_linkM_con (k := k) hx8 0 1) (toFn_func (cf 70 rfl) rfl) (gd0 rfl) ⟨rfl, rfl, rfl, rfl, rfl, trivial⟩ ⟨rfl, rfl, trivial⟩ rfl rfl rfl rfl rfl rfl ?_
            refine K.store Y [_, _] (gd0 rfl) rfl rfl rfl t68 rfl rfl rfl rfl rfl ?_
            refine K.move (.inr rfl) (gd0 rfl) rfl rfl ?_
            refine K.nil ?_
            refine At.next ?_
            refine G.ret ?_
            refine At.block_ret ?_
            refine At.over_ret ?_
            refine At.done Y [(.cell 6 68, .agg [_, _]), (.tmp 7, .c _)] rfl ⟨.st rfl rfl t68 rfl rfl, .tmp rfl, trivial⟩ (to' := [(0, _), (1, _)]) ⟨rfl, rfl, trivial⟩ ?_ ?_ rfl rfl rfl (.inl rfl)
            · cases H0; rfl
            · cases H0; rfl
        ·
          replace H0 := bif_f H0 h4
          refine G.skip ?_
          refine At.block_normal ?_
          refine At.next ?_
          refine G.seq ?_
          refine G.rg ?_
          refine K.loadS Y [_, _, _, _, _, _, _, _] (gd0 rfl) rfl rfl t39 rfl rfl rfl ?_
          refine K.fieldAddr Y (gd0 rfl) rfl t70 rfl rfl ?_
          refine K.store Y [_, _, _, _, _, _, _, _, _, _, _, _, _, _, _, _, _, _, _, _, _, _, _, _, _, _, _, _, _] (gd0 rfl) rfl rfl rfl t39 rfl rfl rfl rfl rfl ?_
          refine K.nil ?_
          refine At.next ?_
          refine G.seq ?_
          obtain ⟨x9, hx9, H0⟩ := bnd H0
          refine G.rd mixed ?_
          refine K.move (.inl rfl) (gd0 rfl) rfl rfl ?_
          refine K.nilCheck (gd0 rfl) rfl rfl ?_
          refine K.fieldAddr Y (gd0 rfl) rfl t74 rfl rfl ?_
          refine K.load1 Y (gd0 rfl) rfl rfl t72 rfl rfl ?_
          refine K.loadS Y [_, _] (gd0 rfl) rfl rfl t68 rfl rfl rfl ?_
          refine K.loadS Y [_, _, _, _, _, _, _, _, _, _, _, _, _, _, _, _, _, _, _, _, _, _, _, _, _, _, _, _, _] (gd0 rfl) rfl rfl t70 rfl rfl rfl ?_
          refine K.call0 [(.func 71, _), ((.tmp 87), _), ((.tmp 88), _), ((.tmp 89), _)] (plsetM hx9 1) (toFn_func (cf 71 rfl) rfl) (gd0 rfl) ⟨rfl, rfl, rfl, rfl, trivial⟩ ⟨rfl, trivial⟩ rfl rfl rfl rfl rfl rfl ?_
          refine K.nil ?_
          refine ⟨by kernel_rfl, ?_⟩
          refine At.next ?_
          refine G.seq ?_
          obtain ⟨x10, hx10, H0⟩ := bnd H0
          refine G.rg ?_
          refine K.move (.inl rfl) (gd0 rfl) rfl rfl ?_
          refine K.loadS Y [_, _] (gd0 rfl) rfl rfl t68 rfl rfl rfl ?_
          refine K.fieldAddr Y (gd0 rfl) rfl t70 rfl rfl ?_
          refine K.loadS Y [_, _] (gd0 rfl) rfl rfl t68 rfl rfl rfl ?_
          refine K.fieldAddr Y (gd0 rfl) rfl t70 rfl rfl ?_
          refine K.loadS Y [_, _] (gd0 rfl) rfl rfl t68 rfl rfl rfl ?_
          refine K.call0 [(.func 72, _), ((.tmp 91), _), ((.tmp 92), _), ((.tmp 94), _), ((.tmp 96), _)] (Tree_layM_con (k := k) hx10 0 1) (toFn_func (cf 72 rfl) rfl) (gd0 rfl) ⟨rfl, rfl, rfl, rfl, rfl, trivial⟩ ⟨rfl, rfl, trivial⟩ rfl rfl rfl rfl rfl rfl ?_
          refine K.store Y [_, _] (gd0 rfl) rfl rfl rfl t68 rfl rfl rfl rfl rfl ?_
          refine K.move (.inr rfl) (gd0 rfl) rfl rfl ?_
          refine K.nil ?_
          refine At.next ?_
          refine G.ret ?_
          refine At.done Y [(.cell 6 68, .agg [_, _]), (.tmp 7, .c _)] rfl ⟨.st rfl rfl t68 rfl rfl, .tmp rfl, trivial⟩ (to' := [(0, _), (1, _)]) ⟨rfl, rfl, trivial⟩ ?_ ?_ rfl rfl rfl (.inl rfl)
          · cases H0; rfl
          · cases H0; rfl
theorem Tree_putM_con {k n : Nat}  {p1 : Pool (TNode TMark TSwell)} {a1 : TRef} {a2 : TMark} {ri0 rg0 : Int} {r : TRef × Bool × Pool (TNode TMark TSwell)}  (H0 : Tree_put.r opsM k n p1 a1 a2 = some r) (m0 m1 : Nat) : SCon Try.prog 61 [SV.p m0 0, .a (.agg ((eTRef a1).map .v)), .a (.agg ((eTMark a2).map .v))] [(m0, blk m0 [.p m1 0, .i ri0, .i rg0] 74), (m1, plM m1 p1)] (.tup [.agg ((eTRef r.1).map .v), .c (.v (.bool r.2.1))]) [(m0, blk m0 [.p m1 0, .i ri0, .i rg0] 74), (m1, plM m1 r.2.2)] [] :=
  SCon.ren (rn [(0, m0), (1, m1)]) (Tree_putM_con0 (k := k)   H0) ⟨(blk_ren rfl rfl), (pl_ren rfl), trivial⟩ ⟨(blk_ren rfl rfl), (pl_ren rfl), trivial⟩ (by simp) (by simp)
theorem Tree_PutM_con0 {k : Nat}  {p1 : Pool (TNode TMark TSwell)} {rt0 : TRef} {a1 : TMark} {r : Bool × TRef × Pool (TNode TMark TSwell)}  (H0 : Tree_Put.f opsM k p1 rt0 a1 = some r) : SCon Try.prog 43 [SV.p 0 0, .a (.agg ((eTMark a1).map .v))] [(0, blk 0 [.p 1 0, .i rt0.index, .i rt0.gen] 74), (1, plM 1 p1)] (.a (.c (.v (.bool r.1)))) [(0, blk 0 [.p 1 0, .i r.2.1.index, .i r.2.1.gen] 74), (1, plM 1 r.2.2)] [] := by
  rw [Tree_Put.f] at H0
  refine spec_of [(0, _), (1, _)] [(0, _), (1, _)] 23 Try.func43 rfl Try.ntmps43 rfl rfl rfl rfl (fun β W F => ?_)
  refine G.seq ?_
  refine G.rg ?_
  refine K.box Y 100 [_, _, _, _, _, _, _, _] (gd0 rfl) rfl rfl rfl rfl rfl rfl ?_
  refine K.move (.inr rfl) (gd0 rfl) rfl rfl ?_
  refine K.nil ?_
  refine At.next ?_
  refine G.seq ?_
  obtain ⟨x1, hx1, H0⟩ := bnd H0
  refine G.rd mixed ?_
  refine K.move (.inl rfl) (gd0 rfl) rfl rfl ?_
  refine K.move (.inl rfl) (gd0 rfl) rfl rfl ?_
  refine K.nilCheck (gd0 rfl) rfl rfl ?_
  refine K.fieldAddr Y (gd0 rfl) rfl t74 rfl rfl ?_
  refine K.loadS Y [_, _] (gd0 rfl) rfl rfl t68 rfl rfl rfl ?_
  refine K.loadS Y [_, _, _, _, _, _, _, _] (gd0 rfl) rfl rfl t39 rfl rfl rfl ?_
  refine K.call0 [(.func 61, _), ((.tmp 8), _), ((.tmp 12), _), ((.tmp 13), _)] (Tree_putM_con (k := k) hx1 0 1) (toFn_func (cf 61 rfl) rfl) (gd0 rfl) ⟨rfl, rfl, rfl, rfl, trivial⟩ ⟨rfl, rfl, trivial⟩ rfl rfl rfl rfl rfl rfl ?_
  refine K.move (.inl rfl) (gd0 rfl) rfl rfl ?_
  refine K.extract (gd0 rfl) rfl rfl rfl ?_
  refine K.extract (gd0 rfl) rfl rfl rfl ?_
  refine K.alloc Y 101 [_, _] (gd0 rfl) t68 rfl rfl rfl rfl rfl ?_
  refine K.store Y [_, _] (gd0 rfl) rfl rfl rfl t68 rfl rfl rfl rfl rfl ?_
  refine K.move (.inr rfl) (gd0 rfl) rfl rfl ?_
  refine K.nil ?_
  refine ⟨by kernel_rfl, ?_⟩
  refine At.next ?_
  refine G.seq ?_
  refine G.seq ?_
  refine G.rg ?_
  refine K.move (.inl rfl) (gd0 rfl) rfl rfl ?_
  refine K.nil ?_
  refine At.next ?_
  refine G.cond rfl (fun h1 => ?_) (fun h1 => ?_)
  ·
    replace H0 := bif_t H0 h1
    refine G.rg ?_
    refine K.move (.inl rfl) (gd0 rfl) rfl rfl ?_
    refine K.loadS Y [_, _] (gd0 rfl) rfl rfl t68 rfl rfl rfl ?_
    refine K.nilCheck (gd0 rfl) rfl rfl ?_
    refine K.fieldAddr Y (gd0 rfl) rfl t74 rfl rfl ?_
    refine K.store Y [_, _, _] (gd0 rfl) rfl rfl rfl t68 rfl rfl rfl rfl rfl ?_
    refine K.nil ?_
    refine At.next ?_
    refine G.seq ?_
    refine G.rg ?_
    refine K.move (.inl rfl) (gd0 rfl) rfl rfl ?_
    refine K.move (.inr rfl) (gd0 rfl) rfl rfl ?_
    refine K.nil ?_
    refine At.next ?_
    refine G.ret ?_
    refine At.done Y [(.tmp 4, .c _)] rfl ⟨.tmp rfl, trivial⟩ (to' := [(0, _), (1, _)]) ⟨rfl, rfl, trivial⟩ ?_ ?_ rfl rfl rfl (.inl rfl)
    · cases H0; rfl
    · cases H0; rfl
  ·
    replace H0 := bif_f H0 h1
    refine G.skip ?_
    refine At.next ?_
    refine G.seq ?_
    refine G.rg ?_
    refine K.move (.inl rfl) (gd0 rfl) rfl rfl ?_
    refine K.move (.inr rfl) (gd0 rfl) rfl rfl ?_
    refine K.nil ?_
    refine At.next ?_
    refine G.ret ?_
    refine At.done Y [(.tmp 4, .c _)] rfl ⟨.tmp rfl, trivial⟩ (to' := [(0, _), (1, _)]) ⟨rfl, rfl, trivial⟩ ?_ ?_ rfl rfl rfl (.inl rfl)
    · cases H0; rfl
    · cases H0; rfl
theorem Tree_PutM_con {k : Nat}  {p1 : Pool (TNode TMark TSwell)} {rt0 : TRef} {a1 : TMark} {r : Bool × TRef × Pool (TNode TMark TSwell)}  (H0 : Tree_Put.f opsM k p1 rt0 a1 = some r) (m0 m1 : Nat) : SCon Try.prog 43 [SV.p m0 0, .a (.agg ((eTMark a1).map .v))] [(m0, blk m0 [.p m1 0, .i rt0.index, .i rt0.gen] 74), (m1, plM m1 p1)] (.a (.c (.v (.bool r.1)))) [(m0, blk m0 [.p m1 0, .i r.2.1.index, .i r.2.1.gen] 74), (m1, plM m1 r.2.2)] [] :=
  SCon.ren (rn [(0, m0), (1, m1)]) (Tree_PutM_con0 (k := k)   H0) ⟨(blk_ren rfl rfl), (pl_ren rfl), trivial⟩ ⟨(blk_ren rfl rfl), (pl_ren rfl), trivial⟩ (by simp) (by simp)
theorem Tree_LenM_con0 {k : Nat}  {p1 : Pool (TNode TMark TSwell)} {rt0 : TRef} {r : Int}  (H0 : Tree_Len.f opsM k p1 rt0 = some r) : SCon Try.prog 21 [SV.p 0 0] [(0, blk 0 [.p 1 0, .i rt0.index, .i rt0.gen] 74), (1, plM 1 p1)] (.a (.c (.v (.int .i64 r)))) [(0, blk 0 [.p 1 0, .i rt0.index, .i rt0.gen] 74), (1, plM 1 p1)] [] := by
  rw [Tree_Len.f] at H0
  refine spec_of [(0, _)] [(0, _), (1, _)] 10 Try.func21 rfl Try.ntmps21 rfl rfl rfl rfl (fun β W F => ?_)
  refine G.seq ?_
  refine G.rg ?_
  refine K.move (.inr rfl) (gd0 rfl) rfl rfl ?_
  refine K.nil ?_
  refine At.next ?_
  refine G.seq ?_
  obtain ⟨x1, hx1, H0⟩ := bnd H0
  refine G.rg ?_
  refine K.move (.inl rfl) (gd0 rfl) rfl rfl ?_
  refine K.move (.inl rfl) (gd0 rfl) rfl rfl ?_
  refine K.nilCheck (gd0 rfl) rfl rfl ?_
  refine K.fieldAddr Y (gd0 rfl) rfl t74 rfl rfl ?_
  refine K.loadS Y [_, _] (gd0 rfl) rfl rfl t68 rfl rfl rfl ?_
  refine K.callR [(.func 50, _), ((.tmp 3), _), ((.tmp 7), _)] (Tree_getM_con (k := k) hx1 0 1) (toFn_func (cf 50 rfl) rfl) (gd0 rfl) ⟨rfl, rfl, rfl, trivial⟩ ⟨rfl, rfl, trivial⟩ rfl rfl rfl ?_
  refine K.field1 Y (gd0 rfl) rfl t70 rfl t3 rfl rfl ?_
  refine K.move (.inr rfl) (gd0 rfl) rfl rfl ?_
  refine K.nil ?_
  refine At.next ?_
  refine G.ret ?_
  refine At.done Y [(.tmp 2, .c _)] rfl ⟨.tmp rfl, trivial⟩ (to' := [(0, _), (1, _)]) ⟨rfl, rfl, trivial⟩ ?_ ?_ rfl rfl rfl (.inl rfl)
  · cases H0; rfl
  · cases H0; rfl
theorem Tree_LenM_con {k : Nat}  {p1 : Pool (TNode TMark TSwell)} {rt0 : TRef} {r : Int}  (H0 : Tree_Len.f opsM k p1 rt0 = some r) (m0 m1 : Nat) : SCon Try.prog 21 [SV.p m0 0] [(m0, blk m0 [.p m1 0, .i rt0.index, .i rt0.gen] 74), (m1, plM m1 p1)] (.a (.c (.v (.int .i64 r)))) [(m0, blk m0 [.p m1 0, .i rt0.index, .i rt0.gen] 74), (m1, plM m1 p1)] [] :=
  SCon.ren (rn [(0, m0), (1, m1)]) (Tree_LenM_con0 (k := k)   H0) ⟨(blk_ren rfl rfl), (pl_ren rfl), trivial⟩ ⟨(blk_ren rfl rfl), (pl_ren rfl), trivial⟩ (by simp) (by simp)
theorem Tree_betweenM_con0 {k : Nat}  : ∀ {n : Nat} {p1 : Pool (TNode TMark TSwell)} {a1 : TRef} {a2 : Int} {a3 : Int} {ri0 rg0 : Int} {r : TSwell}  (H0 : Tree_between.r opsM k n p1 a1 a2 a3 = some r), SCon Try.prog 59 [SV.p 0 0, .a (.agg ((eTRef a1).map .v)), .a (.c (.v (.int .i64 a2))), .a (.c (.v (.int .i64 a3)))] [(0, blk 0 [.p 1 0, .i ri0, .i rg0] 74), (1, plM 1 p1)] (.a (.agg ((eTSwell r).map .v))) [(0, blk 0 [.p 1 0, .i ri0, .i rg0] 74), (1, plM 1 p1)] [] := by
  intro n
  induction n with
  | zero => intro p1 a1 a2 a3 ri0 rg0 r H0; exact absurd H0 (by simp [Tree_between.r])
  | succ n ih =>
    intro p1 a1 a2 a3 ri0 rg0 r H0
    rw [Tree_between.r] at H0
    refine spec_of [(0, _), (1, _), (2, _), (3, _)] [(0, _), (1, _)] 85 Try.func59 rfl Try.ntmps59 rfl rfl rfl rfl (fun β W F => ?_)
    refine G.seq ?_
    refine G.rg ?_
    refine K.box Y 100 [_, _] (gd0 rfl) rfl rfl rfl rfl rfl rfl ?_
    refine K.alloc Y 101 [_, _, _, _, _, _, _, _, _, _, _, _, _, _, _, _] (gd0 rfl) t43 rfl rfl rfl rfl rfl ?_
    refine K.nil ?_
    refine At.next ?_
    refine G.seq ?_
    obtain ⟨x1, hx1, H0⟩ := bnd H0
    refine G.rg ?_
    refine K.move (.inl rfl) (gd0 rfl) rfl rfl ?_
    refine K.loadS Y [_, _] (gd0 rfl) rfl rfl t68 rfl rfl rfl ?_
    refine K.callR [(.func 50, _), ((.tmp 12), _), ((.tmp 13), _)] (Tree_getM_con (k := k) hx1 0 1) (toFn_func (cf 50 rfl) rfl) (gd0 rfl) ⟨rfl, rfl, rfl, trivial⟩ ⟨rfl, rfl, trivial⟩ rfl rfl rfl ?_
    refine K.alloc Y 102 [_, _, _, _, _, _, _, _, _, _, _, _, _, _, _, _, _, _, _, _, _, _, _, _, _, _, _, _, _] (gd0 rfl) t70 rfl rfl rfl rfl rfl ?_
    refine K.store Y [_, _, _, _, _, _, _, _, _, _, _, _, _, _, _, _, _, _, _, _, _, _, _, _, _, _, _, _, _] (gd0 rfl) rfl rfl rfl t70 rfl rfl rfl rfl rfl ?_
    refine K.nil ?_
    refine At.next ?_
    refine G.seq ?_
    refine G.rg ?_
    refine K.alloc Y 103 [_, _, _, _, _, _, _, _, _, _, _, _, _, _, _, _] (gd0 rfl) t43 rfl rfl rfl rfl rfl ?_
    refine K.nil ?_
    refine At.next ?_
    obtain ⟨x2, H1, H0⟩ := bnd H0
    refine G.seqJ (σ := { v : Unit // x2 = Sum.inr v }) (fun q => [(0, .a (.c (.p 0 0))), (2, .a (.c (.v (.int .i64 a2)))), (3, .a (.c (.v (.int .i64 a3)))), (8, .a (.c (.p 104 0))), (9, .a (.c (.p 105 0))), (10, .a (.c (.p 106 0)))]) (fun q => [(1, plM 1 p1), (0, blk 0 [.p 1 0, .v (.int .i64 ri0), .v (.int .i64 rg0)] 74), (104, blk 104 [.v (.int .i64 0), .v (.int .i64 0), .v (.int .i64 0), .v (.int .i64 0), .v (.int .i64 0), .v (.int .i64 0), .v (.int .i64 0), .v (.int .i64 0), .v (.int .i64 0), .v (.int .i64 0), .v (.bool false), .v (.int .i64 0), .v (.int .i64 0), .v (.bool false), .v (.int .i64 0), .v (.int .i64 0)] 43), (105, blk 105 [.v (.int .i64 x1.e.op.time), .v (.bool x1.e.op.insert), .v (.int .i64 x1.e.op.item.key), .v (.int .i64 x1.e.op.item.id), .v (.bool x1.e.here), .v (.bool x1.e.took.found), .v (.int .i64 x1.e.took.item.key), .v (.int .i64 x1.e.took.item.id), .v (.int .i64 x1.left.index), .v (.int .i64 x1.left.gen), .v (.int .i64 x1.right.index), .v (.int .i64 x1.right.gen), .v (.int .i64 x1.size), .v (.int .i64 x1.sum.count.n), .v (.int .i64 x1.sum.count.sum), .v (.int .i64 x1.sum.count.low), .v (.int .i64 x1.sum.weight.n), .v (.int .i64 x1.sum.weight.sum), .v (.int .i64 x1.sum.weight.low), .v (.int .i64 x1.sum.deletes), .v (.int .i64 x1.sum.free), .v (.int .i64 x1.sum.most.key), .v (.int .i64 x1.sum.most.id), .v (.bool x1.sum.gone.found), .v (.int .i64 x1.sum.gone.item.key), .v (.int .i64 x1.sum.gone.item.id), .v (.bool x1.sum.least.found), .v (.int .i64 x1.sum.least.item.key), .v (.int .i64 x1.sum.least.item.id)] 70), (106, blk 106 [.v (.int .i64 0), .v (.int .i64 0), .v (.int .i64 0), .v (.int .i64 0), .v (.int .i64 0), .v (.int .i64 0), .v (.int .i64 0), .v (.int .i64 0), .v (.int .i64 0), .v (.int .i64 0), .v (.bool false), .v (.int .i64 0), .v (.int .i64 0), .v (.bool false), .v (.int .i64 0), .v (.int .i64 0)] 43)]) ?_ ?_
    ·
      refine G.seq ?_
      rcases Bool.eq_false_or_eq_true (decide (a2 ≥ a3)) with h1 | h1
      ·
        replace H1 := bif_t H1 h1
        refine G.rg ?_
        refine K.move (.inl rfl) (gd0 rfl) rfl rfl ?_
        refine K.move (.inl rfl) (gd0 rfl) rfl rfl ?_
        refine K.bin (V := .bool (decide (a2 ≥ a3))) (gd0 rfl) rfl rfl (fun _ => rfl) rfl ?_
        refine K.move (.inl rfl) (gd0 rfl) rfl rfl ?_
        refine K.skip rfl rfl rfl rfl (h1) rfl ?_
        refine K.skip rfl rfl rfl rfl (h1) rfl ?_
        refine K.skip rfl rfl rfl rfl (h1) rfl ?_
        refine K.skip rfl rfl rfl rfl (h1) rfl ?_
        refine K.pickT (gd0 rfl) rfl (h1) rfl rfl ?_
        refine K.move (.inl rfl) (gd0 rfl) rfl rfl ?_
        refine K.skip rfl rfl rfl rfl (rfl) rfl ?_
        refine K.skip rfl rfl rfl rfl (rfl) rfl ?_
        refine K.pickT (gd0 rfl) rfl (rfl) rfl rfl ?_
        refine K.move (.inl rfl) (gd0 rfl) rfl rfl ?_
        refine K.skip rfl rfl rfl rfl (rfl) rfl ?_
        refine K.skip rfl rfl rfl rfl (rfl) rfl ?_
        refine K.skip rfl rfl rfl rfl (rfl) rfl ?_
        refine K.pickT (gd0 rfl) rfl (rfl) rfl rfl ?_
        refine K.nil ?_
        refine At.next ?_
        refine G.cond rfl (fun h2 => ?_) (fun h2 => ?_)
        ·
          refine G.seq ?_
          refine G.rg ?_
          refine K.loadS Y [_, _, _, _, _, _, _, _, _, _, _, _, _, _, _, _] (gd0 rfl) rfl rfl t43 rfl rfl rfl ?_
          refine K.store Y [_, _, _, _, _, _, _, _, _, _, _, _, _, _, _, _] (gd0 rfl) rfl rfl rfl t43 rfl rfl rfl rfl rfl ?_
          refine K.nil ?_
          refine At.next ?_
          refine G.ret ?_
          refine At.over_ret ?_
          cases H1
          replace H0 := sum_l H0
          refine At.done Y [(.cell 8 43, .agg [_, _, _, _, _, _, _, _, _, _, _, _, _, _, _, _])] rfl ⟨.st rfl rfl t43 rfl rfl, trivial⟩ (to' := [(0, _), (1, _)]) ⟨rfl, rfl, trivial⟩ ?_ ?_ rfl rfl rfl (.inl rfl)
          · cases H0; rfl
          · cases H0; rfl
        · cases h2
      ·
        replace H1 := bif_f H1 h1
        rcases Bool.eq_false_or_eq_true (decide (a2 ≥ x1.size)) with h3 | h3
        ·
          replace H1 := bif_t H1 h3
          refine G.rg ?_
          refine K.move (.inl rfl) (gd0 rfl) rfl rfl ?_
          refine K.move (.inl rfl) (gd0 rfl) rfl rfl ?_
          refine K.bin (V := .bool (decide (a2 ≥ a3))) (gd0 rfl) rfl rfl (fun _ => rfl) rfl ?_
          refine K.move (.inl rfl) (gd0 rfl) rfl rfl ?_
          refine K.move (.inl rfl) (gd1 rfl rfl rfl (h1)) rfl rfl ?_
          refine K.fieldAddr Y (gd1 rfl rfl rfl (h1)) rfl t70 rfl rfl ?_
          refine K.load1 Y (gd1 rfl rfl rfl (h1)) rfl rfl t3 rfl rfl ?_
          refine K.bin (V := .bool (decide (a2 ≥ x1.size))) (gd1 rfl rfl rfl (h1)) rfl rfl (fun _ => rfl) rfl ?_
          refine K.pickF (gd0 rfl) rfl (h1) rfl rfl ?_
          refine K.move (.inl rfl) (gd0 rfl) rfl rfl ?_
          refine K.skip rfl rfl rfl rfl (h3) rfl ?_
          refine K.skip rfl rfl rfl rfl (h3) rfl ?_
          refine K.pickT (gd0 rfl) rfl (h3) rfl rfl ?_
          refine K.move (.inl rfl) (gd0 rfl) rfl rfl ?_
          refine K.skip rfl rfl rfl rfl (rfl) rfl ?_
          refine K.skip rfl rfl rfl rfl (rfl) rfl ?_
          refine K.skip rfl rfl rfl rfl (rfl) rfl ?_
          refine K.pickT (gd0 rfl) rfl (rfl) rfl rfl ?_
          refine K.nil ?_
          refine At.next ?_
          refine G.cond rfl (fun h4 => ?_) (fun h4 => ?_)
          ·
            refine G.seq ?_
            refine G.rg ?_
            refine K.loadS Y [_, _, _, _, _, _, _, _, _, _, _, _, _, _, _, _] (gd0 rfl) rfl rfl t43 rfl rfl rfl ?_
            refine K.store Y [_, _, _, _, _, _, _, _, _, _, _, _, _, _, _, _] (gd0 rfl) rfl rfl rfl t43 rfl rfl rfl rfl rfl ?_
            refine K.nil ?_
            refine At.next ?_
            refine G.ret ?_
            refine At.over_ret ?_
            cases H1
            replace H0 := sum_l H0
            refine At.done Y [(.cell 8 43, .agg [_, _, _, _, _, _, _, _, _, _, _, _, _, _, _, _])] rfl ⟨.st rfl rfl t43 rfl rfl, trivial⟩ (to' := [(0, _), (1, _)]) ⟨rfl, rfl, trivial⟩ ?_ ?_ rfl rfl rfl (.inl rfl)
            · cases H0; rfl
            · cases H0; rfl
          · cases h4
        ·
          replace H1 := bif_f H1 h3
          rcases Bool.eq_false_or_eq_true (decide (a3 ≤ 0)) with h5 | h5
          ·
            replace H1 := bif_t H1 h5
            refine G.rg ?_
            refine K.move (.inl rfl) (gd0 rfl) rfl rfl ?_
            refine K.move (.inl rfl) (gd0 rfl) rfl rfl ?_
            refine K.bin (V := .bool (decide (a2 ≥ a3))) (gd0 rfl) rfl rfl (fun _ => rfl) rfl ?_
            refine K.move (.inl rfl) (gd0 rfl) rfl rfl ?_
            refine K.move (.inl rfl) (gd1 rfl rfl rfl (h1)) rfl rfl ?_
            refine K.fieldAddr Y (gd1 rfl rfl rfl (h1)) rfl t70 rfl rfl ?_
            refine K.load1 Y (gd1 rfl rfl rfl (h1)) rfl rfl t3 rfl rfl ?_
            refine K.bin (V := .bool (decide (a2 ≥ x1.size))) (gd1 rfl rfl rfl (h1)) rfl rfl (fun _ => rfl) rfl ?_
            refine K.pickF (gd0 rfl) rfl (h1) rfl rfl ?_
            refine K.move (.inl rfl) (gd0 rfl) rfl rfl ?_
            refine K.move (.inl rfl) (gd1 rfl rfl rfl (h3)) rfl rfl ?_
            refine K.bin (V := .bool (decide (a3 ≤ 0))) (gd1 rfl rfl rfl (h3)) rfl rfl (fun _ => rfl) rfl ?_
            refine K.pickF (gd0 rfl) rfl (h3) rfl rfl ?_
            refine K.move (.inl rfl) (gd0 rfl) rfl rfl ?_
            refine K.skip rfl rfl rfl rfl (h5) rfl ?_
            refine K.skip rfl rfl rfl rfl (h5) rfl ?_
            refine K.skip rfl rfl rfl rfl (h5) rfl ?_
            refine K.pickT (gd0 rfl) rfl (h5) rfl rfl ?_
            refine K.nil ?_
            refine At.next ?_
            refine G.cond rfl (fun h6 => ?_) (fun h6 => ?_)
            ·
              refine G.seq ?_
              refine G.rg ?_
              refine K.loadS Y [_, _, _, _, _, _, _, _, _, _, _, _, _, _, _, _] (gd0 rfl) rfl rfl t43 rfl rfl rfl ?_
              refine K.store Y [_, _, _, _, _, _, _, _, _, _, _, _, _, _, _, _] (gd0 rfl) rfl rfl rfl t43 rfl rfl rfl rfl rfl ?_
              refine K.nil ?_
              refine At.next ?_
              refine G.ret ?_
              refine At.over_ret ?_
              cases H1
              replace H0 := sum_l H0
              refine At.done Y [(.cell 8 43, .agg [_, _, _, _, _, _, _, _, _, _, _, _, _, _, _, _])] rfl ⟨.st rfl rfl t43 rfl rfl, trivial⟩ (to' := [(0, _), (1, _)]) ⟨rfl, rfl, trivial⟩ ?_ ?_ rfl rfl rfl (.inl rfl)
              · cases H0; rfl
              · cases H0; rfl
            · cases h6
          ·
            replace H1 := bif_f H1 h5
            refine G.rg ?_
            refine K.move (.inl rfl) (gd0 rfl) rfl rfl ?_
            refine K.move (.inl rfl) (gd0 rfl) rfl rfl ?_
            refine K.bin (V := .bool (decide (a2 ≥ a3))) (gd0 rfl) rfl rfl (fun _ => rfl) rfl ?_
            refine K.move (.inl rfl) (gd0 rfl) rfl rfl ?_
            refine K.move (.inl rfl) (gd1 rfl rfl rfl (h1)) rfl rfl ?_
            refine K.fieldAddr Y (gd1 rfl rfl rfl (h1)) rfl t70 rfl rfl ?_
            refine K.load1 Y (gd1 rfl rfl rfl (h1)) rfl rfl t3 rfl rfl ?_
            refine K.bin (V := .bool (decide (a2 ≥ x1.size))) (gd1 rfl rfl rfl (h1)) rfl rfl (fun _ => rfl) rfl ?_
            refine K.pickF (gd0 rfl) rfl (h1) rfl rfl ?_
            refine K.move (.inl rfl) (gd0 rfl) rfl rfl ?_
            refine K.move (.inl rfl) (gd1 rfl rfl rfl (h3)) rfl rfl ?_
            refine K.bin (V := .bool (decide (a3 ≤ 0))) (gd1 rfl rfl rfl (h3)) rfl rfl (fun _ => rfl) rfl ?_
            refine K.pickF (gd0 rfl) rfl (h3) rfl rfl ?_
            refine K.move (.inl rfl) (gd0 rfl) rfl rfl ?_
            refine K.fieldAddr Y (gd1 rfl rfl rfl (h5)) rfl t70 rfl rfl ?_
            refine K.load1 Y (gd1 rfl rfl rfl (h5)) rfl rfl t3 rfl rfl ?_
            refine K.bin (V := .bool (x1.size == 0)) (gd1 rfl rfl rfl (h5)) rfl rfl (fun _ => rfl) rfl ?_
            refine K.pickF (gd0 rfl) rfl (h5) rfl rfl ?_
            refine K.nil ?_
            refine At.next ?_
            refine G.cond rfl (fun h7 => ?_) (fun h7 => ?_)
            ·
              replace H1 := bif_t H1 h7
              refine G.seq ?_
              refine G.rg ?_
              refine K.loadS Y [_, _, _, _, _, _, _, _, _, _, _, _, _, _, _, _] (gd0 rfl) rfl rfl t43 rfl rfl rfl ?_
              refine K.store Y [_, _, _, _, _, _, _, _, _, _, _, _, _, _, _, _] (gd0 rfl) rfl rfl rfl t43 rfl rfl rfl rfl rfl ?_
              refine K.nil ?_
              refine At.next ?_
              refine G.ret ?_
              refine At.over_ret ?_
              cases H1
              replace H0 := sum_l H0
              refine At.done Y [(.cell 8 43, .agg [_, _, _, _, _, _, _, _, _, _, _, _, _, _, _, _])] rfl ⟨.st rfl rfl t43 rfl rfl, trivial⟩ (to' := [(0, _), (1, _)]) ⟨rfl, rfl, trivial⟩ ?_ ?_ rfl rfl rfl (.inl rfl)
              · cases H0; rfl
              · cases H0; rfl
            ·
              replace H1 := bif_f H1 h7
              refine G.skip ?_
              exact At.joined (σ := { v : Unit // x2 = Sum.inr v }) (Fs := fun q => [(0, .a (.c (.p 0 0))), (2, .a (.c (.v (.int .i64 a2)))), (3, .a (.c (.v (.int .i64 a3)))), (8, .a (.c (.p 104 0))), (9, .a (.c (.p 105 0))), (10, .a (.c (.p 106 0)))]) (Tl := fun q => [(1, plM 1 p1), (0, blk 0 [.p 1 0, .v (.int .i64 ri0), .v (.int .i64 rg0)] 74), (104, blk 104 [.v (.int .i64 0), .v (.int .i64 0), .v (.int .i64 0), .v (.int .i64 0), .v (.int .i64 0), .v (.int .i64 0), .v (.int .i64 0), .v (.int .i64 0), .v (.int .i64 0), .v (.int .i64 0), .v (.bool false), .v (.int .i64 0), .v (.int .i64 0), .v (.bool false), .v (.int .i64 0), .v (.int .i64 0)] 43), (105, blk 105 [.v (.int .i64 x1.e.op.time), .v (.bool x1.e.op.insert), .v (.int .i64 x1.e.op.item.key), .v (.int .i64 x1.e.op.item.id), .v (.bool x1.e.here), .v (.bool x1.e.took.found), .v (.int .i64 x1.e.took.item.key), .v (.int .i64 x1.e.took.item.id), .v (.int .i64 x1.left.index), .v (.int .i64 x1.left.gen), .v (.int .i64 x1.right.index), .v (.int .i64 x1.right.gen), .v (.int .i64 x1.size), .v (.int .i64 x1.sum.count.n), .v (.int .i64 x1.sum.count.sum), .v (.int .i64 x1.sum.count.low), .v (.int .i64 x1.sum.weight.n), .v (.int .i64 x1.sum.weight.sum), .v (.int .i64 x1.sum.weight.low), .v (.int .i64 x1.sum.deletes), .v (.int .i64 x1.sum.free), .v (.int .i64 x1.sum.most.key), .v (.int .i64 x1.sum.most.id), .v (.bool x1.sum.gone.found), .v (.int .i64 x1.sum.gone.item.key), .v (.int .i64 x1.sum.gone.item.id), .v (.bool x1.sum.least.found), .v (.int .i64 x1.sum.least.item.key), .v (.int .i64 x1.sum.least.item.id)] 70), (106, blk 106 [.v (.int .i64 0), .v (.int .i64 0), .v (.int .i64 0), .v (.int .i64 0), .v (.int .i64 0), .v (.int .i64 0), .v (.int .i64 0), .v (.int .i64 0), .v (.int .i64 0), .v (.int .i64 0), .v (.bool false), .v (.int .i64 0), .v (.int .i64 0), .v (.bool false), .v (.int .i64 0), .v (.int .i64 0)] 43)]) ⟨(), (Option.some.inj H1).symm⟩ [(104, 101), (105, 102), (106, 103)] [_, _, _, _, _] rfl ⟨rfl, rfl, rfl, rfl, rfl, rfl, trivial⟩ ⟨rfl, (pl_ren rfl), rfl, (blk_ren rfl rfl), rfl, (blk_ren rfl rfl), rfl, (blk_ren rfl rfl), rfl, (blk_ren rfl rfl), trivial⟩ rfl
    ·
      rintro ⟨v2, rfl⟩
      replace H0 := sum_r H0
      show G _ _ [(0, .a (.c (.p 0 0))), (2, .a (.c (.v (.int .i64 a2)))), (3, .a (.c (.v (.int .i64 a3)))), (8, .a (.c (.p 104 0))), (9, .a (.c (.p 105 0))), (10, .a (.c (.p 106 0)))] [(1, some (plM 1 p1)), (0, some (blk 0 [.p 1 0, .v (.int .i64 ri0), .v (.int .i64 rg0)] 74)), (104, some (blk 104 [.v (.int .i64 0), .v (.int .i64 0), .v (.int .i64 0), .v (.int .i64 0), .v (.int .i64 0), .v (.int .i64 0), .v (.int .i64 0), .v (.int .i64 0), .v (.int .i64 0), .v (.int .i64 0), .v (.bool false), .v (.int .i64 0), .v (.int .i64 0), .v (.bool false), .v (.int .i64 0), .v (.int .i64 0)] 43)), (105, some (blk 105 [.v (.int .i64 x1.e.op.time), .v (.bool x1.e.op.insert), .v (.int .i64 x1.e.op.item.key), .v (.int .i64 x1.e.op.item.id), .v (.bool x1.e.here), .v (.bool x1.e.took.found), .v (.int .i64 x1.e.took.item.key), .v (.int .i64 x1.e.took.item.id), .v (.int .i64 x1.left.index), .v (.int .i64 x1.left.gen), .v (.int .i64 x1.right.index), .v (.int .i64 x1.right.gen), .v (.int .i64 x1.size), .v (.int .i64 x1.sum.count.n), .v (.int .i64 x1.sum.count.sum), .v (.int .i64 x1.sum.count.low), .v (.int .i64 x1.sum.weight.n), .v (.int .i64 x1.sum.weight.sum), .v (.int .i64 x1.sum.weight.low), .v (.int .i64 x1.sum.deletes), .v (.int .i64 x1.sum.free), .v (.int .i64 x1.sum.most.key), .v (.int .i64 x1.sum.most.id), .v (.bool x1.sum.gone.found), .v (.int .i64 x1.sum.gone.item.key), .v (.int .i64 x1.sum.gone.item.id), .v (.bool x1.sum.least.found), .v (.int .i64 x1.sum.least.item.key), .v (.int .i64 x1.sum.least.item.id)] 70)), (106, some (blk 106 [.v (.int .i64 0), .v (.int .i64 0), .v (.int .i64 0), .v (.int .i64 0), .v (.int .i64 0), .v (.int .i64 0), .v (.int .i64 0), .v (.int .i64 0), .v (.int .i64 0), .v (.int .i64 0), .v (.bool false), .v (.int .i64 0), .v (.int .i64 0), .v (.bool false), .v (.int .i64 0), .v (.int .i64 0)] 43))] _ _
      obtain ⟨x3, H1, H0⟩ := bnd H0
      refine G.seqJ (σ := { v : Unit // x3 = Sum.inr v }) (fun q => [(0, .a (.c (.p 0 0))), (2, .a (.c (.v (.int .i64 a2)))), (3, .a (.c (.v (.int .i64 a3)))), (8, .a (.c (.p 107 0))), (9, .a (.c (.p 108 0))), (10, .a (.c (.p 109 0)))]) (fun q => [(1, plM 1 p1), (0, blk 0 [.p 1 0, .v (.int .i64 ri0), .v (.int .i64 rg0)] 74), (107, blk 107 [.v (.int .i64 0), .v (.int .i64 0), .v (.int .i64 0), .v (.int .i64 0), .v (.int .i64 0), .v (.int .i64 0), .v (.int .i64 0), .v (.int .i64 0), .v (.int .i64 0), .v (.int .i64 0), .v (.bool false), .v (.int .i64 0), .v (.int .i64 0), .v (.bool false), .v (.int .i64 0), .v (.int .i64 0)] 43), (108, blk 108 [.v (.int .i64 x1.e.op.time), .v (.bool x1.e.op.insert), .v (.int .i64 x1.e.op.item.key), .v (.int .i64 x1.e.op.item.id), .v (.bool x1.e.here), .v (.bool x1.e.took.found), .v (.int .i64 x1.e.took.item.key), .v (.int .i64 x1.e.took.item.id), .v (.int .i64 x1.left.index), .v (.int .i64 x1.left.gen), .v (.int .i64 x1.right.index), .v (.int .i64 x1.right.gen), .v (.int .i64 x1.size), .v (.int .i64 x1.sum.count.n), .v (.int .i64 x1.sum.count.sum), .v (.int .i64 x1.sum.count.low), .v (.int .i64 x1.sum.weight.n), .v (.int .i64 x1.sum.weight.sum), .v (.int .i64 x1.sum.weight.low), .v (.int .i64 x1.sum.deletes), .v (.int .i64 x1.sum.free), .v (.int .i64 x1.sum.most.key), .v (.int .i64 x1.sum.most.id), .v (.bool x1.sum.gone.found), .v (.int .i64 x1.sum.gone.item.key), .v (.int .i64 x1.sum.gone.item.id), .v (.bool x1.sum.least.found), .v (.int .i64 x1.sum.least.item.key), .v (.int .i64 x1.sum.least.item.id)] 70), (109, blk 109 [.v (.int .i64 0), .v (.int .i64 0), .v (.int .i64 0), .v (.int .i64 0), .v (.int .i64 0), .v (.int .i64 0), .v (.int .i64 0), .v (.int .i64 0), .v (.int .i64 0), .v (.int .i64 0), .v (.bool false), .v (.int .i64 0), .v (.int .i64 0), .v (.bool false), .v (.int .i64 0), .v (.int .i64 0)] 43)]) ?_ ?_
      ·
        refine G.seq ?_
        rcases Bool.eq_false_or_eq_true (decide (a2 ≤ 0)) with h8 | h8
        ·
          replace H1 := bif_t H1 h8
          refine G.rg ?_
          refine K.move (.inl rfl) (gd0 rfl) rfl rfl ?_
          refine K.bin (V := .bool (decide (a2 ≤ 0))) (gd0 rfl) rfl rfl (fun _ => rfl) rfl ?_
          refine K.move (.inl rfl) (gd0 rfl) rfl rfl ?_
          refine K.move (.inl rfl) (gd1 rfl rfl rfl (h8)) rfl rfl ?_
          refine K.fieldAddr Y (gd1 rfl rfl rfl (h8)) rfl t70 rfl rfl ?_
          refine K.load1 Y (gd1 rfl rfl rfl (h8)) rfl rfl t3 rfl rfl ?_
          refine K.bin (V := .bool (decide (a3 ≥ x1.size))) (gd1 rfl rfl rfl (h8)) rfl rfl (fun _ => rfl) rfl ?_
          refine K.pickT (gd0 rfl) rfl (h8) rfl rfl ?_
          refine K.nil ?_
          refine At.next ?_
          refine G.cond rfl (fun h9 => ?_) (fun h9 => ?_)
          ·
            replace H1 := bif_t H1 h9
            refine G.seq ?_
            refine G.rg ?_
            refine K.fieldAddr Y (gd0 rfl) rfl t70 rfl rfl ?_
            refine K.loadS Y [_, _, _, _, _, _, _, _, _, _, _, _, _, _, _, _] (gd0 rfl) rfl rfl t43 rfl rfl rfl ?_
            refine K.store Y [_, _, _, _, _, _, _, _, _, _, _, _, _, _, _, _] (gd0 rfl) rfl rfl rfl t43 rfl rfl rfl rfl rfl ?_
            refine K.nil ?_
            refine At.next ?_
            refine G.ret ?_
            refine At.over_ret ?_
            cases H1
            replace H0 := sum_l H0
            refine At.done Y [(.cell 8 43, .agg [_, _, _, _, _, _, _, _, _, _, _, _, _, _, _, _])] rfl ⟨.st rfl rfl t43 rfl rfl, trivial⟩ (to' := [(0, _), (1, _)]) ⟨rfl, rfl, trivial⟩ ?_ ?_ rfl rfl rfl (.inl rfl)
            · cases H0; rfl
            · cases H0; rfl
          ·
            replace H1 := bif_f H1 h9
            refine G.skip ?_
            exact At.joined (σ := { v : Unit // x3 = Sum.inr v }) (Fs := fun q => [(0, .a (.c (.p 0 0))), (2, .a (.c (.v (.int .i64 a2)))), (3, .a (.c (.v (.int .i64 a3)))), (8, .a (.c (.p 107 0))), (9, .a (.c (.p 108 0))), (10, .a (.c (.p 109 0)))]) (Tl := fun q => [(1, plM 1 p1), (0, blk 0 [.p 1 0, .v (.int .i64 ri0), .v (.int .i64 rg0)] 74), (107, blk 107 [.v (.int .i64 0), .v (.int .i64 0), .v (.int .i64 0), .v (.int .i64 0), .v (.int .i64 0), .v (.int .i64 0), .v (.int .i64 0), .v (.int .i64 0), .v (.int .i64 0), .v (.int .i64 0), .v (.bool false), .v (.int .i64 0), .v (.int .i64 0), .v (.bool false), .v (.int .i64 0), .v (.int .i64 0)] 43), (108, blk 108 [.v (.int .i64 x1.e.op.time), .v (.bool x1.e.op.insert), .v (.int .i64 x1.e.op.item.key), .v (.int .i64 x1.e.op.item.id), .v (.bool x1.e.here), .v (.bool x1.e.took.found), .v (.int .i64 x1.e.took.item.key), .v (.int .i64 x1.e.took.item.id), .v (.int .i64 x1.left.index), .v (.int .i64 x1.left.gen), .v (.int .i64 x1.right.index), .v (.int .i64 x1.right.gen), .v (.int .i64 x1.size), .v (.int .i64 x1.sum.count.n), .v (.int .i64 x1.sum.count.sum), .v (.int .i64 x1.sum.count.low), .v (.int .i64 x1.sum.weight.n), .v (.int .i64 x1.sum.weight.sum), .v (.int .i64 x1.sum.weight.low), .v (.int .i64 x1.sum.deletes), .v (.int .i64 x1.sum.free), .v (.int .i64 x1.sum.most.key), .v (.int .i64 x1.sum.most.id), .v (.bool x1.sum.gone.found), .v (.int .i64 x1.sum.gone.item.key), .v (.int .i64 x1.sum.gone.item.id), .v (.bool x1.sum.least.found), .v (.int .i64 x1.sum.least.item.key), .v (.int .i64 x1.sum.least.item.id)] 70), (109, blk 109 [.v (.int .i64 0), .v (.int .i64 0), .v (.int .i64 0), .v (.int .i64 0), .v (.int .i64 0), .v (.int .i64 0), .v (.int .i64 0), .v (.int .i64 0), .v (.int .i64 0), .v (.int .i64 0), .v (.bool false), .v (.int .i64 0), .v (.int .i64 0), .v (.bool false), .v (.int .i64 0), .v (.int .i64 0)] 43)]) ⟨(), (Option.some.inj H1).symm⟩ [(107, 104), (108, 105), (109, 106)] [_, _, _, _, _] rfl ⟨rfl, rfl, rfl, rfl, rfl, rfl, trivial⟩ ⟨rfl, (pl_ren rfl), rfl, (blk_ren rfl rfl), rfl, (blk_ren rfl rfl), rfl, (blk_ren rfl rfl), rfl, (blk_ren rfl rfl), trivial⟩ rfl
        ·
          replace H1 := bif_f H1 h8
          refine G.rg ?_
          refine K.move (.inl rfl) (gd0 rfl) rfl rfl ?_
          refine K.bin (V := .bool (decide (a2 ≤ 0))) (gd0 rfl) rfl rfl (fun _ => rfl) rfl ?_
          refine K.move (.inl rfl) (gd0 rfl) rfl rfl ?_
          refine K.skip rfl rfl rfl rfl (h8) rfl ?_
          refine K.skip rfl rfl rfl rfl (h8) rfl ?_
          refine K.skip rfl rfl rfl rfl (h8) rfl ?_
          refine K.skip rfl rfl rfl rfl (h8) rfl ?_
          refine K.pickF (gd0 rfl) rfl (h8) rfl rfl ?_
          refine K.nil ?_
          refine At.next ?_
          refine G.cond rfl (fun h10 => ?_) (fun h10 => ?_)
          · cases h10
          ·
            refine G.skip ?_
            exact At.joined (σ := { v : Unit // x3 = Sum.inr v }) (Fs := fun q => [(0, .a (.c (.p 0 0))), (2, .a (.c (.v (.int .i64 a2)))), (3, .a (.c (.v (.int .i64 a3)))), (8, .a (.c (.p 107 0))), (9, .a (.c (.p 108 0))), (10, .a (.c (.p 109 0)))]) (Tl := fun q => [(1, plM 1 p1), (0, blk 0 [.p 1 0, .v (.int .i64 ri0), .v (.int .i64 rg0)] 74), (107, blk 107 [.v (.int .i64 0), .v (.int .i64 0), .v (.int .i64 0), .v (.int .i64 0), .v (.int .i64 0), .v (.int .i64 0), .v (.int .i64 0), .v (.int .i64 0), .v (.int .i64 0), .v (.int .i64 0), .v (.bool false), .v (.int .i64 0), .v (.int .i64 0), .v (.bool false), .v (.int .i64 0), .v (.int .i64 0)] 43), (108, blk 108 [.v (.int .i64 x1.e.op.time), .v (.bool x1.e.op.insert), .v (.int .i64 x1.e.op.item.key), .v (.int .i64 x1.e.op.item.id), .v (.bool x1.e.here), .v (.bool x1.e.took.found), .v (.int .i64 x1.e.took.item.key), .v (.int .i64 x1.e.took.item.id), .v (.int .i64 x1.left.index), .v (.int .i64 x1.left.gen), .v (.int .i64 x1.right.index), .v (.int .i64 x1.right.gen), .v (.int .i64 x1.size), .v (.int .i64 x1.sum.count.n), .v (.int .i64 x1.sum.count.sum), .v (.int .i64 x1.sum.count.low), .v (.int .i64 x1.sum.weight.n), .v (.int .i64 x1.sum.weight.sum), .v (.int .i64 x1.sum.weight.low), .v (.int .i64 x1.sum.deletes), .v (.int .i64 x1.sum.free), .v (.int .i64 x1.sum.most.key), .v (.int .i64 x1.sum.most.id), .v (.bool x1.sum.gone.found), .v (.int .i64 x1.sum.gone.item.key), .v (.int .i64 x1.sum.gone.item.id), .v (.bool x1.sum.least.found), .v (.int .i64 x1.sum.least.item.key), .v (.int .i64 x1.sum.least.item.id)] 70), (109, blk 109 [.v (.int .i64 0), .v (.int .i64 0), .v (.int .i64 0), .v (.int .i64 0), .v (.int .i64 0), .v (.int .i64 0), .v (.int .i64 0), .v (.int .i64 0), .v (.int .i64 0), .v (.int .i64 0), .v (.bool false), .v (.int .i64 0), .v (.int .i64 0), .v (.bool false), .v (.int .i64 0), .v (.int .i64 0)] 43)]) ⟨(), (Option.some.inj H1).symm⟩ [(107, 104), (108, 105), (109, 106)] [_, _, _, _, _] rfl ⟨rfl, rfl, rfl, rfl, rfl, rfl, trivial⟩ ⟨rfl, (pl_ren rfl), rfl, (blk_ren rfl rfl), rfl, (blk_ren rfl rfl), rfl, (blk_ren rfl rfl), rfl, (blk_ren rfl rfl), trivial⟩ rfl
      ·
        rintro ⟨v3, rfl⟩
        replace H0 := sum_r H0
        show G _ _ [(0, .a (.c (.p 0 0))), (2, .a (.c (.v (.int .i64 a2)))), (3, .a (.c (.v (.int .i64 a3)))), (8, .a (.c (.p 107 0))), (9, .a (.c (.p 108 0))), (10, .a (.c (.p 109 0)))] [(1, some (plM 1 p1)), (0, some (blk 0 [.p 1 0, .v (.int .i64 ri0), .v (.int .i64 rg0)] 74)), (107, some (blk 107 [.v (.int .i64 0), .v (.int .i64 0), .v (.int .i64 0), .v (.int .i64 0), .v (.int .i64 0), .v (.int .i64 0), .v (.int .i64 0), .v (.int .i64 0), .v (.int .i64 0), .v (.int .i64 0), .v (.bool false), .v (.int .i64 0), .v (.int .i64 0), .v (.bool false), .v (.int .i64 0), .v (.int .i64 0)] 43)), (108, some (blk 108 [.v (.int .i64 x1.e.op.time), .v (.bool x1.e.op.insert), .v (.int .i64 x1.e.op.item.key), .v (.int .i64 x1.e.op.item.id), .v (.bool x1.e.here), .v (.bool x1.e.took.found), .v (.int .i64 x1.e.took.item.key), .v (.int .i64 x1.e.took.item.id), .v (.int .i64 x1.left.index), .v (.int .i64 x1.left.gen), .v (.int .i64 x1.right.index), .v (.int .i64 x1.right.gen), .v (.int .i64 x1.size), .v (.int .i64 x1.sum.count.n), .v (.int .i64 x1.sum.count.sum), .v (.int .i64 x1.sum.count.low), .v (.int .i64 x1.sum.weight.n), .v (.int .i64 x1.sum.weight.sum), .v (.int .i64 x1.sum.weight.low), .v (.int .i64 x1.sum.deletes), .v (.int .i64 x1.sum.free), .v (.int .i64 x1.sum.most.key), .v (.int .i64 x1.sum.most.id), .v (.bool x1.sum.gone.found), .v (.int .i64 x1.sum.gone.item.key), .v (.int .i64 x1.sum.gone.item.id), .v (.bool x1.sum.least.found), .v (.int .i64 x1.sum.least.item.key), .v (.int .i64 x1.sum.least.item.id)] 70)), (109, some (blk 109 [.v (.int .i64 0), .v (.int .i64 0), .v (.int .i64 0), .v (.int .i64 0), .v (.int .i64 0), .v (.int .i64 0), .v (.int .i64 0), .v (.int .i64 0), .v (.int .i64 0), .v (.int .i64 0), .v (.bool false), .v (.int .i64 0), .v (.int .i64 0), .v (.bool false), .v (.int .i64 0), .v (.int .i64 0)] 43))] _ _
        refine G.seq ?_
        obtain ⟨x4, hx4, H0⟩ := bnd H0
        refine G.rg ?_
        refine K.move (.inl rfl) (gd0 rfl) rfl rfl ?_
        refine K.fieldAddr Y (gd0 rfl) rfl t70 rfl rfl ?_
        refine K.loadS Y [_, _] (gd0 rfl) rfl rfl t68 rfl rfl rfl ?_
        refine K.callR [(.func 50, _), ((.tmp 44), _), ((.tmp 46), _)] (Tree_getM_con (k := k) hx4 0 1) (toFn_func (cf 50 rfl) rfl) (gd0 rfl) ⟨rfl, rfl, rfl, trivial⟩ ⟨rfl, rfl, trivial⟩ rfl rfl rfl ?_
        refine K.field1 Y (gd0 rfl) rfl t70 rfl t3 rfl rfl ?_
        refine K.move (.inr rfl) (gd0 rfl) rfl rfl ?_
        refine K.nil ?_
        refine At.next ?_
        refine G.seq ?_
        obtain ⟨x5, hx5, H0⟩ := bnd H0
        refine G.rg ?_
        refine K.move (.inl rfl) (gd0 rfl) rfl rfl ?_
        refine K.fieldAddr Y (gd0 rfl) rfl t70 rfl rfl ?_
        refine K.loadS Y [_, _] (gd0 rfl) rfl rfl t68 rfl rfl rfl ?_
        refine K.move (.inl rfl) (gd0 rfl) rfl rfl ?_
        refine K.move (.inl rfl) (gd0 rfl) rfl rfl ?_
        refine K.callR [(.func 59, _), ((.tmp 49), _), ((.tmp 51), _), ((.tmp 52), _), ((.tmp 53), _)] (ih hx5) (toFn_func (cf 59 rfl) rfl) (gd0 rfl) ⟨rfl, rfl, rfl, rfl, rfl, trivial⟩ ⟨rfl, rfl, trivial⟩ rfl rfl rfl ?_
        refine K.store Y [_, _, _, _, _, _, _, _, _, _, _, _, _, _, _, _] (gd0 rfl) rfl rfl rfl t43 rfl rfl rfl rfl rfl ?_
        refine K.nil ?_
        refine At.next ?_
        obtain ⟨x6, H1, H0⟩ := bnd H0
        refine G.seqJ (σ := { v : TSwell // x6 = v }) (fun q => [(0, .a (.c (.p 0 0))), (2, .a (.c (.v (.int .i64 a2)))), (3, .a (.c (.v (.int .i64 a3)))), (8, .a (.c (.p 110 0))), (9, .a (.c (.p 111 0))), (10, .a (.c (.p 112 0))), (11, .a (.c (.v (.int .i64 x4.size))))]) (fun q => [(1, plM 1 p1), (0, blk 0 [.p 1 0, .v (.int .i64 ri0), .v (.int .i64 rg0)] 74), (110, blk 110 [.v (.int .i64 0), .v (.int .i64 0), .v (.int .i64 0), .v (.int .i64 0), .v (.int .i64 0), .v (.int .i64 0), .v (.int .i64 0), .v (.int .i64 0), .v (.int .i64 0), .v (.int .i64 0), .v (.bool false), .v (.int .i64 0), .v (.int .i64 0), .v (.bool false), .v (.int .i64 0), .v (.int .i64 0)] 43), (111, blk 111 [.v (.int .i64 x1.e.op.time), .v (.bool x1.e.op.insert), .v (.int .i64 x1.e.op.item.key), .v (.int .i64 x1.e.op.item.id), .v (.bool x1.e.here), .v (.bool x1.e.took.found), .v (.int .i64 x1.e.took.item.key), .v (.int .i64 x1.e.took.item.id), .v (.int .i64 x1.left.index), .v (.int .i64 x1.left.gen), .v (.int .i64 x1.right.index), .v (.int .i64 x1.right.gen), .v (.int .i64 x1.size), .v (.int .i64 x1.sum.count.n), .v (.int .i64 x1.sum.count.sum), .v (.int .i64 x1.sum.count.low), .v (.int .i64 x1.sum.weight.n), .v (.int .i64 x1.sum.weight.sum), .v (.int .i64 x1.sum.weight.low), .v (.int .i64 x1.sum.deletes), .v (.int .i64 x1.sum.free), .v (.int .i64 x1.sum.most.key), .v (.int .i64 x1.sum.most.id), .v (.bool x1.sum.gone.found), .v (.int .i64 x1.sum.gone.item.key), .v (.int .i64 x1.sum.gone.item.id), .v (.bool x1.sum.least.found), .v (.int .i64 x1.sum.least.item.key), .v (.int .i64 x1.sum.least.item.id)] 70), (112, blk 112 [.v (.int .i64 q.1.count.n), .v (.int .i64 q.1.count.sum), .v (.int .i64 q.1.count.low), .v (.int .i64 q.1.weight.n), .v (.int .i64 q.1.weight.sum), .v (.int .i64 q.1.weight.low), .v (.int .i64 q.1.deletes), .v (.int .i64 q.1.free), .v (.int .i64 q.1.most.key), .v (.int .i64 q.1.most.id), .v (.bool q.1.gone.found), .v (.int .i64 q.1.gone.item.key), .v (.int .i64 q.1.gone.item.id), .v (.bool q.1.least.found), .v (.int .i64 q.1.least.item.key), .v (.int .i64 q.1.least.item.id)] 43)]) ?_ ?_
        ·
          refine G.seq ?_
          rcases Bool.eq_false_or_eq_true (decide (a2 ≤ x4.size)) with h11 | h11
          ·
            replace H1 := bif_t H1 h11
            refine G.rg ?_
            refine K.move (.inl rfl) (gd0 rfl) rfl rfl ?_
            refine K.move (.inl rfl) (gd0 rfl) rfl rfl ?_
            refine K.bin (V := .bool (decide (a2 ≤ x4.size))) (gd0 rfl) rfl rfl (fun _ => rfl) rfl ?_
            refine K.move (.inl rfl) (gd0 rfl) rfl rfl ?_
            refine K.move (.inl rfl) (gd1 rfl rfl rfl (h11)) rfl rfl ?_
            refine K.move (.inl rfl) (gd1 rfl rfl rfl (h11)) rfl rfl ?_
            refine K.bin (V := .bool (decide (a3 > x4.size))) (gd1 rfl rfl rfl (h11)) rfl rfl (fun _ => rfl) rfl ?_
            refine K.pickT (gd0 rfl) rfl (h11) rfl rfl ?_
            refine K.nil ?_
            refine At.next ?_
            refine G.cond rfl (fun h12 => ?_) (fun h12 => ?_)
            ·
              replace H1 := bif_t H1 h12
              obtain ⟨x7, hx7, H1⟩ := bnd H1
              obtain ⟨x8, hx8, H1⟩ := bnd H1
              refine G.rd mixed ?_
              refine K.loadS Y [_, _, _, _, _, _, _, _, _, _, _, _, _, _, _, _] (gd0 rfl) rfl rfl t43 rfl rfl rfl ?_
              refine K.mkIface Y (gd0 rfl) rfl (mkI Try.underlying43 rfl) rfl ?_
              refine K.fieldAddr Y (gd0 rfl) rfl t70 rfl rfl ?_
              refine K.loadS Y [_, _, _, _, _, _, _, _] (gd0 rfl) rfl rfl t39 rfl rfl rfl ?_
              refine K.mkIface Y (gd0 rfl) rfl (mkI Try.underlying39 rfl) rfl ?_
              refine K.callR [((.tmp 67), _)] (wave_Mark_Sum_con (k := k) hx7) (toFn_invoke (cf 96 rfl) (me39_96) rfl) (gd0 rfl) ⟨rfl, trivial⟩ trivial rfl rfl rfl ?_
              refine K.callR [((.tmp 64), _), ((.tmp 68), _)] (wave_Swell_Plus_con (k := k) hx8) (toFn_invoke (cf 101 rfl) (me43_101) rfl) (gd0 rfl) ⟨rfl, rfl, trivial⟩ trivial rfl rfl rfl ?_
              refine K.store Y [_, _, _, _, _, _, _, _, _, _, _, _, _, _, _, _] (gd0 rfl) rfl rfl rfl t43 rfl rfl rfl rfl rfl ?_
              refine K.nil ?_
              refine ⟨by kernel_rfl, ?_⟩
              exact At.joined (σ := { v : TSwell // x6 = v }) (Fs := fun q => [(0, .a (.c (.p 0 0))), (2, .a (.c (.v (.int .i64 a2)))), (3, .a (.c (.v (.int .i64 a3)))), (8, .a (.c (.p 110 0))), (9, .a (.c (.p 111 0))), (10, .a (.c (.p 112 0))), (11, .a (.c (.v (.int .i64 x4.size))))]) (Tl := fun q => [(1, plM 1 p1), (0, blk 0 [.p 1 0, .v (.int .i64 ri0), .v (.int .i64 rg0)] 74), (110, blk 110 [.v (.int .i64 0), .v (.int .i64 0), .v (.int .i64 0), .v (.int .i64 0), .v (.int .i64 0), .v (.int .i64 0), .v (.int .i64 0), .v (.int .i64 0), .v (.int .i64 0), .v (.int .i64 0), .v (.bool false), .v (.int .i64 0), .v (.int .i64 0), .v (.bool false), .v (.int .i64 0), .v (.int .i64 0)] 43), (111, blk 111 [.v (.int .i64 x1.e.op.time), .v (.bool x1.e.op.insert), .v (.int .i64 x1.e.op.item.key), .v (.int .i64 x1.e.op.item.id), .v (.bool x1.e.here), .v (.bool x1.e.took.found), .v (.int .i64 x1.e.took.item.key), .v (.int .i64 x1.e.took.item.id), .v (.int .i64 x1.left.index), .v (.int .i64 x1.left.gen), .v (.int .i64 x1.right.index), .v (.int .i64 x1.right.gen), .v (.int .i64 x1.size), .v (.int .i64 x1.sum.count.n), .v (.int .i64 x1.sum.count.sum), .v (.int .i64 x1.sum.count.low), .v (.int .i64 x1.sum.weight.n), .v (.int .i64 x1.sum.weight.sum), .v (.int .i64 x1.sum.weight.low), .v (.int .i64 x1.sum.deletes), .v (.int .i64 x1.sum.free), .v (.int .i64 x1.sum.most.key), .v (.int .i64 x1.sum.most.id), .v (.bool x1.sum.gone.found), .v (.int .i64 x1.sum.gone.item.key), .v (.int .i64 x1.sum.gone.item.id), .v (.bool x1.sum.least.found), .v (.int .i64 x1.sum.least.item.key), .v (.int .i64 x1.sum.least.item.id)] 70), (112, blk 112 [.v (.int .i64 q.1.count.n), .v (.int .i64 q.1.count.sum), .v (.int .i64 q.1.count.low), .v (.int .i64 q.1.weight.n), .v (.int .i64 q.1.weight.sum), .v (.int .i64 q.1.weight.low), .v (.int .i64 q.1.deletes), .v (.int .i64 q.1.free), .v (.int .i64 q.1.most.key), .v (.int .i64 q.1.most.id), .v (.bool q.1.gone.found), .v (.int .i64 q.1.gone.item.key), .v (.int .i64 q.1.gone.item.id), .v (.bool q.1.least.found), .v (.int .i64 q.1.least.item.key), .v (.int .i64 q.1.least.item.id)] 43)]) ⟨x8, (Option.some.inj H1).symm⟩ [(110, 107), (111, 108), (112, 109)] [_, _, _, _, _] rfl ⟨rfl, rfl, rfl, rfl, rfl, rfl, rfl, trivial⟩ ⟨rfl, (pl_ren rfl), rfl, (blk_ren rfl rfl), rfl, (blk_ren rfl rfl), rfl, (blk_ren rfl rfl), rfl, (blk_ren rfl rfl), trivial⟩ rfl
            ·
              replace H1 := bif_f H1 h12
              refine G.skip ?_
              exact At.joined (σ := { v : TSwell // x6 = v }) (Fs := fun q => [(0, .a (.c (.p 0 0))), (2, .a (.c (.v (.int .i64 a2)))), (3, .a (.c (.v (.int .i64 a3)))), (8, .a (.c (.p 110 0))), (9, .a (.c (.p 111 0))), (10, .a (.c (.p 112 0))), (11, .a (.c (.v (.int .i64 x4.size))))]) (Tl := fun q => [(1, plM 1 p1), (0, blk 0 [.p 1 0, .v (.int .i64 ri0), .v (.int .i64 rg0)] 74), (110, blk 110 [.v (.int .i64 0), .v (.int .i64 0), .v (.int .i64 0), .v (.int .i64 0), .v (.int .i64 0), .v (.int .i64 0), .v (.int .i64 0), .v (.int .i64 0), .v (.int .i64 0), .v (.int .i64 0), .v (.bool false), .v (.int .i64 0), .v (.int .i64 0), .v (.bool false), .v (.int .i64 0), .v (.int .i64 0)] 43), (111, blk 111 [.v (.int .i64 x1.e.op.time), .v (.bool x1.e.op.insert), .v (.int .i64 x1.e.op.item.key), .v (.int .i64 x1.e.op.item.id), .v (.bool x1.e.here), .v (.bool x1.e.took.found), .v (.int .i64 x1.e.took.item.key), .v (.int .i64 x1.e.took.item.id), .v (.int .i64 x1.left.index), .v (.int .i64 x1.left.gen), .v (.int .i64 x1.right.index), .v (.int .i64 x1.right.gen), .v (.int .i64 x1.size), .v (.int .i64 x1.sum.count.n), .v (.int .i64 x1.sum.count.sum), .v (.int .i64 x1.sum.count.low), .v (.int .i64 x1.sum.weight.n), .v (.int .i64 x1.sum.weight.sum), .v (.int .i64 x1.sum.weight.low), .v (.int .i64 x1.sum.deletes), .v (.int .i64 x1.sum.free), .v (.int .i64 x1.sum.most.key), .v (.int .i64 x1.sum.most.id), .v (.bool x1.sum.gone.found), .v (.int .i64 x1.sum.gone.item.key), .v (.int .i64 x1.sum.gone.item.id), .v (.bool x1.sum.least.found), .v (.int .i64 x1.sum.least.item.key), .v (.int .i64 x1.sum.least.item.id)] 70), (112, blk 112 [.v (.int .i64 q.1.count.n), .v (.int .i64 q.1.count.sum), .v (.int .i64 q.1.count.low), .v (.int .i64 q.1.weight.n), .v (.int .i64 q.1.weight.sum), .v (.int .i64 q.1.weight.low), .v (.int .i64 q.1.deletes), .v (.int .i64 q.1.free), .v (.int .i64 q.1.most.key), .v (.int .i64 q.1.most.id), .v (.bool q.1.gone.found), .v (.int .i64 q.1.gone.item.key), .v (.int .i64 q.1.gone.item.id), .v (.bool q.1.least.found), .v (.int .i64 q.1.least.item.key), .v (.int .i64 q.1.least.item.id)] 43)]) ⟨x5, (Option.some.inj H1).symm⟩ [(110, 107), (111, 108), (112, 109)] [_, _, _, _, _] rfl ⟨rfl, rfl, rfl, rfl, rfl, rfl, rfl, trivial⟩ ⟨rfl, (pl_ren rfl), rfl, (blk_ren rfl rfl), rfl, (blk_ren rfl rfl), rfl, (blk_ren rfl rfl), rfl, (blk_ren rfl rfl), trivial⟩ rfl
          ·
            replace H1 := bif_f H1 h11
            refine G.rg ?_
            refine K.move (.inl rfl) (gd0 rfl) rfl rfl ?_
            refine K.move (.inl rfl) (gd0 rfl) rfl rfl ?_
            refine K.bin (V := .bool (decide (a2 ≤ x4.size))) (gd0 rfl) rfl rfl (fun _ => rfl) rfl ?_
            refine K.move (.inl rfl) (gd0 rfl) rfl rfl ?_
            refine K.skip rfl rfl rfl rfl (h11) rfl ?_
            refine K.skip rfl rfl rfl rfl (h11) rfl ?_
            refine K.skip rfl rfl rfl rfl (h11) rfl ?_
            refine K.pickF (gd0 rfl) rfl (h11) rfl rfl ?_
            refine K.nil ?_
            refine At.next ?_
            refine G.cond rfl (fun h13 => ?_) (fun h13 => ?_)
            · cases h13
            ·
              refine G.skip ?_
              exact At.joined (σ := { v : TSwell // x6 = v }) (Fs := fun q => [(0, .a (.c (.p 0 0))), (2, .a (.c (.v (.int .i64 a2)))), (3, .a (.c (.v (.int .i64 a3)))), (8, .a (.c (.p 110 0))), (9, .a (.c (.p 111 0))), (10, .a (.c (.p 112 0))), (11, .a (.c (.v (.int .i64 x4.size))))]) (Tl := fun q => [(1, plM 1 p1), (0, blk 0 [.p 1 0, .v (.int .i64 ri0), .v (.int .i64 rg0)] 74), (110, blk 110 [.v (.int .i64 0), .v (.int .i64 0), .v (.int .i64 0), .v (.int .i64 0), .v (.int .i64 0), .v (.int .i64 0), .v (.int .i64 0), .v (.int .i64 0), .v (.int .i64 0), .v (.int .i64 0), .v (.bool false), .v (.int .i64 0), .v (.int .i64 0), .v (.bool false), .v (.int .i64 0), .v (.int .i64 0)] 43), (111, blk 111 [.v (.int .i64 x1.e.op.time), .v (.bool x1.e.op.insert), .v (.int .i64 x1.e.op.item.key), .v (.int .i64 x1.e.op.item.id), .v (.bool x1.e.here), .v (.bool x1.e.took.found), .v (.int .i64 x1.e.took.item.key), .v (.int .i64 x1.e.took.item.id), .v (.int .i64 x1.left.index), .v (.int .i64 x1.left.gen), .v (.int .i64 x1.right.index), .v (.int .i64 x1.right.gen), .v (.int .i64 x1.size), .v (.int .i64 x1.sum.count.n), .v (.int .i64 x1.sum.count.sum), .v (.int .i64 x1.sum.count.low), .v (.int .i64 x1.sum.weight.n), .v (.int .i64 x1.sum.weight.sum), .v (.int .i64 x1.sum.weight.low), .v (.int .i64 x1.sum.deletes), .v (.int .i64 x1.sum.free), .v (.int .i64 x1.sum.most.key), .v (.int .i64 x1.sum.most.id), .v (.bool x1.sum.gone.found), .v (.int .i64 x1.sum.gone.item.key), .v (.int .i64 x1.sum.gone.item.id), .v (.bool x1.sum.least.found), .v (.int .i64 x1.sum.least.item.key), .v (.int .i64 x1.sum.least.item.id)] 70), (112, blk 112 [.v (.int .i64 q.1.count.n), .v (.int .i64 q.1.count.sum), .v (.int .i64 q.1.count.low), .v (.int .i64 q.1.weight.n), .v (.int .i64 q.1.weight.sum), .v (.int .i64 q.1.weight.low), .v (.int .i64 q.1.deletes), .v (.int .i64 q.1.free), .v (.int .i64 q.1.most.key), .v (.int .i64 q.1.most.id), .v (.bool q.1.gone.found), .v (.int .i64 q.1.gone.item.key), .v (.int .i64 q.1.gone.item.id), .v (.bool q.1.least.found), .v (.int .i64 q.1.least.item.key), .v (.int .i64 q.1.least.item.id)] 43)]) ⟨x5, (Option.some.inj H1).symm⟩ [(110, 107), (111, 108), (112, 109)] [_, _, _, _, _] rfl ⟨rfl, rfl, rfl, rfl, rfl, rfl, rfl, trivial⟩ ⟨rfl, (pl_ren rfl), rfl, (blk_ren rfl rfl), rfl, (blk_ren rfl rfl), rfl, (blk_ren rfl rfl), rfl, (blk_ren rfl rfl), trivial⟩ rfl
        ·
          rintro ⟨_, rfl⟩
          show G _ _ [(0, .a (.c (.p 0 0))), (2, .a (.c (.v (.int .i64 a2)))), (3, .a (.c (.v (.int .i64 a3)))), (8, .a (.c (.p 110 0))), (9, .a (.c (.p 111 0))), (10, .a (.c (.p 112 0))), (11, .a (.c (.v (.int .i64 x4.size))))] [(1, some (plM 1 p1)), (0, some (blk 0 [.p 1 0, .v (.int .i64 ri0), .v (.int .i64 rg0)] 74)), (110, some (blk 110 [.v (.int .i64 0), .v (.int .i64 0), .v (.int .i64 0), .v (.int .i64 0), .v (.int .i64 0), .v (.int .i64 0), .v (.int .i64 0), .v (.int .i64 0), .v (.int .i64 0), .v (.int .i64 0), .v (.bool false), .v (.int .i64 0), .v (.int .i64 0), .v (.bool false), .v (.int .i64 0), .v (.int .i64 0)] 43)), (111, some (blk 111 [.v (.int .i64 x1.e.op.time), .v (.bool x1.e.op.insert), .v (.int .i64 x1.e.op.item.key), .v (.int .i64 x1.e.op.item.id), .v (.bool x1.e.here), .v (.bool x1.e.took.found), .v (.int .i64 x1.e.took.item.key), .v (.int .i64 x1.e.took.item.id), .v (.int .i64 x1.left.index), .v (.int .i64 x1.left.gen), .v (.int .i64 x1.right.index), .v (.int .i64 x1.right.gen), .v (.int .i64 x1.size), .v (.int .i64 x1.sum.count.n), .v (.int .i64 x1.sum.count.sum), .v (.int .i64 x1.sum.count.low), .v (.int .i64 x1.sum.weight.n), .v (.int .i64 x1.sum.weight.sum), .v (.int .i64 x1.sum.weight.low), .v (.int .i64 x1.sum.deletes), .v (.int .i64 x1.sum.free), .v (.int .i64 x1.sum.most.key), .v (.int .i64 x1.sum.most.id), .v (.bool x1.sum.gone.found), .v (.int .i64 x1.sum.gone.item.key), .v (.int .i64 x1.sum.gone.item.id), .v (.bool x1.sum.least.found), .v (.int .i64 x1.sum.least.item.key), .v (.int .i64 x1.sum.least.item.id)] 70)), (112, some (blk 112 [.v (.int .i64 x6.count.n), .v (.int .i64 x6.count.sum), .v (.int .i64 x6.count.low), .v (.int .i64 x6.weight.n), .v (.int .i64 x6.weight.sum), .v (.int .i64 x6.weight.low), .v (.int .i64 x6.deletes), .v (.int .i64 x6.free), .v (.int .i64 x6.most.key), .v (.int .i64 x6.most.id), .v (.bool x6.gone.found), .v (.int .i64 x6.gone.item.key), .v (.int .i64 x6.gone.item.id), .v (.bool x6.least.found), .v (.int .i64 x6.least.item.key), .v (.int .i64 x6.least.item.id)] 43))] _ _
          refine G.seq ?_
          obtain ⟨x9, hx9, H0⟩ := bnd H0
          obtain ⟨x10, hx10, H0⟩ := bnd H0
          refine G.rd mixed ?_
          refine K.loadS Y [_, _, _, _, _, _, _, _, _, _, _, _, _, _, _, _] (gd0 rfl) rfl rfl t43 rfl rfl rfl ?_
          refine K.mkIface Y (gd0 rfl) rfl (mkI Try.underlying43 rfl) rfl ?_
          refine K.move (.inl rfl) (gd0 rfl) rfl rfl ?_
          refine K.fieldAddr Y (gd0 rfl) rfl t70 rfl rfl ?_
          refine K.loadS Y [_, _] (gd0 rfl) rfl rfl t68 rfl rfl rfl ?_
          refine K.move (.inl rfl) (gd0 rfl) rfl rfl ?_
          refine K.move (.inl rfl) (gd0 rfl) rfl rfl ?_
          refine K.bin (V := .int .i64 (w64 (a2 - x4.size))) (gd0 rfl) rfl rfl (fun _ => rfl) rfl ?_
          refine K.bin (V := .int .i64 (w64 ((w64 (a2 - x4.size)) - 1))) (gd0 rfl) rfl rfl (fun _ => rfl) rfl ?_
          refine K.move (.inl rfl) (gd0 rfl) rfl rfl ?_
          refine K.move (.inl rfl) (gd0 rfl) rfl rfl ?_
          refine K.bin (V := .int .i64 (w64 (a3 - x4.size))) (gd0 rfl) rfl rfl (fun _ => rfl) rfl ?_
          refine K.bin (V := .int .i64 (w64 ((w64 (a3 - x4.size)) - 1))) (gd0 rfl) rfl rfl (fun _ => rfl) rfl ?_
          refine K.callR [(.func 59, _), ((.tmp 72), _), ((.tmp 74), _), ((.tmp 78), _), ((.tmp 82), _)] (ih hx9) (toFn_func (cf 59 rfl) rfl) (gd0 rfl) ⟨rfl, rfl, rfl, rfl, rfl, trivial⟩ ⟨rfl, rfl, trivial⟩ rfl rfl rfl ?_
          refine K.callR [((.tmp 71), _), ((.tmp 83), _)] (wave_Swell_Plus_con (k := k) hx10) (toFn_invoke (cf 101 rfl) (me43_101) rfl) (gd0 rfl) ⟨rfl, rfl, trivial⟩ trivial rfl rfl rfl ?_
          refine K.store Y [_, _, _, _, _, _, _, _, _, _, _, _, _, _, _, _] (gd0 rfl) rfl rfl rfl t43 rfl rfl rfl rfl rfl ?_
          refine K.nil ?_
          refine ⟨by kernel_rfl, ?_⟩
          refine At.next ?_
          refine G.ret ?_
          refine At.done Y [(.cell 8 43, .agg [_, _, _, _, _, _, _, _, _, _, _, _, _, _, _, _])] rfl ⟨.st rfl rfl t43 rfl rfl, trivial⟩ (to' := [(0, _), (1, _)]) ⟨rfl, rfl, trivial⟩ ?_ ?_ rfl rfl rfl (.inl rfl)
          · cases H0; rfl
          · cases H0; rfl
theorem Tree_betweenM_con {k n : Nat}  {p1 : Pool (TNode TMark TSwell)} {a1 : TRef} {a2 : Int} {a3 : Int} {ri0 rg0 : Int} {r : TSwell}  (H0 : Tree_between.r opsM k n p1 a1 a2 a3 = some r) (m0 m1 : Nat) : SCon Try.prog 59 [SV.p m0 0, .a (.agg ((eTRef a1).map .v)), .a (.c (.v (.int .i64 a2))), .a (.c (.v (.int .i64 a3)))] [(m0, blk m0 [.p m1 0, .i ri0, .i rg0] 74), (m1, plM m1 p1)] (.a (.agg ((eTSwell r).map .v))) [(m0, blk m0 [.p m1 0, .i ri0, .i rg0] 74), (m1, plM m1 p1)] [] :=
  SCon.ren (rn [(0, m0), (1, m1)]) (Tree_betweenM_con0 (k := k)   H0) ⟨(blk_ren rfl rfl), (pl_ren rfl), trivial⟩ ⟨(blk_ren rfl rfl), (pl_ren rfl), trivial⟩ (by simp) (by simp)
theorem Tree_BetweenM_con0 {k : Nat}  {p1 : Pool (TNode TMark TSwell)} {rt0 : TRef} {a1 : Int} {a2 : Int} {r : TSwell}  (H0 : Tree_Between.f opsM k p1 rt0 a1 a2 = some r) : SCon Try.prog 41 [SV.p 0 0, .a (.c (.v (.int .i64 a1))), .a (.c (.v (.int .i64 a2)))] [(0, blk 0 [.p 1 0, .i rt0.index, .i rt0.gen] 74), (1, plM 1 p1)] (.a (.agg ((eTSwell r).map .v))) [(0, blk 0 [.p 1 0, .i rt0.index, .i rt0.gen] 74), (1, plM 1 p1)] [] := by
  rw [Tree_Between.f] at H0
  refine spec_of [(0, _), (1, _), (2, _)] [(0, _), (1, _)] 24 Try.func41 rfl Try.ntmps41 rfl rfl rfl rfl (fun β W F => ?_)
  refine G.seq ?_
  refine G.rg ?_
  refine K.alloc Y 100 [_, _, _, _, _, _, _, _, _, _, _, _, _, _, _, _] (gd0 rfl) t43 rfl rfl rfl rfl rfl ?_
  refine K.nil ?_
  refine At.next ?_
  refine G.seq ?_
  obtain ⟨x1, hx1, H0⟩ := bnd H0
  refine G.rg ?_
  refine K.move (.inl rfl) (gd0 rfl) rfl rfl ?_
  refine K.callR [(.func 21, _), ((.tmp 8), _)] (Tree_LenM_con (k := k) hx1 0 1) (toFn_func (cf 21 rfl) rfl) (gd0 rfl) ⟨rfl, rfl, trivial⟩ ⟨rfl, rfl, trivial⟩ rfl rfl rfl ?_
  refine K.move (.inr rfl) (gd0 rfl) rfl rfl ?_
  refine K.nil ?_
  refine At.next ?_
  refine G.seq ?_
  obtain ⟨x2, hx2, H0⟩ := bnd H0
  refine G.rg ?_
  refine K.move (.inl rfl) (gd0 rfl) rfl rfl ?_
  refine K.move (.inl rfl) (gd0 rfl) rfl rfl ?_
  refine K.nilCheck (gd0 rfl) rfl rfl ?_
  refine K.fieldAddr Y (gd0 rfl) rfl t74 rfl rfl ?_
  refine K.loadS Y [_, _] (gd0 rfl) rfl rfl t68 rfl rfl rfl ?_
  refine K.move (.inl rfl) (gd0 rfl) rfl rfl ?_
  refine K.bi2 (V := .int .i64 (gmax a1 0)) (gd0 rfl) rfl rfl (fun _ _ => rfl) rfl ?_
  refine K.move (.inl rfl) (gd0 rfl) rfl rfl ?_
  refine K.bi2 (V := .int .i64 (gmin (gmax a1 0) x1)) (gd0 rfl) rfl rfl (fun _ _ => rfl) rfl ?_
  refine K.move (.inl rfl) (gd0 rfl) rfl rfl ?_
  refine K.bi2 (V := .int .i64 (gmax a2 0)) (gd0 rfl) rfl rfl (fun _ _ => rfl) rfl ?_
  refine K.move (.inl rfl) (gd0 rfl) rfl rfl ?_
  refine K.bi2 (V := .int .i64 (gmin (gmax a2 0) x1)) (gd0 rfl) rfl rfl (fun _ _ => rfl) rfl ?_
  refine K.callR [(.func 59, _), ((.tmp 10), _), ((.tmp 14), _), ((.tmp 18), _), ((.tmp 22), _)] (Tree_betweenM_con (k := k) hx2 0 1) (toFn_func (cf 59 rfl) rfl) (gd0 rfl) ⟨rfl, rfl, rfl, rfl, rfl, trivial⟩ ⟨rfl, rfl, trivial⟩ rfl rfl rfl ?_
  refine K.store Y [_, _, _, _, _, _, _, _, _, _, _, _, _, _, _, _] (gd0 rfl) rfl rfl rfl t43 rfl rfl rfl rfl rfl ?_
  refine K.nil ?_
  refine At.next ?_
  refine G.ret ?_
  refine At.done Y [(.cell 6 43, .agg [_, _, _, _, _, _, _, _, _, _, _, _, _, _, _, _])] rfl ⟨.st rfl rfl t43 rfl rfl, trivial⟩ (to' := [(0, _), (1, _)]) ⟨rfl, rfl, trivial⟩ ?_ ?_ rfl rfl rfl (.inl rfl)
  · cases H0; rfl
  · cases H0; rfl
theorem Tree_BetweenM_con {k : Nat}  {p1 : Pool (TNode TMark TSwell)} {rt0 : TRef} {a1 : Int} {a2 : Int} {r : TSwell}  (H0 : Tree_Between.f opsM k p1 rt0 a1 a2 = some r) (m0 m1 : Nat) : SCon Try.prog 41 [SV.p m0 0, .a (.c (.v (.int .i64 a1))), .a (.c (.v (.int .i64 a2)))] [(m0, blk m0 [.p m1 0, .i rt0.index, .i rt0.gen] 74), (m1, plM m1 p1)] (.a (.agg ((eTSwell r).map .v))) [(m0, blk m0 [.p m1 0, .i rt0.index, .i rt0.gen] 74), (m1, plM m1 p1)] [] :=
  SCon.ren (rn [(0, m0), (1, m1)]) (Tree_BetweenM_con0 (k := k)   H0) ⟨(blk_ren rfl rfl), (pl_ren rfl), trivial⟩ ⟨(blk_ren rfl rfl), (pl_ren rfl), trivial⟩ (by simp) (by simp)
theorem Tree_firstM_f14_con0 {k : Nat} {g4 : FuncId} {fn4 : TSwell → TSwell → Option Bool} {cv4 : List Value} {Tc4 : TypeId} (cg4 : fnB Try.prog g4 = true) (hm4 : ∀ (c : Nat) {z0 : TSwell} {z1 : TSwell} {y : Bool}, fn4 z0 z1 = some y → SCon Try.prog g4 [.a (.agg ((eTSwell z0).map .v)), .a (.agg ((eTSwell z1).map .v)), SV.p c 0] [(c, vblk c cv4 Tc4)] (SV.b y) [(c, vblk c cv4 Tc4)] []) : ∀ {n : Nat} {p1 : Pool (TNode TMark TSwell)} {a1 : TRef} {a2 : Int} {a3 : TSwell} {ri0 rg0 : Int} {r : Int × TSwell}  (H0 : Tree_first.r opsM k n p1 a1 a2 a3 fn4 = some r), SCon Try.prog 62 [SV.p 0 0, .a (.agg ((eTRef a1).map .v)), .a (.c (.v (.int .i64 a2))), .a (.agg ((eTSwell a3).map .v)), .a (.c (.fn (.func g4) [2]))] [(0, blk 0 [.p 1 0, .i ri0, .i rg0] 74), (1, plM 1 p1), (2, vblk 2 cv4 Tc4)] (.tup [.c (.v (.int .i64 r.1)), .agg ((eTSwell r.2).map .v)]) [(0, blk 0 [.p 1 0, .i ri0, .i rg0] 74), (1, plM 1 p1), (2, vblk 2 cv4 Tc4)] [] := by
  intro n
  induction n with
  | zero => intro p1 a1 a2 a3 ri0 rg0 r H0; exact absurd H0 (by simp [Tree_first.r])
  | succ n ih =>
    intro p1 a1 a2 a3 ri0 rg0 r H0
    rw [Tree_first.r] at H0
    refine spec_of [(0, _), (1, _), (2, _), (3, _), (4, _)] [(0, _), (1, _), (2, _)] 103 Try.func62 rfl Try.ntmps62 rfl rfl rfl rfl (fun β W F => ?_)
    refine G.seq ?_
    refine G.rg ?_
    refine K.box Y 100 [_, _] (gd0 rfl) rfl rfl rfl rfl rfl rfl ?_
    refine K.box Y 101 [_, _, _, _, _, _, _, _, _, _, _, _, _, _, _, _] (gd0 rfl) rfl rfl rfl rfl rfl rfl ?_
    refine K.move (.inr rfl) (gd0 rfl) rfl rfl ?_
    refine K.alloc Y 102 [_, _, _, _, _, _, _, _, _, _, _, _, _, _, _, _] (gd0 rfl) t43 rfl rfl rfl rfl rfl ?_
    refine K.nil ?_
    refine At.next ?_
    refine G.seq ?_
    obtain ⟨x1, hx1, H0⟩ := bnd H0
    refine G.rg ?_
    refine K.move (.inl rfl) (gd0 rfl) rfl rfl ?_
    refine K.loadS Y [_, _] (gd0 rfl) rfl rfl t68 rfl rfl rfl ?_
    refine K.callR [(.func 50, _), ((.tmp 16), _), ((.tmp 17), _)] (Tree_getM_con (k := k) hx1 0 1) (toFn_func (cf 50 rfl) rfl) (gd0 rfl) ⟨rfl, rfl, rfl, trivial⟩ ⟨rfl, rfl, trivial⟩ rfl rfl rfl ?_
    refine K.alloc Y 103 [_, _, _, _, _, _, _, _, _, _, _, _, _, _, _, _, _, _, _, _, _, _, _, _, _, _, _, _, _] (gd0 rfl) t70 rfl rfl rfl rfl rfl ?_
    refine K.store Y [_, _, _, _, _, _, _, _, _, _, _, _, _, _, _, _, _, _, _, _, _, _, _, _, _, _, _, _, _] (gd0 rfl) rfl rfl rfl t70 rfl rfl rfl rfl rfl ?_
    refine K.nil ?_
    refine At.next ?_
    obtain ⟨x2, H1, H0⟩ := bnd H0
    refine G.seqJ (σ := { v : Unit // x2 = Sum.inr v }) (fun q => [(0, .a (.c (.p 0 0))), (2, .a (.c (.v (.int .i64 a2)))), (4, .a (.c (.fn (.func g4) [2]))), (8, .a (.c (.p 104 0))), (11, .a (.c (.p 105 0))), (12, .a (.c (.p 106 0)))]) (fun q => [(1, plM 1 p1), (0, blk 0 [.p 1 0, .v (.int .i64 ri0), .v (.int .i64 rg0)] 74), (2, vblk 2 cv4 Tc4), (104, blk 104 [.v (.int .i64 a3.count.n), .v (.int .i64 a3.count.sum), .v (.int .i64 a3.count.low), .v (.int .i64 a3.weight.n), .v (.int .i64 a3.weight.sum), .v (.int .i64 a3.weight.low), .v (.int .i64 a3.deletes), .v (.int .i64 a3.free), .v (.int .i64 a3.most.key), .v (.int .i64 a3.most.id), .v (.bool a3.gone.found), .v (.int .i64 a3.gone.item.key), .v (.int .i64 a3.gone.item.id), .v (.bool a3.least.found), .v (.int .i64 a3.least.item.key), .v (.int .i64 a3.least.item.id)] 43), (105, blk 105 [.v (.int .i64 0), .v (.int .i64 0), .v (.int .i64 0), .v (.int .i64 0), .v (.int .i64 0), .v (.int .i64 0), .v (.int .i64 0), .v (.int .i64 0), .v (.int .i64 0), .v (.int .i64 0), .v (.bool false), .v (.int .i64 0), .v (.int .i64 0), .v (.bool false), .v (.int .i64 0), .v (.int .i64 0)] 43), (106, blk 106 [.v (.int .i64 x1.e.op.time), .v (.bool x1.e.op.insert), .v (.int .i64 x1.e.op.item.key), .v (.int .i64 x1.e.op.item.id), .v (.bool x1.e.here), .v (.bool x1.e.took.found), .v (.int .i64 x1.e.took.item.key), .v (.int .i64 x1.e.took.item.id), .v (.int .i64 x1.left.index), .v (.int .i64 x1.left.gen), .v (.int .i64 x1.right.index), .v (.int .i64 x1.right.gen), .v (.int .i64 x1.size), .v (.int .i64 x1.sum.count.n), .v (.int .i64 x1.sum.count.sum), .v (.int .i64 x1.sum.count.low), .v (.int .i64 x1.sum.weight.n), .v (.int .i64 x1.sum.weight.sum), .v (.int .i64 x1.sum.weight.low), .v (.int .i64 x1.sum.deletes), .v (.int .i64 x1.sum.free), .v (.int .i64 x1.sum.most.key), .v (.int .i64 x1.sum.most.id), .v (.bool x1.sum.gone.found), .v (.int .i64 x1.sum.gone.item.key), .v (.int .i64 x1.sum.gone.item.id), .v (.bool x1.sum.least.found), .v (.int .i64 x1.sum.least.item.key), .v (.int .i64 x1.sum.least.item.id)] 70)]) ?_ ?_
    ·
      refine G.seq ?_
      rcases Bool.eq_false_or_eq_true (x1.size == 0) with h1 | h1
      ·
        replace H1 := bif_t H1 h1
        refine G.rg ?_
        refine K.fieldAddr Y (gd0 rfl) rfl t70 rfl rfl ?_
        refine K.load1 Y (gd0 rfl) rfl rfl t3 rfl rfl ?_
        refine K.bin (V := .bool (x1.size == 0)) (gd0 rfl) rfl rfl (fun _ => rfl) rfl ?_
        refine K.move (.inl rfl) (gd0 rfl) rfl rfl ?_
        refine K.skip rfl rfl rfl rfl (h1) rfl ?_
        refine K.skip rfl rfl rfl rfl (h1) rfl ?_
        refine K.skip rfl rfl rfl rfl (h1) rfl ?_
        refine K.skip rfl rfl rfl rfl (h1) rfl ?_
        refine K.pickT (gd0 rfl) rfl (h1) rfl rfl ?_
        refine K.move (.inl rfl) (gd0 rfl) rfl rfl ?_
        refine K.skip rfl rfl rfl rfl (rfl) rfl ?_
        refine K.skip rfl rfl rfl rfl (rfl) rfl ?_
        refine K.skip rfl rfl rfl rfl (rfl) rfl ?_
        refine K.skipU rfl rfl rfl rfl rfl ?_
        refine K.skipU rfl rfl rfl rfl rfl ?_
        refine K.skipU rfl rfl rfl rfl rfl ?_
        refine K.skipU rfl rfl rfl rfl rfl ?_
        refine K.skipU rfl rfl rfl rfl rfl ?_
        refine K.skipU rfl rfl rfl rfl rfl ?_
        refine K.skip rfl rfl rfl rfl (rfl) rfl ?_
        refine K.pickT (gd0 rfl) rfl (rfl) rfl rfl ?_
        refine K.nil ?_
        refine At.next ?_
        refine G.cond rfl (fun h2 => ?_) (fun h2 => ?_)
        ·
          refine G.seq ?_
          obtain ⟨x3, hx3, H1⟩ := bnd H1
          refine G.rg ?_
          refine K.loadS Y [_, _, _, _, _, _, _, _, _, _, _, _, _, _, _, _] (gd0 rfl) rfl rfl t43 rfl rfl rfl ?_
          refine K.mkIface Y (gd0 rfl) rfl (mkI Try.underlying43 rfl) rfl ?_
          refine K.fieldAddr Y (gd0 rfl) rfl t70 rfl rfl ?_
          refine K.loadS Y [_, _, _, _, _, _, _, _, _, _, _, _, _, _, _, _] (gd0 rfl) rfl rfl t43 rfl rfl rfl ?_
          refine K.callR [((.tmp 41), _), ((.tmp 43), _)] (wave_Swell_Plus_con (k := k) hx3) (toFn_invoke (cf 101 rfl) (me43_101) rfl) (gd0 rfl) ⟨rfl, rfl, trivial⟩ trivial rfl rfl rfl ?_
          refine K.move (.inr rfl) (gd0 rfl) rfl rfl ?_
          refine K.store Y [_, _, _, _, _, _, _, _, _, _, _, _, _, _, _, _] (gd0 rfl) rfl rfl rfl t43 rfl rfl rfl rfl rfl ?_
          refine K.nil ?_
          refine At.next ?_
          refine G.ret ?_
          refine At.over_ret ?_
          cases H1
          replace H0 := sum_l H0
          refine At.done Y [(.tmp 10, .c _), (.cell 11 43, .agg [_, _, _, _, _, _, _, _, _, _, _, _, _, _, _, _])] rfl ⟨.tmp rfl, .st rfl rfl t43 rfl rfl, trivial⟩ (to' := [(0, _), (1, _), (2, _)]) ⟨rfl, rfl, rfl, trivial⟩ ?_ ?_ rfl rfl rfl (.inl rfl)
          · cases H0; rfl
          · cases H0; rfl
        · cases h2
      ·
        replace H1 := bif_f H1 h1
        rcases Bool.eq_false_or_eq_true (decide (a2 ≥ x1.size)) with h3 | h3
        ·
          replace H1 := bif_t H1 h3
          refine G.rg ?_
          refine K.fieldAddr Y (gd0 rfl) rfl t70 rfl rfl ?_
          refine K.load1 Y (gd0 rfl) rfl rfl t3 rfl rfl ?_
          refine K.bin (V := .bool (x1.size == 0)) (gd0 rfl) rfl rfl (fun _ => rfl) rfl ?_
          refine K.move (.inl rfl) (gd0 rfl) rfl rfl ?_
          refine K.move (.inl rfl) (gd1 rfl rfl rfl (h1)) rfl rfl ?_
          refine K.fieldAddr Y (gd1 rfl rfl rfl (h1)) rfl t70 rfl rfl ?_
          refine K.load1 Y (gd1 rfl rfl rfl (h1)) rfl rfl t3 rfl rfl ?_
          refine K.bin (V := .bool (decide (a2 ≥ x1.size))) (gd1 rfl rfl rfl (h1)) rfl rfl (fun _ => rfl) rfl ?_
          refine K.pickF (gd0 rfl) rfl (h1) rfl rfl ?_
          refine K.move (.inl rfl) (gd0 rfl) rfl rfl ?_
          refine K.skip rfl rfl rfl rfl (h3) rfl ?_
          refine K.skip rfl rfl rfl rfl (h3) rfl ?_
          refine K.skip rfl rfl rfl rfl (h3) rfl ?_
          refine K.skipU rfl rfl rfl rfl rfl ?_
          refine K.skipU rfl rfl rfl rfl rfl ?_
          refine K.skipU rfl rfl rfl rfl rfl ?_
          refine K.skipU rfl rfl rfl rfl rfl ?_
          refine K.skipU rfl rfl rfl rfl rfl ?_
          refine K.skipU rfl rfl rfl rfl rfl ?_
          refine K.skip rfl rfl rfl rfl (h3) rfl ?_
          refine K.pickT (gd0 rfl) rfl (h3) rfl rfl ?_
          refine K.nil ?_
          refine At.next ?_
          refine G.cond rfl (fun h4 => ?_) (fun h4 => ?_)
          ·
            refine G.seq ?_
            obtain ⟨x4, hx4, H1⟩ := bnd H1
            refine G.rg ?_
            refine K.loadS Y [_, _, _, _, _, _, _, _, _, _, _, _, _, _, _, _] (gd0 rfl) rfl rfl t43 rfl rfl rfl ?_
            refine K.mkIface Y (gd0 rfl) rfl (mkI Try.underlying43 rfl) rfl ?_
            refine K.fieldAddr Y (gd0 rfl) rfl t70 rfl rfl ?_
            refine K.loadS Y [_, _, _, _, _, _, _, _, _, _, _, _, _, _, _, _] (gd0 rfl) rfl rfl t43 rfl rfl rfl ?_
            refine K.callR [((.tmp 41), _), ((.tmp 43), _)] (wave_Swell_Plus_con (k := k) hx4) (toFn_invoke (cf 101 rfl) (me43_101) rfl) (gd0 rfl) ⟨rfl, rfl, trivial⟩ trivial rfl rfl rfl ?_
            refine K.move (.inr rfl) (gd0 rfl) rfl rfl ?_
            refine K.store Y [_, _, _, _, _, _, _, _, _, _, _, _, _, _, _, _] (gd0 rfl) rfl rfl rfl t43 rfl rfl rfl rfl rfl ?_
            refine K.nil ?_
            refine At.next ?_
            refine G.ret ?_
            refine At.over_ret ?_
            cases H1
            replace H0 := sum_l H0
            refine At.done Y [(.tmp 10, .c _), (.cell 11 43, .agg [_, _, _, _, _, _, _, _, _, _, _, _, _, _, _, _])] rfl ⟨.tmp rfl, .st rfl rfl t43 rfl rfl, trivial⟩ (to' := [(0, _), (1, _), (2, _)]) ⟨rfl, rfl, rfl, trivial⟩ ?_ ?_ rfl rfl rfl (.inl rfl)
            · cases H0; rfl
            · cases H0; rfl
          · cases h4
        ·
          replace H1 := bif_f H1 h3
          rcases Bool.eq_false_or_eq_true (decide (a2 ≤ 0)) with h5 | h5
          ·
            replace H1 := bif_t H1 h5
            obtain ⟨x5, hx5, H1⟩ := bnd H1
            refine G.rg ?_
            refine K.fieldAddr Y (gd0 rfl) rfl t70 rfl rfl ?_
            refine K.load1 Y (gd0 rfl) rfl rfl t3 rfl rfl ?_
            refine K.bin (V := .bool (x1.size == 0)) (gd0 rfl) rfl rfl (fun _ => rfl) rfl ?_
            refine K.move (.inl rfl) (gd0 rfl) rfl rfl ?_
            refine K.move (.inl rfl) (gd1 rfl rfl rfl (h1)) rfl rfl ?_
            refine K.fieldAddr Y (gd1 rfl rfl rfl (h1)) rfl t70 rfl rfl ?_
            refine K.load1 Y (gd1 rfl rfl rfl (h1)) rfl rfl t3 rfl rfl ?_
            refine K.bin (V := .bool (decide (a2 ≥ x1.size))) (gd1 rfl rfl rfl (h1)) rfl rfl (fun _ => rfl) rfl ?_
            refine K.pickF (gd0 rfl) rfl (h1) rfl rfl ?_
            refine K.move (.inl rfl) (gd0 rfl) rfl rfl ?_
            refine K.move (.inl rfl) (gd1 rfl rfl rfl (h3)) rfl rfl ?_
            refine K.bin (V := .bool (decide (a2 ≤ 0))) (gd1 rfl rfl rfl (h3)) rfl rfl (fun _ => rfl) rfl ?_
            refine K.move (.inl rfl) (gd1 rfl rfl rfl (h3)) rfl rfl ?_
            refine K.move (.inl rfl) (gd1 rfl rfl rfl (h5)) rfl rfl ?_
            refine K.loadS Y [_, _, _, _, _, _, _, _, _, _, _, _, _, _, _, _] (gd1 rfl rfl rfl (h5)) rfl rfl t43 rfl rfl rfl ?_
            refine K.fieldAddr Y (gd1 rfl rfl rfl (h5)) rfl t70 rfl rfl ?_
            refine K.loadS Y [_, _, _, _, _, _, _, _, _, _, _, _, _, _, _, _] (gd1 rfl rfl rfl (h5)) rfl rfl t43 rfl rfl rfl ?_
            refine K.callR [((.tmp 32), _), ((.tmp 33), _), ((.tmp 35), _)] (hm4 2 hx5) (toFn_val cg4 rfl) (gd1 rfl rfl rfl (h5)) ⟨rfl, rfl, rfl, trivial⟩ ⟨rfl, trivial⟩ rfl rfl rfl ?_
            refine K.un (V := .bool (!x5)) (gd1 rfl rfl rfl (h5)) rfl (fun _ => rfl) rfl ?_
            refine K.pickT (gd1 rfl rfl rfl (h3)) rfl (h5) rfl rfl ?_
            refine K.pickF (gd0 rfl) rfl (h3) rfl rfl ?_
            refine K.nil ?_
            refine At.next ?_
            refine G.cond rfl (fun h6 => ?_) (fun h6 => ?_)
            ·
              replace H1 := bif_t H1 h6
              refine G.seq ?_
              obtain ⟨x6, hx6, H1⟩ := bnd H1
              refine G.rg ?_
              refine K.loadS Y [_, _, _, _, _, _, _, _, _, _, _, _, _, _, _, _] (gd0 rfl) rfl rfl t43 rfl rfl rfl ?_
              refine K.mkIface Y (gd0 rfl) rfl (mkI Try.underlying43 rfl) rfl ?_
              refine K.fieldAddr Y (gd0 rfl) rfl t70 rfl rfl ?_
              refine K.loadS Y [_, _, _, _, _, _, _, _, _, _, _, _, _, _, _, _] (gd0 rfl) rfl rfl t43 rfl rfl rfl ?_
              refine K.callR [((.tmp 41), _), ((.tmp 43), _)] (wave_Swell_Plus_con (k := k) hx6) (toFn_invoke (cf 101 rfl) (me43_101) rfl) (gd0 rfl) ⟨rfl, rfl, trivial⟩ trivial rfl rfl rfl ?_
              refine K.move (.inr rfl) (gd0 rfl) rfl rfl ?_
              refine K.store Y [_, _, _, _, _, _, _, _, _, _, _, _, _, _, _, _] (gd0 rfl) rfl rfl rfl t43 rfl rfl rfl rfl rfl ?_
              refine K.nil ?_
              refine At.next ?_
              refine G.ret ?_
              refine At.over_ret ?_
              cases H1
              replace H0 := sum_l H0
              refine At.done Y [(.tmp 10, .c _), (.cell 11 43, .agg [_, _, _, _, _, _, _, _, _, _, _, _, _, _, _, _])] rfl ⟨.tmp rfl, .st rfl rfl t43 rfl rfl, trivial⟩ (to' := [(0, _), (1, _), (2, _)]) ⟨rfl, rfl, rfl, trivial⟩ ?_ ?_ rfl rfl rfl (.inl rfl)
              · cases H0; rfl
              · cases H0; rfl
            ·
              replace H1 := bif_f H1 h6
              refine G.skip ?_
              exact At.joined (σ := { v : Unit // x2 = Sum.inr v }) (Fs := fun q => [(0, .a (.c (.p 0 0))), (2, .a (.c (.v (.int .i64 a2)))), (4, .a (.c (.fn (.func g4) [2]))), (8, .a (.c (.p 104 0))), (11, .a (.c (.p 105 0))), (12, .a (.c (.p 106 0)))]) (Tl := fun q => [(1, plM 1 p1), (0, blk 0 [.p 1 0, .v (.int .i64 ri0), .v (.int .i64 rg0)] 74), (2, vblk 2 cv4 Tc4), (104, blk 104 [.v (.int .i64 a3.count.n), .v (.int .i64 a3.count.sum), .v (.int .i64 a3.count.low), .v (.int .i64 a3.weight.n), .v (.int .i64 a3.weight.sum), .v (.int .i64 a3.weight.low), .v (.int .i64 a3.deletes), .v (.int .i64 a3.free), .v (.int .i64 a3.most.key), .v (.int .i64 a3.most.id), .v (.bool a3.gone.found), .v (.int .i64 a3.gone.item.key), .v (.int .i64 a3.gone.item.id), .v (.bool a3.least.found), .v (.int .i64 a3.least.item.key), .v (.int .i64 a3.least.item.id)] 43), (105, blk 105 [.v (.int .i64 0), .v (.int .i64 0), .v (.int .i64 0), .v (.int .i64 0), .v (.int .i64 0), .v (.int .i64 0), .v (.int .i64 0), .v (.int .i64 0), .v (.int .i64 0), .v (.int .i64 0), .v (.bool false), .v (.int .i64 0), .v (.int .i64 0), .v (.bool false), .v (.int .i64 0), .v (.int .i64 0)] 43), (106, blk 106 [.v (.int .i64 x1.e.op.time), .v (.bool x1.e.op.insert), .v (.int .i64 x1.e.op.item.key), .v (.int .i64 x1.e.op.item.id), .v (.bool x1.e.here), .v (.bool x1.e.took.found), .v (.int .i64 x1.e.took.item.key), .v (.int .i64 x1.e.took.item.id), .v (.int .i64 x1.left.index), .v (.int .i64 x1.left.gen), .v (.int .i64 x1.right.index), .v (.int .i64 x1.right.gen), .v (.int .i64 x1.size), .v (.int .i64 x1.sum.count.n), .v (.int .i64 x1.sum.count.sum), .v (.int .i64 x1.sum.count.low), .v (.int .i64 x1.sum.weight.n), .v (.int .i64 x1.sum.weight.sum), .v (.int .i64 x1.sum.weight.low), .v (.int .i64 x1.sum.deletes), .v (.int .i64 x1.sum.free), .v (.int .i64 x1.sum.most.key), .v (.int .i64 x1.sum.most.id), .v (.bool x1.sum.gone.found), .v (.int .i64 x1.sum.gone.item.key), .v (.int .i64 x1.sum.gone.item.id), .v (.bool x1.sum.least.found), .v (.int .i64 x1.sum.least.item.key), .v (.int .i64 x1.sum.least.item.id)] 70)]) ⟨(), (Option.some.inj H1).symm⟩ [(104, 101), (105, 102), (106, 103)] [_, _, _, _, _, _] rfl ⟨rfl, rfl, rfl, rfl, rfl, rfl, trivial⟩ ⟨rfl, (pl_ren rfl), rfl, (blk_ren rfl rfl), rfl, (vblk_ren rfl), rfl, (blk_ren rfl rfl), rfl, (blk_ren rfl rfl), rfl, (blk_ren rfl rfl), trivial⟩ rfl
          ·
            replace H1 := bif_f H1 h5
            refine G.rg ?_
            refine K.fieldAddr Y (gd0 rfl) rfl t70 rfl rfl ?_
            refine K.load1 Y (gd0 rfl) rfl rfl t3 rfl rfl ?_
            refine K.bin (V := .bool (x1.size == 0)) (gd0 rfl) rfl rfl (fun _ => rfl) rfl ?_
            refine K.move (.inl rfl) (gd0 rfl) rfl rfl ?_
            refine K.move (.inl rfl) (gd1 rfl rfl rfl (h1)) rfl rfl ?_
            refine K.fieldAddr Y (gd1 rfl rfl rfl (h1)) rfl t70 rfl rfl ?_
            refine K.load1 Y (gd1 rfl rfl rfl (h1)) rfl rfl t3 rfl rfl ?_
            refine K.bin (V := .bool (decide (a2 ≥ x1.size))) (gd1 rfl rfl rfl (h1)) rfl rfl (fun _ => rfl) rfl ?_
            refine K.pickF (gd0 rfl) rfl (h1) rfl rfl ?_
            refine K.move (.inl rfl) (gd0 rfl) rfl rfl ?_
            refine K.move (.inl rfl) (gd1 rfl rfl rfl (h3)) rfl rfl ?_
            refine K.bin (V := .bool (decide (a2 ≤ 0))) (gd1 rfl rfl rfl (h3)) rfl rfl (fun _ => rfl) rfl ?_
            refine K.move (.inl rfl) (gd1 rfl rfl rfl (h3)) rfl rfl ?_
            refine K.skip rfl rfl rfl rfl (h5) rfl ?_
            refine K.skip rfl rfl rfl rfl (h5) rfl ?_
            refine K.skip rfl rfl rfl rfl (h5) rfl ?_
            refine K.skip rfl rfl rfl rfl (h5) rfl ?_
            refine K.skip rfl rfl rfl rfl (h5) rfl ?_
            refine K.skip rfl rfl rfl rfl (h5) rfl ?_
            refine K.pickF (gd1 rfl rfl rfl (h3)) rfl (h5) rfl rfl ?_
            refine K.pickF (gd0 rfl) rfl (h3) rfl rfl ?_
            refine K.nil ?_
            refine At.next ?_
            refine G.cond rfl (fun h7 => ?_) (fun h7 => ?_)
            · cases h7
            ·
              refine G.skip ?_
              exact At.joined (σ := { v : Unit // x2 = Sum.inr v }) (Fs := fun q => [(0, .a (.c (.p 0 0))), (2, .a (.c (.v (.int .i64 a2)))), (4, .a (.c (.fn (.func g4) [2]))), (8, .a (.c (.p 104 0))), (11, .a (.c (.p 105 0))), (12, .a (.c (.p 106 0)))]) (Tl := fun q => [(1, plM 1 p1), (0, blk 0 [.p 1 0, .v (.int .i64 ri0), .v (.int .i64 rg0)] 74), (2, vblk 2 cv4 Tc4), (104, blk 104 [.v (.int .i64 a3.count.n), .v (.int .i64 a3.count.sum), .v (.int .i64 a3.count.low), .v (.int .i64 a3.weight.n), .v (.int .i64 a3.weight.sum), .v (.int .i64 a3.weight.low), .v (.int .i64 a3.deletes), .v (.int .i64 a3.free), .v (.int .i64 a3.most.key), .v (.int .i64 a3.most.id), .v (.bool a3.gone.found), .v (.int .i64 a3.gone.item.key), .v (.int .i64 a3.gone.item.id), .v (.bool a3.least.found), .v (.int .i64 a3.least.item.key), .v (.int .i64 a3.least.item.id)] 43), (105, blk 105 [.v (.int .i64 0), .v (.int .i64 0), .v (.int .i64 0), .v (.int .i64 0), .v (.int .i64 0), .v (.int .i64 0), .v (.int .i64 0), .v (.int .i64 0), .v (.int .i64 0), .v (.int .i64 0), .v (.bool false), .v (.int .i64 0), .v (.int .i64 0), .v (.bool false), .v (.int .i64 0), .v (.int .i64 0)] 43), (106, blk 106 [.v (.int .i64 x1.e.op.time), .v (.bool x1.e.op.insert), .v (.int .i64 x1.e.op.item.key), .v (.int .i64 x1.e.op.item.id), .v (.bool x1.e.here), .v (.bool x1.e.took.found), .v (.int .i64 x1.e.took.item.key), .v (.int .i64 x1.e.took.item.id), .v (.int .i64 x1.left.index), .v (.int .i64 x1.left.gen), .v (.int .i64 x1.right.index), .v (.int .i64 x1.right.gen), .v (.int .i64 x1.size), .v (.int .i64 x1.sum.count.n), .v (.int .i64 x1.sum.count.sum), .v (.int .i64 x1.sum.count.low), .v (.int .i64 x1.sum.weight.n), .v (.int .i64 x1.sum.weight.sum), .v (.int .i64 x1.sum.weight.low), .v (.int .i64 x1.sum.deletes), .v (.int .i64 x1.sum.free), .v (.int .i64 x1.sum.most.key), .v (.int .i64 x1.sum.most.id), .v (.bool x1.sum.gone.found), .v (.int .i64 x1.sum.gone.item.key), .v (.int .i64 x1.sum.gone.item.id), .v (.bool x1.sum.least.found), .v (.int .i64 x1.sum.least.item.key), .v (.int .i64 x1.sum.least.item.id)] 70)]) ⟨(), (Option.some.inj H1).symm⟩ [(104, 101), (105, 102), (106, 103)] [_, _, _, _, _, _] rfl ⟨rfl, rfl, rfl, rfl, rfl, rfl, trivial⟩ ⟨rfl, (pl_ren rfl), rfl, (blk_ren rfl rfl), rfl, (vblk_ren rfl), rfl, (blk_ren rfl rfl), rfl, (blk_ren rfl rfl), rfl, (blk_ren rfl rfl), trivial⟩ rfl
    ·
      rintro ⟨v2, rfl⟩
      replace H0 := sum_r H0
      show G _ _ [(0, .a (.c (.p 0 0))), (2, .a (.c (.v (.int .i64 a2)))), (4, .a (.c (.fn (.func g4) [2]))), (8, .a (.c (.p 104 0))), (11, .a (.c (.p 105 0))), (12, .a (.c (.p 106 0)))] [(1, some (plM 1 p1)), (0, some (blk 0 [.p 1 0, .v (.int .i64 ri0), .v (.int .i64 rg0)] 74)), (2, some (vblk 2 cv4 Tc4)), (104, some (blk 104 [.v (.int .i64 a3.count.n), .v (.int .i64 a3.count.sum), .v (.int .i64 a3.count.low), .v (.int .i64 a3.weight.n), .v (.int .i64 a3.weight.sum), .v (.int .i64 a3.weight.low), .v (.int .i64 a3.deletes), .v (.int .i64 a3.free), .v (.int .i64 a3.most.key), .v (.int .i64 a3.most.id), .v (.bool a3.gone.found), .v (.int .i64 a3.gone.item.key), .v (.int .i64 a3.gone.item.id), .v (.bool a3.least.found), .v (.int .i64 a3.least.item.key), .v (.int .i64 a3.least.item.id)] 43)), (105, some (blk 105 [.v (.int .i64 0), .v (.int .i64 0), .v (.int .i64 0), .v (.int .i64 0), .v (.int .i64 0), .v (.int .i64 0), .v (.int .i64 0), .v (.int .i64 0), .v (.int .i64 0), .v (.int .i64 0), .v (.bool false), .v (.int .i64 0), .v (.int .i64 0), .v (.bool false), .v (.int .i64 0), .v (.int .i64 0)] 43)), (106, some (blk 106 [.v (.int .i64 x1.e.op.time), .v (.bool x1.e.op.insert), .v (.int .i64 x1.e.op.item.key), .v (.int .i64 x1.e.op.item.id), .v (.bool x1.e.here), .v (.bool x1.e.took.found), .v (.int .i64 x1.e.took.item.key), .v (.int .i64 x1.e.took.item.id), .v (.int .i64 x1.left.index), .v (.int .i64 x1.left.gen), .v (.int .i64 x1.right.index), .v (.int .i64 x1.right.gen), .v (.int .i64 x1.size), .v (.int .i64 x1.sum.count.n), .v (.int .i64 x1.sum.count.sum), .v (.int .i64 x1.sum.count.low), .v (.int .i64 x1.sum.weight.n), .v (.int .i64 x1.sum.weight.sum), .v (.int .i64 x1.sum.weight.low), .v (.int .i64 x1.sum.deletes), .v (.int .i64 x1.sum.free), .v (.int .i64 x1.sum.most.key), .v (.int .i64 x1.sum.most.id), .v (.bool x1.sum.gone.found), .v (.int .i64 x1.sum.gone.item.key), .v (.int .i64 x1.sum.gone.item.id), .v (.bool x1.sum.least.found), .v (.int .i64 x1.sum.least.item.key), .v (.int .i64 x1.sum.least.item.id)] 70))] _ _
      refine G.seq ?_
      obtain ⟨x7, hx7, H0⟩ := bnd H0
      refine G.rg ?_
      refine K.move (.inl rfl) (gd0 rfl) rfl rfl ?_
      refine K.fieldAddr Y (gd0 rfl) rfl t70 rfl rfl ?_
      refine K.loadS Y [_, _] (gd0 rfl) rfl rfl t68 rfl rfl rfl ?_
      refine K.callR [(.func 50, _), ((.tmp 45), _), ((.tmp 47), _)] (Tree_getM_con (k := k) hx7 0 1) (toFn_func (cf 50 rfl) rfl) (gd0 rfl) ⟨rfl, rfl, rfl, trivial⟩ ⟨rfl, rfl, trivial⟩ rfl rfl rfl ?_
      refine K.field1 Y (gd0 rfl) rfl t70 rfl t3 rfl rfl ?_
      refine K.move (.inr rfl) (gd0 rfl) rfl rfl ?_
      refine K.nil ?_
      refine At.next ?_
      refine G.seq ?_
      obtain ⟨x8, hx8, H0⟩ := bnd H0
      refine G.rg ?_
      refine K.move (.inl rfl) (gd0 rfl) rfl rfl ?_
      refine K.fieldAddr Y (gd0 rfl) rfl t70 rfl rfl ?_
      refine K.loadS Y [_, _] (gd0 rfl) rfl rfl t68 rfl rfl rfl ?_
      refine K.move (.inl rfl) (gd0 rfl) rfl rfl ?_
      refine K.loadS Y [_, _, _, _, _, _, _, _, _, _, _, _, _, _, _, _] (gd0 rfl) rfl rfl t43 rfl rfl rfl ?_
      refine K.move (.inl rfl) (gd0 rfl) rfl rfl ?_
      refine K.callR [(.func 62, _), ((.tmp 51), _), ((.tmp 53), _), ((.tmp 54), _), ((.tmp 55), _), ((.tmp 56), _)] (ih hx8) (toFn_func (cf 62 rfl) rfl) (gd0 rfl) ⟨rfl, rfl, rfl, rfl, rfl, rfl, trivial⟩ ⟨rfl, rfl, rfl, trivial⟩ rfl rfl rfl ?_
      refine K.move (.inl rfl) (gd0 rfl) rfl rfl ?_
      refine K.extract (gd0 rfl) rfl rfl rfl ?_
      refine K.extract (gd0 rfl) rfl rfl rfl ?_
      refine K.move (.inr rfl) (gd0 rfl) rfl rfl ?_
      refine K.store Y [_, _, _, _, _, _, _, _, _, _, _, _, _, _, _, _] (gd0 rfl) rfl rfl rfl t43 rfl rfl rfl rfl rfl ?_
      refine K.nil ?_
      refine At.next ?_
      refine G.seq ?_
      refine G.seq ?_
      refine G.rg ?_
      refine K.move (.inl rfl) (gd0 rfl) rfl rfl ?_
      refine K.bin (V := .bool (decide (x8.1 ≥ 0))) (gd0 rfl) rfl rfl (fun _ => rfl) rfl ?_
      refine K.nil ?_
      refine At.next ?_
      refine G.cond rfl (fun h8 => ?_) (fun h8 => ?_)
      ·
        replace H0 := bif_t H0 h8
        refine G.seq ?_
        refine G.rd mixed ?_
        refine K.move (.inl rfl) (gd0 rfl) rfl rfl ?_
        refine K.loadS Y [_, _, _, _, _, _, _, _, _, _, _, _, _, _, _, _] (gd0 rfl) rfl rfl t43 rfl rfl rfl ?_
        refine K.move (.inr rfl) (gd0 rfl) rfl rfl ?_
        refine K.store Y [_, _, _, _, _, _, _, _, _, _, _, _, _, _, _, _] (gd0 rfl) rfl rfl rfl t43 rfl rfl rfl rfl rfl ?_
        refine K.nil ?_
        refine ⟨by kernel_rfl, ?_⟩
        refine At.next ?_
        refine G.ret ?_
        refine At.over_ret ?_
        refine At.done Y [(.tmp 10, .c _), (.cell 11 43, .agg [_, _, _, _, _, _, _, _, _, _, _, _, _, _, _, _])] rfl ⟨.tmp rfl, .st rfl rfl t43 rfl rfl, trivial⟩ (to' := [(0, _), (1, _), (2, _)]) ⟨rfl, rfl, rfl, trivial⟩ ?_ ?_ rfl rfl rfl (.inl rfl)
        · cases H0; rfl
        · cases H0; rfl
      ·
        replace H0 := bif_f H0 h8
        refine G.skip ?_
        refine At.next ?_
        refine G.seq ?_
        obtain ⟨x9, hx9, H0⟩ := bnd H0
        refine G.rg ?_
        refine K.fieldAddr Y (gd0 rfl) rfl t70 rfl rfl ?_
        refine K.loadS Y [_, _, _, _, _, _, _, _] (gd0 rfl) rfl rfl t39 rfl rfl rfl ?_
        refine K.mkIface Y (gd0 rfl) rfl (mkI Try.underlying39 rfl) rfl ?_
        refine K.callR [((.tmp 66), _)] (wave_Mark_Sum_con (k := k) hx9) (toFn_invoke (cf 96 rfl) (me39_96) rfl) (gd0 rfl) ⟨rfl, trivial⟩ trivial rfl rfl rfl ?_
        refine K.alloc Y 107 [_, _, _, _, _, _, _, _, _, _, _, _, _, _, _, _] (gd0 rfl) t43 rfl rfl rfl rfl rfl ?_
        refine K.store Y [_, _, _, _, _, _, _, _, _, _, _, _, _, _, _, _] (gd0 rfl) rfl rfl rfl t43 rfl rfl rfl rfl rfl ?_
        refine K.nil ?_
        refine At.next ?_
        obtain ⟨x10, H1, H0⟩ := bnd H0
        refine G.seqJ (σ := { v : Unit // x10 = Sum.inr v }) (fun q => [(0, .a (.c (.p 0 0))), (2, .a (.c (.v (.int .i64 a2)))), (4, .a (.c (.fn (.func g4) [2]))), (8, .a (.c (.p 108 0))), (11, .a (.c (.p 109 0))), (12, .a (.c (.p 110 0))), (13, .a (.c (.v (.int .i64 x7.size)))), (15, .a (.c (.p 111 0)))]) (fun q => [(1, plM 1 p1), (0, blk 0 [.p 1 0, .v (.int .i64 ri0), .v (.int .i64 rg0)] 74), (2, vblk 2 cv4 Tc4), (108, blk 108 [.v (.int .i64 x8.2.count.n), .v (.int .i64 x8.2.count.sum), .v (.int .i64 x8.2.count.low), .v (.int .i64 x8.2.weight.n), .v (.int .i64 x8.2.weight.sum), .v (.int .i64 x8.2.weight.low), .v (.int .i64 x8.2.deletes), .v (.int .i64 x8.2.free), .v (.int .i64 x8.2.most.key), .v (.int .i64 x8.2.most.id), .v (.bool x8.2.gone.found), .v (.int .i64 x8.2.gone.item.key), .v (.int .i64 x8.2.gone.item.id), .v (.bool x8.2.least.found), .v (.int .i64 x8.2.least.item.key), .v (.int .i64 x8.2.least.item.id)] 43), (109, blk 109 [.v (.int .i64 0), .v (.int .i64 0), .v (.int .i64 0), .v (.int .i64 0), .v (.int .i64 0), .v (.int .i64 0), .v (.int .i64 0), .v (.int .i64 0), .v (.int .i64 0), .v (.int .i64 0), .v (.bool false), .v (.int .i64 0), .v (.int .i64 0), .v (.bool false), .v (.int .i64 0), .v (.int .i64 0)] 43), (110, blk 110 [.v (.int .i64 x1.e.op.time), .v (.bool x1.e.op.insert), .v (.int .i64 x1.e.op.item.key), .v (.int .i64 x1.e.op.item.id), .v (.bool x1.e.here), .v (.bool x1.e.took.found), .v (.int .i64 x1.e.took.item.key), .v (.int .i64 x1.e.took.item.id), .v (.int .i64 x1.left.index), .v (.int .i64 x1.left.gen), .v (.int .i64 x1.right.index), .v (.int .i64 x1.right.gen), .v (.int .i64 x1.size), .v (.int .i64 x1.sum.count.n), .v (.int .i64 x1.sum.count.sum), .v (.int .i64 x1.sum.count.low), .v (.int .i64 x1.sum.weight.n), .v (.int .i64 x1.sum.weight.sum), .v (.int .i64 x1.sum.weight.low), .v (.int .i64 x1.sum.deletes), .v (.int .i64 x1.sum.free), .v (.int .i64 x1.sum.most.key), .v (.int .i64 x1.sum.most.id), .v (.bool x1.sum.gone.found), .v (.int .i64 x1.sum.gone.item.key), .v (.int .i64 x1.sum.gone.item.id), .v (.bool x1.sum.least.found), .v (.int .i64 x1.sum.least.item.key), .v (.int .i64 x1.sum.least.item.id)] 70), (111, blk 111 [.v (.int .i64 x9.count.n), .v (.int .i64 x9.count.sum), .v (.int .i64 x9.count.low), .v (.int .i64 x9.weight.n), .v (.int .i64 x9.weight.sum), .v (.int .i64 x9.weight.low), .v (.int .i64 x9.deletes), .v (.int .i64 x9.free), .v (.int .i64 x9.most.key), .v (.int .i64 x9.most.id), .v (.bool x9.gone.found), .v (.int .i64 x9.gone.item.key), .v (.int .i64 x9.gone.item.id), .v (.bool x9.least.found), .v (.int .i64 x9.least.item.key), .v (.int .i64 x9.least.item.id)] 43)]) ?_ ?_
        ·
          refine G.seq ?_
          rcases Bool.eq_false_or_eq_true (decide (a2 ≤ x7.size)) with h9 | h9
          ·
            replace H1 := bif_t H1 h9
            obtain ⟨x11, hx11, H1⟩ := bnd H1
            refine G.rg ?_
            refine K.move (.inl rfl) (gd0 rfl) rfl rfl ?_
            refine K.move (.inl rfl) (gd0 rfl) rfl rfl ?_
            refine K.bin (V := .bool (decide (a2 ≤ x7.size))) (gd0 rfl) rfl rfl (fun _ => rfl) rfl ?_
            refine K.move (.inl rfl) (gd0 rfl) rfl rfl ?_
            refine K.move (.inl rfl) (gd1 rfl rfl rfl (h9)) rfl rfl ?_
            refine K.loadS Y [_, _, _, _, _, _, _, _, _, _, _, _, _, _, _, _] (gd1 rfl rfl rfl (h9)) rfl rfl t43 rfl rfl rfl ?_
            refine K.loadS Y [_, _, _, _, _, _, _, _, _, _, _, _, _, _, _, _] (gd1 rfl rfl rfl (h9)) rfl rfl t43 rfl rfl rfl ?_
            refine K.callR [((.tmp 72), _), ((.tmp 73), _), ((.tmp 74), _)] (hm4 2 hx11) (toFn_val cg4 rfl) (gd1 rfl rfl rfl (h9)) ⟨rfl, rfl, rfl, trivial⟩ ⟨rfl, trivial⟩ rfl rfl rfl ?_
            refine K.pickT (gd0 rfl) rfl (h9) rfl rfl ?_
            refine K.nil ?_
            refine At.next ?_
            refine G.cond rfl (fun h10 => ?_) (fun h10 => ?_)
            ·
              replace H1 := bif_t H1 h10
              refine G.seq ?_
              refine G.rd mixed ?_
              refine K.move (.inl rfl) (gd0 rfl) rfl rfl ?_
              refine K.loadS Y [_, _, _, _, _, _, _, _, _, _, _, _, _, _, _, _] (gd0 rfl) rfl rfl t43 rfl rfl rfl ?_
              refine K.move (.inr rfl) (gd0 rfl) rfl rfl ?_
              refine K.store Y [_, _, _, _, _, _, _, _, _, _, _, _, _, _, _, _] (gd0 rfl) rfl rfl rfl t43 rfl rfl rfl rfl rfl ?_
              refine K.nil ?_
              refine ⟨by kernel_rfl, ?_⟩
              refine At.next ?_
              refine G.ret ?_
              refine At.over_ret ?_
              cases H1
              replace H0 := sum_l H0
              refine At.done Y [(.tmp 10, .c _), (.cell 11 43, .agg [_, _, _, _, _, _, _, _, _, _, _, _, _, _, _, _])] rfl ⟨.tmp rfl, .st rfl rfl t43 rfl rfl, trivial⟩ (to' := [(0, _), (1, _), (2, _)]) ⟨rfl, rfl, rfl, trivial⟩ ?_ ?_ rfl rfl rfl (.inl rfl)
              · cases H0; rfl
              · cases H0; rfl
            ·
              replace H1 := bif_f H1 h10
              refine G.skip ?_
              exact At.joined (σ := { v : Unit // x10 = Sum.inr v }) (Fs := fun q => [(0, .a (.c (.p 0 0))), (2, .a (.c (.v (.int .i64 a2)))), (4, .a (.c (.fn (.func g4) [2]))), (8, .a (.c (.p 108 0))), (11, .a (.c (.p 109 0))), (12, .a (.c (.p 110 0))), (13, .a (.c (.v (.int .i64 x7.size)))), (15, .a (.c (.p 111 0)))]) (Tl := fun q => [(1, plM 1 p1), (0, blk 0 [.p 1 0, .v (.int .i64 ri0), .v (.int .i64 rg0)] 74), (2, vblk 2 cv4 Tc4), (108, blk 108 [.v (.int .i64 x8.2.count.n), .v (.int .i64 x8.2.count.sum), .v (.int .i64 x8.2.count.low), .v (.int .i64 x8.2.weight.n), .v (.int .i64 x8.2.weight.sum), .v (.int .i64 x8.2.weight.low), .v (.int .i64 x8.2.deletes), .v (.int .i64 x8.2.free), .v (.int .i64 x8.2.most.key), .v (.int .i64 x8.2.most.id), .v (.bool x8.2.gone.found), .v (.int .i64 x8.2.gone.item.key), .v (.int .i64 x8.2.gone.item.id), .v (.bool x8.2.least.found), .v (.int .i64 x8.2.least.item.key), .v (.int .i64 x8.2.least.item.id)] 43), (109, blk 109 [.v (.int .i64 0), .v (.int .i64 0), .v (.int .i64 0), .v (.int .i64 0), .v (.int .i64 0), .v (.int .i64 0), .v (.int .i64 0), .v (.int .i64 0), .v (.int .i64 0), .v (.int .i64 0), .v (.bool false), .v (.int .i64 0), .v (.int .i64 0), .v (.bool false), .v (.int .i64 0), .v (.int .i64 0)] 43), (110, blk 110 [.v (.int .i64 x1.e.op.time), .v (.bool x1.e.op.insert), .v (.int .i64 x1.e.op.item.key), .v (.int .i64 x1.e.op.item.id), .v (.bool x1.e.here), .v (.bool x1.e.took.found), .v (.int .i64 x1.e.took.item.key), .v (.int .i64 x1.e.took.item.id), .v (.int .i64 x1.left.index), .v (.int .i64 x1.left.gen), .v (.int .i64 x1.right.index), .v (.int .i64 x1.right.gen), .v (.int .i64 x1.size), .v (.int .i64 x1.sum.count.n), .v (.int .i64 x1.sum.count.sum), .v (.int .i64 x1.sum.count.low), .v (.int .i64 x1.sum.weight.n), .v (.int .i64 x1.sum.weight.sum), .v (.int .i64 x1.sum.weight.low), .v (.int .i64 x1.sum.deletes), .v (.int .i64 x1.sum.free), .v (.int .i64 x1.sum.most.key), .v (.int .i64 x1.sum.most.id), .v (.bool x1.sum.gone.found), .v (.int .i64 x1.sum.gone.item.key), .v (.int .i64 x1.sum.gone.item.id), .v (.bool x1.sum.least.found), .v (.int .i64 x1.sum.least.item.key), .v (.int .i64 x1.sum.least.item.id)] 70), (111, blk 111 [.v (.int .i64 x9.count.n), .v (.int .i64 x9.count.sum), .v (.int .i64 x9.count.low), .v (.int .i64 x9.weight.n), .v (.int .i64 x9.weight.sum), .v (.int .i64 x9.weight.low), .v (.int .i64 x9.deletes), .v (.int .i64 x9.free), .v (.int .i64 x9.most.key), .v (.int .i64 x9.most.id), .v (.bool x9.gone.found), .v (.int .i64 x9.gone.item.key), .v (.int .i64 x9.gone.item.id), .v (.bool x9.least.found), .v (.int .i64 x9.least.item.key), .v (.int .i64 x9.least.item.id)] 43)]) ⟨(), (Option.some.inj H1).symm⟩ [(108, 104), (109, 105), (110, 106), (111, 107)] [_, _, _, _, _, _, _] rfl ⟨rfl, rfl, rfl, rfl, rfl, rfl, rfl, rfl, trivial⟩ ⟨rfl, (pl_ren rfl), rfl, (blk_ren rfl rfl), rfl, (vblk_ren rfl), rfl, (blk_ren rfl rfl), rfl, (blk_ren rfl rfl), rfl, (blk_ren rfl rfl), rfl, (blk_ren rfl rfl), trivial⟩ rfl
          ·
            replace H1 := bif_f H1 h9
            refine G.rg ?_
            refine K.move (.inl rfl) (gd0 rfl) rfl rfl ?_
            refine K.move (.inl rfl) (gd0 rfl) rfl rfl ?_
            refine K.bin (V := .bool (decide (a2 ≤ x7.size))) (gd0 rfl) rfl rfl (fun _ => rfl) rfl ?_
            refine K.move (.inl rfl) (gd0 rfl) rfl rfl ?_
            refine K.skip rfl rfl rfl rfl (h9) rfl ?_
            refine K.skip rfl rfl rfl rfl (h9) rfl ?_
            refine K.skip rfl rfl rfl rfl (h9) rfl ?_
            refine K.skip rfl rfl rfl rfl (h9) rfl ?_
            refine K.pickF (gd0 rfl) rfl (h9) rfl rfl ?_
            refine K.nil ?_
            refine At.next ?_
            refine G.cond rfl (fun h11 => ?_) (fun h11 => ?_)
            · cases h11
            ·
              refine G.skip ?_
              exact At.joined (σ := { v : Unit // x10 = Sum.inr v }) (Fs := fun q => [(0, .a (.c (.p 0 0))), (2, .a (.c (.v (.int .i64 a2)))), (4, .a (.c (.fn (.func g4) [2]))), (8, .a (.c (.p 108 0))), (11, .a (.c (.p 109 0))), (12, .a (.c (.p 110 0))), (13, .a (.c (.v (.int .i64 x7.size)))), (15, .a (.c (.p 111 0)))]) (Tl := fun q => [(1, plM 1 p1), (0, blk 0 [.p 1 0, .v (.int .i64 ri0), .v (.int .i64 rg0)] 74), (2, vblk 2 cv4 Tc4), (108, blk 108 [.v (.int .i64 x8.2.count.n), .v (.int .i64 x8.2.count.sum), .v (.int .i64 x8.2.count.low), .v (.int .i64 x8.2.weight.n), .v (.int .i64 x8.2.weight.sum), .v (.int .i64 x8.2.weight.low), .v (.int .i64 x8.2.deletes), .v (.int .i64 x8.2.free), .v (.int .i64 x8.2.most.key), .v (.int .i64 x8.2.most.id), .v (.bool x8.2.gone.found), .v (.int .i64 x8.2.gone.item.key), .v (.int .i64 x8.2.gone.item.id), .v (.bool x8.2.least.found), .v (.int .i64 x8.2.least.item.key), .v (.int .i64 x8.2.least.item.id)] 43), (109, blk 109 [.v (.int .i64 0), .v (.int .i64 0), .v (.int .i64 0), .v (.int .i64 0), .v (.int .i64 0), .v (.int .i64 0), .v (.int .i64 0), .v (.int .i64 0), .v (.int .i64 0), .v (.int .i64 0), .v (.bool false), .v (.int .i64 0), .v (.int .i64 0), .v (.bool false), .v (.int .i64 0), .v (.int .i64 0)] 43), (110, blk 110 [.v (.int .i64 x1.e.op.time), .v (.bool x1.e.op.insert), .v (.int .i64 x1.e.op.item.key), .v (.int .i64 x1.e.op.item.id), .v (.bool x1.e.here), .v (.bool x1.e.took.found), .v (.int .i64 x1.e.took.item.key), .v (.int .i64 x1.e.took.item.id), .v (.int .i64 x1.left.index), .v (.int .i64 x1.left.gen), .v (.int .i64 x1.right.index), .v (.int .i64 x1.right.gen), .v (.int .i64 x1.size), .v (.int .i64 x1.sum.count.n), .v (.int .i64 x1.sum.count.sum), .v (.int .i64 x1.sum.count.low), .v (.int .i64 x1.sum.weight.n), .v (.int .i64 x1.sum.weight.sum), .v (.int .i64 x1.sum.weight.low), .v (.int .i64 x1.sum.deletes), .v (.int .i64 x1.sum.free), .v (.int .i64 x1.sum.most.key), .v (.int .i64 x1.sum.most.id), .v (.bool x1.sum.gone.found), .v (.int .i64 x1.sum.gone.item.key), .v (.int .i64 x1.sum.gone.item.id), .v (.bool x1.sum.least.found), .v (.int .i64 x1.sum.least.item.key), .v (.int .i64 x1.sum.least.item.id)] 70), (111, blk 111 [.v (.int .i64 x9.count.n), .v (.int .i64 x9.count.sum), .v (.int .i64 x9.count.low), .v (.int .i64 x9.weight.n), .v (.int .i64 x9.weight.sum), .v (.int .i64 x9.weight.low), .v (.int .i64 x9.deletes), .v (.int .i64 x9.free), .v (.int .i64 x9.most.key), .v (.int .i64 x9.most.id), .v (.bool x9.gone.found), .v (.int .i64 x9.gone.item.key), .v (.int .i64 x9.gone.item.id), .v (.bool x9.least.found), .v (.int .i64 x9.least.item.key), .v (.int .i64 x9.least.item.id)] 43)]) ⟨(), (Option.some.inj H1).symm⟩ [(108, 104), (109, 105), (110, 106), (111, 107)] [_, _, _, _, _, _, _] rfl ⟨rfl, rfl, rfl, rfl, rfl, rfl, rfl, rfl, trivial⟩ ⟨rfl, (pl_ren rfl), rfl, (blk_ren rfl rfl), rfl, (vblk_ren rfl), rfl, (blk_ren rfl rfl), rfl, (blk_ren rfl rfl), rfl, (blk_ren rfl rfl), rfl, (blk_ren rfl rfl), trivial⟩ rfl
        ·
          rintro ⟨v10, rfl⟩
          replace H0 := sum_r H0
          show G _ _ [(0, .a (.c (.p 0 0))), (2, .a (.c (.v (.int .i64 a2)))), (4, .a (.c (.fn (.func g4) [2]))), (8, .a (.c (.p 108 0))), (11, .a (.c (.p 109 0))), (12, .a (.c (.p 110 0))), (13, .a (.c (.v (.int .i64 x7.size)))), (15, .a (.c (.p 111 0)))] [(1, some (plM 1 p1)), (0, some (blk 0 [.p 1 0, .v (.int .i64 ri0), .v (.int .i64 rg0)] 74)), (2, some (vblk 2 cv4 Tc4)), (108, some (blk 108 [.v (.int .i64 x8.2.count.n), .v (.int .i64 x8.2.count.sum), .v (.int .i64 x8.2.count.low), .v (.int .i64 x8.2.weight.n), .v (.int .i64 x8.2.weight.sum), .v (.int .i64 x8.2.weight.low), .v (.int .i64 x8.2.deletes), .v (.int .i64 x8.2.free), .v (.int .i64 x8.2.most.key), .v (.int .i64 x8.2.most.id), .v (.bool x8.2.gone.found), .v (.int .i64 x8.2.gone.item.key), .v (.int .i64 x8.2.gone.item.id), .v (.bool x8.2.least.found), .v (.int .i64 x8.2.least.item.key), .v (.int .i64 x8.2.least.item.id)] 43)), (109, some (blk 109 [.v (.int .i64 0), .v (.int .i64 0), .v (.int .i64 0), .v (.int .i64 0), .v (.int .i64 0), .v (.int .i64 0), .v (.int .i64 0), .v (.int .i64 0), .v (.int .i64 0), .v (.int .i64 0), .v (.bool false), .v (.int .i64 0), .v (.int .i64 0), .v (.bool false), .v (.int .i64 0), .v (.int .i64 0)] 43)), (110, some (blk 110 [.v (.int .i64 x1.e.op.time), .v (.bool x1.e.op.insert), .v (.int .i64 x1.e.op.item.key), .v (.int .i64 x1.e.op.item.id), .v (.bool x1.e.here), .v (.bool x1.e.took.found), .v (.int .i64 x1.e.took.item.key), .v (.int .i64 x1.e.took.item.id), .v (.int .i64 x1.left.index), .v (.int .i64 x1.left.gen), .v (.int .i64 x1.right.index), .v (.int .i64 x1.right.gen), .v (.int .i64 x1.size), .v (.int .i64 x1.sum.count.n), .v (.int .i64 x1.sum.count.sum), .v (.int .i64 x1.sum.count.low), .v (.int .i64 x1.sum.weight.n), .v (.int .i64 x1.sum.weight.sum), .v (.int .i64 x1.sum.weight.low), .v (.int .i64 x1.sum.deletes), .v (.int .i64 x1.sum.free), .v (.int .i64 x1.sum.most.key), .v (.int .i64 x1.sum.most.id), .v (.bool x1.sum.gone.found), .v (.int .i64 x1.sum.gone.item.key), .v (.int .i64 x1.sum.gone.item.id), .v (.bool x1.sum.least.found), .v (.int .i64 x1.sum.least.item.key), .v (.int .i64 x1.sum.least.item.id)] 70)), (111, some (blk 111 [.v (.int .i64 x9.count.n), .v (.int .i64 x9.count.sum), .v (.int .i64 x9.count.low), .v (.int .i64 x9.weight.n), .v (.int .i64 x9.weight.sum), .v (.int .i64 x9.weight.low), .v (.int .i64 x9.deletes), .v (.int .i64 x9.free), .v (.int .i64 x9.most.key), .v (.int .i64 x9.most.id), .v (.bool x9.gone.found), .v (.int .i64 x9.gone.item.key), .v (.int .i64 x9.gone.item.id), .v (.bool x9.least.found), .v (.int .i64 x9.least.item.key), .v (.int .i64 x9.least.item.id)] 43))] _ _
          refine G.seq ?_
          obtain ⟨x12, hx12, H0⟩ := bnd H0
          obtain ⟨x13, hx13, H0⟩ := bnd H0
          refine G.rd mixed ?_
          refine K.move (.inl rfl) (gd0 rfl) rfl rfl ?_
          refine K.fieldAddr Y (gd0 rfl) rfl t70 rfl rfl ?_
          refine K.loadS Y [_, _] (gd0 rfl) rfl rfl t68 rfl rfl rfl ?_
          refine K.move (.inl rfl) (gd0 rfl) rfl rfl ?_
          refine K.move (.inl rfl) (gd0 rfl) rfl rfl ?_
          refine K.bin (V := .int .i64 (w64 (a2 - x7.size))) (gd0 rfl) rfl rfl (fun _ => rfl) rfl ?_
          refine K.bin (V := .int .i64 (w64 ((w64 (a2 - x7.size)) - 1))) (gd0 rfl) rfl rfl (fun _ => rfl) rfl ?_
          refine K.loadS Y [_, _, _, _, _, _, _, _, _, _, _, _, _, _, _, _] (gd0 rfl) rfl rfl t43 rfl rfl rfl ?_
          refine K.mkIface Y (gd0 rfl) rfl (mkI Try.underlying43 rfl) rfl ?_
          refine K.loadS Y [_, _, _, _, _, _, _, _, _, _, _, _, _, _, _, _] (gd0 rfl) rfl rfl t43 rfl rfl rfl ?_
          refine K.callR [((.tmp 88), _), ((.tmp 89), _)] (wave_Swell_Plus_con (k := k) hx12) (toFn_invoke (cf 101 rfl) (me43_101) rfl) (gd0 rfl) ⟨rfl, rfl, trivial⟩ trivial rfl rfl rfl ?_
          refine K.move (.inl rfl) (gd0 rfl) rfl rfl ?_
          refine K.callR [(.func 62, _), ((.tmp 80), _), ((.tmp 82), _), ((.tmp 86), _), ((.tmp 90), _), ((.tmp 91), _)] (ih hx13) (toFn_func (cf 62 rfl) rfl) (gd0 rfl) ⟨rfl, rfl, rfl, rfl, rfl, rfl, trivial⟩ ⟨rfl, rfl, rfl, trivial⟩ rfl rfl rfl ?_
          refine K.move (.inl rfl) (gd0 rfl) rfl rfl ?_
          refine K.extract (gd0 rfl) rfl rfl rfl ?_
          refine K.extract (gd0 rfl) rfl rfl rfl ?_
          refine K.move (.inr rfl) (gd0 rfl) rfl rfl ?_
          refine K.store Y [_, _, _, _, _, _, _, _, _, _, _, _, _, _, _, _] (gd0 rfl) rfl rfl rfl t43 rfl rfl rfl rfl rfl ?_
          refine K.nil ?_
          refine ⟨by kernel_rfl, ?_⟩
          refine At.next ?_
          refine G.seq ?_
          refine G.seq ?_
          refine G.rg ?_
          refine K.move (.inl rfl) (gd0 rfl) rfl rfl ?_
          refine K.bin (V := .bool (decide (x13.1 ≥ 0))) (gd0 rfl) rfl rfl (fun _ => rfl) rfl ?_
          refine K.nil ?_
          refine At.next ?_
          refine G.cond rfl (fun h12 => ?_) (fun h12 => ?_)
          ·
            replace H0 := bif_t H0 h12
            refine G.rg ?_
            refine K.move (.inl rfl) (gd0 rfl) rfl rfl ?_
            refine K.move (.inl rfl) (gd0 rfl) rfl rfl ?_
            refine K.bin (V := .int .i64 (w64 (x7.size + 1))) (gd0 rfl) rfl rfl (fun _ => rfl) rfl ?_
            refine K.bin (V := .int .i64 (w64 (x13.1 + (w64 (x7.size + 1))))) (gd0 rfl) rfl rfl (fun _ => rfl) rfl ?_
            refine K.move (.inr rfl) (gd0 rfl) rfl rfl ?_
            refine K.nil ?_
            refine At.next ?_
            refine G.seq ?_
            refine G.rd mixed ?_
            refine K.move (.inl rfl) (gd0 rfl) rfl rfl ?_
            refine K.loadS Y [_, _, _, _, _, _, _, _, _, _, _, _, _, _, _, _] (gd0 rfl) rfl rfl t43 rfl rfl rfl ?_
            refine K.move (.inr rfl) (gd0 rfl) rfl rfl ?_
            refine K.store Y [_, _, _, _, _, _, _, _, _, _, _, _, _, _, _, _] (gd0 rfl) rfl rfl rfl t43 rfl rfl rfl rfl rfl ?_
            refine K.nil ?_
            refine ⟨by kernel_rfl, ?_⟩
            refine At.next ?_
            refine G.ret ?_
            refine At.done Y [(.tmp 10, .c _), (.cell 11 43, .agg [_, _, _, _, _, _, _, _, _, _, _, _, _, _, _, _])] rfl ⟨.tmp rfl, .st rfl rfl t43 rfl rfl, trivial⟩ (to' := [(0, _), (1, _), (2, _)]) ⟨rfl, rfl, rfl, trivial⟩ ?_ ?_ rfl rfl rfl (.inl rfl)
            · cases H0; rfl
            · cases H0; rfl
          ·
            replace H0 := bif_f H0 h12
            refine G.skip ?_
            refine At.next ?_
            refine G.seq ?_
            refine G.rd mixed ?_
            refine K.move (.inl rfl) (gd0 rfl) rfl rfl ?_
            refine K.loadS Y [_, _, _, _, _, _, _, _, _, _, _, _, _, _, _, _] (gd0 rfl) rfl rfl t43 rfl rfl rfl ?_
            refine K.move (.inr rfl) (gd0 rfl) rfl rfl ?_
            refine K.store Y [_, _, _, _, _, _, _, _, _, _, _, _, _, _, _, _] (gd0 rfl) rfl rfl rfl t43 rfl rfl rfl rfl rfl ?_
            refine K.nil ?_
            refine ⟨by kernel_rfl, ?_⟩
            refine At.next ?_
            refine G.ret ?_
            refine At.done Y [(.tmp 10, .c _), (.cell 11 43, .agg [_, _, _, _, _, _, _, _, _, _, _, _, _, _, _, _])] rfl ⟨.tmp rfl, .st rfl rfl t43 rfl rfl, trivial⟩ (to' := [(0, _), (1, _), (2, _)]) ⟨rfl, rfl, rfl, trivial⟩ ?_ ?_ rfl rfl rfl (.inl rfl)
            · cases H0; rfl
            · cases H0; rfl
theorem Tree_firstM_f14_con {k n : Nat} {g4 : FuncId} {fn4 : TSwell → TSwell → Option Bool} {cv4 : List Value} {Tc4 : TypeId} (cg4 : fnB Try.prog g4 = true) (hm4 : ∀ (c : Nat) {z0 : TSwell} {z1 : TSwell} {y : Bool}, fn4 z0 z1 = some y → SCon Try.prog g4 [.a (.agg ((eTSwell z0).map .v)), .a (.agg ((eTSwell z1).map .v)), SV.p c 0] [(c, vblk c cv4 Tc4)] (SV.b y) [(c, vblk c cv4 Tc4)] []) {p1 : Pool (TNode TMark TSwell)} {a1 : TRef} {a2 : Int} {a3 : TSwell} {ri0 rg0 : Int} {r : Int × TSwell}  (H0 : Tree_first.r opsM k n p1 a1 a2 a3 fn4 = some r) (m0 m1 m2 : Nat) : SCon Try.prog 62 [SV.p m0 0, .a (.agg ((eTRef a1).map .v)), .a (.c (.v (.int .i64 a2))), .a (.agg ((eTSwell a3).map .v)), .a (.c (.fn (.func g4) [m2]))] [(m0, blk m0 [.p m1 0, .i ri0, .i rg0] 74), (m1, plM m1 p1), (m2, vblk m2 cv4 Tc4)] (.tup [.c (.v (.int .i64 r.1)), .agg ((eTSwell r.2).map .v)]) [(m0, blk m0 [.p m1 0, .i ri0, .i rg0] 74), (m1, plM m1 p1), (m2, vblk m2 cv4 Tc4)] [] :=
  SCon.ren (rn [(0, m0), (1, m1), (2, m2)]) (Tree_firstM_f14_con0 (k := k) cg4 hm4  H0) ⟨(blk_ren rfl rfl), (pl_ren rfl), (vblk_ren rfl), trivial⟩ ⟨(blk_ren rfl rfl), (pl_ren rfl), (vblk_ren rfl), trivial⟩ (by simp) (by simp)
theorem Tree_FirstM_f12_con0 {k : Nat} {g2 : FuncId} {fn2 : TSwell → TSwell → Option Bool} {cv2 : List Value} {Tc2 : TypeId} (cg2 : fnB Try.prog g2 = true) (hm2 : ∀ (c : Nat) {z0 : TSwell} {z1 : TSwell} {y : Bool}, fn2 z0 z1 = some y → SCon Try.prog g2 [.a (.agg ((eTSwell z0).map .v)), .a (.agg ((eTSwell z1).map .v)), SV.p c 0] [(c, vblk c cv2 Tc2)] (SV.b y) [(c, vblk c cv2 Tc2)] []) {p1 : Pool (TNode TMark TSwell)} {rt0 : TRef} {a1 : Int} {r : Int}  (H0 : Tree_First.f opsM k p1 rt0 a1 fn2 = some r) : SCon Try.prog 47 [SV.p 0 0, .a (.c (.v (.int .i64 a1))), .a (.c (.fn (.func g2) [2]))] [(0, blk 0 [.p 1 0, .i rt0.index, .i rt0.gen] 74), (1, plM 1 p1), (2, vblk 2 cv2 Tc2)] (.a (.c (.v (.int .i64 r)))) [(0, blk 0 [.p 1 0, .i rt0.index, .i rt0.gen] 74), (1, plM 1 p1), (2, vblk 2 cv2 Tc2)] [] := by
  rw [Tree_First.f] at H0
  refine spec_of [(0, _), (1, _), (2, _)] [(0, _), (1, _), (2, _)] 27 Try.func47 rfl Try.ntmps47 rfl rfl rfl rfl (fun β W F => ?_)
  refine G.seq ?_
  refine G.rg ?_
  refine K.move (.inr rfl) (gd0 rfl) rfl rfl ?_
  refine K.nil ?_
  refine At.next ?_
  refine G.seq ?_
  refine G.rg ?_
  refine K.alloc Y 100 [_, _, _, _, _, _, _, _, _, _, _, _, _, _, _, _] (gd0 rfl) t43 rfl rfl rfl rfl rfl ?_
  refine K.nil ?_
  refine At.next ?_
  refine G.seq ?_
  obtain ⟨x1, hx1, H0⟩ := bnd H0
  obtain ⟨x2, hx2, H0⟩ := bnd H0
  refine G.rd mixed ?_
  refine K.move (.inl rfl) (gd0 rfl) rfl rfl ?_
  refine K.move (.inl rfl) (gd0 rfl) rfl rfl ?_
  refine K.nilCheck (gd0 rfl) rfl rfl ?_
  refine K.fieldAddr Y (gd0 rfl) rfl t74 rfl rfl ?_
  refine K.loadS Y [_, _] (gd0 rfl) rfl rfl t68 rfl rfl rfl ?_
  refine K.move (.inl rfl) (gd0 rfl) rfl rfl ?_
  refine K.bi2 (V := .int .i64 (gmax a1 0)) (gd0 rfl) rfl rfl (fun _ _ => rfl) rfl ?_
  refine K.move (.inl rfl) (gd0 rfl) rfl rfl ?_
  refine K.callR [(.func 21, _), ((.tmp 18), _)] (Tree_LenM_con (k := k) hx1 0 1) (toFn_func (cf 21 rfl) rfl) (gd0 rfl) ⟨rfl, rfl, trivial⟩ ⟨rfl, rfl, trivial⟩ rfl rfl rfl ?_
  refine K.bi2 (V := .int .i64 (gmin (gmax a1 0) x1)) (gd0 rfl) rfl rfl (fun _ _ => rfl) rfl ?_
  refine K.loadS Y [_, _, _, _, _, _, _, _, _, _, _, _, _, _, _, _] (gd0 rfl) rfl rfl t43 rfl rfl rfl ?_
  refine K.move (.inl rfl) (gd0 rfl) rfl rfl ?_
  refine K.callR [(.func 62, _), ((.tmp 11), _), ((.tmp 15), _), ((.tmp 20), _), ((.tmp 21), _), ((.tmp 22), _)] (Tree_firstM_f14_con (k := k) cg2 hm2 hx2 0 1 2) (toFn_func (cf 62 rfl) rfl) (gd0 rfl) ⟨rfl, rfl, rfl, rfl, rfl, rfl, trivial⟩ ⟨rfl, rfl, rfl, trivial⟩ rfl rfl rfl ?_
  refine K.move (.inl rfl) (gd0 rfl) rfl rfl ?_
  refine K.extract (gd0 rfl) rfl rfl rfl ?_
  refine K.extract (gd0 rfl) rfl rfl rfl ?_
  refine K.alloc Y 101 [_, _, _, _, _, _, _, _, _, _, _, _, _, _, _, _] (gd0 rfl) t43 rfl rfl rfl rfl rfl ?_
  refine K.move (.inr rfl) (gd0 rfl) rfl rfl ?_
  refine K.store Y [_, _, _, _, _, _, _, _, _, _, _, _, _, _, _, _] (gd0 rfl) rfl rfl rfl t43 rfl rfl rfl rfl rfl ?_
  refine K.nil ?_
  refine ⟨by kernel_rfl, ?_⟩
  refine At.next ?_
  refine G.seq ?_
  refine G.rg ?_
  refine K.move (.inl rfl) (gd0 rfl) rfl rfl ?_
  refine K.move (.inr rfl) (gd0 rfl) rfl rfl ?_
  refine K.nil ?_
  refine At.next ?_
  refine G.ret ?_
  refine At.done Y [(.tmp 6, .c _)] rfl ⟨.tmp rfl, trivial⟩ (to' := [(0, _), (1, _), (2, _)]) ⟨rfl, rfl, rfl, trivial⟩ ?_ ?_ rfl rfl rfl (.inl rfl)
  · cases H0; rfl
  · cases H0; rfl
theorem Tree_FirstM_f12_con {k : Nat} {g2 : FuncId} {fn2 : TSwell → TSwell → Option Bool} {cv2 : List Value} {Tc2 : TypeId} (cg2 : fnB Try.prog g2 = true) (hm2 : ∀ (c : Nat) {z0 : TSwell} {z1 : TSwell} {y : Bool}, fn2 z0 z1 = some y → SCon Try.prog g2 [.a (.agg ((eTSwell z0).map .v)), .a (.agg ((eTSwell z1).map .v)), SV.p c 0] [(c, vblk c cv2 Tc2)] (SV.b y) [(c, vblk c cv2 Tc2)] []) {p1 : Pool (TNode TMark TSwell)} {rt0 : TRef} {a1 : Int} {r : Int}  (H0 : Tree_First.f opsM k p1 rt0 a1 fn2 = some r) (m0 m1 m2 : Nat) : SCon Try.prog 47 [SV.p m0 0, .a (.c (.v (.int .i64 a1))), .a (.c (.fn (.func g2) [m2]))] [(m0, blk m0 [.p m1 0, .i rt0.index, .i rt0.gen] 74), (m1, plM m1 p1), (m2, vblk m2 cv2 Tc2)] (.a (.c (.v (.int .i64 r)))) [(m0, blk m0 [.p m1 0, .i rt0.index, .i rt0.gen] 74), (m1, plM m1 p1), (m2, vblk m2 cv2 Tc2)] [] :=
  SCon.ren (rn [(0, m0), (1, m1), (2, m2)]) (Tree_FirstM_f12_con0 (k := k) cg2 hm2  H0) ⟨(blk_ren rfl rfl), (pl_ren rfl), (vblk_ren rfl), trivial⟩ ⟨(blk_ren rfl rfl), (pl_ren rfl), (vblk_ren rfl), trivial⟩ (by simp) (by simp)
theorem Tree_lastOfM_f14_con0 {k : Nat} {g4 : FuncId} {fn4 : TSwell → TSwell → Option Bool} {cv4 : List Value} {Tc4 : TypeId} (cg4 : fnB Try.prog g4 = true) (hm4 : ∀ (c : Nat) {z0 : TSwell} {z1 : TSwell} {y : Bool}, fn4 z0 z1 = some y → SCon Try.prog g4 [.a (.agg ((eTSwell z0).map .v)), .a (.agg ((eTSwell z1).map .v)), SV.p c 0] [(c, vblk c cv4 Tc4)] (SV.b y) [(c, vblk c cv4 Tc4)] []) : ∀ {n : Nat} {p1 : Pool (TNode TMark TSwell)} {a1 : TRef} {a2 : Int} {a3 : TSwell} {ri0 rg0 : Int} {r : Int}  (H0 : Tree_lastOf.r opsM k n p1 a1 a2 a3 fn4 = some r), SCon Try.prog 64 [SV.p 0 0, .a (.agg ((eTRef a1).map .v)), .a (.c (.v (.int .i64 a2))), .a (.agg ((eTSwell a3).map .v)), .a (.c (.fn (.func g4) [2]))] [(0, blk 0 [.p 1 0, .i ri0, .i rg0] 74), (1, plM 1 p1), (2, vblk 2 cv4 Tc4)] (.a (.c (.v (.int .i64 r)))) [(0, blk 0 [.p 1 0, .i ri0, .i rg0] 74), (1, plM 1 p1), (2, vblk 2 cv4 Tc4)] [] := by
  intro n
  induction n with
  | zero => intro p1 a1 a2 a3 ri0 rg0 r H0; exact absurd H0 (by simp [Tree_lastOf.r])
  | succ n ih =>
    intro p1 a1 a2 a3 ri0 rg0 r H0
    rw [Tree_lastOf.r] at H0
    refine spec_of [(0, _), (1, _), (2, _), (3, _), (4, _)] [(0, _), (1, _), (2, _)] 93 Try.func64 rfl Try.ntmps64 rfl rfl rfl rfl (fun β W F => ?_)
    refine G.seq ?_
    refine G.rg ?_
    refine K.box Y 100 [_, _] (gd0 rfl) rfl rfl rfl rfl rfl rfl ?_
    refine K.box Y 101 [_, _, _, _, _, _, _, _, _, _, _, _, _, _, _, _] (gd0 rfl) rfl rfl rfl rfl rfl rfl ?_
    refine K.move (.inr rfl) (gd0 rfl) rfl rfl ?_
    refine K.nil ?_
    refine At.next ?_
    refine G.seq ?_
    obtain ⟨x1, hx1, H0⟩ := bnd H0
    refine G.rg ?_
    refine K.move (.inl rfl) (gd0 rfl) rfl rfl ?_
    refine K.loadS Y [_, _] (gd0 rfl) rfl rfl t68 rfl rfl rfl ?_
    refine K.callR [(.func 50, _), ((.tmp 16), _), ((.tmp 17), _)] (Tree_getM_con (k := k) hx1 0 1) (toFn_func (cf 50 rfl) rfl) (gd0 rfl) ⟨rfl, rfl, rfl, trivial⟩ ⟨rfl, rfl, trivial⟩ rfl rfl rfl ?_
    refine K.alloc Y 102 [_, _, _, _, _, _, _, _, _, _, _, _, _, _, _, _, _, _, _, _, _, _, _, _, _, _, _, _, _] (gd0 rfl) t70 rfl rfl rfl rfl rfl ?_
    refine K.store Y [_, _, _, _, _, _, _, _, _, _, _, _, _, _, _, _, _, _, _, _, _, _, _, _, _, _, _, _, _] (gd0 rfl) rfl rfl rfl t70 rfl rfl rfl rfl rfl ?_
    refine K.nil ?_
    refine At.next ?_
    obtain ⟨x2, H1, H0⟩ := bnd H0
    refine G.seqJ (σ := { v : Unit // x2 = Sum.inr v }) (fun q => [(0, .a (.c (.p 0 0))), (2, .a (.c (.v (.int .i64 a2)))), (4, .a (.c (.fn (.func g4) [2]))), (8, .a (.c (.p 103 0))), (11, .a (.c (.p 104 0)))]) (fun q => [(1, plM 1 p1), (0, blk 0 [.p 1 0, .v (.int .i64 ri0), .v (.int .i64 rg0)] 74), (2, vblk 2 cv4 Tc4), (103, blk 103 [.v (.int .i64 a3.count.n), .v (.int .i64 a3.count.sum), .v (.int .i64 a3.count.low), .v (.int .i64 a3.weight.n), .v (.int .i64 a3.weight.sum), .v (.int .i64 a3.weight.low), .v (.int .i64 a3.deletes), .v (.int .i64 a3.free), .v (.int .i64 a3.most.key), .v (.int .i64 a3.most.id), .v (.bool a3.gone.found), .v (.int .i64 a3.gone.item.key), .v (.int .i64 a3.gone.item.id), .v (.bool a3.least.found), .v (.int .i64 a3.least.item.key), .v (.int .i64 a3.least.item.id)] 43), (104, blk 104 [.v (.int .i64 x1.e.op.time), .v (.bool x1.e.op.insert), .v (.int .i64 x1.e.op.item.key), .v (.int .i64 x1.e.op.item.id), .v (.bool x1.e.here), .v (.bool x1.e.took.found), .v (.int .i64 x1.e.took.item.key), .v (.int .i64 x1.e.took.item.id), .v (.int .i64 x1.left.index), .v (.int .i64 x1.left.gen), .v (.int .i64 x1.right.index), .v (.int .i64 x1.right.gen), .v (.int .i64 x1.size), .v (.int .i64 x1.sum.count.n), .v (.int .i64 x1.sum.count.sum), .v (.int .i64 x1.sum.count.low), .v (.int .i64 x1.sum.weight.n), .v (.int .i64 x1.sum.weight.sum), .v (.int .i64 x1.sum.weight.low), .v (.int .i64 x1.sum.deletes), .v (.int .i64 x1.sum.free), .v (.int .i64 x1.sum.most.key), .v (.int .i64 x1.sum.most.id), .v (.bool x1.sum.gone.found), .v (.int .i64 x1.sum.gone.item.key), .v (.int .i64 x1.sum.gone.item.id), .v (.bool x1.sum.least.found), .v (.int .i64 x1.sum.least.item.key), .v (.int .i64 x1.sum.least.item.id)] 70)]) ?_ ?_
    ·
      refine G.seq ?_
      rcases Bool.eq_false_or_eq_true (x1.size == 0) with h1 | h1
      ·
        replace H1 := bif_t H1 h1
        refine G.rg ?_
        refine K.fieldAddr Y (gd0 rfl) rfl t70 rfl rfl ?_
        refine K.load1 Y (gd0 rfl) rfl rfl t3 rfl rfl ?_
        refine K.bin (V := .bool (x1.size == 0)) (gd0 rfl) rfl rfl (fun _ => rfl) rfl ?_
        refine K.move (.inl rfl) (gd0 rfl) rfl rfl ?_
        refine K.skip rfl rfl rfl rfl (h1) rfl ?_
        refine K.skip rfl rfl rfl rfl (h1) rfl ?_
        refine K.pickT (gd0 rfl) rfl (h1) rfl rfl ?_
        refine K.move (.inl rfl) (gd0 rfl) rfl rfl ?_
        refine K.skip rfl rfl rfl rfl (rfl) rfl ?_
        refine K.skip rfl rfl rfl rfl (rfl) rfl ?_
        refine K.skip rfl rfl rfl rfl (rfl) rfl ?_
        refine K.skip rfl rfl rfl rfl (rfl) rfl ?_
        refine K.skip rfl rfl rfl rfl (rfl) rfl ?_
        refine K.skipU rfl rfl rfl rfl rfl ?_
        refine K.skipU rfl rfl rfl rfl rfl ?_
        refine K.skipU rfl rfl rfl rfl rfl ?_
        refine K.skipU rfl rfl rfl rfl rfl ?_
        refine K.skipU rfl rfl rfl rfl rfl ?_
        refine K.skipU rfl rfl rfl rfl rfl ?_
        refine K.skip rfl rfl rfl rfl (rfl) rfl ?_
        refine K.pickT (gd0 rfl) rfl (rfl) rfl rfl ?_
        refine K.nil ?_
        refine At.next ?_
        refine G.cond rfl (fun h2 => ?_) (fun h2 => ?_)
        ·
          refine G.seq ?_
          refine G.rg ?_
          refine K.move (.inr rfl) (gd0 rfl) rfl rfl ?_
          refine K.nil ?_
          refine At.next ?_
          refine G.ret ?_
          refine At.over_ret ?_
          cases H1
          replace H0 := sum_l H0
          refine At.done Y [(.tmp 10, .c _)] rfl ⟨.tmp rfl, trivial⟩ (to' := [(0, _), (1, _), (2, _)]) ⟨rfl, rfl, rfl, trivial⟩ ?_ ?_ rfl rfl rfl (.inl rfl)
          · cases H0; rfl
          · cases H0; rfl
        · cases h2
      ·
        replace H1 := bif_f H1 h1
        rcases Bool.eq_false_or_eq_true (decide (a2 ≤ 0)) with h3 | h3
        ·
          replace H1 := bif_t H1 h3
          refine G.rg ?_
          refine K.fieldAddr Y (gd0 rfl) rfl t70 rfl rfl ?_
          refine K.load1 Y (gd0 rfl) rfl rfl t3 rfl rfl ?_
          refine K.bin (V := .bool (x1.size == 0)) (gd0 rfl) rfl rfl (fun _ => rfl) rfl ?_
          refine K.move (.inl rfl) (gd0 rfl) rfl rfl ?_
          refine K.move (.inl rfl) (gd1 rfl rfl rfl (h1)) rfl rfl ?_
          refine K.bin (V := .bool (decide (a2 ≤ 0))) (gd1 rfl rfl rfl (h1)) rfl rfl (fun _ => rfl) rfl ?_
          refine K.pickF (gd0 rfl) rfl (h1) rfl rfl ?_
          refine K.move (.inl rfl) (gd0 rfl) rfl rfl ?_
          refine K.skip rfl rfl rfl rfl (h3) rfl ?_
          refine K.skip rfl rfl rfl rfl (h3) rfl ?_
          refine K.skip rfl rfl rfl rfl (h3) rfl ?_
          refine K.skip rfl rfl rfl rfl (h3) rfl ?_
          refine K.skip rfl rfl rfl rfl (h3) rfl ?_
          refine K.skipU rfl rfl rfl rfl rfl ?_
          refine K.skipU rfl rfl rfl rfl rfl ?_
          refine K.skipU rfl rfl rfl rfl rfl ?_
          refine K.skipU rfl rfl rfl rfl rfl ?_
          refine K.skipU rfl rfl rfl rfl rfl ?_
          refine K.skipU rfl rfl rfl rfl rfl ?_
          refine K.skip rfl rfl rfl rfl (h3) rfl ?_
          refine K.pickT (gd0 rfl) rfl (h3) rfl rfl ?_
          refine K.nil ?_
          refine At.next ?_
          refine G.cond rfl (fun h4 => ?_) (fun h4 => ?_)
          ·
            refine G.seq ?_
            refine G.rg ?_
            refine K.move (.inr rfl) (gd0 rfl) rfl rfl ?_
            refine K.nil ?_
            refine At.next ?_
            refine G.ret ?_
            refine At.over_ret ?_
            cases H1
            replace H0 := sum_l H0
            refine At.done Y [(.tmp 10, .c _)] rfl ⟨.tmp rfl, trivial⟩ (to' := [(0, _), (1, _), (2, _)]) ⟨rfl, rfl, rfl, trivial⟩ ?_ ?_ rfl rfl rfl (.inl rfl)
            · cases H0; rfl
            · cases H0; rfl
          · cases h4
        ·
          replace H1 := bif_f H1 h3
          rcases Bool.eq_false_or_eq_true (decide (a2 ≥ x1.size)) with h5 | h5
          ·
            replace H1 := bif_t H1 h5
            obtain ⟨x3, hx3, H1⟩ := bnd H1
            refine G.rg ?_
            refine K.fieldAddr Y (gd0 rfl) rfl t70 rfl rfl ?_
            refine K.load1 Y (gd0 rfl) rfl rfl t3 rfl rfl ?_
            refine K.bin (V := .bool (x1.size == 0)) (gd0 rfl) rfl rfl (fun _ => rfl) rfl ?_
            refine K.move (.inl rfl) (gd0 rfl) rfl rfl ?_
            refine K.move (.inl rfl) (gd1 rfl rfl rfl (h1)) rfl rfl ?_
            refine K.bin (V := .bool (decide (a2 ≤ 0))) (gd1 rfl rfl rfl (h1)) rfl rfl (fun _ => rfl) rfl ?_
            refine K.pickF (gd0 rfl) rfl (h1) rfl rfl ?_
            refine K.move (.inl rfl) (gd0 rfl) rfl rfl ?_
            refine K.move (.inl rfl) (gd1 rfl rfl rfl (h3)) rfl rfl ?_
            refine K.fieldAddr Y (gd1 rfl rfl rfl (h3)) rfl t70 rfl rfl ?_
            refine K.load1 Y (gd1 rfl rfl rfl (h3)) rfl rfl t3 rfl rfl ?_
            refine K.bin (V := .bool (decide (a2 ≥ x1.size))) (gd1 rfl rfl rfl (h3)) rfl rfl (fun _ => rfl) rfl ?_
            refine K.move (.inl rfl) (gd1 rfl rfl rfl (h3)) rfl rfl ?_
            refine K.move (.inl rfl) (gd1 rfl rfl rfl (h5)) rfl rfl ?_
            refine K.loadS Y [_, _, _, _, _, _, _, _, _, _, _, _, _, _, _, _] (gd1 rfl rfl rfl (h5)) rfl rfl t43 rfl rfl rfl ?_
            refine K.fieldAddr Y (gd1 rfl rfl rfl (h5)) rfl t70 rfl rfl ?_
            refine K.loadS Y [_, _, _, _, _, _, _, _, _, _, _, _, _, _, _, _] (gd1 rfl rfl rfl (h5)) rfl rfl t43 rfl rfl rfl ?_
            refine K.callR [((.tmp 32), _), ((.tmp 33), _), ((.tmp 35), _)] (hm4 2 hx3) (toFn_val cg4 rfl) (gd1 rfl rfl rfl (h5)) ⟨rfl, rfl, rfl, trivial⟩ ⟨rfl, trivial⟩ rfl rfl rfl ?_
            refine K.un (V := .bool (!x3)) (gd1 rfl rfl rfl (h5)) rfl (fun _ => rfl) rfl ?_
            refine K.pickT (gd1 rfl rfl rfl (h3)) rfl (h5) rfl rfl ?_
            refine K.pickF (gd0 rfl) rfl (h3) rfl rfl ?_
            refine K.nil ?_
            refine At.next ?_
            refine G.cond rfl (fun h6 => ?_) (fun h6 => ?_)
            ·
              replace H1 := bif_t H1 h6
              refine G.seq ?_
              refine G.rg ?_
              refine K.move (.inr rfl) (gd0 rfl) rfl rfl ?_
              refine K.nil ?_
              refine At.next ?_
              refine G.ret ?_
              refine At.over_ret ?_
              cases H1
              replace H0 := sum_l H0
              refine At.done Y [(.tmp 10, .c _)] rfl ⟨.tmp rfl, trivial⟩ (to' := [(0, _), (1, _), (2, _)]) ⟨rfl, rfl, rfl, trivial⟩ ?_ ?_ rfl rfl rfl (.inl rfl)
              · cases H0; rfl
              · cases H0; rfl
            ·
              replace H1 := bif_f H1 h6
              refine G.skip ?_
              exact At.joined (σ := { v : Unit // x2 = Sum.inr v }) (Fs := fun q => [(0, .a (.c (.p 0 0))), (2, .a (.c (.v (.int .i64 a2)))), (4, .a (.c (.fn (.func g4) [2]))), (8, .a (.c (.p 103 0))), (11, .a (.c (.p 104 0)))]) (Tl := fun q => [(1, plM 1 p1), (0, blk 0 [.p 1 0, .v (.int .i64 ri0), .v (.int .i64 rg0)] 74), (2, vblk 2 cv4 Tc4), (103, blk 103 [.v (.int .i64 a3.count.n), .v (.int .i64 a3.count.sum), .v (.int .i64 a3.count.low), .v (.int .i64 a3.weight.n), .v (.int .i64 a3.weight.sum), .v (.int .i64 a3.weight.low), .v (.int .i64 a3.deletes), .v (.int .i64 a3.free), .v (.int .i64 a3.most.key), .v (.int .i64 a3.most.id), .v (.bool a3.gone.found), .v (.int .i64 a3.gone.item.key), .v (.int .i64 a3.gone.item.id), .v (.bool a3.least.found), .v (.int .i64 a3.least.item.key), .v (.int .i64 a3.least.item.id)] 43), (104, blk 104 [.v (.int .i64 x1.e.op.time), .v (.bool x1.e.op.insert), .v (.int .i64 x1.e.op.item.key), .v (.int .i64 x1.e.op.item.id), .v (.bool x1.e.here), .v (.bool x1.e.took.found), .v (.int .i64 x1.e.took.item.key), .v (.int .i64 x1.e.took.item.id), .v (.int .i64 x1.left.index), .v (.int .i64 x1.left.gen), .v (.int .i64 x1.right.index), .v (.int .i64 x1.right.gen), .v (.int .i64 x1.size), .v (.int .i64 x1.sum.count.n), .v (.int .i64 x1.sum.count.sum), .v (.int .i64 x1.sum.count.low), .v (.int .i64 x1.sum.weight.n), .v (.int .i64 x1.sum.weight.sum), .v (.int .i64 x1.sum.weight.low), .v (.int .i64 x1.sum.deletes), .v (.int .i64 x1.sum.free), .v (.int .i64 x1.sum.most.key), .v (.int .i64 x1.sum.most.id), .v (.bool x1.sum.gone.found), .v (.int .i64 x1.sum.gone.item.key), .v (.int .i64 x1.sum.gone.item.id), .v (.bool x1.sum.least.found), .v (.int .i64 x1.sum.least.item.key), .v (.int .i64 x1.sum.least.item.id)] 70)]) ⟨(), (Option.some.inj H1).symm⟩ [(103, 101), (104, 102)] [_, _, _, _, _] rfl ⟨rfl, rfl, rfl, rfl, rfl, trivial⟩ ⟨rfl, (pl_ren rfl), rfl, (blk_ren rfl rfl), rfl, (vblk_ren rfl), rfl, (blk_ren rfl rfl), rfl, (blk_ren rfl rfl), trivial⟩ rfl
          ·
            replace H1 := bif_f H1 h5
            refine G.rg ?_
            refine K.fieldAddr Y (gd0 rfl) rfl t70 rfl rfl ?_
            refine K.load1 Y (gd0 rfl) rfl rfl t3 rfl rfl ?_
            refine K.bin (V := .bool (x1.size == 0)) (gd0 rfl) rfl rfl (fun _ => rfl) rfl ?_
            refine K.move (.inl rfl) (gd0 rfl) rfl rfl ?_
            refine K.move (.inl rfl) (gd1 rfl rfl rfl (h1)) rfl rfl ?_
            refine K.bin (V := .bool (decide (a2 ≤ 0))) (gd1 rfl rfl rfl (h1)) rfl rfl (fun _ => rfl) rfl ?_
            refine K.pickF (gd0 rfl) rfl (h1) rfl rfl ?_
            refine K.move (.inl rfl) (gd0 rfl) rfl rfl ?_
            refine K.move (.inl rfl) (gd1 rfl rfl rfl (h3)) rfl rfl ?_
            refine K.fieldAddr Y (gd1 rfl rfl rfl (h3)) rfl t70 rfl rfl ?_
            refine K.load1 Y (gd1 rfl rfl rfl (h3)) rfl rfl t3 rfl rfl ?_
            refine K.bin (V := .bool (decide (a2 ≥ x1.size))) (gd1 rfl rfl rfl (h3)) rfl rfl (fun _ => rfl) rfl ?_
            refine K.move (.inl rfl) (gd1 rfl rfl rfl (h3)) rfl rfl ?_
            refine K.skip rfl rfl rfl rfl (h5) rfl ?_
            refine K.skip rfl rfl rfl rfl (h5) rfl ?_
            refine K.skip rfl rfl rfl rfl (h5) rfl ?_
            refine K.skip rfl rfl rfl rfl (h5) rfl ?_
            refine K.skip rfl rfl rfl rfl (h5) rfl ?_
            refine K.skip rfl rfl rfl rfl (h5) rfl ?_
            refine K.pickF (gd1 rfl rfl rfl (h3)) rfl (h5) rfl rfl ?_
            refine K.pickF (gd0 rfl) rfl (h3) rfl rfl ?_
            refine K.nil ?_
            refine At.next ?_
            refine G.cond rfl (fun h7 => ?_) (fun h7 => ?_)
            · cases h7
            ·
              refine G.skip ?_
              exact At.joined (σ := { v : Unit // x2 = Sum.inr v }) (Fs := fun q => [(0, .a (.c (.p 0 0))), (2, .a (.c (.v (.int .i64 a2)))), (4, .a (.c (.fn (.func g4) [2]))), (8, .a (.c (.p 103 0))), (11, .a (.c (.p 104 0)))]) (Tl := fun q => [(1, plM 1 p1), (0, blk 0 [.p 1 0, .v (.int .i64 ri0), .v (.int .i64 rg0)] 74), (2, vblk 2 cv4 Tc4), (103, blk 103 [.v (.int .i64 a3.count.n), .v (.int .i64 a3.count.sum), .v (.int .i64 a3.count.low), .v (.int .i64 a3.weight.n), .v (.int .i64 a3.weight.sum), .v (.int .i64 a3.weight.low), .v (.int .i64 a3.deletes), .v (.int .i64 a3.free), .v (.int .i64 a3.most.key), .v (.int .i64 a3.most.id), .v (.bool a3.gone.found), .v (.int .i64 a3.gone.item.key), .v (.int .i64 a3.gone.item.id), .v (.bool a3.least.found), .v (.int .i64 a3.least.item.key), .v (.int .i64 a3.least.item.id)] 43), (104, blk 104 [.v (.int .i64 x1.e.op.time), .v (.bool x1.e.op.insert), .v (.int .i64 x1.e.op.item.key), .v (.int .i64 x1.e.op.item.id), .v (.bool x1.e.here), .v (.bool x1.e.took.found), .v (.int .i64 x1.e.took.item.key), .v (.int .i64 x1.e.took.item.id), .v (.int .i64 x1.left.index), .v (.int .i64 x1.left.gen), .v (.int .i64 x1.right.index), .v (.int .i64 x1.right.gen), .v (.int .i64 x1.size), .v (.int .i64 x1.sum.count.n), .v (.int .i64 x1.sum.count.sum), .v (.int .i64 x1.sum.count.low), .v (.int .i64 x1.sum.weight.n), .v (.int .i64 x1.sum.weight.sum), .v (.int .i64 x1.sum.weight.low), .v (.int .i64 x1.sum.deletes), .v (.int .i64 x1.sum.free), .v (.int .i64 x1.sum.most.key), .v (.int .i64 x1.sum.most.id), .v (.bool x1.sum.gone.found), .v (.int .i64 x1.sum.gone.item.key), .v (.int .i64 x1.sum.gone.item.id), .v (.bool x1.sum.least.found), .v (.int .i64 x1.sum.least.item.key), .v (.int .i64 x1.sum.least.item.id)] 70)]) ⟨(), (Option.some.inj H1).symm⟩ [(103, 101), (104, 102)] [_, _, _, _, _] rfl ⟨rfl, rfl, rfl, rfl, rfl, trivial⟩ ⟨rfl, (pl_ren rfl), rfl, (blk_ren rfl rfl), rfl, (vblk_ren rfl), rfl, (blk_ren rfl rfl), rfl, (blk_ren rfl rfl), trivial⟩ rfl
    ·
      rintro ⟨v2, rfl⟩
      replace H0 := sum_r H0
      show G _ _ [(0, .a (.c (.p 0 0))), (2, .a (.c (.v (.int .i64 a2)))), (4, .a (.c (.fn (.func g4) [2]))), (8, .a (.c (.p 103 0))), (11, .a (.c (.p 104 0)))] [(1, some (plM 1 p1)), (0, some (blk 0 [.p 1 0, .v (.int .i64 ri0), .v (.int .i64 rg0)] 74)), (2, some (vblk 2 cv4 Tc4)), (103, some (blk 103 [.v (.int .i64 a3.count.n), .v (.int .i64 a3.count.sum), .v (.int .i64 a3.count.low), .v (.int .i64 a3.weight.n), .v (.int .i64 a3.weight.sum), .v (.int .i64 a3.weight.low), .v (.int .i64 a3.deletes), .v (.int .i64 a3.free), .v (.int .i64 a3.most.key), .v (.int .i64 a3.most.id), .v (.bool a3.gone.found), .v (.int .i64 a3.gone.item.key), .v (.int .i64 a3.gone.item.id), .v (.bool a3.least.found), .v (.int .i64 a3.least.item.key), .v (.int .i64 a3.least.item.id)] 43)), (104, some (blk 104 [.v (.int .i64 x1.e.op.time), .v (.bool x1.e.op.insert), .v (.int .i64 x1.e.op.item.key), .v (.int .i64 x1.e.op.item.id), .v (.bool x1.e.here), .v (.bool x1.e.took.found), .v (.int .i64 x1.e.took.item.key), .v (.int .i64 x1.e.took.item.id), .v (.int .i64 x1.left.index), .v (.int .i64 x1.left.gen), .v (.int .i64 x1.right.index), .v (.int .i64 x1.right.gen), .v (.int .i64 x1.size), .v (.int .i64 x1.sum.count.n), .v (.int .i64 x1.sum.count.sum), .v (.int .i64 x1.sum.count.low), .v (.int .i64 x1.sum.weight.n), .v (.int .i64 x1.sum.weight.sum), .v (.int .i64 x1.sum.weight.low), .v (.int .i64 x1.sum.deletes), .v (.int .i64 x1.sum.free), .v (.int .i64 x1.sum.most.key), .v (.int .i64 x1.sum.most.id), .v (.bool x1.sum.gone.found), .v (.int .i64 x1.sum.gone.item.key), .v (.int .i64 x1.sum.gone.item.id), .v (.bool x1.sum.least.found), .v (.int .i64 x1.sum.least.item.key), .v (.int .i64 x1.sum.least.item.id)] 70))] _ _
      refine G.seq ?_
      obtain ⟨x4, hx4, H0⟩ := bnd H0
      refine G.rg ?_
      refine K.move (.inl rfl) (gd0 rfl) rfl rfl ?_
      refine K.fieldAddr Y (gd0 rfl) rfl t70 rfl rfl ?_
      refine K.loadS Y [_, _] (gd0 rfl) rfl rfl t68 rfl rfl rfl ?_
      refine K.callR [(.func 50, _), ((.tmp 40), _), ((.tmp 42), _)] (Tree_getM_con (k := k) hx4 0 1) (toFn_func (cf 50 rfl) rfl) (gd0 rfl) ⟨rfl, rfl, rfl, trivial⟩ ⟨rfl, rfl, trivial⟩ rfl rfl rfl ?_
      refine K.alloc Y 105 [_, _, _, _, _, _, _, _, _, _, _, _, _, _, _, _, _, _, _, _, _, _, _, _, _, _, _, _, _] (gd0 rfl) t70 rfl rfl rfl rfl rfl ?_
      refine K.store Y [_, _, _, _, _, _, _, _, _, _, _, _, _, _, _, _, _, _, _, _, _, _, _, _, _, _, _, _, _] (gd0 rfl) rfl rfl rfl t70 rfl rfl rfl rfl rfl ?_
      refine K.nil ?_
      refine At.next ?_
      refine G.seq ?_
      obtain ⟨x5, hx5, H0⟩ := bnd H0
      obtain ⟨x6, hx6, H0⟩ := bnd H0
      refine G.rd mixed ?_
      refine K.loadS Y [_, _, _, _, _, _, _, _, _, _, _, _, _, _, _, _] (gd0 rfl) rfl rfl t43 rfl rfl rfl ?_
      refine K.mkIface Y (gd0 rfl) rfl (mkI Try.underlying43 rfl) rfl ?_
      refine K.fieldAddr Y (gd0 rfl) rfl t70 rfl rfl ?_
      refine K.loadS Y [_, _, _, _, _, _, _, _, _, _, _, _, _, _, _, _] (gd0 rfl) rfl rfl t43 rfl rfl rfl ?_
      refine K.callR [((.tmp 45), _), ((.tmp 47), _)] (wave_Swell_Plus_con (k := k) hx5) (toFn_invoke (cf 101 rfl) (me43_101) rfl) (gd0 rfl) ⟨rfl, rfl, trivial⟩ trivial rfl rfl rfl ?_
      refine K.fieldAddr Y (gd0 rfl) rfl t70 rfl rfl ?_
      refine K.loadS Y [_, _, _, _, _, _, _, _] (gd0 rfl) rfl rfl t39 rfl rfl rfl ?_
      refine K.mkIface Y (gd0 rfl) rfl (mkI Try.underlying39 rfl) rfl ?_
      refine K.callR [((.tmp 51), _)] (wave_Mark_Sum_con (k := k) hx6) (toFn_invoke (cf 96 rfl) (me39_96) rfl) (gd0 rfl) ⟨rfl, trivial⟩ trivial rfl rfl rfl ?_
      refine K.alloc Y 106 [_, _, _, _, _, _, _, _, _, _, _, _, _, _, _, _] (gd0 rfl) t43 rfl rfl rfl rfl rfl ?_
      refine K.alloc Y 107 [_, _, _, _, _, _, _, _, _, _, _, _, _, _, _, _] (gd0 rfl) t43 rfl rfl rfl rfl rfl ?_
      refine K.store Y [_, _, _, _, _, _, _, _, _, _, _, _, _, _, _, _] (gd0 rfl) rfl rfl rfl t43 rfl rfl rfl rfl rfl ?_
      refine K.store Y [_, _, _, _, _, _, _, _, _, _, _, _, _, _, _, _] (gd0 rfl) rfl rfl rfl t43 rfl rfl rfl rfl rfl ?_
      refine K.nil ?_
      refine ⟨by kernel_rfl, ?_⟩
      refine At.next ?_
      refine G.seq ?_
      refine G.seq ?_
      obtain ⟨x7, hx7, H0⟩ := bnd H0
      obtain ⟨x8, hx8, H0⟩ := bnd H0
      refine G.rd mixed ?_
      refine K.move (.inl rfl) (gd0 rfl) rfl rfl ?_
      refine K.fieldAddr Y (gd0 rfl) rfl t70 rfl rfl ?_
      refine K.loadS Y [_, _] (gd0 rfl) rfl rfl t68 rfl rfl rfl ?_
      refine K.move (.inl rfl) (gd0 rfl) rfl rfl ?_
      refine K.fieldAddr Y (gd0 rfl) rfl t70 rfl rfl ?_
      refine K.load1 Y (gd0 rfl) rfl rfl t3 rfl rfl ?_
      refine K.bin (V := .int .i64 (w64 (a2 - x4.size))) (gd0 rfl) rfl rfl (fun _ => rfl) rfl ?_
      refine K.bin (V := .int .i64 (w64 ((w64 (a2 - x4.size)) - 1))) (gd0 rfl) rfl rfl (fun _ => rfl) rfl ?_
      refine K.loadS Y [_, _, _, _, _, _, _, _, _, _, _, _, _, _, _, _] (gd0 rfl) rfl rfl t43 rfl rfl rfl ?_
      refine K.mkIface Y (gd0 rfl) rfl (mkI Try.underlying43 rfl) rfl ?_
      refine K.loadS Y [_, _, _, _, _, _, _, _, _, _, _, _, _, _, _, _] (gd0 rfl) rfl rfl t43 rfl rfl rfl ?_
      refine K.callR [((.tmp 62), _), ((.tmp 63), _)] (wave_Swell_Plus_con (k := k) hx7) (toFn_invoke (cf 101 rfl) (me43_101) rfl) (gd0 rfl) ⟨rfl, rfl, trivial⟩ trivial rfl rfl rfl ?_
      refine K.move (.inl rfl) (gd0 rfl) rfl rfl ?_
      refine K.callR [(.func 64, _), ((.tmp 53), _), ((.tmp 55), _), ((.tmp 60), _), ((.tmp 64), _), ((.tmp 65), _)] (ih hx8) (toFn_func (cf 64 rfl) rfl) (gd0 rfl) ⟨rfl, rfl, rfl, rfl, rfl, rfl, trivial⟩ ⟨rfl, rfl, rfl, trivial⟩ rfl rfl rfl ?_
      refine K.move (.inr rfl) (gd0 rfl) rfl rfl ?_
      refine K.nil ?_
      refine ⟨by kernel_rfl, ?_⟩
      refine At.next ?_
      refine G.seq ?_
      refine G.rg ?_
      refine K.move (.inl rfl) (gd0 rfl) rfl rfl ?_
      refine K.bin (V := .bool (decide (x8 ≥ 0))) (gd0 rfl) rfl rfl (fun _ => rfl) rfl ?_
      refine K.nil ?_
      refine At.next ?_
      refine G.cond rfl (fun h8 => ?_) (fun h8 => ?_)
      ·
        replace H0 := bif_t H0 h8
        refine G.seq ?_
        refine G.rg ?_
        refine K.move (.inl rfl) (gd0 rfl) rfl rfl ?_
        refine K.fieldAddr Y (gd0 rfl) rfl t70 rfl rfl ?_
        refine K.load1 Y (gd0 rfl) rfl rfl t3 rfl rfl ?_
        refine K.bin (V := .int .i64 (w64 (x8 + x4.size))) (gd0 rfl) rfl rfl (fun _ => rfl) rfl ?_
        refine K.bin (V := .int .i64 (w64 ((w64 (x8 + x4.size)) + 1))) (gd0 rfl) rfl rfl (fun _ => rfl) rfl ?_
        refine K.move (.inr rfl) (gd0 rfl) rfl rfl ?_
        refine K.nil ?_
        refine At.next ?_
        refine G.ret ?_
        refine At.over_ret ?_
        refine At.done Y [(.tmp 10, .c _)] rfl ⟨.tmp rfl, trivial⟩ (to' := [(0, _), (1, _), (2, _)]) ⟨rfl, rfl, rfl, trivial⟩ ?_ ?_ rfl rfl rfl (.inl rfl)
        · cases H0; rfl
        · cases H0; rfl
      ·
        replace H0 := bif_f H0 h8
        refine G.skip ?_
        refine At.next ?_
        refine G.seq ?_
        refine G.seq ?_
        rcases Bool.eq_false_or_eq_true (decide (a2 > x4.size)) with h9 | h9
        ·
          replace H0 := bif_t H0 h9
          obtain ⟨x9, hx9, H0⟩ := bnd H0
          refine G.rg ?_
          refine K.move (.inl rfl) (gd0 rfl) rfl rfl ?_
          refine K.fieldAddr Y (gd0 rfl) rfl t70 rfl rfl ?_
          refine K.load1 Y (gd0 rfl) rfl rfl t3 rfl rfl ?_
          refine K.bin (V := .bool (decide (a2 > x4.size))) (gd0 rfl) rfl rfl (fun _ => rfl) rfl ?_
          refine K.move (.inl rfl) (gd0 rfl) rfl rfl ?_
          refine K.move (.inl rfl) (gd1 rfl rfl rfl (h9)) rfl rfl ?_
          refine K.loadS Y [_, _, _, _, _, _, _, _, _, _, _, _, _, _, _, _] (gd1 rfl rfl rfl (h9)) rfl rfl t43 rfl rfl rfl ?_
          refine K.loadS Y [_, _, _, _, _, _, _, _, _, _, _, _, _, _, _, _] (gd1 rfl rfl rfl (h9)) rfl rfl t43 rfl rfl rfl ?_
          refine K.callR [((.tmp 79), _), ((.tmp 80), _), ((.tmp 81), _)] (hm4 2 hx9) (toFn_val cg4 rfl) (gd1 rfl rfl rfl (h9)) ⟨rfl, rfl, rfl, trivial⟩ ⟨rfl, trivial⟩ rfl rfl rfl ?_
          refine K.pickT (gd0 rfl) rfl (h9) rfl rfl ?_
          refine K.nil ?_
          refine At.next ?_
          refine G.cond rfl (fun h10 => ?_) (fun h10 => ?_)
          ·
            replace H0 := bif_t H0 h10
            refine G.seq ?_
            refine G.rg ?_
            refine K.fieldAddr Y (gd0 rfl) rfl t70 rfl rfl ?_
            refine K.load1 Y (gd0 rfl) rfl rfl t3 rfl rfl ?_
            refine K.move (.inr rfl) (gd0 rfl) rfl rfl ?_
            refine K.nil ?_
            refine At.next ?_
            refine G.ret ?_
            refine At.over_ret ?_
            refine At.done Y [(.tmp 10, .c _)] rfl ⟨.tmp rfl, trivial⟩ (to' := [(0, _), (1, _), (2, _)]) ⟨rfl, rfl, rfl, trivial⟩ ?_ ?_ rfl rfl rfl (.inl rfl)
            · cases H0; rfl
            · cases H0; rfl
          ·
            replace H0 := bif_f H0 h10
            refine G.skip ?_
            refine At.next ?_
            refine G.seq ?_
            obtain ⟨x10, hx10, H0⟩ := bnd H0
            refine G.rg ?_
            refine K.move (.inl rfl) (gd0 rfl) rfl rfl ?_
            refine K.fieldAddr Y (gd0 rfl) rfl t70 rfl rfl ?_
            refine K.loadS Y [_, _] (gd0 rfl) rfl rfl t68 rfl rfl rfl ?_
            refine K.move (.inl rfl) (gd0 rfl) rfl rfl ?_
            refine K.loadS Y [_, _, _, _, _, _, _, _, _, _, _, _, _, _, _, _] (gd0 rfl) rfl rfl t43 rfl rfl rfl ?_
            refine K.move (.inl rfl) (gd0 rfl) rfl rfl ?_
            refine K.callR [(.func 64, _), ((.tmp 86), _), ((.tmp 88), _), ((.tmp 89), _), ((.tmp 90), _), ((.tmp 91), _)] (ih hx10) (toFn_func (cf 64 rfl) rfl) (gd0 rfl) ⟨rfl, rfl, rfl, rfl, rfl, rfl, trivial⟩ ⟨rfl, rfl, rfl, trivial⟩ rfl rfl rfl ?_
            refine K.move (.inr rfl) (gd0 rfl) rfl rfl ?_
            refine K.nil ?_
            refine At.next ?_
            refine G.ret ?_
            refine At.done Y [(.tmp 10, .c _)] rfl ⟨.tmp rfl, trivial⟩ (to' := [(0, _), (1, _), (2, _)]) ⟨rfl, rfl, rfl, trivial⟩ ?_ ?_ rfl rfl rfl (.inl rfl)
            · cases H0; rfl
            · cases H0; rfl
        ·
          replace H0 := bif_f H0 h9
          refine G.rg ?_
          refine K.move (.inl rfl) (gd0 rfl) rfl rfl ?_
          refine K.fieldAddr Y (gd0 rfl) rfl t70 rfl rfl ?_
          refine K.load1 Y (gd0 rfl) rfl rfl t3 rfl rfl ?_
          refine K.bin (V := .bool (decide (a2 > x4.size))) (gd0 rfl) rfl rfl (fun _ => rfl) rfl ?_
          refine K.move (.inl rfl) (gd0 rfl) rfl rfl ?_
          refine K.skip rfl rfl rfl rfl (h9) rfl ?_
          refine K.skip rfl rfl rfl rfl (h9) rfl ?_
          refine K.skip rfl rfl rfl rfl (h9) rfl ?_
          refine K.skip rfl rfl rfl rfl (h9) rfl ?_
          refine K.pickF (gd0 rfl) rfl (h9) rfl rfl ?_
          refine K.nil ?_
          refine At.next ?_
          refine G.cond rfl (fun h11 => ?_) (fun h11 => ?_)
          · cases h11
          ·
            refine G.skip ?_
            refine At.next ?_
            refine G.seq ?_
            obtain ⟨x11, hx11, H0⟩ := bnd H0
            refine G.rg ?_
            refine K.move (.inl rfl) (gd0 rfl) rfl rfl ?_
            refine K.fieldAddr Y (gd0 rfl) rfl t70 rfl rfl ?_
            refine K.loadS Y [_, _] (gd0 rfl) rfl rfl t68 rfl rfl rfl ?_
            refine K.move (.inl rfl) (gd0 rfl) rfl rfl ?_
            refine K.loadS Y [_, _, _, _, _, _, _, _, _, _, _, _, _, _, _, _] (gd0 rfl) rfl rfl t43 rfl rfl rfl ?_
            refine K.move (.inl rfl) (gd0 rfl) rfl rfl ?_
            refine K.callR [(.func 64, _), ((.tmp 86), _), ((.tmp 88), _), ((.tmp 89), _), ((.tmp 90), _), ((.tmp 91), _)] (ih hx11) (toFn_func (cf 64 rfl) rfl) (gd0 rfl) ⟨rfl, rfl, rfl, rfl, rfl, rfl, trivial⟩ ⟨rfl, rfl, rfl, trivial⟩ rfl rfl rfl ?_
            refine K.move (.inr rfl) (gd0 rfl) rfl rfl ?_
            refine K.nil ?_
            refine At.next ?_
            refine G.ret ?_
            refine At.done Y [(.tmp 10, .c _)] rfl ⟨.tmp rfl, trivial⟩ (to' := [(0, _), (1, _), (2, _)]) ⟨rfl, rfl, rfl, trivial⟩ ?_ ?_ rfl rfl rfl (.inl rfl)
            · cases H0; rfl
            · cases H0; rfl
theorem Tree_lastOfM_f14_con {k n : Nat} {g4 : FuncId} {fn4 : TSwell → TSwell → Option Bool} {cv4 : List Value} {Tc4 : TypeId} (cg4 : fnB Try.prog g4 = true) (hm4 : ∀ (c : Nat) {z0 : TSwell} {z1 : TSwell} {y : Bool}, fn4 z0 z1 = some y → SCon Try.prog g4 [.a (.agg ((eTSwell z0).map .v)), .a (.agg ((eTSwell z1).map .v)), SV.p c 0] [(c, vblk c cv4 Tc4)] (SV.b y) [(c, vblk c cv4 Tc4)] []) {p1 : Pool (TNode TMark TSwell)} {a1 : TRef} {a2 : Int} {a3 : TSwell} {ri0 rg0 : Int} {r : Int}  (H0 : Tree_lastOf.r opsM k n p1 a1 a2 a3 fn4 = some r) (m0 m1 m2 : Nat) : SCon Try.prog 64 [SV.p m0 0, .a (.agg ((eTRef a1).map .v)), .a (.c (.v (.int .i64 a2))), .a (.agg ((eTSwell a3).map .v)), .a (.c (.fn (.func g4) [m2]))] [(m0, blk m0 [.p m1 0, .i ri0, .i rg0] 74), (m1, plM m1 p1), (m2, vblk m2 cv4 Tc4)] (.a (.c (.v (.int .i64 r)))) [(m0, blk m0 [.p m1 0, .i ri0, .i rg0] 74), (m1, plM m1 p1), (m2, vblk m2 cv4 Tc4)] [] :=
  SCon.ren (rn [(0, m0), (1, m1), (2, m2)]) (Tree_lastOfM_f14_con0 (k := k) cg4 hm4  H0) ⟨(blk_ren rfl rfl), (pl_ren rfl), (vblk_ren rfl), trivial⟩ ⟨(blk_ren rfl rfl), (pl_ren rfl), (vblk_ren rfl), trivial⟩ (by simp) (by simp)
theorem Tree_LastM_f12_con0 {k : Nat} {g2 : FuncId} {fn2 : TSwell → TSwell → Option Bool} {cv2 : List Value} {Tc2 : TypeId} (cg2 : fnB Try.prog g2 = true) (hm2 : ∀ (c : Nat) {z0 : TSwell} {z1 : TSwell} {y : Bool}, fn2 z0 z1 = some y → SCon Try.prog g2 [.a (.agg ((eTSwell z0).map .v)), .a (.agg ((eTSwell z1).map .v)), SV.p c 0] [(c, vblk c cv2 Tc2)] (SV.b y) [(c, vblk c cv2 Tc2)] []) {p1 : Pool (TNode TMark TSwell)} {rt0 : TRef} {a1 : Int} {r : Int}  (H0 : Tree_Last.f opsM k p1 rt0 a1 fn2 = some r) : SCon Try.prog 49 [SV.p 0 0, .a (.c (.v (.int .i64 a1))), .a (.c (.fn (.func g2) [2]))] [(0, blk 0 [.p 1 0, .i rt0.index, .i rt0.gen] 74), (1, plM 1 p1), (2, vblk 2 cv2 Tc2)] (.a (.c (.v (.int .i64 r)))) [(0, blk 0 [.p 1 0, .i rt0.index, .i rt0.gen] 74), (1, plM 1 p1), (2, vblk 2 cv2 Tc2)] [] := by
  rw [Tree_Last.f] at H0
  refine spec_of [(0, _), (1, _), (2, _)] [(0, _), (1, _), (2, _)] 21 Try.func49 rfl Try.ntmps49 rfl rfl rfl rfl (fun β W F => ?_)
  refine G.seq ?_
  refine G.rg ?_
  refine K.move (.inr rfl) (gd0 rfl) rfl rfl ?_
  refine K.nil ?_
  refine At.next ?_
  refine G.seq ?_
  refine G.rg ?_
  refine K.alloc Y 100 [_, _, _, _, _, _, _, _, _, _, _, _, _, _, _, _] (gd0 rfl) t43 rfl rfl rfl rfl rfl ?_
  refine K.nil ?_
  refine At.next ?_
  refine G.seq ?_
  obtain ⟨x1, hx1, H0⟩ := bnd H0
  obtain ⟨x2, hx2, H0⟩ := bnd H0
  refine G.rd mixed ?_
  refine K.move (.inl rfl) (gd0 rfl) rfl rfl ?_
  refine K.move (.inl rfl) (gd0 rfl) rfl rfl ?_
  refine K.nilCheck (gd0 rfl) rfl rfl ?_
  refine K.fieldAddr Y (gd0 rfl) rfl t74 rfl rfl ?_
  refine K.loadS Y [_, _] (gd0 rfl) rfl rfl t68 rfl rfl rfl ?_
  refine K.move (.inl rfl) (gd0 rfl) rfl rfl ?_
  refine K.bi2 (V := .int .i64 (gmax a1 0)) (gd0 rfl) rfl rfl (fun _ _ => rfl) rfl ?_
  refine K.move (.inl rfl) (gd0 rfl) rfl rfl ?_
  refine K.callR [(.func 21, _), ((.tmp 15), _)] (Tree_LenM_con (k := k) hx1 0 1) (toFn_func (cf 21 rfl) rfl) (gd0 rfl) ⟨rfl, rfl, trivial⟩ ⟨rfl, rfl, trivial⟩ rfl rfl rfl ?_
  refine K.bi2 (V := .int .i64 (gmin (gmax a1 0) x1)) (gd0 rfl) rfl rfl (fun _ _ => rfl) rfl ?_
  refine K.loadS Y [_, _, _, _, _, _, _, _, _, _, _, _, _, _, _, _] (gd0 rfl) rfl rfl t43 rfl rfl rfl ?_
  refine K.move (.inl rfl) (gd0 rfl) rfl rfl ?_
  refine K.callR [(.func 64, _), ((.tmp 8), _), ((.tmp 12), _), ((.tmp 17), _), ((.tmp 18), _), ((.tmp 19), _)] (Tree_lastOfM_f14_con (k := k) cg2 hm2 hx2 0 1 2) (toFn_func (cf 64 rfl) rfl) (gd0 rfl) ⟨rfl, rfl, rfl, rfl, rfl, rfl, trivial⟩ ⟨rfl, rfl, rfl, trivial⟩ rfl rfl rfl ?_
  refine K.move (.inr rfl) (gd0 rfl) rfl rfl ?_
  refine K.nil ?_
  refine ⟨by kernel_rfl, ?_⟩
  refine At.next ?_
  refine G.ret ?_
  refine At.done Y [(.tmp 6, .c _)] rfl ⟨.tmp rfl, trivial⟩ (to' := [(0, _), (1, _), (2, _)]) ⟨rfl, rfl, rfl, trivial⟩ ?_ ?_ rfl rfl rfl (.inl rfl)
  · cases H0; rfl
  · cases H0; rfl
theorem Tree_LastM_f12_con {k : Nat} {g2 : FuncId} {fn2 : TSwell → TSwell → Option Bool} {cv2 : List Value} {Tc2 : TypeId} (cg2 : fnB Try.prog g2 = true) (hm2 : ∀ (c : Nat) {z0 : TSwell} {z1 : TSwell} {y : Bool}, fn2 z0 z1 = some y → SCon Try.prog g2 [.a (.agg ((eTSwell z0).map .v)), .a (.agg ((eTSwell z1).map .v)), SV.p c 0] [(c, vblk c cv2 Tc2)] (SV.b y) [(c, vblk c cv2 Tc2)] []) {p1 : Pool (TNode TMark TSwell)} {rt0 : TRef} {a1 : Int} {r : Int}  (H0 : Tree_Last.f opsM k p1 rt0 a1 fn2 = some r) (m0 m1 m2 : Nat) : SCon Try.prog 49 [SV.p m0 0, .a (.c (.v (.int .i64 a1))), .a (.c (.fn (.func g2) [m2]))] [(m0, blk m0 [.p m1 0, .i rt0.index, .i rt0.gen] 74), (m1, plM m1 p1), (m2, vblk m2 cv2 Tc2)] (.a (.c (.v (.int .i64 r)))) [(m0, blk m0 [.p m1 0, .i rt0.index, .i rt0.gen] 74), (m1, plM m1 p1), (m2, vblk m2 cv2 Tc2)] [] :=
  SCon.ren (rn [(0, m0), (1, m1), (2, m2)]) (Tree_LastM_f12_con0 (k := k) cg2 hm2  H0) ⟨(blk_ren rfl rfl), (pl_ren rfl), (vblk_ren rfl), trivial⟩ ⟨(blk_ren rfl rfl), (pl_ren rfl), (vblk_ren rfl), trivial⟩ (by simp) (by simp)
theorem Tree_FindM_con0 {k : Nat}  {p1 : Pool (TNode TMark TSwell)} {rt0 : TRef} {a1 : TMark} {r : TMark × Bool}  (H0 : Tree_Find.f opsM k p1 rt0 a1 = some r) : SCon Try.prog 55 [SV.p 0 0, .a (.agg ((eTMark a1).map .v))] [(0, blk 0 [.p 1 0, .i rt0.index, .i rt0.gen] 74), (1, plM 1 p1)] (.tup [.agg ((eTMark r.1).map .v), .c (.v (.bool r.2))]) [(0, blk 0 [.p 1 0, .i rt0.index, .i rt0.gen] 74), (1, plM 1 p1)] [] := by
  rw [Tree_Find.f] at H0
  refine spec_of [(0, _), (1, _)] [(0, _), (1, _)] 37 Try.func55 rfl Try.ntmps55 rfl rfl rfl rfl (fun β W F => ?_)
  refine G.seq ?_
  refine G.rg ?_
  refine K.box Y 100 [_, _, _, _, _, _, _, _] (gd0 rfl) rfl rfl rfl rfl rfl rfl ?_
  refine K.alloc Y 101 [_, _, _, _, _, _, _, _] (gd0 rfl) t39 rfl rfl rfl rfl rfl ?_
  refine K.move (.inr rfl) (gd0 rfl) rfl rfl ?_
  refine K.nil ?_
  refine At.next ?_
  obtain ⟨x1, H1, H0⟩ := bnd H0
  refine G.seqJ (σ := { v : Unit // x1 = Sum.inr v }) (fun q => [(4, .a (.c (.p 102 0)))]) (fun q => [(102, blk 102 [.v (.int .i64 0), .v (.bool false), .v (.int .i64 0), .v (.int .i64 0), .v (.bool false), .v (.bool false), .v (.int .i64 0), .v (.int .i64 0)] 39), (1, plM 1 p1), (0, blk 0 [.p 1 0, .v (.int .i64 rt0.index), .v (.int .i64 rt0.gen)] 74)]) ?_ ?_
  ·
    refine G.seq ?_
    refine G.rg ?_
    refine K.move (.inl rfl) (gd0 rfl) rfl rfl ?_
    refine K.nilCheck (gd0 rfl) rfl rfl ?_
    refine K.fieldAddr Y (gd0 rfl) rfl t74 rfl rfl ?_
    refine K.loadS Y [_, _] (gd0 rfl) rfl rfl t68 rfl rfl rfl ?_
    refine K.alloc Y 103 [_, _] (gd0 rfl) t68 rfl rfl rfl rfl rfl ?_
    refine K.store Y [_, _] (gd0 rfl) rfl rfl rfl t68 rfl rfl rfl rfl rfl ?_
    refine K.nil ?_
    refine At.next ?_
    refine G.block ?_
    refine G.loop (σ := { q : Nat × (TRef) // Tree_Find.l0 opsM k p1 a1 q.1 q.2 = some x1 }) (fun q => [(0, .a (.c (.p 0 0))), (3, .a (.c (.p 110 0))), (4, .a (.c (.p 111 0))), (6, .a (.c (.p 112 0)))]) (fun q => [(1, plM 1 p1), (0, blk 0 [.p 1 0, .v (.int .i64 rt0.index), .v (.int .i64 rt0.gen)] 74), (110, blk 110 [.v (.int .i64 a1.op.time), .v (.bool a1.op.insert), .v (.int .i64 a1.op.item.key), .v (.int .i64 a1.op.item.id), .v (.bool a1.here), .v (.bool a1.took.found), .v (.int .i64 a1.took.item.key), .v (.int .i64 a1.took.item.id)] 39), (111, blk 111 [.v (.int .i64 0), .v (.bool false), .v (.int .i64 0), .v (.int .i64 0), .v (.bool false), .v (.bool false), .v (.int .i64 0), .v (.int .i64 0)] 39), (112, blk 112 [.v (.int .i64 q.1.2.index), .v (.int .i64 q.1.2.gen)] 68)]) (fun q => q.1.1) ⟨(k, rt0), H1⟩ ?_ ?_
    · exact At.into [(110, 100), (111, 101), (112, 103)] [_, _, _, _, _] rfl ⟨rfl, rfl, rfl, rfl, trivial⟩ ⟨rfl, (pl_ren rfl), rfl, (blk_ren rfl rfl), rfl, (blk_ren rfl rfl), rfl, (blk_ren rfl rfl), rfl, (blk_ren rfl rfl), trivial⟩ rfl
    ·
      rintro ⟨⟨n0, v1⟩, H1⟩
      show G _ _ [(0, .a (.c (.p 0 0))), (3, .a (.c (.p 110 0))), (4, .a (.c (.p 111 0))), (6, .a (.c (.p 112 0)))] [(1, some (plM 1 p1)), (0, some (blk 0 [.p 1 0, .v (.int .i64 rt0.index), .v (.int .i64 rt0.gen)] 74)), (110, some (blk 110 [.v (.int .i64 a1.op.time), .v (.bool a1.op.insert), .v (.int .i64 a1.op.item.key), .v (.int .i64 a1.op.item.id), .v (.bool a1.here), .v (.bool a1.took.found), .v (.int .i64 a1.took.item.key), .v (.int .i64 a1.took.item.id)] 39)), (111, some (blk 111 [.v (.int .i64 0), .v (.bool false), .v (.int .i64 0), .v (.int .i64 0), .v (.bool false), .v (.bool false), .v (.int .i64 0), .v (.int .i64 0)] 39)), (112, some (blk 112 [.v (.int .i64 v1.index), .v (.int .i64 v1.gen)] 68))] _ _
      cases n0 with
      | zero => exact absurd H1 (by simp [Tree_Find.l0])
      | succ n0 =>
        have HL0 := H1
        rw [Tree_Find.l0] at H1
        refine G.seq ?_
        refine G.seq ?_
        refine G.rg ?_
        refine K.fieldAddr Y (gd0 rfl) rfl t68 rfl rfl ?_
        refine K.load1 Y (gd0 rfl) rfl rfl t3 rfl rfl ?_
        refine K.bin (V := .bool (v1.gen != 0)) (gd0 rfl) rfl rfl (fun _ => rfl) rfl ?_
        refine K.nil ?_
        refine At.next ?_
        refine G.cond rfl (fun h1 => ?_) (fun h1 => ?_)
        ·
          replace H1 := bif_t H1 h1
          refine G.skip ?_
          refine At.next ?_
          refine G.seq ?_
          refine G.block ?_
          refine G.seq ?_
          obtain ⟨x2, hx2, H1⟩ := bnd H1
          refine G.rg ?_
          refine K.move (.inl rfl) (gd0 rfl) rfl rfl ?_
          refine K.loadS Y [_, _] (gd0 rfl) rfl rfl t68 rfl rfl rfl ?_
          refine K.callR [(.func 50, _), ((.tmp 17), _), ((.tmp 18), _)] (Tree_getM_con (k := k) hx2 0 1) (toFn_func (cf 50 rfl) rfl) (gd0 rfl) ⟨rfl, rfl, rfl, trivial⟩ ⟨rfl, rfl, trivial⟩ rfl rfl rfl ?_
          refine K.alloc Y 113 [_, _, _, _, _, _, _, _, _, _, _, _, _, _, _, _, _, _, _, _, _, _, _, _, _, _, _, _, _] (gd0 rfl) t70 rfl rfl rfl rfl rfl ?_
          refine K.store Y [_, _, _, _, _, _, _, _, _, _, _, _, _, _, _, _, _, _, _, _, _, _, _, _, _, _, _, _, _] (gd0 rfl) rfl rfl rfl t70 rfl rfl rfl rfl rfl ?_
          refine K.nil ?_
          refine At.next ?_
          refine G.seq ?_
          obtain ⟨x3, hx3, H1⟩ := bnd H1
          refine G.rg ?_
          refine K.loadS Y [_, _, _, _, _, _, _, _] (gd0 rfl) rfl rfl t39 rfl rfl rfl ?_
          refine K.mkIface Y (gd0 rfl) rfl (mkI Try.underlying39 rfl) rfl ?_
          refine K.fieldAddr Y (gd0 rfl) rfl t70 rfl rfl ?_
          refine K.loadS Y [_, _, _, _, _, _, _, _] (gd0 rfl) rfl rfl t39 rfl rfl rfl ?_
          refine K.callR [((.tmp 21), _), ((.tmp 23), _)] (wave_Mark_Compare_con (k := k) hx3) (toFn_invoke (cf 95 rfl) (me39_95) rfl) (gd0 rfl) ⟨rfl, rfl, trivial⟩ trivial rfl rfl rfl ?_
          refine K.move (.inr rfl) (gd0 rfl) rfl rfl ?_
          refine K.nil ?_
          refine At.next ?_
          refine G.seq ?_
          refine G.seq ?_
          refine G.rg ?_
          refine K.move (.inl rfl) (gd0 rfl) rfl rfl ?_
          refine K.bin (V := .bool (x3 == 0)) (gd0 rfl) rfl rfl (fun _ => rfl) rfl ?_
          refine K.nil ?_
          refine At.next ?_
          refine G.cond rfl (fun h2 => ?_) (fun h2 => ?_)
          ·
            replace H1 := bif_t H1 h2
            refine G.seq ?_
            refine G.rg ?_
            refine K.fieldAddr Y (gd0 rfl) rfl t70 rfl rfl ?_
            refine K.loadS Y [_, _, _, _, _, _, _, _] (gd0 rfl) rfl rfl t39 rfl rfl rfl ?_
            refine K.store Y [_, _, _, _, _, _, _, _] (gd0 rfl) rfl rfl rfl t39 rfl rfl rfl rfl rfl ?_
            refine K.move (.inr rfl) (gd0 rfl) rfl rfl ?_
            refine K.nil ?_
            refine At.next ?_
            refine G.ret ?_
            refine At.over_ret ?_
            refine At.block_ret ?_
            refine At.over_ret ?_
            refine At.over_ret ?_
            refine At.block_ret ?_
            refine At.over_ret ?_
            cases H1
            replace H0 := sum_l H0
            refine At.done Y [(.cell 4 39, .agg [_, _, _, _, _, _, _, _]), (.tmp 5, .c _)] rfl ⟨.st rfl rfl t39 rfl rfl, .tmp rfl, trivial⟩ (to' := [(0, _), (1, _)]) ⟨rfl, rfl, trivial⟩ ?_ ?_ rfl rfl rfl (.inl rfl)
            · cases H0; rfl
            · cases H0; rfl
          ·
            replace H1 := bif_f H1 h2
            refine G.skip ?_
            refine At.next ?_
            refine G.seq ?_
            refine G.rg ?_
            refine K.fieldAddr Y (gd0 rfl) rfl t70 rfl rfl ?_
            refine K.loadS Y [_, _] (gd0 rfl) rfl rfl t68 rfl rfl rfl ?_
            refine K.store Y [_, _] (gd0 rfl) rfl rfl rfl t68 rfl rfl rfl rfl rfl ?_
            refine K.nil ?_
            refine At.next ?_
            refine G.seq ?_
            refine G.rg ?_
            refine K.move (.inl rfl) (gd0 rfl) rfl rfl ?_
            refine K.bin (V := .bool (decide (x3 < 0))) (gd0 rfl) rfl rfl (fun _ => rfl) rfl ?_
            refine K.nil ?_
            refine At.next ?_
            refine G.cond rfl (fun h3 => ?_) (fun h3 => ?_)
            ·
              replace H1 := bif_t H1 h3
              refine G.rg ?_
              refine K.fieldAddr Y (gd0 rfl) rfl t70 rfl rfl ?_
              refine K.loadS Y [_, _] (gd0 rfl) rfl rfl t68 rfl rfl rfl ?_
              refine K.store Y [_, _] (gd0 rfl) rfl rfl rfl t68 rfl rfl rfl rfl rfl ?_
              refine K.nil ?_
              refine At.block_normal ?_
              refine At.next ?_
              refine G.seq ?_
              refine G.rg ?_
              refine K.loadS Y [_, _] (gd0 rfl) rfl rfl t68 rfl rfl rfl ?_
              refine K.nil ?_
              refine At.next ?_
              refine G.rg ?_
              refine K.alloc Y 114 [_, _] (gd0 rfl) t68 rfl rfl rfl rfl rfl ?_
              refine K.store Y [_, _] (gd0 rfl) rfl rfl rfl t68 rfl rfl rfl rfl rfl ?_
              refine K.nil ?_
              exact At.again (σ := { q : Nat × (TRef) // Tree_Find.l0 opsM k p1 a1 q.1 q.2 = some x1 }) (Fs := fun q => [(0, .a (.c (.p 0 0))), (3, .a (.c (.p 110 0))), (4, .a (.c (.p 111 0))), (6, .a (.c (.p 112 0)))]) (Tl := fun q => [(1, plM 1 p1), (0, blk 0 [.p 1 0, .v (.int .i64 rt0.index), .v (.int .i64 rt0.gen)] 74), (110, blk 110 [.v (.int .i64 a1.op.time), .v (.bool a1.op.insert), .v (.int .i64 a1.op.item.key), .v (.int .i64 a1.op.item.id), .v (.bool a1.here), .v (.bool a1.took.found), .v (.int .i64 a1.took.item.key), .v (.int .i64 a1.took.item.id)] 39), (111, blk 111 [.v (.int .i64 0), .v (.bool false), .v (.int .i64 0), .v (.int .i64 0), .v (.bool false), .v (.bool false), .v (.int .i64 0), .v (.int .i64 0)] 39), (112, blk 112 [.v (.int .i64 q.1.2.index), .v (.int .i64 q.1.2.gen)] 68)]) (μ := fun q => q.1.1) (s := ⟨(n0 + 1, v1), HL0⟩) ⟨(n0, x2.left), H1⟩ [(112, 114)] [_, _, _, _, _] (Nat.lt_succ_self _) rfl ⟨rfl, rfl, rfl, rfl, trivial⟩ ⟨rfl, (pl_ren rfl), rfl, (blk_ren rfl rfl), rfl, (blk_ren rfl rfl), rfl, (blk_ren rfl rfl), rfl, (blk_ren rfl rfl), trivial⟩ rfl
            ·
              replace H1 := bif_f H1 h3
              refine G.skip ?_
              refine At.block_normal ?_
              refine At.next ?_
              refine G.seq ?_
              refine G.rg ?_
              refine K.loadS Y [_, _] (gd0 rfl) rfl rfl t68 rfl rfl rfl ?_
              refine K.nil ?_
              refine At.next ?_
              refine G.rg ?_
              refine K.alloc Y 115 [_, _] (gd0 rfl) t68 rfl rfl rfl rfl rfl ?_
              refine K.store Y [_, _] (gd0 rfl) rfl rfl rfl t68 rfl rfl rfl rfl rfl ?_
              refine K.nil ?_
              exact At.again (σ := { q : Nat × (TRef) // Tree_Find.l0 opsM k p1 a1 q.1 q.2 = some x1 }) (Fs := fun q => [(0, .a (.c (.p 0 0))), (3, .a (.c (.p 110 0))), (4, .a (.c (.p 111 0))), (6, .a (.c (.p 112 0)))]) (Tl := fun q => [(1, plM 1 p1), (0, blk 0 [.p 1 0, .v (.int .i64 rt0.index), .v (.int .i64 rt0.gen)] 74), (110, blk 110 [.v (.int .i64 a1.op.time), .v (.bool a1.op.insert), .v (.int .i64 a1.op.item.key), .v (.int .i64 a1.op.item.id), .v (.bool a1.here), .v (.bool a1.took.found), .v (.int .i64 a1.took.item.key), .v (.int .i64 a1.took.item.id)] 39), (111, blk 111 [.v (.int .i64 0), .v (.bool false), .v (.int .i64 0), .v (.int .i64 0), .v (.bool false), .v (.bool false), .v (.int .i64 0), .v (.int .i64 0)] 39), (112, blk 112 [.v (.int .i64 q.1.2.index), .v (.int .i64 q.1.2.gen)] 68)]) (μ := fun q => q.1.1) (s := ⟨(n0 + 1, v1), HL0⟩) ⟨(n0, x2.right), H1⟩ [(112, 115)] [_, _, _, _, _] (Nat.lt_succ_self _) rfl ⟨rfl, rfl, rfl, rfl, trivial⟩ ⟨rfl, (pl_ren rfl), rfl, (blk_ren rfl rfl), rfl, (blk_ren rfl rfl), rfl, (blk_ren rfl rfl), rfl, (blk_ren rfl rfl), trivial⟩ rfl
        ·
          replace H1 := bif_f H1 h1
          refine G.exit ?_
          refine At.over_exit ?_
          refine At.over_exit ?_
          refine At.block_hit ?_
          exact At.joined (σ := { v : Unit // x1 = Sum.inr v }) (Fs := fun q => [(4, .a (.c (.p 102 0)))]) (Tl := fun q => [(102, blk 102 [.v (.int .i64 0), .v (.bool false), .v (.int .i64 0), .v (.int .i64 0), .v (.bool false), .v (.bool false), .v (.int .i64 0), .v (.int .i64 0)] 39), (1, plM 1 p1), (0, blk 0 [.p 1 0, .v (.int .i64 rt0.index), .v (.int .i64 rt0.gen)] 74)]) ⟨(), (Option.some.inj H1).symm⟩ [(102, 111)] [_, _, _] rfl ⟨rfl, trivial⟩ ⟨rfl, (blk_ren rfl rfl), rfl, (pl_ren rfl), rfl, (blk_ren rfl rfl), trivial⟩ rfl
  ·
    rintro ⟨v1, rfl⟩
    replace H0 := sum_r H0
    show G _ _ [(4, .a (.c (.p 102 0)))] [(102, some (blk 102 [.v (.int .i64 0), .v (.bool false), .v (.int .i64 0), .v (.int .i64 0), .v (.bool false), .v (.bool false), .v (.int .i64 0), .v (.int .i64 0)] 39)), (1, some (plM 1 p1)), (0, some (blk 0 [.p 1 0, .v (.int .i64 rt0.index), .v (.int .i64 rt0.gen)] 74))] _ _
    refine G.seq ?_
    refine G.rg ?_
    refine K.alloc Y 116 [_, _, _, _, _, _, _, _] (gd0 rfl) t39 rfl rfl rfl rfl rfl ?_
    refine K.nil ?_
    refine At.next ?_
    refine G.seq ?_
    refine G.rg ?_
    refine K.loadS Y [_, _, _, _, _, _, _, _] (gd0 rfl) rfl rfl t39 rfl rfl rfl ?_
    refine K.store Y [_, _, _, _, _, _, _, _] (gd0 rfl) rfl rfl rfl t39 rfl rfl rfl rfl rfl ?_
    refine K.move (.inr rfl) (gd0 rfl) rfl rfl ?_
    refine K.nil ?_
    refine At.next ?_
    refine G.ret ?_
    refine At.done Y [(.cell 4 39, .agg [_, _, _, _, _, _, _, _]), (.tmp 5, .c _)] rfl ⟨.st rfl rfl t39 rfl rfl, .tmp rfl, trivial⟩ (to' := [(0, _), (1, _)]) ⟨rfl, rfl, trivial⟩ ?_ ?_ rfl rfl rfl (.inl rfl)
    · cases H0; rfl
    · cases H0; rfl
theorem Tree_FindM_con {k : Nat}  {p1 : Pool (TNode TMark TSwell)} {rt0 : TRef} {a1 : TMark} {r : TMark × Bool}  (H0 : Tree_Find.f opsM k p1 rt0 a1 = some r) (m0 m1 : Nat) : SCon Try.prog 55 [SV.p m0 0, .a (.agg ((eTMark a1).map .v))] [(m0, blk m0 [.p m1 0, .i rt0.index, .i rt0.gen] 74), (m1, plM m1 p1)] (.tup [.agg ((eTMark r.1).map .v), .c (.v (.bool r.2))]) [(m0, blk m0 [.p m1 0, .i rt0.index, .i rt0.gen] 74), (m1, plM m1 p1)] [] :=
  SCon.ren (rn [(0, m0), (1, m1)]) (Tree_FindM_con0 (k := k)   H0) ⟨(blk_ren rfl rfl), (pl_ren rfl), trivial⟩ ⟨(blk_ren rfl rfl), (pl_ren rfl), trivial⟩ (by simp) (by simp)
theorem Tree_RankM_con0 {k : Nat}  {p1 : Pool (TNode TMark TSwell)} {rt0 : TRef} {a1 : TMark} {r : Int}  (H0 : Tree_Rank.f opsM k p1 rt0 a1 = some r) : SCon Try.prog 58 [SV.p 0 0, .a (.agg ((eTMark a1).map .v))] [(0, blk 0 [.p 1 0, .i rt0.index, .i rt0.gen] 74), (1, plM 1 p1)] (.a (.c (.v (.int .i64 r)))) [(0, blk 0 [.p 1 0, .i rt0.index, .i rt0.gen] 74), (1, plM 1 p1)] [] := by
  rw [Tree_Rank.f] at H0
  refine spec_of [(0, _), (1, _)] [(0, _), (1, _)] 36 Try.func58 rfl Try.ntmps58 rfl rfl rfl rfl (fun β W F => ?_)
  refine G.seq ?_
  refine G.rg ?_
  refine K.box Y 100 [_, _, _, _, _, _, _, _] (gd0 rfl) rfl rfl rfl rfl rfl rfl ?_
  refine K.move (.inr rfl) (gd0 rfl) rfl rfl ?_
  refine K.nil ?_
  refine At.next ?_
  refine G.seq ?_
  refine G.rg ?_
  refine K.move (.inr rfl) (gd0 rfl) rfl rfl ?_
  refine K.nil ?_
  refine At.next ?_
  obtain ⟨x1, H1, H0⟩ := bnd H0
  refine G.seqJ (σ := { v : Int // x1 = v }) (fun q => [(5, .a (.c (.v (.int .i64 q.1))))]) (fun q => [(1, plM 1 p1), (0, blk 0 [.p 1 0, .v (.int .i64 rt0.index), .v (.int .i64 rt0.gen)] 74)]) ?_ ?_
  ·
    refine G.seq ?_
    refine G.rg ?_
    refine K.move (.inl rfl) (gd0 rfl) rfl rfl ?_
    refine K.nilCheck (gd0 rfl) rfl rfl ?_
    refine K.fieldAddr Y (gd0 rfl) rfl t74 rfl rfl ?_
    refine K.loadS Y [_, _] (gd0 rfl) rfl rfl t68 rfl rfl rfl ?_
    refine K.alloc Y 101 [_, _] (gd0 rfl) t68 rfl rfl rfl rfl rfl ?_
    refine K.store Y [_, _] (gd0 rfl) rfl rfl rfl t68 rfl rfl rfl rfl rfl ?_
    refine K.nil ?_
    refine At.next ?_
    refine G.block ?_
    refine G.loop (σ := { q : Nat × (Int × TRef) // Tree_Rank.l0 opsM k p1 a1 q.1 q.2 = some x1 }) (fun q => [(0, .a (.c (.p 0 0))), (3, .a (.c (.p 106 0))), (5, .a (.c (.v (.int .i64 q.1.2.1)))), (6, .a (.c (.p 107 0)))]) (fun q => [(1, plM 1 p1), (0, blk 0 [.p 1 0, .v (.int .i64 rt0.index), .v (.int .i64 rt0.gen)] 74), (106, blk 106 [.v (.int .i64 a1.op.time), .v (.bool a1.op.insert), .v (.int .i64 a1.op.item.key), .v (.int .i64 a1.op.item.id), .v (.bool a1.here), .v (.bool a1.took.found), .v (.int .i64 a1.took.item.key), .v (.int .i64 a1.took.item.id)] 39), (107, blk 107 [.v (.int .i64 q.1.2.2.index), .v (.int .i64 q.1.2.2.gen)] 68)]) (fun q => q.1.1) ⟨(k, (0, rt0)), H1⟩ ?_ ?_
    · exact At.into [(106, 100), (107, 101)] [_, _, _, _] rfl ⟨rfl, rfl, rfl, rfl, trivial⟩ ⟨rfl, (pl_ren rfl), rfl, (blk_ren rfl rfl), rfl, (blk_ren rfl rfl), rfl, (blk_ren rfl rfl), trivial⟩ rfl
    ·
      rintro ⟨⟨n0, v1, v2⟩, H1⟩
      show G _ _ [(0, .a (.c (.p 0 0))), (3, .a (.c (.p 106 0))), (5, .a (.c (.v (.int .i64 v1)))), (6, .a (.c (.p 107 0)))] [(1, some (plM 1 p1)), (0, some (blk 0 [.p 1 0, .v (.int .i64 rt0.index), .v (.int .i64 rt0.gen)] 74)), (106, some (blk 106 [.v (.int .i64 a1.op.time), .v (.bool a1.op.insert), .v (.int .i64 a1.op.item.key), .v (.int .i64 a1.op.item.id), .v (.bool a1.here), .v (.bool a1.took.found), .v (.int .i64 a1.took.item.key), .v (.int .i64 a1.took.item.id)] 39)), (107, some (blk 107 [.v (.int .i64 v2.index), .v (.int .i64 v2.gen)] 68))] _ _
      cases n0 with
      | zero => exact absurd H1 (by simp [Tree_Rank.l0])
      | succ n0 =>
        have HL0 := H1
        rw [Tree_Rank.l0] at H1
        refine G.seq ?_
        refine G.seq ?_
        refine G.rg ?_
        refine K.fieldAddr Y (gd0 rfl) rfl t68 rfl rfl ?_
        refine K.load1 Y (gd0 rfl) rfl rfl t3 rfl rfl ?_
        refine K.bin (V := .bool (v2.gen != 0)) (gd0 rfl) rfl rfl (fun _ => rfl) rfl ?_
        refine K.nil ?_
        refine At.next ?_
        refine G.cond rfl (fun h1 => ?_) (fun h1 => ?_)
        ·
          replace H1 := bif_t H1 h1
          refine G.skip ?_
          refine At.next ?_
          refine G.seq ?_
          refine G.block ?_
          refine G.seq ?_
          obtain ⟨x2, hx2, H1⟩ := bnd H1
          refine G.rg ?_
          refine K.move (.inl rfl) (gd0 rfl) rfl rfl ?_
          refine K.loadS Y [_, _] (gd0 rfl) rfl rfl t68 rfl rfl rfl ?_
          refine K.callR [(.func 50, _), ((.tmp 15), _), ((.tmp 16), _)] (Tree_getM_con (k := k) hx2 0 1) (toFn_func (cf 50 rfl) rfl) (gd0 rfl) ⟨rfl, rfl, rfl, trivial⟩ ⟨rfl, rfl, trivial⟩ rfl rfl rfl ?_
          refine K.alloc Y 108 [_, _, _, _, _, _, _, _, _, _, _, _, _, _, _, _, _, _, _, _, _, _, _, _, _, _, _, _, _] (gd0 rfl) t70 rfl rfl rfl rfl rfl ?_
          refine K.store Y [_, _, _, _, _, _, _, _, _, _, _, _, _, _, _, _, _, _, _, _, _, _, _, _, _, _, _, _, _] (gd0 rfl) rfl rfl rfl t70 rfl rfl rfl rfl rfl ?_
          refine K.nil ?_
          refine At.next ?_
          refine G.seq ?_
          refine G.seq ?_
          obtain ⟨x3, hx3, H1⟩ := bnd H1
          refine G.rg ?_
          refine K.loadS Y [_, _, _, _, _, _, _, _] (gd0 rfl) rfl rfl t39 rfl rfl rfl ?_
          refine K.mkIface Y (gd0 rfl) rfl (mkI Try.underlying39 rfl) rfl ?_
          refine K.fieldAddr Y (gd0 rfl) rfl t70 rfl rfl ?_
          refine K.loadS Y [_, _, _, _, _, _, _, _] (gd0 rfl) rfl rfl t39 rfl rfl rfl ?_
          refine K.callR [((.tmp 19), _), ((.tmp 21), _)] (wave_Mark_Compare_con (k := k) hx3) (toFn_invoke (cf 95 rfl) (me39_95) rfl) (gd0 rfl) ⟨rfl, rfl, trivial⟩ trivial rfl rfl rfl ?_
          refine K.bin (V := .bool (decide (x3 ≤ 0))) (gd0 rfl) rfl rfl (fun _ => rfl) rfl ?_
          refine K.nil ?_
          refine At.next ?_
          refine G.cond rfl (fun h2 => ?_) (fun h2 => ?_)
          ·
            replace H1 := bif_t H1 h2
            refine G.seq ?_
            refine G.rg ?_
            refine K.fieldAddr Y (gd0 rfl) rfl t70 rfl rfl ?_
            refine K.loadS Y [_, _] (gd0 rfl) rfl rfl t68 rfl rfl rfl ?_
            refine K.store Y [_, _] (gd0 rfl) rfl rfl rfl t68 rfl rfl rfl rfl rfl ?_
            refine K.nil ?_
            refine At.next ?_
            refine G.exit ?_
            refine At.over_exit ?_
            refine At.block_hit ?_
            refine At.next ?_
            refine G.seq ?_
            refine G.rg ?_
            refine K.loadS Y [_, _] (gd0 rfl) rfl rfl t68 rfl rfl rfl ?_
            refine K.nil ?_
            refine At.next ?_
            refine G.rg ?_
            refine K.alloc Y 109 [_, _] (gd0 rfl) t68 rfl rfl rfl rfl rfl ?_
            refine K.store Y [_, _] (gd0 rfl) rfl rfl rfl t68 rfl rfl rfl rfl rfl ?_
            refine K.nil ?_
            exact At.again (σ := { q : Nat × (Int × TRef) // Tree_Rank.l0 opsM k p1 a1 q.1 q.2 = some x1 }) (Fs := fun q => [(0, .a (.c (.p 0 0))), (3, .a (.c (.p 106 0))), (5, .a (.c (.v (.int .i64 q.1.2.1)))), (6, .a (.c (.p 107 0)))]) (Tl := fun q => [(1, plM 1 p1), (0, blk 0 [.p 1 0, .v (.int .i64 rt0.index), .v (.int .i64 rt0.gen)] 74), (106, blk 106 [.v (.int .i64 a1.op.time), .v (.bool a1.op.insert), .v (.int .i64 a1.op.item.key), .v (.int .i64 a1.op.item.id), .v (.bool a1.here), .v (.bool a1.took.found), .v (.int .i64 a1.took.item.key), .v (.int .i64 a1.took.item.id)] 39), (107, blk 107 [.v (.int .i64 q.1.2.2.index), .v (.int .i64 q.1.2.2.gen)] 68)]) (μ := fun q => q.1.1) (s := ⟨(n0 + 1, (v1, v2)), HL0⟩) ⟨(n0, (v1, x2.left)), H1⟩ [(107, 109)] [_, _, _, _] (Nat.lt_succ_self _) rfl ⟨rfl, rfl, rfl, rfl, trivial⟩ ⟨rfl, (pl_ren rfl), rfl, (blk_ren rfl rfl), rfl, (blk_ren rfl rfl), rfl, (blk_ren rfl rfl), trivial⟩ rfl
          ·
            replace H1 := bif_f H1 h2
            refine G.skip ?_
            refine At.next ?_
            refine G.seq ?_
            obtain ⟨x4, hx4, H1⟩ := bnd H1
            refine G.rg ?_
            refine K.move (.inl rfl) (gd0 rfl) rfl rfl ?_
            refine K.move (.inl rfl) (gd0 rfl) rfl rfl ?_
            refine K.fieldAddr Y (gd0 rfl) rfl t70 rfl rfl ?_
            refine K.loadS Y [_, _] (gd0 rfl) rfl rfl t68 rfl rfl rfl ?_
            refine K.callR [(.func 67, _), ((.tmp 27), _), ((.tmp 29), _)] (Tree_weightM_con (k := k) hx4 0 1) (toFn_func (cf 67 rfl) rfl) (gd0 rfl) ⟨rfl, rfl, rfl, trivial⟩ ⟨rfl, rfl, trivial⟩ rfl rfl rfl ?_
            refine K.bin (V := .int .i64 (w64 (v1 + x4))) (gd0 rfl) rfl rfl (fun _ => rfl) rfl ?_
            refine K.move (.inr rfl) (gd0 rfl) rfl rfl ?_
            refine K.nil ?_
            refine At.next ?_
            refine G.rg ?_
            refine K.fieldAddr Y (gd0 rfl) rfl t70 rfl rfl ?_
            refine K.loadS Y [_, _] (gd0 rfl) rfl rfl t68 rfl rfl rfl ?_
            refine K.store Y [_, _] (gd0 rfl) rfl rfl rfl t68 rfl rfl rfl rfl rfl ?_
            refine K.nil ?_
            refine At.block_normal ?_
            refine At.next ?_
            refine G.seq ?_
            refine G.rg ?_
            refine K.loadS Y [_, _] (gd0 rfl) rfl rfl t68 rfl rfl rfl ?_
            refine K.nil ?_
            refine At.next ?_
            refine G.rg ?_
            refine K.alloc Y 110 [_, _] (gd0 rfl) t68 rfl rfl rfl rfl rfl ?_
            refine K.store Y [_, _] (gd0 rfl) rfl rfl rfl t68 rfl rfl rfl rfl rfl ?_
            refine K.nil ?_
            exact At.again (σ := { q : Nat × (Int × TRef) // Tree_Rank.l0 opsM k p1 a1 q.1 q.2 = some x1 }) (Fs := fun q => [(0, .a (.c (.p 0 0))), (3, .a (.c (.p 106 0))), (5, .a (.c (.v (.int .i64 q.1.2.1)))), (6, .a (.c (.p 107 0)))]) (Tl := fun q => [(1, plM 1 p1), (0, blk 0 [.p 1 0, .v (.int .i64 rt0.index), .v (.int .i64 rt0.gen)] 74), (106, blk 106 [.v (.int .i64 a1.op.time), .v (.bool a1.op.insert), .v (.int .i64 a1.op.item.key), .v (.int .i64 a1.op.item.id), .v (.bool a1.here), .v (.bool a1.took.found), .v (.int .i64 a1.took.item.key), .v (.int .i64 a1.took.item.id)] 39), (107, blk 107 [.v (.int .i64 q.1.2.2.index), .v (.int .i64 q.1.2.2.gen)] 68)]) (μ := fun q => q.1.1) (s := ⟨(n0 + 1, (v1, v2)), HL0⟩) ⟨(n0, ((w64 (v1 + x4)), x2.right)), H1⟩ [(107, 110)] [_, _, _, _] (Nat.lt_succ_self _) rfl ⟨rfl, rfl, rfl, rfl, trivial⟩ ⟨rfl, (pl_ren rfl), rfl, (blk_ren rfl rfl), rfl, (blk_ren rfl rfl), rfl, (blk_ren rfl rfl), trivial⟩ rfl
        ·
          replace H1 := bif_f H1 h1
          refine G.exit ?_
          refine At.over_exit ?_
          refine At.over_exit ?_
          refine At.block_hit ?_
          exact At.joined (σ := { v : Int // x1 = v }) (Fs := fun q => [(5, .a (.c (.v (.int .i64 q.1))))]) (Tl := fun q => [(1, plM 1 p1), (0, blk 0 [.p 1 0, .v (.int .i64 rt0.index), .v (.int .i64 rt0.gen)] 74)]) ⟨v1, (Option.some.inj H1).symm⟩ [] [_, _] rfl ⟨rfl, trivial⟩ ⟨rfl, (pl_ren rfl), rfl, (blk_ren rfl rfl), trivial⟩ rfl
  ·
    rintro ⟨_, rfl⟩
    show G _ _ [(5, .a (.c (.v (.int .i64 x1))))] [(1, some (plM 1 p1)), (0, some (blk 0 [.p 1 0, .v (.int .i64 rt0.index), .v (.int .i64 rt0.gen)] 74))] _ _
    refine G.seq ?_
    refine G.rg ?_
    refine K.move (.inl rfl) (gd0 rfl) rfl rfl ?_
    refine K.move (.inr rfl) (gd0 rfl) rfl rfl ?_
    refine K.nil ?_
    refine At.next ?_
    refine G.ret ?_
    refine At.done Y [(.tmp 4, .c _)] rfl ⟨.tmp rfl, trivial⟩ (to' := [(0, _), (1, _)]) ⟨rfl, rfl, trivial⟩ ?_ ?_ rfl rfl rfl (.inl rfl)
    · cases H0; rfl
    · cases H0; rfl
theorem Tree_RankM_con {k : Nat}  {p1 : Pool (TNode TMark TSwell)} {rt0 : TRef} {a1 : TMark} {r : Int}  (H0 : Tree_Rank.f opsM k p1 rt0 a1 = some r) (m0 m1 : Nat) : SCon Try.prog 58 [SV.p m0 0, .a (.agg ((eTMark a1).map .v))] [(m0, blk m0 [.p m1 0, .i rt0.index, .i rt0.gen] 74), (m1, plM m1 p1)] (.a (.c (.v (.int .i64 r)))) [(m0, blk m0 [.p m1 0, .i rt0.index, .i rt0.gen] 74), (m1, plM m1 p1)] [] :=
  SCon.ren (rn [(0, m0), (1, m1)]) (Tree_RankM_con0 (k := k)   H0) ⟨(blk_ren rfl rfl), (pl_ren rfl), trivial⟩ ⟨(blk_ren rfl rfl), (pl_ren rfl), trivial⟩ (by simp) (by simp)
end Go.Proofs.Ythcehagablploaa


/- My texts that the proof of PartialOne rests on, part 4: a calculus of walks, the walks, and the plain law. -/
import Derived.KernelRfl
import Derived.Test.YtpeoalmhccmdiaaGreatZdc
set_option linter.unusedVariables false
set_option linter.unusedSimpArgs false
namespace Go.Proofs.YtpeoalmhccmdiaaGreat
open Go Go.Proofs.YtpeoalmhccmdiaaGreat.Sx
abbrev plS (k : Nat) (p : Pool (TNode TSlot TSize)) : Tok := pl k 178 191 3 12 fCS p
theorem plgetS {p : Pool (TNode TSlot TSize)} {i g : Int} {x : (TNode TSlot TSize) × Bool} (h : pGet zNodeS p i g = some x) (k : Nat) : SCon Tryz.prog 107 [SV.p k 0, SV.agg [.i i, .i g]] [(k, plS k p)] (.tup [avS x.1, .c (.b x.2)]) [(k, plS k p)] [] := by
 obtain ⟨hp, hx⟩ := grd h
 cases hx
 refine SCon.hide fun v => ?_
 obtain ⟨h1, v', h2⟩ := get_vis (p := p) (z := zNodeS) v i g
 refine ⟨v', ?_⟩
 have := getS' { p with vis := v } i g (hp.ok v) (by decide) k
 rw [h1, h2] at this
 exact this
theorem plsetS {p : Pool (TNode TSlot TSize)} {i g : Int} {y : (TNode TSlot TSize)} {x : Bool × Pool (TNode TSlot TSize)} (h : pSet p i g y = some x) (k : Nat) : SCon Tryz.prog 122 [SV.p k 0, SV.agg [.i i, .i g], .a (avS y)] [(k, plS k p)] (SV.b x.1) [(k, plS k x.2)] [] := by
 obtain ⟨hp, hx⟩ := grd h
 cases hx
 refine SCon.hide fun v => ?_
 obtain ⟨h1, v', h2⟩ := set_vis (p := p) v i g y
 refine ⟨v', ?_⟩
 have := setS' { p with vis := v } i g y (hp.ok v) (by decide) k
 rw [h1, h2] at this
 exact this
theorem plputS {p : Pool (TNode TSlot TSize)} {y : (TNode TSlot TSize)} {x : ((Int × Int) × Bool) × Pool (TNode TSlot TSize)} (h : pPut zNodeS p y = some x) (k : Nat) : SCon Tryz.prog 120 [SV.p k 0, .a (avS y)] [(k, plS k p)] (.tup [.agg [.i x.1.1.1, .i x.1.1.2], .c (.b x.1.2)]) [(k, plS k x.2)] [] := by
 obtain ⟨hp, hx⟩ := grd h
 cases hx
 refine SCon.hide fun v => ?_
 obtain ⟨h1, v', h2⟩ := put_vis (p := p) (z := zNodeS) v y
 refine ⟨v', ?_⟩
 have := putS { p with vis := v } y (hp.ok v) (by decide) k
 rw [h1, h2] at this
 exact this
theorem pldropS {p : Pool (TNode TSlot TSize)} {i g : Int} {x : ((TNode TSlot TSize) × Bool) × Pool (TNode TSlot TSize)} (h : pDrop zNodeS p i g = some x) (k : Nat) : SCon Tryz.prog 133 [SV.p k 0, SV.agg [.i i, .i g]] [(k, plS k p)] (.tup [avS x.1.1, .c (.b x.1.2)]) [(k, plS k x.2)] [] := by
 obtain ⟨hp, hx⟩ := grd h
 cases hx
 refine SCon.hide fun v => ?_
 obtain ⟨h1, v', h2⟩ := drop_vis (p := p) (z := zNodeS) v i g
 refine ⟨v', ?_⟩
 have := dropS' { p with vis := v } i g (hp.ok v) (by decide) k
 rw [h1, h2] at this
 exact this
theorem plnewS (c : Int) (k : Nat) : SCon Tryz.prog 117 [SV.i c] [] (SV.p k 0) [(k, plS k ⟨[], [], capOf c, 0, 0⟩)] [k] := SCon.hideNew (newS c k)
abbrev Tree_NewS_st (a0 : Int) (r : TRef × Pool (TNode TSlot TSize)) (m40 : Nat) (m41 : Nat) : Prop := SCon Tryz.prog 92 [.a (.c (.v (.int .i64 a0)))] [] (.a (.c (.p m40 0))) [(m40, blk m40 [.p m41 0, .i r.1.index, .i r.1.gen] 131), (m41, plS m41 r.2)] [m40, m41]
theorem Tree_NewS_con0 {k : Nat}  {a0 : Int} {r : TRef × Pool (TNode TSlot TSize)}  (H0 : Tree_New.f opsS k a0 = some r) : Tree_NewS_st a0 r 40 41 := by
 rw [Tree_New.f] at H0
 refine spec_of [(0, _)] [] 7 Tryz.func92 rfl Tryz.ntmps92 rfl rfl rfl rfl (fun β W F => ?_)
 exact G.seq <| G.rg <| K.as rfl rfl <| K.nil <| At.nr <| K.mv rfl rfl <| K.call0 [(.func 117, _), ((.tmp 3), _)] (plnewS a0 100) (toFn_func (cf 117 rfl) rfl) g0 ⟨rfl, rfl, trivial⟩ trivial rfl rfl rfl rfl rfl rfl <| K.build Y [(0, _)] [_, _, _] [((.tmp 4), _)] g0 (AllE.spec ⟨rfl, trivial⟩) rfl rfl t131 rfl rfl <| K.box Y 101 _ g0 rfl rfl rfl rfl rfl rfl <| K.as rfl rfl <| K.nil <| At.next <| G.ret <| At.ren (fs' := [(2, .a (.c (.p 40 0)))]) (tl := [(40, blk 40 [.p 41 0, .v (.int .i64 0), .v (.int .i64 0)] 131), (41, plS 41 (⟨[], [], capOf a0, 0, 0⟩ : Pool (TNode TSlot TSize)))]) [(40, 101), (41, 100)] [_, _] rfl ⟨rfl, trivial⟩ ⟨rfl, (blk_ren rfl rfl), rfl, (pl_ren rfl), trivial⟩ rfl <| At.dr Y [2] rfl rfl (by cases H0; rfl) (by cases H0; rfl) rfl rfl rfl
theorem Tree_NewS_con {k : Nat}  {a0 : Int} {r : TRef × Pool (TNode TSlot TSize)}  (H0 : Tree_New.f opsS k a0 = some r) (m40 m41 : Nat) (hd : ndB [m40, m41] = true) : Tree_NewS_st a0 r m40 m41 :=
 SCon.ren (rn [(40, m40), (41, m41)]) (Tree_NewS_con0 (k := k)   H0) trivial ⟨(blk_ren rfl rfl), (pl_ren rfl), trivial⟩ (rn_nd hd rfl rfl) (rn_ks hd rfl rfl rfl)
abbrev Tree_getS_st (p1 : Pool (TNode TSlot TSize)) (a1 : TRef) (ri0 : Int) (rg0 : Int) (r : TNode TSlot TSize) (m0 : Nat) (m1 : Nat) : Prop := SCon Tryz.prog 79 [SV.p m0 0, .a (.agg ((eTRef a1).map .v))] [(m0, blk m0 [.p m1 0, .i ri0, .i rg0] 131), (m1, plS m1 p1)] (.a (.agg ((eTNode_TSlot_TSize r).map .v))) [(m0, blk m0 [.p m1 0, .i ri0, .i rg0] 131), (m1, plS m1 p1)] []
theorem Tree_getS_con0 {k : Nat}  {p1 : Pool (TNode TSlot TSize)} {a1 : TRef} {ri0 rg0 : Int} {r : TNode TSlot TSize}  (H0 : Tree_get.f opsS k p1 a1 = some r) : Tree_getS_st p1 a1 ri0 rg0 r 0 1 := by
 rw [Tree_get.f] at H0
 refine spec_of [(0, _), (1, _)] [(0, _), (1, _)] 21 Tryz.func79 rfl Tryz.ntmps79 rfl rfl rfl rfl (fun β W F => ?_)
 refine G.seq <| G.rg <| K.box Y 100 _ g0 rfl rfl rfl rfl rfl rfl <| K.alloc Y 101 _ g0 t127 rfl rfl rfl rfl rfl <| K.nil <| At.ns <| G.seq <| G.rg <| K.fieldAddr Y g0 rfl t108 rfl rfl <| K.load1 Y g0 rfl rfl t3 rfl rfl <| K.bin (V := .bool (a1.gen == 0)) g0 rfl rfl (fun _ => rfl) rfl <| K.nil <| At.next <| G.cond rfl (fun h1 => ?_) (fun h1 => ?_)
 ·
  replace H0 := bif_t H0 h1
  refine G.seq <| G.rg <| K.build Y [] [_, _, _, _, _, _, _, _, _, _] [] g0 (AllE.spec trivial) rfl rfl t127 rfl rfl <| K.store Y _ g0 rfl rfl rfl t127 rfl rfl rfl rfl rfl <| K.nil <| At.next <| G.ret <| At.over_ret <| At.done Y [(.cell 4 127, .agg [_, _, _, _, _, _, _, _, _, _])] rfl ⟨.st rfl rfl t127 rfl rfl, trivial⟩ (to' := [(0, _), (1, _)]) ⟨rfl, rfl, trivial⟩ ?_ ?_ rfl rfl rfl (.inl rfl)
  · cases H0; rfl
  · cases H0; rfl
 ·
  replace H0 := bif_f H0 h1
  refine G.skip <| At.ns ?_
  obtain ⟨x1, hx1, H0⟩ := bnd H0
  refine G.rd mixed <| K.mv rfl rfl <| K.nilCheck g0 rfl rfl <| K.fieldAddr Y g0 rfl t131 rfl rfl <| K.load1 Y g0 rfl rfl t129 rfl rfl <| K.loadS Y _ g0 rfl rfl t108 rfl rfl rfl <| K.callR [(.func 107, _), ((.tmp 15), _), ((.tmp 16), _)] (plgetS hx1 1) (toFn_func (cf 107 rfl) rfl) g0 ⟨rfl, rfl, rfl, trivial⟩ ⟨rfl, trivial⟩ rfl rfl rfl <| K.mv rfl rfl <| K.extract g0 rfl rfl rfl <| K.extract g0 rfl rfl rfl <| K.alloc Y 102 _ g0 t127 rfl rfl rfl rfl rfl <| K.store Y _ g0 rfl rfl rfl t127 rfl rfl rfl rfl rfl <| K.as rfl rfl <| K.nil <| And.intro (by kernel_rfl) <| At.nr <| K.loadS Y _ g0 rfl rfl t127 rfl rfl rfl <| K.store Y _ g0 rfl rfl rfl t127 rfl rfl rfl rfl rfl <| K.nil <| At.next <| G.ret <| At.done Y [(.cell 4 127, .agg [_, _, _, _, _, _, _, _, _, _])] rfl ⟨.st rfl rfl t127 rfl rfl, trivial⟩ (to' := [(0, _), (1, _)]) ⟨rfl, rfl, trivial⟩ ?_ ?_ rfl rfl rfl (.inl rfl)
  · cases H0; rfl
  · cases H0; rfl
theorem Tree_getS_con {k : Nat}  {p1 : Pool (TNode TSlot TSize)} {a1 : TRef} {ri0 rg0 : Int} {r : TNode TSlot TSize}  (H0 : Tree_get.f opsS k p1 a1 = some r) (m0 m1 : Nat) : Tree_getS_st p1 a1 ri0 rg0 r m0 m1 :=
 SCon.ren (rn [(0, m0), (1, m1)]) (Tree_getS_con0 (k := k)   H0) ⟨(blk_ren rfl rfl), (pl_ren rfl), trivial⟩ ⟨(blk_ren rfl rfl), (pl_ren rfl), trivial⟩ (by simp) (by simp)
abbrev Tree_FindS_st (p1 : Pool (TNode TSlot TSize)) (rt0 : TRef) (a1 : TSlot) (r : TSlot × Bool) (m0 : Nat) (m1 : Nat) : Prop := SCon Tryz.prog 64 [SV.p m0 0, .a (.agg ((eTSlot a1).map .v))] [(m0, blk m0 [.p m1 0, .i rt0.index, .i rt0.gen] 131), (m1, plS m1 p1)] (.tup [.agg ((eTSlot r.1).map .v), .c (.v (.bool r.2))]) [(m0, blk m0 [.p m1 0, .i rt0.index, .i rt0.gen] 131), (m1, plS m1 p1)] []
theorem Tree_FindS_con0 {k : Nat}  {p1 : Pool (TNode TSlot TSize)} {rt0 : TRef} {a1 : TSlot} {r : TSlot × Bool}  (H0 : Tree_Find.f opsS k p1 rt0 a1 = some r) : Tree_FindS_st p1 rt0 a1 r 0 1 := by
 rw [Tree_Find.f] at H0
 refine spec_of [(0, _), (1, _)] [(0, _), (1, _)] 37 Tryz.func64 rfl Tryz.ntmps64 rfl rfl rfl rfl (fun β W F => ?_)
 refine G.seq <| G.rg <| K.box Y 100 _ g0 rfl rfl rfl rfl rfl rfl <| K.alloc Y 101 _ g0 t66 rfl rfl rfl rfl rfl <| K.as rfl rfl <| K.nil <| At.next ?_
 obtain ⟨x1, H1, H0⟩ := bnd H0
 refine G.sJ (σ := { v : Unit // x1 = Sum.inr v }) (fun q => [(4, .a (.c (.p 102 0)))]) (fun q => [(102, blk 102 [.v (.int .i64 0), .v (.int .i64 0), .v (.bool false), .v (.int .i64 0)] 66), (1, plS 1 p1), (0, blk 0 [.p 1 0, .v (.int .i64 rt0.index), .v (.int .i64 rt0.gen)] 131)]) ?_ ?_
 ·
  refine G.seq <| G.rg <| K.mv rfl rfl <| K.nilCheck g0 rfl rfl <| K.fieldAddr Y g0 rfl t131 rfl rfl <| K.loadS Y _ g0 rfl rfl t108 rfl rfl rfl <| K.alloc Y 103 _ g0 t108 rfl rfl rfl rfl rfl <| K.store Y _ g0 rfl rfl rfl t108 rfl rfl rfl rfl rfl <| K.nil <| At.next <| G.block <| G.lp (σ := { q : Nat × (TRef) // Tree_Find.l0 opsS k p1 a1 q.1 q.2 = some x1 }) (fun q => [(0, .a (.c (.p 0 0))), (3, .a (.c (.p 110 0))), (4, .a (.c (.p 111 0))), (6, .a (.c (.p 112 0)))]) (fun q => [(1, plS 1 p1), (0, blk 0 [.p 1 0, .v (.int .i64 rt0.index), .v (.int .i64 rt0.gen)] 131), (110, blk 110 [.v (.int .i64 a1.item.key), .v (.int .i64 a1.item.id), .v (.bool a1.eaten), .v (.int .i64 a1.time)] 66), (111, blk 111 [.v (.int .i64 0), .v (.int .i64 0), .v (.bool false), .v (.int .i64 0)] 66), (112, blk 112 [.v (.int .i64 q.1.2.index), .v (.int .i64 q.1.2.gen)] 108)]) (fun q => q.1.1) ⟨(k, rt0), H1⟩ ?_ ?_
  · exact At.into [(110, 100), (111, 101), (112, 103)] [_, _, _, _, _] rfl ⟨rfl, rfl, rfl, rfl, trivial⟩ ⟨rfl, (pl_ren rfl), rfl, (blk_ren rfl rfl), rfl, (blk_ren rfl rfl), rfl, (blk_ren rfl rfl), rfl, (blk_ren rfl rfl), trivial⟩ rfl
  ·
   rintro ⟨⟨n0, v1⟩, H1⟩
   show G _ _ [(0, .a (.c (.p 0 0))), (3, .a (.c (.p 110 0))), (4, .a (.c (.p 111 0))), (6, .a (.c (.p 112 0)))] [(1, some (plS 1 p1)), (0, some (blk 0 [.p 1 0, .v (.int .i64 rt0.index), .v (.int .i64 rt0.gen)] 131)), (110, some (blk 110 [.v (.int .i64 a1.item.key), .v (.int .i64 a1.item.id), .v (.bool a1.eaten), .v (.int .i64 a1.time)] 66)), (111, some (blk 111 [.v (.int .i64 0), .v (.int .i64 0), .v (.bool false), .v (.int .i64 0)] 66)), (112, some (blk 112 [.v (.int .i64 v1.index), .v (.int .i64 v1.gen)] 108))] _ _
   cases n0 with
   | zero => exact absurd H1 (by simp [Tree_Find.l0])
   | succ n0 =>
    have HL0 := H1
    rw [Tree_Find.l0] at H1
    refine G.seq <| G.seq <| G.rg <| K.fieldAddr Y g0 rfl t108 rfl rfl <| K.load1 Y g0 rfl rfl t3 rfl rfl <| K.bin (V := .bool (v1.gen != 0)) g0 rfl rfl (fun _ => rfl) rfl <| K.nil <| At.next <| G.cond rfl (fun h1 => ?_) (fun h1 => ?_)
    ·
     replace H1 := bif_t H1 h1
     refine G.skip <| At.ns <| G.block <| G.seq ?_
     obtain ⟨x2, hx2, H1⟩ := bnd H1
     refine G.rg <| K.mv rfl rfl <| K.loadS Y _ g0 rfl rfl t108 rfl rfl rfl <| K.cR (cf 79 rfl) (Tree_getS_con hx2 0 1) g0 rfl rfl rfl rfl <| K.alloc Y 113 _ g0 t127 rfl rfl rfl rfl rfl <| K.store Y _ g0 rfl rfl rfl t127 rfl rfl rfl rfl rfl <| K.nil <| At.ns ?_
     obtain ⟨x3, hx3, H1⟩ := bnd H1
     refine G.rg <| K.loadS Y _ g0 rfl rfl t66 rfl rfl rfl <| K.mkIface Y g0 rfl (mkI Tryz.underlying66 rfl) rfl <| K.fieldAddr Y g0 rfl t127 rfl rfl <| K.loadS Y _ g0 rfl rfl t66 rfl rfl rfl <| K.callR [((.tmp 21), _), ((.tmp 23), _)] (shelf_Slot_Compare_con (k := k) hx3) (toFn_invoke (cf 212 rfl) (me66_212) rfl) g0 ⟨rfl, rfl, trivial⟩ trivial rfl rfl rfl <| K.as rfl rfl <| K.nil <| At.ns <| G.seq <| G.rg <| K.mv rfl rfl <| K.bin (V := .bool (x3 == 0)) g0 rfl rfl (fun _ => rfl) rfl <| K.nil <| At.next <| G.cond rfl (fun h2 => ?_) (fun h2 => ?_)
     ·
      replace H1 := bif_t H1 h2
      refine G.seq <| G.rg <| K.fieldAddr Y g0 rfl t127 rfl rfl <| K.loadS Y _ g0 rfl rfl t66 rfl rfl rfl <| K.store Y _ g0 rfl rfl rfl t66 rfl rfl rfl rfl rfl <| K.as rfl rfl <| K.nil <| At.next <| G.ret <| At.over_ret <| At.block_ret <| At.over_ret <| At.over_ret <| At.block_ret <| At.over_ret ?_
      cases H1
      replace H0 := sum_l H0
      refine At.done Y [(.cell 4 66, .agg [_, _, _, _]), (.tmp 5, .c _)] rfl ⟨.st rfl rfl t66 rfl rfl, .tmp rfl, trivial⟩ (to' := [(0, _), (1, _)]) ⟨rfl, rfl, trivial⟩ ?_ ?_ rfl rfl rfl (.inl rfl)
      · cases H0; rfl
      · cases H0; rfl
     ·
      replace H1 := bif_f H1 h2
      refine G.skip <| At.nr <| K.fieldAddr Y g0 rfl t127 rfl rfl <| K.loadS Y _ g0 rfl rfl t108 rfl rfl rfl <| K.store Y _ g0 rfl rfl rfl t108 rfl rfl rfl rfl rfl <| K.nil <| At.nr <| K.mv rfl rfl <| K.bin (V := .bool (decide (x3 < 0))) g0 rfl rfl (fun _ => rfl) rfl <| K.nil <| At.next <| G.cond rfl (fun h3 => ?_) (fun h3 => ?_)
      ·
       replace H1 := bif_t H1 h3
       exact G.rg <| K.fieldAddr Y g0 rfl t127 rfl rfl <| K.loadS Y _ g0 rfl rfl t108 rfl rfl rfl <| K.store Y _ g0 rfl rfl rfl t108 rfl rfl rfl rfl rfl <| K.nil <| At.block_normal <| At.nr <| K.loadS Y _ g0 rfl rfl t108 rfl rfl rfl <| K.nil <| At.next <| G.rg <| K.alloc Y 114 _ g0 t108 rfl rfl rfl rfl rfl <| K.store Y _ g0 rfl rfl rfl t108 rfl rfl rfl rfl rfl <| K.nil <| At.ag ⟨(n0, x2.left), H1⟩ [(112, 114)] [_, _, _, _, _] (Nat.lt_succ_self _) rfl ⟨rfl, rfl, rfl, rfl, trivial⟩ ⟨rfl, (pl_ren rfl), rfl, (blk_ren rfl rfl), rfl, (blk_ren rfl rfl), rfl, (blk_ren rfl rfl), rfl, (blk_ren rfl rfl), trivial⟩ rfl
      ·
       replace H1 := bif_f H1 h3
       exact G.skip <| At.block_normal <| At.nr <| K.loadS Y _ g0 rfl rfl t108 rfl rfl rfl <| K.nil <| At.next <| G.rg <| K.alloc Y 115 _ g0 t108 rfl rfl rfl rfl rfl <| K.store Y _ g0 rfl rfl rfl t108 rfl rfl rfl rfl rfl <| K.nil <| At.ag ⟨(n0, x2.right), H1⟩ [(112, 115)] [_, _, _, _, _] (Nat.lt_succ_self _) rfl ⟨rfl, rfl, rfl, rfl, trivial⟩ ⟨rfl, (pl_ren rfl), rfl, (blk_ren rfl rfl), rfl, (blk_ren rfl rfl), rfl, (blk_ren rfl rfl), rfl, (blk_ren rfl rfl), trivial⟩ rfl
    ·
     replace H1 := bif_f H1 h1
     exact G.exit <| At.over_exit <| At.over_exit <| At.block_hit <| At.jd ⟨(), oi H1⟩ [(102, 111)] [_, _, _] rfl ⟨rfl, trivial⟩ ⟨rfl, (blk_ren rfl rfl), rfl, (pl_ren rfl), rfl, (blk_ren rfl rfl), trivial⟩ rfl
 ·
  rintro ⟨v1, rfl⟩
  replace H0 := sum_r H0
  show G _ _ [(4, .a (.c (.p 102 0)))] [(102, some (blk 102 [.v (.int .i64 0), .v (.int .i64 0), .v (.bool false), .v (.int .i64 0)] 66)), (1, some (plS 1 p1)), (0, some (blk 0 [.p 1 0, .v (.int .i64 rt0.index), .v (.int .i64 rt0.gen)] 131))] _ _
  refine G.seq <| G.rg <| K.alloc Y 116 _ g0 t66 rfl rfl rfl rfl rfl <| K.nil <| At.nr <| K.loadS Y _ g0 rfl rfl t66 rfl rfl rfl <| K.store Y _ g0 rfl rfl rfl t66 rfl rfl rfl rfl rfl <| K.as rfl rfl <| K.nil <| At.next <| G.ret <| At.done Y [(.cell 4 66, .agg [_, _, _, _]), (.tmp 5, .c _)] rfl ⟨.st rfl rfl t66 rfl rfl, .tmp rfl, trivial⟩ (to' := [(0, _), (1, _)]) ⟨rfl, rfl, trivial⟩ ?_ ?_ rfl rfl rfl (.inl rfl)
  · cases H0; rfl
  · cases H0; rfl
theorem Tree_FindS_con {k : Nat}  {p1 : Pool (TNode TSlot TSize)} {rt0 : TRef} {a1 : TSlot} {r : TSlot × Bool}  (H0 : Tree_Find.f opsS k p1 rt0 a1 = some r) (m0 m1 : Nat) : Tree_FindS_st p1 rt0 a1 r m0 m1 :=
 SCon.ren (rn [(0, m0), (1, m1)]) (Tree_FindS_con0 (k := k)   H0) ⟨(blk_ren rfl rfl), (pl_ren rfl), trivial⟩ ⟨(blk_ren rfl rfl), (pl_ren rfl), trivial⟩ (by simp) (by simp)
abbrev Tree_weightS_st (p1 : Pool (TNode TSlot TSize)) (a1 : TRef) (ri0 : Int) (rg0 : Int) (r : Int) (m0 : Nat) (m1 : Nat) : Prop := SCon Tryz.prog 144 [SV.p m0 0, .a (.agg ((eTRef a1).map .v))] [(m0, blk m0 [.p m1 0, .i ri0, .i rg0] 131), (m1, plS m1 p1)] (.a (.c (.v (.int .i64 r)))) [(m0, blk m0 [.p m1 0, .i ri0, .i rg0] 131), (m1, plS m1 p1)] []
theorem Tree_weightS_con0 {k : Nat}  {p1 : Pool (TNode TSlot TSize)} {a1 : TRef} {ri0 rg0 : Int} {r : Int}  (H0 : Tree_weight.f opsS k p1 a1 = some r) : Tree_weightS_st p1 a1 ri0 rg0 r 0 1 := by
 rw [Tree_weight.f] at H0
 refine spec_of [(0, _), (1, _)] [(0, _), (1, _)] 10 Tryz.func144 rfl Tryz.ntmps144 rfl rfl rfl rfl (fun β W F => ?_)
 refine G.seq <| G.rg <| K.box Y 100 _ g0 rfl rfl rfl rfl rfl rfl <| K.as rfl rfl <| K.nil <| At.ns ?_
 obtain ⟨x1, hx1, H0⟩ := bnd H0
 exact G.rg <| K.mv rfl rfl <| K.loadS Y _ g0 rfl rfl t108 rfl rfl rfl <| K.cR (cf 79 rfl) (Tree_getS_con hx1 0 1) g0 rfl rfl rfl rfl <| K.field1 Y g0 rfl t127 rfl t3 rfl rfl <| K.bin (V := .int .i64 (w64 (x1.size + 1))) g0 rfl rfl (fun _ => rfl) rfl <| K.as rfl rfl <| K.nil <| At.next <| G.ret <| At.dr Y [4] rfl rfl (by cases H0; rfl) (by cases H0; rfl) rfl rfl rfl
theorem Tree_weightS_con {k : Nat}  {p1 : Pool (TNode TSlot TSize)} {a1 : TRef} {ri0 rg0 : Int} {r : Int}  (H0 : Tree_weight.f opsS k p1 a1 = some r) (m0 m1 : Nat) : Tree_weightS_st p1 a1 ri0 rg0 r m0 m1 :=
 SCon.ren (rn [(0, m0), (1, m1)]) (Tree_weightS_con0 (k := k)   H0) ⟨(blk_ren rfl rfl), (pl_ren rfl), trivial⟩ ⟨(blk_ren rfl rfl), (pl_ren rfl), trivial⟩ (by simp) (by simp)
abbrev Tree_layS_st (p1 : Pool (TNode TSlot TSize)) (a1 : TRef) (a2 : TRef) (a3 : TRef) (ri0 : Int) (rg0 : Int) (r : TRef × Pool (TNode TSlot TSize)) (m0 : Nat) (m1 : Nat) : Prop := SCon Tryz.prog 123 [SV.p m0 0, .a (.agg ((eTRef a1).map .v)), .a (.agg ((eTRef a2).map .v)), .a (.agg ((eTRef a3).map .v))] [(m0, blk m0 [.p m1 0, .i ri0, .i rg0] 131), (m1, plS m1 p1)] (.a (.agg ((eTRef r.1).map .v))) [(m0, blk m0 [.p m1 0, .i ri0, .i rg0] 131), (m1, plS m1 r.2)] []
theorem Tree_layS_con0 {k : Nat}  {p1 : Pool (TNode TSlot TSize)} {a1 : TRef} {a2 : TRef} {a3 : TRef} {ri0 rg0 : Int} {r : TRef × Pool (TNode TSlot TSize)}  (H0 : Tree_lay.f opsS k p1 a1 a2 a3 = some r) : Tree_layS_st p1 a1 a2 a3 ri0 rg0 r 0 1 := by
 rw [Tree_lay.f] at H0
 refine spec_of [(0, _), (1, _), (2, _), (3, _)] [(0, _), (1, _)] 53 Tryz.func123 rfl Tryz.ntmps123 rfl rfl rfl rfl (fun β W F => ?_)
 refine G.seq <| G.rg <| K.box Y 100 _ g0 rfl rfl rfl rfl rfl rfl <| K.box Y 101 _ g0 rfl rfl rfl rfl rfl rfl <| K.box Y 102 _ g0 rfl rfl rfl rfl rfl rfl <| K.alloc Y 103 _ g0 t108 rfl rfl rfl rfl rfl <| K.nil <| At.ns ?_
 obtain ⟨x1, hx1, H0⟩ := bnd H0
 refine G.rg <| K.mv rfl rfl <| K.loadS Y _ g0 rfl rfl t108 rfl rfl rfl <| K.cR (cf 79 rfl) (Tree_getS_con hx1 0 1) g0 rfl rfl rfl rfl <| K.alloc Y 104 _ g0 t127 rfl rfl rfl rfl rfl <| K.store Y _ g0 rfl rfl rfl t127 rfl rfl rfl rfl rfl <| K.nil <| At.ns ?_
 obtain ⟨x2, hx2, H0⟩ := bnd H0
 obtain ⟨x3, hx3, H0⟩ := bnd H0
 refine G.rd mixed <| K.mv rfl rfl <| K.loadS Y _ g0 rfl rfl t108 rfl rfl rfl <| K.cR (cf 79 rfl) (Tree_getS_con hx2 0 1) g0 rfl rfl rfl rfl <| K.mv rfl rfl <| K.loadS Y _ g0 rfl rfl t108 rfl rfl rfl <| K.cR (cf 79 rfl) (Tree_getS_con hx3 0 1) g0 rfl rfl rfl rfl <| K.alloc Y 105 _ g0 t127 rfl rfl rfl rfl rfl <| K.alloc Y 106 _ g0 t127 rfl rfl rfl rfl rfl <| K.store Y _ g0 rfl rfl rfl t127 rfl rfl rfl rfl rfl <| K.store Y _ g0 rfl rfl rfl t127 rfl rfl rfl rfl rfl <| K.nil <| And.intro (by kernel_rfl) <| At.ns <| G.rd mixed <| K.loadS Y _ g0 rfl rfl t108 rfl rfl rfl <| K.loadS Y _ g0 rfl rfl t108 rfl rfl rfl <| K.fieldAddr Y g0 rfl t127 rfl rfl <| K.store Y _ g0 rfl rfl rfl t108 rfl rfl rfl rfl rfl <| K.fieldAddr Y g0 rfl t127 rfl rfl <| K.store Y _ g0 rfl rfl rfl t108 rfl rfl rfl rfl rfl <| K.nil <| And.intro (by kernel_rfl) <| At.nr <| K.fieldAddr Y g0 rfl t127 rfl rfl <| K.load1 Y g0 rfl rfl t3 rfl rfl <| K.bin (V := .int .i64 (w64 (x2.size + 1))) g0 rfl rfl (fun _ => rfl) rfl <| K.fieldAddr Y g0 rfl t127 rfl rfl <| K.load1 Y g0 rfl rfl t3 rfl rfl <| K.bin (V := .int .i64 (w64 ((w64 (x2.size + 1)) + x3.size))) g0 rfl rfl (fun _ => rfl) rfl <| K.fieldAddr Y g0 rfl t127 rfl rfl <| K.store Y _ g0 rfl rfl rfl t3 rfl rfl rfl rfl rfl <| K.nil <| At.ns ?_
 obtain ⟨x4, hx4, H0⟩ := bnd H0
 obtain ⟨x5, hx5, H0⟩ := bnd H0
 obtain ⟨x6, hx6, H0⟩ := bnd H0
 refine G.rd mixed <| K.fieldAddr Y g0 rfl t127 rfl rfl <| K.load1 Y g0 rfl rfl t67 rfl rfl <| K.mkIface Y g0 rfl (mkI Tryz.underlying67 rfl) rfl <| K.fieldAddr Y g0 rfl t127 rfl rfl <| K.loadS Y _ g0 rfl rfl t66 rfl rfl rfl <| K.mkIface Y g0 rfl (mkI Tryz.underlying66 rfl) rfl <| K.callR [((.tmp 37), _)] (shelf_Slot_Sum_con (k := k) hx4) (toFn_invoke (cf 213 rfl) (me66_213) rfl) g0 ⟨rfl, trivial⟩ trivial rfl rfl rfl <| K.callR [((.tmp 34), _), ((.tmp 38), _)] (shelf_Size_Plus_con (k := k) hx5) (toFn_invoke (cf 214 rfl) (me67_214) rfl) g0 ⟨rfl, rfl, trivial⟩ trivial rfl rfl rfl <| K.mkIface Y g0 rfl (mkI Tryz.underlying67 rfl) rfl <| K.fieldAddr Y g0 rfl t127 rfl rfl <| K.load1 Y g0 rfl rfl t67 rfl rfl <| K.callR [((.tmp 40), _), ((.tmp 42), _)] (shelf_Size_Plus_con (k := k) hx6) (toFn_invoke (cf 214 rfl) (me67_214) rfl) g0 ⟨rfl, rfl, trivial⟩ trivial rfl rfl rfl <| K.fieldAddr Y g0 rfl t127 rfl rfl <| K.store Y _ g0 rfl rfl rfl t67 rfl rfl rfl rfl rfl <| K.nil <| And.intro (by kernel_rfl) <| At.ns ?_
 obtain ⟨x7, hx7, H0⟩ := bnd H0
 refine G.rd mixed <| K.mv rfl rfl <| K.nilCheck g0 rfl rfl <| K.fieldAddr Y g0 rfl t131 rfl rfl <| K.load1 Y g0 rfl rfl t129 rfl rfl <| K.loadS Y _ g0 rfl rfl t108 rfl rfl rfl <| K.loadS Y _ g0 rfl rfl t127 rfl rfl rfl <| K.call0 [(.func 122, _), ((.tmp 48), _), ((.tmp 49), _), ((.tmp 50), _)] (plsetS hx7 1) (toFn_func (cf 122 rfl) rfl) g0 ⟨rfl, rfl, rfl, rfl, trivial⟩ ⟨rfl, trivial⟩ rfl rfl rfl rfl rfl rfl <| K.nil <| And.intro (by kernel_rfl) <| At.nr <| K.loadS Y _ g0 rfl rfl t108 rfl rfl rfl <| K.store Y _ g0 rfl rfl rfl t108 rfl rfl rfl rfl rfl <| K.nil <| At.next <| G.ret <| At.done Y [(.cell 8 108, .agg [_, _])] rfl ⟨.st rfl rfl t108 rfl rfl, trivial⟩ (to' := [(0, _), (1, _)]) ⟨rfl, rfl, trivial⟩ ?_ ?_ rfl rfl rfl (.inl rfl)
 · cases H0; rfl
 · cases H0; rfl
theorem Tree_layS_con {k : Nat}  {p1 : Pool (TNode TSlot TSize)} {a1 : TRef} {a2 : TRef} {a3 : TRef} {ri0 rg0 : Int} {r : TRef × Pool (TNode TSlot TSize)}  (H0 : Tree_lay.f opsS k p1 a1 a2 a3 = some r) (m0 m1 : Nat) : Tree_layS_st p1 a1 a2 a3 ri0 rg0 r m0 m1 :=
 SCon.ren (rn [(0, m0), (1, m1)]) (Tree_layS_con0 (k := k)   H0) ⟨(blk_ren rfl rfl), (pl_ren rfl), trivial⟩ ⟨(blk_ren rfl rfl), (pl_ren rfl), trivial⟩ (by simp) (by simp)
abbrev Tree_turnRightS_st (p1 : Pool (TNode TSlot TSize)) (a1 : TRef) (ri0 : Int) (rg0 : Int) (r : TRef × Pool (TNode TSlot TSize)) (m0 : Nat) (m1 : Nat) : Prop := SCon Tryz.prog 156 [SV.p m0 0, .a (.agg ((eTRef a1).map .v))] [(m0, blk m0 [.p m1 0, .i ri0, .i rg0] 131), (m1, plS m1 p1)] (.a (.agg ((eTRef r.1).map .v))) [(m0, blk m0 [.p m1 0, .i ri0, .i rg0] 131), (m1, plS m1 r.2)] []
theorem Tree_turnRightS_con0 {k : Nat}  {p1 : Pool (TNode TSlot TSize)} {a1 : TRef} {ri0 rg0 : Int} {r : TRef × Pool (TNode TSlot TSize)}  (H0 : Tree_turnRight.f opsS k p1 a1 = some r) : Tree_turnRightS_st p1 a1 ri0 rg0 r 0 1 := by
 rw [Tree_turnRight.f] at H0
 refine spec_of [(0, _), (1, _)] [(0, _), (1, _)] 28 Tryz.func156 rfl Tryz.ntmps156 rfl rfl rfl rfl (fun β W F => ?_)
 refine G.seq <| G.rg <| K.box Y 100 _ g0 rfl rfl rfl rfl rfl rfl <| K.alloc Y 101 _ g0 t108 rfl rfl rfl rfl rfl <| K.nil <| At.ns ?_
 obtain ⟨x1, hx1, H0⟩ := bnd H0
 refine G.rg <| K.mv rfl rfl <| K.loadS Y _ g0 rfl rfl t108 rfl rfl rfl <| K.cR (cf 79 rfl) (Tree_getS_con hx1 0 1) g0 rfl rfl rfl rfl <| K.alloc Y 102 _ g0 t127 rfl rfl rfl rfl rfl <| K.store Y _ g0 rfl rfl rfl t127 rfl rfl rfl rfl rfl <| K.nil <| At.ns ?_
 obtain ⟨x2, hx2, H0⟩ := bnd H0
 refine G.rg <| K.mv rfl rfl <| K.fieldAddr Y g0 rfl t127 rfl rfl <| K.loadS Y _ g0 rfl rfl t108 rfl rfl rfl <| K.cR (cf 79 rfl) (Tree_getS_con hx2 0 1) g0 rfl rfl rfl rfl <| K.alloc Y 103 _ g0 t127 rfl rfl rfl rfl rfl <| K.store Y _ g0 rfl rfl rfl t127 rfl rfl rfl rfl rfl <| K.nil <| At.ns ?_
 obtain ⟨x3, hx3, H0⟩ := bnd H0
 refine G.rg <| K.mv rfl rfl <| K.loadS Y _ g0 rfl rfl t108 rfl rfl rfl <| K.fieldAddr Y g0 rfl t127 rfl rfl <| K.loadS Y _ g0 rfl rfl t108 rfl rfl rfl <| K.fieldAddr Y g0 rfl t127 rfl rfl <| K.loadS Y _ g0 rfl rfl t108 rfl rfl rfl <| K.c0 (cf 123 rfl) (Tree_layS_con hx3 0 1) g0 rfl rfl rfl rfl <| K.nil <| At.ns ?_
 obtain ⟨x4, hx4, H0⟩ := bnd H0
 refine G.rg <| K.mv rfl rfl <| K.fieldAddr Y g0 rfl t127 rfl rfl <| K.loadS Y _ g0 rfl rfl t108 rfl rfl rfl <| K.fieldAddr Y g0 rfl t127 rfl rfl <| K.loadS Y _ g0 rfl rfl t108 rfl rfl rfl <| K.loadS Y _ g0 rfl rfl t108 rfl rfl rfl <| K.c0 (cf 123 rfl) (Tree_layS_con hx4 0 1) g0 rfl rfl rfl rfl <| K.store Y _ g0 rfl rfl rfl t108 rfl rfl rfl rfl rfl <| K.nil <| At.next <| G.ret <| At.done Y [(.cell 4 108, .agg [_, _])] rfl ⟨.st rfl rfl t108 rfl rfl, trivial⟩ (to' := [(0, _), (1, _)]) ⟨rfl, rfl, trivial⟩ ?_ ?_ rfl rfl rfl (.inl rfl)
 · cases H0; rfl
 · cases H0; rfl
theorem Tree_turnRightS_con {k : Nat}  {p1 : Pool (TNode TSlot TSize)} {a1 : TRef} {ri0 rg0 : Int} {r : TRef × Pool (TNode TSlot TSize)}  (H0 : Tree_turnRight.f opsS k p1 a1 = some r) (m0 m1 : Nat) : Tree_turnRightS_st p1 a1 ri0 rg0 r m0 m1 :=
 SCon.ren (rn [(0, m0), (1, m1)]) (Tree_turnRightS_con0 (k := k)   H0) ⟨(blk_ren rfl rfl), (pl_ren rfl), trivial⟩ ⟨(blk_ren rfl rfl), (pl_ren rfl), trivial⟩ (by simp) (by simp)
abbrev Tree_turnLeftS_st (p1 : Pool (TNode TSlot TSize)) (a1 : TRef) (ri0 : Int) (rg0 : Int) (r : TRef × Pool (TNode TSlot TSize)) (m0 : Nat) (m1 : Nat) : Prop := SCon Tryz.prog 157 [SV.p m0 0, .a (.agg ((eTRef a1).map .v))] [(m0, blk m0 [.p m1 0, .i ri0, .i rg0] 131), (m1, plS m1 p1)] (.a (.agg ((eTRef r.1).map .v))) [(m0, blk m0 [.p m1 0, .i ri0, .i rg0] 131), (m1, plS m1 r.2)] []
theorem Tree_turnLeftS_con0 {k : Nat}  {p1 : Pool (TNode TSlot TSize)} {a1 : TRef} {ri0 rg0 : Int} {r : TRef × Pool (TNode TSlot TSize)}  (H0 : Tree_turnLeft.f opsS k p1 a1 = some r) : Tree_turnLeftS_st p1 a1 ri0 rg0 r 0 1 := by
 rw [Tree_turnLeft.f] at H0
 refine spec_of [(0, _), (1, _)] [(0, _), (1, _)] 28 Tryz.func157 rfl Tryz.ntmps157 rfl rfl rfl rfl (fun β W F => ?_)
 refine G.seq <| G.rg <| K.box Y 100 _ g0 rfl rfl rfl rfl rfl rfl <| K.alloc Y 101 _ g0 t108 rfl rfl rfl rfl rfl <| K.nil <| At.ns ?_
 obtain ⟨x1, hx1, H0⟩ := bnd H0
 refine G.rg <| K.mv rfl rfl <| K.loadS Y _ g0 rfl rfl t108 rfl rfl rfl <| K.cR (cf 79 rfl) (Tree_getS_con hx1 0 1) g0 rfl rfl rfl rfl <| K.alloc Y 102 _ g0 t127 rfl rfl rfl rfl rfl <| K.store Y _ g0 rfl rfl rfl t127 rfl rfl rfl rfl rfl <| K.nil <| At.ns ?_
 obtain ⟨x2, hx2, H0⟩ := bnd H0
 refine G.rg <| K.mv rfl rfl <| K.fieldAddr Y g0 rfl t127 rfl rfl <| K.loadS Y _ g0 rfl rfl t108 rfl rfl rfl <| K.cR (cf 79 rfl) (Tree_getS_con hx2 0 1) g0 rfl rfl rfl rfl <| K.alloc Y 103 _ g0 t127 rfl rfl rfl rfl rfl <| K.store Y _ g0 rfl rfl rfl t127 rfl rfl rfl rfl rfl <| K.nil <| At.ns ?_
 obtain ⟨x3, hx3, H0⟩ := bnd H0
 refine G.rg <| K.mv rfl rfl <| K.loadS Y _ g0 rfl rfl t108 rfl rfl rfl <| K.fieldAddr Y g0 rfl t127 rfl rfl <| K.loadS Y _ g0 rfl rfl t108 rfl rfl rfl <| K.fieldAddr Y g0 rfl t127 rfl rfl <| K.loadS Y _ g0 rfl rfl t108 rfl rfl rfl <| K.c0 (cf 123 rfl) (Tree_layS_con hx3 0 1) g0 rfl rfl rfl rfl <| K.nil <| At.ns ?_
 obtain ⟨x4, hx4, H0⟩ := bnd H0
 refine G.rg <| K.mv rfl rfl <| K.fieldAddr Y g0 rfl t127 rfl rfl <| K.loadS Y _ g0 rfl rfl t108 rfl rfl rfl <| K.loadS Y _ g0 rfl rfl t108 rfl rfl rfl <| K.fieldAddr Y g0 rfl t127 rfl rfl <| K.loadS Y _ g0 rfl rfl t108 rfl rfl rfl <| K.c0 (cf 123 rfl) (Tree_layS_con hx4 0 1) g0 rfl rfl rfl rfl <| K.store Y _ g0 rfl rfl rfl t108 rfl rfl rfl rfl rfl <| K.nil <| At.next <| G.ret <| At.done Y [(.cell 4 108, .agg [_, _])] rfl ⟨.st rfl rfl t108 rfl rfl, trivial⟩ (to' := [(0, _), (1, _)]) ⟨rfl, rfl, trivial⟩ ?_ ?_ rfl rfl rfl (.inl rfl)
 · cases H0; rfl
 · cases H0; rfl
theorem Tree_turnLeftS_con {k : Nat}  {p1 : Pool (TNode TSlot TSize)} {a1 : TRef} {ri0 rg0 : Int} {r : TRef × Pool (TNode TSlot TSize)}  (H0 : Tree_turnLeft.f opsS k p1 a1 = some r) (m0 m1 : Nat) : Tree_turnLeftS_st p1 a1 ri0 rg0 r m0 m1 :=
 SCon.ren (rn [(0, m0), (1, m1)]) (Tree_turnLeftS_con0 (k := k)   H0) ⟨(blk_ren rfl rfl), (pl_ren rfl), trivial⟩ ⟨(blk_ren rfl rfl), (pl_ren rfl), trivial⟩ (by simp) (by simp)
abbrev Tree_balanceS_st (p1 : Pool (TNode TSlot TSize)) (a1 : TRef) (ri0 : Int) (rg0 : Int) (r : TRef × Pool (TNode TSlot TSize)) (m0 : Nat) (m1 : Nat) : Prop := SCon Tryz.prog 145 [SV.p m0 0, .a (.agg ((eTRef a1).map .v))] [(m0, blk m0 [.p m1 0, .i ri0, .i rg0] 131), (m1, plS m1 p1)] (.a (.agg ((eTRef r.1).map .v))) [(m0, blk m0 [.p m1 0, .i ri0, .i rg0] 131), (m1, plS m1 r.2)] []
theorem Tree_balanceS_con0 {k : Nat}  {p1 : Pool (TNode TSlot TSize)} {a1 : TRef} {ri0 rg0 : Int} {r : TRef × Pool (TNode TSlot TSize)}  (H0 : Tree_balance.f opsS k p1 a1 = some r) : Tree_balanceS_st p1 a1 ri0 rg0 r 0 1 := by
 rw [Tree_balance.f] at H0
 refine spec_of [(0, _), (1, _)] [(0, _), (1, _)] 84 Tryz.func145 rfl Tryz.ntmps145 rfl rfl rfl rfl (fun β W F => ?_)
 refine G.seq <| G.rg <| K.box Y 100 _ g0 rfl rfl rfl rfl rfl rfl <| K.alloc Y 101 _ g0 t108 rfl rfl rfl rfl rfl <| K.nil <| At.ns ?_
 obtain ⟨x1, hx1, H0⟩ := bnd H0
 refine G.rg <| K.mv rfl rfl <| K.loadS Y _ g0 rfl rfl t108 rfl rfl rfl <| K.cR (cf 79 rfl) (Tree_getS_con hx1 0 1) g0 rfl rfl rfl rfl <| K.alloc Y 102 _ g0 t127 rfl rfl rfl rfl rfl <| K.store Y _ g0 rfl rfl rfl t127 rfl rfl rfl rfl rfl <| K.nil <| At.ns ?_
 obtain ⟨x2, hx2, H0⟩ := bnd H0
 obtain ⟨x3, hx3, H0⟩ := bnd H0
 refine G.rd mixed <| K.mv rfl rfl <| K.fieldAddr Y g0 rfl t127 rfl rfl <| K.loadS Y _ g0 rfl rfl t108 rfl rfl rfl <| K.cR (cf 144 rfl) (Tree_weightS_con hx2 0 1) g0 rfl rfl rfl rfl <| K.mv rfl rfl <| K.fieldAddr Y g0 rfl t127 rfl rfl <| K.loadS Y _ g0 rfl rfl t108 rfl rfl rfl <| K.cR (cf 144 rfl) (Tree_weightS_con hx3 0 1) g0 rfl rfl rfl rfl <| K.as rfl rfl <| K.as rfl rfl <| K.nil <| And.intro (by kernel_rfl) <| At.ns <| G.block <| G.seq <| G.rg <| K.mv rfl rfl <| K.mv rfl rfl <| K.bin (V := .int .i64 (w64 (3 * x2))) g0 rfl rfl (fun _ => rfl) rfl <| K.bin (V := .bool (decide (x3 > (w64 (3 * x2))))) g0 rfl rfl (fun _ => rfl) rfl <| K.as rfl rfl <| K.nil <| At.next <| G.cond rfl (fun h1 => ?_) (fun h1 => ?_)
 ·
  replace H0 := bif_t H0 h1
  refine G.seq ?_
  obtain ⟨x4, hx4, H0⟩ := bnd H0
  refine G.rg <| K.mv rfl rfl <| K.fieldAddr Y g0 rfl t127 rfl rfl <| K.loadS Y _ g0 rfl rfl t108 rfl rfl rfl <| K.cR (cf 79 rfl) (Tree_getS_con hx4 0 1) g0 rfl rfl rfl rfl <| K.alloc Y 103 _ g0 t127 rfl rfl rfl rfl rfl <| K.store Y _ g0 rfl rfl rfl t127 rfl rfl rfl rfl rfl <| K.nil <| At.ns <| G.seq ?_
  obtain ⟨x5, hx5, H0⟩ := bnd H0
  obtain ⟨x6, hx6, H0⟩ := bnd H0
  refine G.rd mixed <| K.mv rfl rfl <| K.fieldAddr Y g0 rfl t127 rfl rfl <| K.loadS Y _ g0 rfl rfl t108 rfl rfl rfl <| K.cR (cf 144 rfl) (Tree_weightS_con hx5 0 1) g0 rfl rfl rfl rfl <| K.mv rfl rfl <| K.fieldAddr Y g0 rfl t127 rfl rfl <| K.loadS Y _ g0 rfl rfl t108 rfl rfl rfl <| K.cR (cf 144 rfl) (Tree_weightS_con hx6 0 1) g0 rfl rfl rfl rfl <| K.bin (V := .int .i64 (w64 (2 * x6))) g0 rfl rfl (fun _ => rfl) rfl <| K.bin (V := .bool (decide (x5 ≥ (w64 (2 * x6))))) g0 rfl rfl (fun _ => rfl) rfl <| K.nil <| And.intro (by kernel_rfl) <| At.next <| G.cond rfl (fun h2 => ?_) (fun h2 => ?_)
  ·
   replace H0 := bif_t H0 h2
   obtain ⟨x7, hx7, H0⟩ := bnd H0
   obtain ⟨x8, hx8, H0⟩ := bnd H0
   refine G.rd mixed <| K.mv rfl rfl <| K.loadS Y _ g0 rfl rfl t108 rfl rfl rfl <| K.fieldAddr Y g0 rfl t127 rfl rfl <| K.loadS Y _ g0 rfl rfl t108 rfl rfl rfl <| K.mv rfl rfl <| K.fieldAddr Y g0 rfl t127 rfl rfl <| K.loadS Y _ g0 rfl rfl t108 rfl rfl rfl <| K.c0 (cf 156 rfl) (Tree_turnRightS_con hx7 0 1) g0 rfl rfl rfl rfl <| K.c0 (cf 123 rfl) (Tree_layS_con hx8 0 1) g0 rfl rfl rfl rfl <| K.nil <| And.intro (by kernel_rfl) <| At.ns ?_
   obtain ⟨x9, hx9, H0⟩ := bnd H0
   refine G.rg <| K.mv rfl rfl <| K.loadS Y _ g0 rfl rfl t108 rfl rfl rfl <| K.c0 (cf 157 rfl) (Tree_turnLeftS_con hx9 0 1) g0 rfl rfl rfl rfl <| K.store Y _ g0 rfl rfl rfl t108 rfl rfl rfl rfl rfl <| K.nil <| At.next <| G.ret <| At.block_ret <| At.over_ret <| At.done Y [(.cell 4 108, .agg [_, _])] rfl ⟨.st rfl rfl t108 rfl rfl, trivial⟩ (to' := [(0, _), (1, _)]) ⟨rfl, rfl, trivial⟩ ?_ ?_ rfl rfl rfl (.inl rfl)
   · cases H0; rfl
   · cases H0; rfl
  ·
   replace H0 := bif_f H0 h2
   refine G.skip <| At.ns ?_
   obtain ⟨x10, hx10, H0⟩ := bnd H0
   refine G.rg <| K.mv rfl rfl <| K.loadS Y _ g0 rfl rfl t108 rfl rfl rfl <| K.c0 (cf 157 rfl) (Tree_turnLeftS_con hx10 0 1) g0 rfl rfl rfl rfl <| K.store Y _ g0 rfl rfl rfl t108 rfl rfl rfl rfl rfl <| K.nil <| At.next <| G.ret <| At.block_ret <| At.over_ret <| At.done Y [(.cell 4 108, .agg [_, _])] rfl ⟨.st rfl rfl t108 rfl rfl, trivial⟩ (to' := [(0, _), (1, _)]) ⟨rfl, rfl, trivial⟩ ?_ ?_ rfl rfl rfl (.inl rfl)
   · cases H0; rfl
   · cases H0; rfl
 ·
  replace H0 := bif_f H0 h1
  refine G.seq <| G.rg <| K.mv rfl rfl <| K.mv rfl rfl <| K.bin (V := .int .i64 (w64 (3 * x3))) g0 rfl rfl (fun _ => rfl) rfl <| K.bin (V := .bool (decide (x2 > (w64 (3 * x3))))) g0 rfl rfl (fun _ => rfl) rfl <| K.as rfl rfl <| K.nil <| At.next <| G.cond rfl (fun h3 => ?_) (fun h3 => ?_)
  ·
   replace H0 := bif_t H0 h3
   refine G.seq ?_
   obtain ⟨x11, hx11, H0⟩ := bnd H0
   refine G.rg <| K.mv rfl rfl <| K.fieldAddr Y g0 rfl t127 rfl rfl <| K.loadS Y _ g0 rfl rfl t108 rfl rfl rfl <| K.cR (cf 79 rfl) (Tree_getS_con hx11 0 1) g0 rfl rfl rfl rfl <| K.alloc Y 104 _ g0 t127 rfl rfl rfl rfl rfl <| K.store Y _ g0 rfl rfl rfl t127 rfl rfl rfl rfl rfl <| K.nil <| At.ns <| G.seq ?_
   obtain ⟨x12, hx12, H0⟩ := bnd H0
   obtain ⟨x13, hx13, H0⟩ := bnd H0
   refine G.rd mixed <| K.mv rfl rfl <| K.fieldAddr Y g0 rfl t127 rfl rfl <| K.loadS Y _ g0 rfl rfl t108 rfl rfl rfl <| K.cR (cf 144 rfl) (Tree_weightS_con hx12 0 1) g0 rfl rfl rfl rfl <| K.mv rfl rfl <| K.fieldAddr Y g0 rfl t127 rfl rfl <| K.loadS Y _ g0 rfl rfl t108 rfl rfl rfl <| K.cR (cf 144 rfl) (Tree_weightS_con hx13 0 1) g0 rfl rfl rfl rfl <| K.bin (V := .int .i64 (w64 (2 * x13))) g0 rfl rfl (fun _ => rfl) rfl <| K.bin (V := .bool (decide (x12 ≥ (w64 (2 * x13))))) g0 rfl rfl (fun _ => rfl) rfl <| K.nil <| And.intro (by kernel_rfl) <| At.next <| G.cond rfl (fun h4 => ?_) (fun h4 => ?_)
   ·
    replace H0 := bif_t H0 h4
    obtain ⟨x14, hx14, H0⟩ := bnd H0
    obtain ⟨x15, hx15, H0⟩ := bnd H0
    refine G.rd mixed <| K.mv rfl rfl <| K.loadS Y _ g0 rfl rfl t108 rfl rfl rfl <| K.mv rfl rfl <| K.fieldAddr Y g0 rfl t127 rfl rfl <| K.loadS Y _ g0 rfl rfl t108 rfl rfl rfl <| K.c0 (cf 157 rfl) (Tree_turnLeftS_con hx14 0 1) g0 rfl rfl rfl rfl <| K.fieldAddr Y g0 rfl t127 rfl rfl <| K.loadS Y _ g0 rfl rfl t108 rfl rfl rfl <| K.c0 (cf 123 rfl) (Tree_layS_con hx15 0 1) g0 rfl rfl rfl rfl <| K.nil <| And.intro (by kernel_rfl) <| At.ns ?_
    obtain ⟨x16, hx16, H0⟩ := bnd H0
    refine G.rg <| K.mv rfl rfl <| K.loadS Y _ g0 rfl rfl t108 rfl rfl rfl <| K.c0 (cf 156 rfl) (Tree_turnRightS_con hx16 0 1) g0 rfl rfl rfl rfl <| K.store Y _ g0 rfl rfl rfl t108 rfl rfl rfl rfl rfl <| K.nil <| At.next <| G.ret <| At.block_ret <| At.over_ret <| At.done Y [(.cell 4 108, .agg [_, _])] rfl ⟨.st rfl rfl t108 rfl rfl, trivial⟩ (to' := [(0, _), (1, _)]) ⟨rfl, rfl, trivial⟩ ?_ ?_ rfl rfl rfl (.inl rfl)
    · cases H0; rfl
    · cases H0; rfl
   ·
    replace H0 := bif_f H0 h4
    refine G.skip <| At.ns ?_
    obtain ⟨x17, hx17, H0⟩ := bnd H0
    refine G.rg <| K.mv rfl rfl <| K.loadS Y _ g0 rfl rfl t108 rfl rfl rfl <| K.c0 (cf 156 rfl) (Tree_turnRightS_con hx17 0 1) g0 rfl rfl rfl rfl <| K.store Y _ g0 rfl rfl rfl t108 rfl rfl rfl rfl rfl <| K.nil <| At.next <| G.ret <| At.block_ret <| At.over_ret <| At.done Y [(.cell 4 108, .agg [_, _])] rfl ⟨.st rfl rfl t108 rfl rfl, trivial⟩ (to' := [(0, _), (1, _)]) ⟨rfl, rfl, trivial⟩ ?_ ?_ rfl rfl rfl (.inl rfl)
    · cases H0; rfl
    · cases H0; rfl
  ·
   replace H0 := bif_f H0 h3
   refine G.skip <| At.block_normal <| At.nr <| K.loadS Y _ g0 rfl rfl t108 rfl rfl rfl <| K.store Y _ g0 rfl rfl rfl t108 rfl rfl rfl rfl rfl <| K.nil <| At.next <| G.ret <| At.done Y [(.cell 4 108, .agg [_, _])] rfl ⟨.st rfl rfl t108 rfl rfl, trivial⟩ (to' := [(0, _), (1, _)]) ⟨rfl, rfl, trivial⟩ ?_ ?_ rfl rfl rfl (.inl rfl)
   · cases H0; rfl
   · cases H0; rfl
theorem Tree_balanceS_con {k : Nat}  {p1 : Pool (TNode TSlot TSize)} {a1 : TRef} {ri0 rg0 : Int} {r : TRef × Pool (TNode TSlot TSize)}  (H0 : Tree_balance.f opsS k p1 a1 = some r) (m0 m1 : Nat) : Tree_balanceS_st p1 a1 ri0 rg0 r m0 m1 :=
 SCon.ren (rn [(0, m0), (1, m1)]) (Tree_balanceS_con0 (k := k)   H0) ⟨(blk_ren rfl rfl), (pl_ren rfl), trivial⟩ ⟨(blk_ren rfl rfl), (pl_ren rfl), trivial⟩ (by simp) (by simp)
abbrev Tree_linkS_st (p1 : Pool (TNode TSlot TSize)) (a1 : TRef) (a2 : TRef) (a3 : TRef) (ri0 : Int) (rg0 : Int) (r : TRef × Pool (TNode TSlot TSize)) (m0 : Nat) (m1 : Nat) : Prop := SCon Tryz.prog 121 [SV.p m0 0, .a (.agg ((eTRef a1).map .v)), .a (.agg ((eTRef a2).map .v)), .a (.agg ((eTRef a3).map .v))] [(m0, blk m0 [.p m1 0, .i ri0, .i rg0] 131), (m1, plS m1 p1)] (.a (.agg ((eTRef r.1).map .v))) [(m0, blk m0 [.p m1 0, .i ri0, .i rg0] 131), (m1, plS m1 r.2)] []
theorem Tree_linkS_con0 {k : Nat}  : ∀ {n : Nat} {p1 : Pool (TNode TSlot TSize)} {a1 : TRef} {a2 : TRef} {a3 : TRef} {ri0 rg0 : Int} {r : TRef × Pool (TNode TSlot TSize)}  (H0 : Tree_link.r opsS k n p1 a1 a2 a3 = some r), Tree_linkS_st p1 a1 a2 a3 ri0 rg0 r 0 1 := by
 intro n
 induction n with
 | zero => intro p1 a1 a2 a3 ri0 rg0 r H0; exact absurd H0 (by simp [Tree_link.r])
 | succ n ih =>
  intro p1 a1 a2 a3 ri0 rg0 r H0
  rw [Tree_link.r] at H0
  refine spec_of [(0, _), (1, _), (2, _), (3, _)] [(0, _), (1, _)] 66 Tryz.func121 rfl Tryz.ntmps121 rfl rfl rfl rfl (fun β W F => ?_)
  refine G.seq <| G.rg <| K.box Y 100 _ g0 rfl rfl rfl rfl rfl rfl <| K.box Y 101 _ g0 rfl rfl rfl rfl rfl rfl <| K.box Y 102 _ g0 rfl rfl rfl rfl rfl rfl <| K.alloc Y 103 _ g0 t108 rfl rfl rfl rfl rfl <| K.nil <| At.ns ?_
  obtain ⟨x1, hx1, H0⟩ := bnd H0
  obtain ⟨x2, hx2, H0⟩ := bnd H0
  refine G.rd mixed <| K.mv rfl rfl <| K.loadS Y _ g0 rfl rfl t108 rfl rfl rfl <| K.cR (cf 144 rfl) (Tree_weightS_con hx1 0 1) g0 rfl rfl rfl rfl <| K.mv rfl rfl <| K.loadS Y _ g0 rfl rfl t108 rfl rfl rfl <| K.cR (cf 144 rfl) (Tree_weightS_con hx2 0 1) g0 rfl rfl rfl rfl <| K.as rfl rfl <| K.as rfl rfl <| K.nil <| And.intro (by kernel_rfl) <| At.ns <| G.block <| G.seq <| G.rg <| K.mv rfl rfl <| K.mv rfl rfl <| K.bin (V := .int .i64 (w64 (3 * x1))) g0 rfl rfl (fun _ => rfl) rfl <| K.bin (V := .bool (decide (x2 > (w64 (3 * x1))))) g0 rfl rfl (fun _ => rfl) rfl <| K.as rfl rfl <| K.nil <| At.next <| G.cond rfl (fun h1 => ?_) (fun h1 => ?_)
  ·
   replace H0 := bif_t H0 h1
   refine G.seq ?_
   obtain ⟨x3, hx3, H0⟩ := bnd H0
   refine G.rg <| K.mv rfl rfl <| K.loadS Y _ g0 rfl rfl t108 rfl rfl rfl <| K.cR (cf 79 rfl) (Tree_getS_con hx3 0 1) g0 rfl rfl rfl rfl <| K.alloc Y 104 _ g0 t127 rfl rfl rfl rfl rfl <| K.store Y _ g0 rfl rfl rfl t127 rfl rfl rfl rfl rfl <| K.nil <| At.ns ?_
   obtain ⟨x4, hx4, H0⟩ := bnd H0
   obtain ⟨x5, hx5, H0⟩ := bnd H0
   obtain ⟨x6, hx6, H0⟩ := bnd H0
   refine G.rd mixed <| K.mv rfl rfl <| K.mv rfl rfl <| K.loadS Y _ g0 rfl rfl t108 rfl rfl rfl <| K.mv rfl rfl <| K.loadS Y _ g0 rfl rfl t108 rfl rfl rfl <| K.loadS Y _ g0 rfl rfl t108 rfl rfl rfl <| K.fieldAddr Y g0 rfl t127 rfl rfl <| K.loadS Y _ g0 rfl rfl t108 rfl rfl rfl <| K.c0 (cf 121 rfl) (ih hx4) g0 rfl rfl rfl rfl <| K.fieldAddr Y g0 rfl t127 rfl rfl <| K.loadS Y _ g0 rfl rfl t108 rfl rfl rfl <| K.c0 (cf 123 rfl) (Tree_layS_con hx5 0 1) g0 rfl rfl rfl rfl <| K.c0 (cf 145 rfl) (Tree_balanceS_con hx6 0 1) g0 rfl rfl rfl rfl <| K.store Y _ g0 rfl rfl rfl t108 rfl rfl rfl rfl rfl <| K.nil <| And.intro (by kernel_rfl) <| At.next <| G.ret <| At.block_ret <| At.over_ret <| At.done Y [(.cell 8 108, .agg [_, _])] rfl ⟨.st rfl rfl t108 rfl rfl, trivial⟩ (to' := [(0, _), (1, _)]) ⟨rfl, rfl, trivial⟩ ?_ ?_ rfl rfl rfl (.inl rfl)
   · cases H0; rfl
   · cases H0; rfl
  ·
   replace H0 := bif_f H0 h1
   refine G.seq <| G.rg <| K.mv rfl rfl <| K.mv rfl rfl <| K.bin (V := .int .i64 (w64 (3 * x2))) g0 rfl rfl (fun _ => rfl) rfl <| K.bin (V := .bool (decide (x1 > (w64 (3 * x2))))) g0 rfl rfl (fun _ => rfl) rfl <| K.as rfl rfl <| K.nil <| At.next <| G.cond rfl (fun h2 => ?_) (fun h2 => ?_)
   ·
    replace H0 := bif_t H0 h2
    refine G.seq ?_
    obtain ⟨x7, hx7, H0⟩ := bnd H0
    refine G.rg <| K.mv rfl rfl <| K.loadS Y _ g0 rfl rfl t108 rfl rfl rfl <| K.cR (cf 79 rfl) (Tree_getS_con hx7 0 1) g0 rfl rfl rfl rfl <| K.alloc Y 105 _ g0 t127 rfl rfl rfl rfl rfl <| K.store Y _ g0 rfl rfl rfl t127 rfl rfl rfl rfl rfl <| K.nil <| At.ns ?_
    obtain ⟨x8, hx8, H0⟩ := bnd H0
    obtain ⟨x9, hx9, H0⟩ := bnd H0
    obtain ⟨x10, hx10, H0⟩ := bnd H0
    refine G.rd mixed <| K.mv rfl rfl <| K.mv rfl rfl <| K.loadS Y _ g0 rfl rfl t108 rfl rfl rfl <| K.fieldAddr Y g0 rfl t127 rfl rfl <| K.loadS Y _ g0 rfl rfl t108 rfl rfl rfl <| K.mv rfl rfl <| K.fieldAddr Y g0 rfl t127 rfl rfl <| K.loadS Y _ g0 rfl rfl t108 rfl rfl rfl <| K.loadS Y _ g0 rfl rfl t108 rfl rfl rfl <| K.loadS Y _ g0 rfl rfl t108 rfl rfl rfl <| K.c0 (cf 121 rfl) (ih hx8) g0 rfl rfl rfl rfl <| K.c0 (cf 123 rfl) (Tree_layS_con hx9 0 1) g0 rfl rfl rfl rfl <| K.c0 (cf 145 rfl) (Tree_balanceS_con hx10 0 1) g0 rfl rfl rfl rfl <| K.store Y _ g0 rfl rfl rfl t108 rfl rfl rfl rfl rfl <| K.nil <| And.intro (by kernel_rfl) <| At.next <| G.ret <| At.block_ret <| At.over_ret <| At.done Y [(.cell 8 108, .agg [_, _])] rfl ⟨.st rfl rfl t108 rfl rfl, trivial⟩ (to' := [(0, _), (1, _)]) ⟨rfl, rfl, trivial⟩ ?_ ?_ rfl rfl rfl (.inl rfl)
    · cases H0; rfl
    · cases H0; rfl
   ·
    replace H0 := bif_f H0 h2
    refine G.skip <| At.block_normal <| At.ns ?_
    obtain ⟨x11, hx11, H0⟩ := bnd H0
    refine G.rg <| K.mv rfl rfl <| K.loadS Y _ g0 rfl rfl t108 rfl rfl rfl <| K.loadS Y _ g0 rfl rfl t108 rfl rfl rfl <| K.loadS Y _ g0 rfl rfl t108 rfl rfl rfl <| K.c0 (cf 123 rfl) (Tree_layS_con hx11 0 1) g0 rfl rfl rfl rfl <| K.store Y _ g0 rfl rfl rfl t108 rfl rfl rfl rfl rfl <| K.nil <| At.next <| G.ret <| At.done Y [(.cell 8 108, .agg [_, _])] rfl ⟨.st rfl rfl t108 rfl rfl, trivial⟩ (to' := [(0, _), (1, _)]) ⟨rfl, rfl, trivial⟩ ?_ ?_ rfl rfl rfl (.inl rfl)
    · cases H0; rfl
    · cases H0; rfl
theorem Tree_linkS_con {k n : Nat}  {p1 : Pool (TNode TSlot TSize)} {a1 : TRef} {a2 : TRef} {a3 : TRef} {ri0 rg0 : Int} {r : TRef × Pool (TNode TSlot TSize)}  (H0 : Tree_link.r opsS k n p1 a1 a2 a3 = some r) (m0 m1 : Nat) : Tree_linkS_st p1 a1 a2 a3 ri0 rg0 r m0 m1 :=
 SCon.ren (rn [(0, m0), (1, m1)]) (Tree_linkS_con0 (k := k)   H0) ⟨(blk_ren rfl rfl), (pl_ren rfl), trivial⟩ ⟨(blk_ren rfl rfl), (pl_ren rfl), trivial⟩ (by simp) (by simp)
abbrev Tree_putS_st (p1 : Pool (TNode TSlot TSize)) (a1 : TRef) (a2 : TSlot) (ri0 : Int) (rg0 : Int) (r : TRef × Bool × Pool (TNode TSlot TSize)) (m0 : Nat) (m1 : Nat) : Prop := SCon Tryz.prog 100 [SV.p m0 0, .a (.agg ((eTRef a1).map .v)), .a (.agg ((eTSlot a2).map .v))] [(m0, blk m0 [.p m1 0, .i ri0, .i rg0] 131), (m1, plS m1 p1)] (.tup [.agg ((eTRef r.1).map .v), .c (.v (.bool r.2.1))]) [(m0, blk m0 [.p m1 0, .i ri0, .i rg0] 131), (m1, plS m1 r.2.2)] []
set_option maxHeartbeats 4000000 in
theorem Tree_putS_con0 {k : Nat}  : ∀ {n : Nat} {p1 : Pool (TNode TSlot TSize)} {a1 : TRef} {a2 : TSlot} {ri0 rg0 : Int} {r : TRef × Bool × Pool (TNode TSlot TSize)}  (H0 : Tree_put.r opsS k n p1 a1 a2 = some r), Tree_putS_st p1 a1 a2 ri0 rg0 r 0 1 := by
 intro n
 induction n with
 | zero => intro p1 a1 a2 ri0 rg0 r H0; exact absurd H0 (by simp [Tree_put.r])
 | succ n ih =>
  intro p1 a1 a2 ri0 rg0 r H0
  rw [Tree_put.r] at H0
  refine spec_of [(0, _), (1, _), (2, _)] [(0, _), (1, _)] 98 Tryz.func100 rfl Tryz.ntmps100 rfl rfl rfl rfl (fun β W F => ?_)
  refine G.seq <| G.rg <| K.box Y 100 _ g0 rfl rfl rfl rfl rfl rfl <| K.box Y 101 _ g0 rfl rfl rfl rfl rfl rfl <| K.alloc Y 102 _ g0 t108 rfl rfl rfl rfl rfl <| K.as rfl rfl <| K.nil <| At.ns <| G.seq <| G.rg <| K.fieldAddr Y g0 rfl t108 rfl rfl <| K.load1 Y g0 rfl rfl t3 rfl rfl <| K.bin (V := .bool (a1.gen == 0)) g0 rfl rfl (fun _ => rfl) rfl <| K.nil <| At.next <| G.cond rfl (fun h1 => ?_) (fun h1 => ?_)
  ·
   replace H0 := bif_t H0 h1
   refine G.seq ?_
   obtain ⟨x1, hx1, H0⟩ := bnd H0
   obtain ⟨x2, hx2, H0⟩ := bnd H0
   refine G.rd mixed <| K.mv rfl rfl <| K.nilCheck g0 rfl rfl <| K.fieldAddr Y g0 rfl t131 rfl rfl <| K.load1 Y g0 rfl rfl t129 rfl rfl <| K.loadS Y _ g0 rfl rfl t66 rfl rfl rfl <| K.loadS Y _ g0 rfl rfl t66 rfl rfl rfl <| K.mkIface Y g0 rfl (mkI Tryz.underlying66 rfl) rfl <| K.callR [((.tmp 26), _)] (shelf_Slot_Sum_con (k := k) hx1) (toFn_invoke (cf 213 rfl) (me66_213) rfl) g0 ⟨rfl, trivial⟩ trivial rfl rfl rfl <| K.build Y [(0, _), (3, _), (4, _)] [_, _, _, _, _, _, _, _, _, _] [((.tmp 24), _), (_, _), ((.tmp 27), _)] g0 (AllE.spec ⟨rfl, rfl, rfl, trivial⟩) rfl rfl t127 rfl rfl <| K.call0 [(.func 120, _), ((.tmp 23), _), ((.tmp 28), _)] (plputS hx2 1) (toFn_func (cf 120 rfl) rfl) g0 ⟨rfl, rfl, rfl, trivial⟩ ⟨rfl, trivial⟩ rfl rfl rfl rfl rfl rfl <| K.mv rfl rfl <| K.extract g0 rfl rfl rfl <| K.extract g0 rfl rfl rfl <| K.alloc Y 103 _ g0 t108 rfl rfl rfl rfl rfl <| K.store Y _ g0 rfl rfl rfl t108 rfl rfl rfl rfl rfl <| K.as rfl rfl <| K.nil <| And.intro (by kernel_rfl) <| At.nr <| K.loadS Y _ g0 rfl rfl t108 rfl rfl rfl <| K.mv rfl rfl <| K.store Y _ g0 rfl rfl rfl t108 rfl rfl rfl rfl rfl <| K.as rfl rfl <| K.nil <| At.next <| G.ret <| At.over_ret <| At.done Y [(.cell 6 108, .agg [_, _]), (.tmp 7, .c _)] rfl ⟨.st rfl rfl t108 rfl rfl, .tmp rfl, trivial⟩ (to' := [(0, _), (1, _)]) ⟨rfl, rfl, trivial⟩ ?_ ?_ rfl rfl rfl (.inl rfl)
   · cases H0; rfl
   · cases H0; rfl
  ·
   replace H0 := bif_f H0 h1
   refine G.skip <| At.ns ?_
   obtain ⟨x3, hx3, H0⟩ := bnd H0
   refine G.rg <| K.mv rfl rfl <| K.loadS Y _ g0 rfl rfl t108 rfl rfl rfl <| K.cR (cf 79 rfl) (Tree_getS_con hx3 0 1) g0 rfl rfl rfl rfl <| K.alloc Y 104 _ g0 t127 rfl rfl rfl rfl rfl <| K.store Y _ g0 rfl rfl rfl t127 rfl rfl rfl rfl rfl <| K.nil <| At.ns ?_
   obtain ⟨x4, hx4, H0⟩ := bnd H0
   refine G.rg <| K.loadS Y _ g0 rfl rfl t66 rfl rfl rfl <| K.mkIface Y g0 rfl (mkI Tryz.underlying66 rfl) rfl <| K.fieldAddr Y g0 rfl t127 rfl rfl <| K.loadS Y _ g0 rfl rfl t66 rfl rfl rfl <| K.callR [((.tmp 38), _), ((.tmp 40), _)] (shelf_Slot_Compare_con (k := k) hx4) (toFn_invoke (cf 212 rfl) (me66_212) rfl) g0 ⟨rfl, rfl, trivial⟩ trivial rfl rfl rfl <| K.as rfl rfl <| K.nil <| At.ns <| G.block <| G.seq <| G.rg <| K.mv rfl rfl <| K.bin (V := .bool (decide (x4 < 0))) g0 rfl rfl (fun _ => rfl) rfl <| K.as rfl rfl <| K.nil <| At.next <| G.cond rfl (fun h2 => ?_) (fun h2 => ?_)
   ·
    replace H0 := bif_t H0 h2
    refine G.seq ?_
    obtain ⟨x5, hx5, H0⟩ := bnd H0
    refine G.rg <| K.mv rfl rfl <| K.fieldAddr Y g0 rfl t127 rfl rfl <| K.loadS Y _ g0 rfl rfl t108 rfl rfl rfl <| K.loadS Y _ g0 rfl rfl t66 rfl rfl rfl <| K.c0 (cf 100 rfl) (ih hx5) g0 rfl rfl rfl rfl <| K.mv rfl rfl <| K.extract g0 rfl rfl rfl <| K.extract g0 rfl rfl rfl <| K.alloc Y 105 _ g0 t108 rfl rfl rfl rfl rfl <| K.store Y _ g0 rfl rfl rfl t108 rfl rfl rfl rfl rfl <| K.as rfl rfl <| K.nil <| At.ns <| G.seq <| G.rg <| K.mv rfl rfl <| K.un (V := .bool (!x5.2.1)) g0 rfl (fun _ => rfl) rfl <| K.nil <| At.next <| G.cond rfl (fun h3 => ?_) (fun h3 => ?_)
    ·
     replace H0 := bif_t H0 h3
     refine G.seq <| G.rg <| K.loadS Y _ g0 rfl rfl t108 rfl rfl rfl <| K.store Y _ g0 rfl rfl rfl t108 rfl rfl rfl rfl rfl <| K.as rfl rfl <| K.nil <| At.next <| G.ret <| At.over_ret <| At.block_ret <| At.over_ret <| At.done Y [(.cell 6 108, .agg [_, _]), (.tmp 7, .c _)] rfl ⟨.st rfl rfl t108 rfl rfl, .tmp rfl, trivial⟩ (to' := [(0, _), (1, _)]) ⟨rfl, rfl, trivial⟩ ?_ ?_ rfl rfl rfl (.inl rfl)
     · cases H0; rfl
     · cases H0; rfl
    ·
     replace H0 := bif_f H0 h3
     refine G.skip <| At.ns ?_
     obtain ⟨x6, hx6, H0⟩ := bnd H0
     refine G.rg <| K.mv rfl rfl <| K.loadS Y _ g0 rfl rfl t108 rfl rfl rfl <| K.loadS Y _ g0 rfl rfl t108 rfl rfl rfl <| K.fieldAddr Y g0 rfl t127 rfl rfl <| K.loadS Y _ g0 rfl rfl t108 rfl rfl rfl <| K.c0 (cf 121 rfl) (Tree_linkS_con hx6 0 1) g0 rfl rfl rfl rfl <| K.store Y _ g0 rfl rfl rfl t108 rfl rfl rfl rfl rfl <| K.as rfl rfl <| K.nil <| At.next <| G.ret <| At.block_ret <| At.over_ret <| At.done Y [(.cell 6 108, .agg [_, _]), (.tmp 7, .c _)] rfl ⟨.st rfl rfl t108 rfl rfl, .tmp rfl, trivial⟩ (to' := [(0, _), (1, _)]) ⟨rfl, rfl, trivial⟩ ?_ ?_ rfl rfl rfl (.inl rfl)
     · cases H0; rfl
     · cases H0; rfl
   ·
    replace H0 := bif_f H0 h2
    refine G.seq <| G.rg <| K.mv rfl rfl <| K.bin (V := .bool (decide (x4 > 0))) g0 rfl rfl (fun _ => rfl) rfl <| K.as rfl rfl <| K.nil <| At.next <| G.cond rfl (fun h4 => ?_) (fun h4 => ?_)
    ·
     replace H0 := bif_t H0 h4
     refine G.seq ?_
     obtain ⟨x7, hx7, H0⟩ := bnd H0
     refine G.rg <| K.mv rfl rfl <| K.fieldAddr Y g0 rfl t127 rfl rfl <| K.loadS Y _ g0 rfl rfl t108 rfl rfl rfl <| K.loadS Y _ g0 rfl rfl t66 rfl rfl rfl <| K.c0 (cf 100 rfl) (ih hx7) g0 rfl rfl rfl rfl <| K.mv rfl rfl <| K.extract g0 rfl rfl rfl <| K.extract g0 rfl rfl rfl <| K.alloc Y 106 _ g0 t108 rfl rfl rfl rfl rfl <| K.store Y _ g0 rfl rfl rfl t108 rfl rfl rfl rfl rfl <| K.as rfl rfl <| K.nil <| At.ns <| G.seq <| G.rg <| K.mv rfl rfl <| K.un (V := .bool (!x7.2.1)) g0 rfl (fun _ => rfl) rfl <| K.nil <| At.next <| G.cond rfl (fun h5 => ?_) (fun h5 => ?_)
     ·
      replace H0 := bif_t H0 h5
      refine G.seq <| G.rg <| K.loadS Y _ g0 rfl rfl t108 rfl rfl rfl <| K.store Y _ g0 rfl rfl rfl t108 rfl rfl rfl rfl rfl <| K.as rfl rfl <| K.nil <| At.next <| G.ret <| At.over_ret <| At.block_ret <| At.over_ret <| At.done Y [(.cell 6 108, .agg [_, _]), (.tmp 7, .c _)] rfl ⟨.st rfl rfl t108 rfl rfl, .tmp rfl, trivial⟩ (to' := [(0, _), (1, _)]) ⟨rfl, rfl, trivial⟩ ?_ ?_ rfl rfl rfl (.inl rfl)
      · cases H0; rfl
      · cases H0; rfl
     ·
      replace H0 := bif_f H0 h5
      refine G.skip <| At.ns ?_
      obtain ⟨x8, hx8, H0⟩ := bnd H0
      refine G.rg <| K.mv rfl rfl <| K.fieldAddr Y g0 rfl t127 rfl rfl <| K.loadS Y _ g0 rfl rfl t108 rfl rfl rfl <| K.loadS Y _ g0 rfl rfl t108 rfl rfl rfl <| K.loadS Y _ g0 rfl rfl t108 rfl rfl rfl <| K.c0 (cf 121 rfl) (Tree_linkS_con hx8 0 1) g0 rfl rfl rfl rfl <| K.store Y _ g0 rfl rfl rfl t108 rfl rfl rfl rfl rfl <| K.as rfl rfl <| K.nil <| At.next <| G.ret <| At.block_ret <| At.over_ret <| At.done Y [(.cell 6 108, .agg [_, _]), (.tmp 7, .c _)] rfl ⟨.st rfl rfl t108 rfl rfl, .tmp rfl, trivial⟩ (to' := [(0, _), (1, _)]) ⟨rfl, rfl, trivial⟩ ?_ ?_ rfl rfl rfl (.inl rfl)
      · cases H0; rfl
      · cases H0; rfl
    ·
     replace H0 := bif_f H0 h4
     refine G.skip <| At.block_normal <| At.nr <| K.loadS Y _ g0 rfl rfl t66 rfl rfl rfl <| K.fieldAddr Y g0 rfl t127 rfl rfl <| K.store Y _ g0 rfl rfl rfl t66 rfl rfl rfl rfl rfl <| K.nil <| At.ns ?_
     obtain ⟨x9, hx9, H0⟩ := bnd H0
     refine G.rd mixed <| K.mv rfl rfl <| K.nilCheck g0 rfl rfl <| K.fieldAddr Y g0 rfl t131 rfl rfl <| K.load1 Y g0 rfl rfl t129 rfl rfl <| K.loadS Y _ g0 rfl rfl t108 rfl rfl rfl <| K.loadS Y _ g0 rfl rfl t127 rfl rfl rfl <| K.call0 [(.func 122, _), ((.tmp 87), _), ((.tmp 88), _), ((.tmp 89), _)] (plsetS hx9 1) (toFn_func (cf 122 rfl) rfl) g0 ⟨rfl, rfl, rfl, rfl, trivial⟩ ⟨rfl, trivial⟩ rfl rfl rfl rfl rfl rfl <| K.nil <| And.intro (by kernel_rfl) <| At.ns ?_
     obtain ⟨x10, hx10, H0⟩ := bnd H0
     refine G.rg <| K.mv rfl rfl <| K.loadS Y _ g0 rfl rfl t108 rfl rfl rfl <| K.fieldAddr Y g0 rfl t127 rfl rfl <| K.loadS Y _ g0 rfl rfl t108 rfl rfl rfl <| K.fieldAddr Y g0 rfl t127 rfl rfl <| K.loadS Y _ g0 rfl rfl t108 rfl rfl rfl <| K.c0 (cf 123 rfl) (Tree_layS_con hx10 0 1) g0 rfl rfl rfl rfl <| K.store Y _ g0 rfl rfl rfl t108 rfl rfl rfl rfl rfl <| K.as rfl rfl <| K.nil <| At.next <| G.ret <| At.done Y [(.cell 6 108, .agg [_, _]), (.tmp 7, .c _)] rfl ⟨.st rfl rfl t108 rfl rfl, .tmp rfl, trivial⟩ (to' := [(0, _), (1, _)]) ⟨rfl, rfl, trivial⟩ ?_ ?_ rfl rfl rfl (.inl rfl)
     · cases H0; rfl
     · cases H0; rfl
theorem Tree_putS_con {k n : Nat}  {p1 : Pool (TNode TSlot TSize)} {a1 : TRef} {a2 : TSlot} {ri0 rg0 : Int} {r : TRef × Bool × Pool (TNode TSlot TSize)}  (H0 : Tree_put.r opsS k n p1 a1 a2 = some r) (m0 m1 : Nat) : Tree_putS_st p1 a1 a2 ri0 rg0 r m0 m1 :=
 SCon.ren (rn [(0, m0), (1, m1)]) (Tree_putS_con0 (k := k)   H0) ⟨(blk_ren rfl rfl), (pl_ren rfl), trivial⟩ ⟨(blk_ren rfl rfl), (pl_ren rfl), trivial⟩ (by simp) (by simp)
abbrev Tree_PutS_st (p1 : Pool (TNode TSlot TSize)) (rt0 : TRef) (a1 : TSlot) (r : Bool × TRef × Pool (TNode TSlot TSize)) (m0 : Nat) (m1 : Nat) : Prop := SCon Tryz.prog 69 [SV.p m0 0, .a (.agg ((eTSlot a1).map .v))] [(m0, blk m0 [.p m1 0, .i rt0.index, .i rt0.gen] 131), (m1, plS m1 p1)] (.a (.c (.v (.bool r.1)))) [(m0, blk m0 [.p m1 0, .i r.2.1.index, .i r.2.1.gen] 131), (m1, plS m1 r.2.2)] []
theorem Tree_PutS_con0 {k : Nat}  {p1 : Pool (TNode TSlot TSize)} {rt0 : TRef} {a1 : TSlot} {r : Bool × TRef × Pool (TNode TSlot TSize)}  (H0 : Tree_Put.f opsS k p1 rt0 a1 = some r) : Tree_PutS_st p1 rt0 a1 r 0 1 := by
 rw [Tree_Put.f] at H0
 refine spec_of [(0, _), (1, _)] [(0, _), (1, _)] 23 Tryz.func69 rfl Tryz.ntmps69 rfl rfl rfl rfl (fun β W F => ?_)
 refine G.seq <| G.rg <| K.box Y 100 _ g0 rfl rfl rfl rfl rfl rfl <| K.as rfl rfl <| K.nil <| At.ns ?_
 obtain ⟨x1, hx1, H0⟩ := bnd H0
 refine G.rd mixed <| K.mv rfl rfl <| K.mv rfl rfl <| K.nilCheck g0 rfl rfl <| K.fieldAddr Y g0 rfl t131 rfl rfl <| K.loadS Y _ g0 rfl rfl t108 rfl rfl rfl <| K.loadS Y _ g0 rfl rfl t66 rfl rfl rfl <| K.c0 (cf 100 rfl) (Tree_putS_con hx1 0 1) g0 rfl rfl rfl rfl <| K.mv rfl rfl <| K.extract g0 rfl rfl rfl <| K.extract g0 rfl rfl rfl <| K.alloc Y 101 _ g0 t108 rfl rfl rfl rfl rfl <| K.store Y _ g0 rfl rfl rfl t108 rfl rfl rfl rfl rfl <| K.as rfl rfl <| K.nil <| And.intro (by kernel_rfl) <| At.ns <| G.seq <| G.rg <| K.mv rfl rfl <| K.nil <| At.next <| G.cond rfl (fun h1 => ?_) (fun h1 => ?_)
 ·
  replace H0 := bif_t H0 h1
  exact G.rg <| K.mv rfl rfl <| K.loadS Y _ g0 rfl rfl t108 rfl rfl rfl <| K.nilCheck g0 rfl rfl <| K.fieldAddr Y g0 rfl t131 rfl rfl <| K.store Y _ g0 rfl rfl rfl t108 rfl rfl rfl rfl rfl <| K.nil <| At.nr <| K.mv rfl rfl <| K.as rfl rfl <| K.nil <| At.next <| G.ret <| At.dr Y [4] rfl rfl (by cases H0; rfl) (by cases H0; rfl) rfl rfl rfl
 ·
  replace H0 := bif_f H0 h1
  exact G.skip <| At.nr <| K.mv rfl rfl <| K.as rfl rfl <| K.nil <| At.next <| G.ret <| At.dr Y [4] rfl rfl (by cases H0; rfl) (by cases H0; rfl) rfl rfl rfl
theorem Tree_PutS_con {k : Nat}  {p1 : Pool (TNode TSlot TSize)} {rt0 : TRef} {a1 : TSlot} {r : Bool × TRef × Pool (TNode TSlot TSize)}  (H0 : Tree_Put.f opsS k p1 rt0 a1 = some r) (m0 m1 : Nat) : Tree_PutS_st p1 rt0 a1 r m0 m1 :=
 SCon.ren (rn [(0, m0), (1, m1)]) (Tree_PutS_con0 (k := k)   H0) ⟨(blk_ren rfl rfl), (pl_ren rfl), trivial⟩ ⟨(blk_ren rfl rfl), (pl_ren rfl), trivial⟩ (by simp) (by simp)
abbrev Tree_lastS_st (p1 : Pool (TNode TSlot TSize)) (a1 : TRef) (ri0 : Int) (rg0 : Int) (r : TRef × TRef × Pool (TNode TSlot TSize)) (m0 : Nat) (m1 : Nat) : Prop := SCon Tryz.prog 150 [SV.p m0 0, .a (.agg ((eTRef a1).map .v))] [(m0, blk m0 [.p m1 0, .i ri0, .i rg0] 131), (m1, plS m1 p1)] (.tup [.agg ((eTRef r.1).map .v), .agg ((eTRef r.2.1).map .v)]) [(m0, blk m0 [.p m1 0, .i ri0, .i rg0] 131), (m1, plS m1 r.2.2)] []
theorem Tree_lastS_con0 {k : Nat}  : ∀ {n : Nat} {p1 : Pool (TNode TSlot TSize)} {a1 : TRef} {ri0 rg0 : Int} {r : TRef × TRef × Pool (TNode TSlot TSize)}  (H0 : Tree_last.r opsS k n p1 a1 = some r), Tree_lastS_st p1 a1 ri0 rg0 r 0 1 := by
 intro n
 induction n with
 | zero => intro p1 a1 ri0 rg0 r H0; exact absurd H0 (by simp [Tree_last.r])
 | succ n ih =>
  intro p1 a1 ri0 rg0 r H0
  rw [Tree_last.r] at H0
  refine spec_of [(0, _), (1, _)] [(0, _), (1, _)] 33 Tryz.func150 rfl Tryz.ntmps150 rfl rfl rfl rfl (fun β W F => ?_)
  refine G.seq <| G.rg <| K.box Y 100 _ g0 rfl rfl rfl rfl rfl rfl <| K.alloc Y 101 _ g0 t108 rfl rfl rfl rfl rfl <| K.alloc Y 102 _ g0 t108 rfl rfl rfl rfl rfl <| K.nil <| At.ns ?_
  obtain ⟨x1, hx1, H0⟩ := bnd H0
  refine G.rg <| K.mv rfl rfl <| K.loadS Y _ g0 rfl rfl t108 rfl rfl rfl <| K.cR (cf 79 rfl) (Tree_getS_con hx1 0 1) g0 rfl rfl rfl rfl <| K.alloc Y 103 _ g0 t127 rfl rfl rfl rfl rfl <| K.store Y _ g0 rfl rfl rfl t127 rfl rfl rfl rfl rfl <| K.nil <| At.ns <| G.seq <| G.rg <| K.fieldAddr Y g0 rfl t127 rfl rfl <| K.fieldAddr Y g0 rfl t108 rfl rfl <| K.load1 Y g0 rfl rfl t3 rfl rfl <| K.bin (V := .bool (x1.right.gen == 0)) g0 rfl rfl (fun _ => rfl) rfl <| K.nil <| At.next <| G.cond rfl (fun h1 => ?_) (fun h1 => ?_)
  ·
   replace H0 := bif_t H0 h1
   refine G.seq <| G.rd mixed <| K.fieldAddr Y g0 rfl t127 rfl rfl <| K.loadS Y _ g0 rfl rfl t108 rfl rfl rfl <| K.loadS Y _ g0 rfl rfl t108 rfl rfl rfl <| K.store Y _ g0 rfl rfl rfl t108 rfl rfl rfl rfl rfl <| K.store Y _ g0 rfl rfl rfl t108 rfl rfl rfl rfl rfl <| K.nil <| And.intro (by kernel_rfl) <| At.next <| G.ret <| At.over_ret <| At.done Y [(.cell 4 108, .agg [_, _]), (.cell 5 108, .agg [_, _])] rfl ⟨.st rfl rfl t108 rfl rfl, .st rfl rfl t108 rfl rfl, trivial⟩ (to' := [(0, _), (1, _)]) ⟨rfl, rfl, trivial⟩ ?_ ?_ rfl rfl rfl (.inl rfl)
   · cases H0; rfl
   · cases H0; rfl
  ·
   replace H0 := bif_f H0 h1
   refine G.skip <| At.ns ?_
   obtain ⟨x2, hx2, H0⟩ := bnd H0
   refine G.rg <| K.mv rfl rfl <| K.fieldAddr Y g0 rfl t127 rfl rfl <| K.loadS Y _ g0 rfl rfl t108 rfl rfl rfl <| K.c0 (cf 150 rfl) (ih hx2) g0 rfl rfl rfl rfl <| K.mv rfl rfl <| K.extract g0 rfl rfl rfl <| K.extract g0 rfl rfl rfl <| K.alloc Y 104 _ g0 t108 rfl rfl rfl rfl rfl <| K.alloc Y 105 _ g0 t108 rfl rfl rfl rfl rfl <| K.store Y _ g0 rfl rfl rfl t108 rfl rfl rfl rfl rfl <| K.store Y _ g0 rfl rfl rfl t108 rfl rfl rfl rfl rfl <| K.nil <| At.ns ?_
   obtain ⟨x3, hx3, H0⟩ := bnd H0
   refine G.rd mixed <| K.mv rfl rfl <| K.fieldAddr Y g0 rfl t127 rfl rfl <| K.loadS Y _ g0 rfl rfl t108 rfl rfl rfl <| K.loadS Y _ g0 rfl rfl t108 rfl rfl rfl <| K.loadS Y _ g0 rfl rfl t108 rfl rfl rfl <| K.c0 (cf 121 rfl) (Tree_linkS_con hx3 0 1) g0 rfl rfl rfl rfl <| K.loadS Y _ g0 rfl rfl t108 rfl rfl rfl <| K.store Y _ g0 rfl rfl rfl t108 rfl rfl rfl rfl rfl <| K.store Y _ g0 rfl rfl rfl t108 rfl rfl rfl rfl rfl <| K.nil <| And.intro (by kernel_rfl) <| At.next <| G.ret <| At.done Y [(.cell 4 108, .agg [_, _]), (.cell 5 108, .agg [_, _])] rfl ⟨.st rfl rfl t108 rfl rfl, .st rfl rfl t108 rfl rfl, trivial⟩ (to' := [(0, _), (1, _)]) ⟨rfl, rfl, trivial⟩ ?_ ?_ rfl rfl rfl (.inl rfl)
   · cases H0; rfl
   · cases H0; rfl
theorem Tree_lastS_con {k n : Nat}  {p1 : Pool (TNode TSlot TSize)} {a1 : TRef} {ri0 rg0 : Int} {r : TRef × TRef × Pool (TNode TSlot TSize)}  (H0 : Tree_last.r opsS k n p1 a1 = some r) (m0 m1 : Nat) : Tree_lastS_st p1 a1 ri0 rg0 r m0 m1 :=
 SCon.ren (rn [(0, m0), (1, m1)]) (Tree_lastS_con0 (k := k)   H0) ⟨(blk_ren rfl rfl), (pl_ren rfl), trivial⟩ ⟨(blk_ren rfl rfl), (pl_ren rfl), trivial⟩ (by simp) (by simp)
abbrev Tree_mergeS_st (p1 : Pool (TNode TSlot TSize)) (a1 : TRef) (a2 : TRef) (ri0 : Int) (rg0 : Int) (r : TRef × Pool (TNode TSlot TSize)) (m0 : Nat) (m1 : Nat) : Prop := SCon Tryz.prog 134 [SV.p m0 0, .a (.agg ((eTRef a1).map .v)), .a (.agg ((eTRef a2).map .v))] [(m0, blk m0 [.p m1 0, .i ri0, .i rg0] 131), (m1, plS m1 p1)] (.a (.agg ((eTRef r.1).map .v))) [(m0, blk m0 [.p m1 0, .i ri0, .i rg0] 131), (m1, plS m1 r.2)] []
theorem Tree_mergeS_con0 {k : Nat}  {p1 : Pool (TNode TSlot TSize)} {a1 : TRef} {a2 : TRef} {ri0 rg0 : Int} {r : TRef × Pool (TNode TSlot TSize)}  (H0 : Tree_merge.f opsS k p1 a1 a2 = some r) : Tree_mergeS_st p1 a1 a2 ri0 rg0 r 0 1 := by
 rw [Tree_merge.f] at H0
 refine spec_of [(0, _), (1, _), (2, _)] [(0, _), (1, _)] 30 Tryz.func134 rfl Tryz.ntmps134 rfl rfl rfl rfl (fun β W F => ?_)
 refine G.seq <| G.rg <| K.box Y 100 _ g0 rfl rfl rfl rfl rfl rfl <| K.box Y 101 _ g0 rfl rfl rfl rfl rfl rfl <| K.alloc Y 102 _ g0 t108 rfl rfl rfl rfl rfl <| K.nil <| At.ns <| G.block <| G.seq <| G.rg <| K.fieldAddr Y g0 rfl t108 rfl rfl <| K.load1 Y g0 rfl rfl t3 rfl rfl <| K.bin (V := .bool (a1.gen == 0)) g0 rfl rfl (fun _ => rfl) rfl <| K.as rfl rfl <| K.nil <| At.next <| G.cond rfl (fun h1 => ?_) (fun h1 => ?_)
 ·
  replace H0 := bif_t H0 h1
  refine G.seq <| G.rg <| K.loadS Y _ g0 rfl rfl t108 rfl rfl rfl <| K.store Y _ g0 rfl rfl rfl t108 rfl rfl rfl rfl rfl <| K.nil <| At.next <| G.ret <| At.block_ret <| At.over_ret <| At.done Y [(.cell 6 108, .agg [_, _])] rfl ⟨.st rfl rfl t108 rfl rfl, trivial⟩ (to' := [(0, _), (1, _)]) ⟨rfl, rfl, trivial⟩ ?_ ?_ rfl rfl rfl (.inl rfl)
  · cases H0; rfl
  · cases H0; rfl
 ·
  replace H0 := bif_f H0 h1
  refine G.seq <| G.rg <| K.fieldAddr Y g0 rfl t108 rfl rfl <| K.load1 Y g0 rfl rfl t3 rfl rfl <| K.bin (V := .bool (a2.gen == 0)) g0 rfl rfl (fun _ => rfl) rfl <| K.as rfl rfl <| K.nil <| At.next <| G.cond rfl (fun h2 => ?_) (fun h2 => ?_)
  ·
   replace H0 := bif_t H0 h2
   refine G.seq <| G.rg <| K.loadS Y _ g0 rfl rfl t108 rfl rfl rfl <| K.store Y _ g0 rfl rfl rfl t108 rfl rfl rfl rfl rfl <| K.nil <| At.next <| G.ret <| At.block_ret <| At.over_ret <| At.done Y [(.cell 6 108, .agg [_, _])] rfl ⟨.st rfl rfl t108 rfl rfl, trivial⟩ (to' := [(0, _), (1, _)]) ⟨rfl, rfl, trivial⟩ ?_ ?_ rfl rfl rfl (.inl rfl)
   · cases H0; rfl
   · cases H0; rfl
  ·
   replace H0 := bif_f H0 h2
   refine G.skip <| At.block_normal <| At.ns ?_
   obtain ⟨x1, hx1, H0⟩ := bnd H0
   refine G.rg <| K.mv rfl rfl <| K.loadS Y _ g0 rfl rfl t108 rfl rfl rfl <| K.c0 (cf 150 rfl) (Tree_lastS_con hx1 0 1) g0 rfl rfl rfl rfl <| K.mv rfl rfl <| K.extract g0 rfl rfl rfl <| K.extract g0 rfl rfl rfl <| K.alloc Y 103 _ g0 t108 rfl rfl rfl rfl rfl <| K.alloc Y 104 _ g0 t108 rfl rfl rfl rfl rfl <| K.store Y _ g0 rfl rfl rfl t108 rfl rfl rfl rfl rfl <| K.store Y _ g0 rfl rfl rfl t108 rfl rfl rfl rfl rfl <| K.nil <| At.ns ?_
   obtain ⟨x2, hx2, H0⟩ := bnd H0
   refine G.rg <| K.mv rfl rfl <| K.loadS Y _ g0 rfl rfl t108 rfl rfl rfl <| K.loadS Y _ g0 rfl rfl t108 rfl rfl rfl <| K.loadS Y _ g0 rfl rfl t108 rfl rfl rfl <| K.c0 (cf 121 rfl) (Tree_linkS_con hx2 0 1) g0 rfl rfl rfl rfl <| K.store Y _ g0 rfl rfl rfl t108 rfl rfl rfl rfl rfl <| K.nil <| At.next <| G.ret <| At.done Y [(.cell 6 108, .agg [_, _])] rfl ⟨.st rfl rfl t108 rfl rfl, trivial⟩ (to' := [(0, _), (1, _)]) ⟨rfl, rfl, trivial⟩ ?_ ?_ rfl rfl rfl (.inl rfl)
   · cases H0; rfl
   · cases H0; rfl
theorem Tree_mergeS_con {k : Nat}  {p1 : Pool (TNode TSlot TSize)} {a1 : TRef} {a2 : TRef} {ri0 rg0 : Int} {r : TRef × Pool (TNode TSlot TSize)}  (H0 : Tree_merge.f opsS k p1 a1 a2 = some r) (m0 m1 : Nat) : Tree_mergeS_st p1 a1 a2 ri0 rg0 r m0 m1 :=
 SCon.ren (rn [(0, m0), (1, m1)]) (Tree_mergeS_con0 (k := k)   H0) ⟨(blk_ren rfl rfl), (pl_ren rfl), trivial⟩ ⟨(blk_ren rfl rfl), (pl_ren rfl), trivial⟩ (by simp) (by simp)
abbrev Tree_dropS_st (p1 : Pool (TNode TSlot TSize)) (a1 : TRef) (a2 : TSlot) (ri0 : Int) (rg0 : Int) (r : TRef × TSlot × Bool × Pool (TNode TSlot TSize)) (m0 : Nat) (m1 : Nat) : Prop := SCon Tryz.prog 106 [SV.p m0 0, .a (.agg ((eTRef a1).map .v)), .a (.agg ((eTSlot a2).map .v))] [(m0, blk m0 [.p m1 0, .i ri0, .i rg0] 131), (m1, plS m1 p1)] (.tup [.agg ((eTRef r.1).map .v), .agg ((eTSlot r.2.1).map .v), .c (.v (.bool r.2.2.1))]) [(m0, blk m0 [.p m1 0, .i ri0, .i rg0] 131), (m1, plS m1 r.2.2.2)] []
set_option maxHeartbeats 4000000 in
theorem Tree_dropS_con0 {k : Nat}  : ∀ {n : Nat} {p1 : Pool (TNode TSlot TSize)} {a1 : TRef} {a2 : TSlot} {ri0 rg0 : Int} {r : TRef × TSlot × Bool × Pool (TNode TSlot TSize)}  (H0 : Tree_drop.r opsS k n p1 a1 a2 = some r), Tree_dropS_st p1 a1 a2 ri0 rg0 r 0 1 := by
 intro n
 induction n with
 | zero => intro p1 a1 a2 ri0 rg0 r H0; exact absurd H0 (by simp [Tree_drop.r])
 | succ n ih =>
  intro p1 a1 a2 ri0 rg0 r H0
  rw [Tree_drop.r] at H0
  refine spec_of [(0, _), (1, _), (2, _)] [(0, _), (1, _)] 91 Tryz.func106 rfl Tryz.ntmps106 rfl rfl rfl rfl (fun β W F => ?_)
  refine G.seq <| G.rg <| K.box Y 100 _ g0 rfl rfl rfl rfl rfl rfl <| K.box Y 101 _ g0 rfl rfl rfl rfl rfl rfl <| K.alloc Y 102 _ g0 t108 rfl rfl rfl rfl rfl <| K.alloc Y 103 _ g0 t66 rfl rfl rfl rfl rfl <| K.as rfl rfl <| K.nil <| At.ns <| G.seq <| G.rg <| K.fieldAddr Y g0 rfl t108 rfl rfl <| K.load1 Y g0 rfl rfl t3 rfl rfl <| K.bin (V := .bool (a1.gen == 0)) g0 rfl rfl (fun _ => rfl) rfl <| K.nil <| At.next <| G.cond rfl (fun h1 => ?_) (fun h1 => ?_)
  ·
   replace H0 := bif_t H0 h1
   refine G.seq <| G.rg <| K.alloc Y 104 _ g0 t66 rfl rfl rfl rfl rfl <| K.nil <| At.ns <| G.rd mixed <| K.loadS Y _ g0 rfl rfl t108 rfl rfl rfl <| K.loadS Y _ g0 rfl rfl t66 rfl rfl rfl <| K.store Y _ g0 rfl rfl rfl t108 rfl rfl rfl rfl rfl <| K.store Y _ g0 rfl rfl rfl t66 rfl rfl rfl rfl rfl <| K.as rfl rfl <| K.nil <| And.intro (by kernel_rfl) <| At.next <| G.ret <| At.over_ret <| At.done Y [(.cell 6 108, .agg [_, _]), (.cell 7 66, .agg [_, _, _, _]), (.tmp 8, .c _)] rfl ⟨.st rfl rfl t108 rfl rfl, .st rfl rfl t66 rfl rfl, .tmp rfl, trivial⟩ (to' := [(0, _), (1, _)]) ⟨rfl, rfl, trivial⟩ ?_ ?_ rfl rfl rfl (.inl rfl)
   · cases H0; rfl
   · cases H0; rfl
  ·
   replace H0 := bif_f H0 h1
   refine G.skip <| At.ns ?_
   obtain ⟨x1, hx1, H0⟩ := bnd H0
   refine G.rg <| K.mv rfl rfl <| K.loadS Y _ g0 rfl rfl t108 rfl rfl rfl <| K.cR (cf 79 rfl) (Tree_getS_con hx1 0 1) g0 rfl rfl rfl rfl <| K.alloc Y 105 _ g0 t127 rfl rfl rfl rfl rfl <| K.store Y _ g0 rfl rfl rfl t127 rfl rfl rfl rfl rfl <| K.nil <| At.ns ?_
   obtain ⟨x2, hx2, H0⟩ := bnd H0
   refine G.rg <| K.loadS Y _ g0 rfl rfl t66 rfl rfl rfl <| K.mkIface Y g0 rfl (mkI Tryz.underlying66 rfl) rfl <| K.fieldAddr Y g0 rfl t127 rfl rfl <| K.loadS Y _ g0 rfl rfl t66 rfl rfl rfl <| K.callR [((.tmp 27), _), ((.tmp 29), _)] (shelf_Slot_Compare_con (k := k) hx2) (toFn_invoke (cf 212 rfl) (me66_212) rfl) g0 ⟨rfl, rfl, trivial⟩ trivial rfl rfl rfl <| K.as rfl rfl <| K.nil <| At.ns <| G.block <| G.seq <| G.rg <| K.mv rfl rfl <| K.bin (V := .bool (decide (x2 < 0))) g0 rfl rfl (fun _ => rfl) rfl <| K.as rfl rfl <| K.nil <| At.next <| G.cond rfl (fun h2 => ?_) (fun h2 => ?_)
   ·
    replace H0 := bif_t H0 h2
    refine G.seq ?_
    obtain ⟨x3, hx3, H0⟩ := bnd H0
    refine G.rg <| K.mv rfl rfl <| K.fieldAddr Y g0 rfl t127 rfl rfl <| K.loadS Y _ g0 rfl rfl t108 rfl rfl rfl <| K.loadS Y _ g0 rfl rfl t66 rfl rfl rfl <| K.c0 (cf 106 rfl) (ih hx3) g0 rfl rfl rfl rfl <| K.mv rfl rfl <| K.extract g0 rfl rfl rfl <| K.extract g0 rfl rfl rfl <| K.extract g0 rfl rfl rfl <| K.alloc Y 106 _ g0 t108 rfl rfl rfl rfl rfl <| K.alloc Y 107 _ g0 t66 rfl rfl rfl rfl rfl <| K.store Y _ g0 rfl rfl rfl t108 rfl rfl rfl rfl rfl <| K.store Y _ g0 rfl rfl rfl t66 rfl rfl rfl rfl rfl <| K.as rfl rfl <| K.nil <| At.ns <| G.seq <| G.rg <| K.mv rfl rfl <| K.un (V := .bool (!x3.2.2.1)) g0 rfl (fun _ => rfl) rfl <| K.nil <| At.next <| G.cond rfl (fun h3 => ?_) (fun h3 => ?_)
    ·
     replace H0 := bif_t H0 h3
     refine G.seq <| G.rd mixed <| K.loadS Y _ g0 rfl rfl t108 rfl rfl rfl <| K.loadS Y _ g0 rfl rfl t66 rfl rfl rfl <| K.store Y _ g0 rfl rfl rfl t108 rfl rfl rfl rfl rfl <| K.store Y _ g0 rfl rfl rfl t66 rfl rfl rfl rfl rfl <| K.as rfl rfl <| K.nil <| And.intro (by kernel_rfl) <| At.next <| G.ret <| At.over_ret <| At.block_ret <| At.over_ret <| At.done Y [(.cell 6 108, .agg [_, _]), (.cell 7 66, .agg [_, _, _, _]), (.tmp 8, .c _)] rfl ⟨.st rfl rfl t108 rfl rfl, .st rfl rfl t66 rfl rfl, .tmp rfl, trivial⟩ (to' := [(0, _), (1, _)]) ⟨rfl, rfl, trivial⟩ ?_ ?_ rfl rfl rfl (.inl rfl)
     · cases H0; rfl
     · cases H0; rfl
    ·
     replace H0 := bif_f H0 h3
     refine G.skip <| At.ns ?_
     obtain ⟨x4, hx4, H0⟩ := bnd H0
     refine G.rd mixed <| K.mv rfl rfl <| K.loadS Y _ g0 rfl rfl t108 rfl rfl rfl <| K.loadS Y _ g0 rfl rfl t108 rfl rfl rfl <| K.fieldAddr Y g0 rfl t127 rfl rfl <| K.loadS Y _ g0 rfl rfl t108 rfl rfl rfl <| K.c0 (cf 121 rfl) (Tree_linkS_con hx4 0 1) g0 rfl rfl rfl rfl <| K.loadS Y _ g0 rfl rfl t66 rfl rfl rfl <| K.store Y _ g0 rfl rfl rfl t108 rfl rfl rfl rfl rfl <| K.store Y _ g0 rfl rfl rfl t66 rfl rfl rfl rfl rfl <| K.as rfl rfl <| K.nil <| And.intro (by kernel_rfl) <| At.next <| G.ret <| At.block_ret <| At.over_ret <| At.done Y [(.cell 6 108, .agg [_, _]), (.cell 7 66, .agg [_, _, _, _]), (.tmp 8, .c _)] rfl ⟨.st rfl rfl t108 rfl rfl, .st rfl rfl t66 rfl rfl, .tmp rfl, trivial⟩ (to' := [(0, _), (1, _)]) ⟨rfl, rfl, trivial⟩ ?_ ?_ rfl rfl rfl (.inl rfl)
     · cases H0; rfl
     · cases H0; rfl
   ·
    replace H0 := bif_f H0 h2
    refine G.seq <| G.rg <| K.mv rfl rfl <| K.bin (V := .bool (decide (x2 > 0))) g0 rfl rfl (fun _ => rfl) rfl <| K.as rfl rfl <| K.nil <| At.next <| G.cond rfl (fun h4 => ?_) (fun h4 => ?_)
    ·
     replace H0 := bif_t H0 h4
     refine G.seq ?_
     obtain ⟨x5, hx5, H0⟩ := bnd H0
     refine G.rg <| K.mv rfl rfl <| K.fieldAddr Y g0 rfl t127 rfl rfl <| K.loadS Y _ g0 rfl rfl t108 rfl rfl rfl <| K.loadS Y _ g0 rfl rfl t66 rfl rfl rfl <| K.c0 (cf 106 rfl) (ih hx5) g0 rfl rfl rfl rfl <| K.mv rfl rfl <| K.extract g0 rfl rfl rfl <| K.extract g0 rfl rfl rfl <| K.extract g0 rfl rfl rfl <| K.alloc Y 108 _ g0 t108 rfl rfl rfl rfl rfl <| K.alloc Y 109 _ g0 t66 rfl rfl rfl rfl rfl <| K.store Y _ g0 rfl rfl rfl t108 rfl rfl rfl rfl rfl <| K.store Y _ g0 rfl rfl rfl t66 rfl rfl rfl rfl rfl <| K.as rfl rfl <| K.nil <| At.ns <| G.seq <| G.rg <| K.mv rfl rfl <| K.un (V := .bool (!x5.2.2.1)) g0 rfl (fun _ => rfl) rfl <| K.nil <| At.next <| G.cond rfl (fun h5 => ?_) (fun h5 => ?_)
     ·
      replace H0 := bif_t H0 h5
      refine G.seq <| G.rd mixed <| K.loadS Y _ g0 rfl rfl t108 rfl rfl rfl <| K.loadS Y _ g0 rfl rfl t66 rfl rfl rfl <| K.store Y _ g0 rfl rfl rfl t108 rfl rfl rfl rfl rfl <| K.store Y _ g0 rfl rfl rfl t66 rfl rfl rfl rfl rfl <| K.as rfl rfl <| K.nil <| And.intro (by kernel_rfl) <| At.next <| G.ret <| At.over_ret <| At.block_ret <| At.over_ret <| At.done Y [(.cell 6 108, .agg [_, _]), (.cell 7 66, .agg [_, _, _, _]), (.tmp 8, .c _)] rfl ⟨.st rfl rfl t108 rfl rfl, .st rfl rfl t66 rfl rfl, .tmp rfl, trivial⟩ (to' := [(0, _), (1, _)]) ⟨rfl, rfl, trivial⟩ ?_ ?_ rfl rfl rfl (.inl rfl)
      · cases H0; rfl
      · cases H0; rfl
     ·
      replace H0 := bif_f H0 h5
      refine G.skip <| At.ns ?_
      obtain ⟨x6, hx6, H0⟩ := bnd H0
      refine G.rd mixed <| K.mv rfl rfl <| K.fieldAddr Y g0 rfl t127 rfl rfl <| K.loadS Y _ g0 rfl rfl t108 rfl rfl rfl <| K.loadS Y _ g0 rfl rfl t108 rfl rfl rfl <| K.loadS Y _ g0 rfl rfl t108 rfl rfl rfl <| K.c0 (cf 121 rfl) (Tree_linkS_con hx6 0 1) g0 rfl rfl rfl rfl <| K.loadS Y _ g0 rfl rfl t66 rfl rfl rfl <| K.store Y _ g0 rfl rfl rfl t108 rfl rfl rfl rfl rfl <| K.store Y _ g0 rfl rfl rfl t66 rfl rfl rfl rfl rfl <| K.as rfl rfl <| K.nil <| And.intro (by kernel_rfl) <| At.next <| G.ret <| At.block_ret <| At.over_ret <| At.done Y [(.cell 6 108, .agg [_, _]), (.cell 7 66, .agg [_, _, _, _]), (.tmp 8, .c _)] rfl ⟨.st rfl rfl t108 rfl rfl, .st rfl rfl t66 rfl rfl, .tmp rfl, trivial⟩ (to' := [(0, _), (1, _)]) ⟨rfl, rfl, trivial⟩ ?_ ?_ rfl rfl rfl (.inl rfl)
      · cases H0; rfl
      · cases H0; rfl
    ·
     replace H0 := bif_f H0 h4
     refine G.skip <| At.block_normal <| At.ns ?_
     obtain ⟨x7, hx7, H0⟩ := bnd H0
     refine G.rd mixed <| K.mv rfl rfl <| K.nilCheck g0 rfl rfl <| K.fieldAddr Y g0 rfl t131 rfl rfl <| K.load1 Y g0 rfl rfl t129 rfl rfl <| K.loadS Y _ g0 rfl rfl t108 rfl rfl rfl <| K.call0 [(.func 133, _), ((.tmp 80), _), ((.tmp 81), _)] (pldropS hx7 1) (toFn_func (cf 133 rfl) rfl) g0 ⟨rfl, rfl, rfl, trivial⟩ ⟨rfl, trivial⟩ rfl rfl rfl rfl rfl rfl <| K.nil <| And.intro (by kernel_rfl) <| At.ns ?_
     obtain ⟨x8, hx8, H0⟩ := bnd H0
     refine G.rd mixed <| K.mv rfl rfl <| K.fieldAddr Y g0 rfl t127 rfl rfl <| K.loadS Y _ g0 rfl rfl t108 rfl rfl rfl <| K.fieldAddr Y g0 rfl t127 rfl rfl <| K.loadS Y _ g0 rfl rfl t108 rfl rfl rfl <| K.c0 (cf 134 rfl) (Tree_mergeS_con hx8 0 1) g0 rfl rfl rfl rfl <| K.fieldAddr Y g0 rfl t127 rfl rfl <| K.loadS Y _ g0 rfl rfl t66 rfl rfl rfl <| K.store Y _ g0 rfl rfl rfl t108 rfl rfl rfl rfl rfl <| K.store Y _ g0 rfl rfl rfl t66 rfl rfl rfl rfl rfl <| K.as rfl rfl <| K.nil <| And.intro (by kernel_rfl) <| At.next <| G.ret <| At.done Y [(.cell 6 108, .agg [_, _]), (.cell 7 66, .agg [_, _, _, _]), (.tmp 8, .c _)] rfl ⟨.st rfl rfl t108 rfl rfl, .st rfl rfl t66 rfl rfl, .tmp rfl, trivial⟩ (to' := [(0, _), (1, _)]) ⟨rfl, rfl, trivial⟩ ?_ ?_ rfl rfl rfl (.inl rfl)
     · cases H0; rfl
     · cases H0; rfl
theorem Tree_dropS_con {k n : Nat}  {p1 : Pool (TNode TSlot TSize)} {a1 : TRef} {a2 : TSlot} {ri0 rg0 : Int} {r : TRef × TSlot × Bool × Pool (TNode TSlot TSize)}  (H0 : Tree_drop.r opsS k n p1 a1 a2 = some r) (m0 m1 : Nat) : Tree_dropS_st p1 a1 a2 ri0 rg0 r m0 m1 :=
 SCon.ren (rn [(0, m0), (1, m1)]) (Tree_dropS_con0 (k := k)   H0) ⟨(blk_ren rfl rfl), (pl_ren rfl), trivial⟩ ⟨(blk_ren rfl rfl), (pl_ren rfl), trivial⟩ (by simp) (by simp)
abbrev Tree_DropS_st (p1 : Pool (TNode TSlot TSize)) (rt0 : TRef) (a1 : TSlot) (r : TSlot × Bool × TRef × Pool (TNode TSlot TSize)) (m0 : Nat) (m1 : Nat) : Prop := SCon Tryz.prog 77 [SV.p m0 0, .a (.agg ((eTSlot a1).map .v))] [(m0, blk m0 [.p m1 0, .i rt0.index, .i rt0.gen] 131), (m1, plS m1 p1)] (.tup [.agg ((eTSlot r.1).map .v), .c (.v (.bool r.2.1))]) [(m0, blk m0 [.p m1 0, .i r.2.2.1.index, .i r.2.2.1.gen] 131), (m1, plS m1 r.2.2.2)] []
theorem Tree_DropS_con0 {k : Nat}  {p1 : Pool (TNode TSlot TSize)} {rt0 : TRef} {a1 : TSlot} {r : TSlot × Bool × TRef × Pool (TNode TSlot TSize)}  (H0 : Tree_Drop.f opsS k p1 rt0 a1 = some r) : Tree_DropS_st p1 rt0 a1 r 0 1 := by
 rw [Tree_Drop.f] at H0
 refine spec_of [(0, _), (1, _)] [(0, _), (1, _)] 26 Tryz.func77 rfl Tryz.ntmps77 rfl rfl rfl rfl (fun β W F => ?_)
 refine G.seq <| G.rg <| K.box Y 100 _ g0 rfl rfl rfl rfl rfl rfl <| K.alloc Y 101 _ g0 t66 rfl rfl rfl rfl rfl <| K.as rfl rfl <| K.nil <| At.ns ?_
 obtain ⟨x1, hx1, H0⟩ := bnd H0
 refine G.rd mixed <| K.mv rfl rfl <| K.mv rfl rfl <| K.nilCheck g0 rfl rfl <| K.fieldAddr Y g0 rfl t131 rfl rfl <| K.loadS Y _ g0 rfl rfl t108 rfl rfl rfl <| K.loadS Y _ g0 rfl rfl t66 rfl rfl rfl <| K.c0 (cf 106 rfl) (Tree_dropS_con hx1 0 1) g0 rfl rfl rfl rfl <| K.mv rfl rfl <| K.extract g0 rfl rfl rfl <| K.extract g0 rfl rfl rfl <| K.extract g0 rfl rfl rfl <| K.alloc Y 102 _ g0 t108 rfl rfl rfl rfl rfl <| K.alloc Y 103 _ g0 t66 rfl rfl rfl rfl rfl <| K.store Y _ g0 rfl rfl rfl t108 rfl rfl rfl rfl rfl <| K.store Y _ g0 rfl rfl rfl t66 rfl rfl rfl rfl rfl <| K.as rfl rfl <| K.nil <| And.intro (by kernel_rfl) <| At.nr <| K.mv rfl rfl <| K.loadS Y _ g0 rfl rfl t108 rfl rfl rfl <| K.nilCheck g0 rfl rfl <| K.fieldAddr Y g0 rfl t131 rfl rfl <| K.store Y _ g0 rfl rfl rfl t108 rfl rfl rfl rfl rfl <| K.nil <| At.nr <| K.loadS Y _ g0 rfl rfl t66 rfl rfl rfl <| K.mv rfl rfl <| K.store Y _ g0 rfl rfl rfl t66 rfl rfl rfl rfl rfl <| K.as rfl rfl <| K.nil <| At.next <| G.ret <| At.done Y [(.cell 4 66, .agg [_, _, _, _]), (.tmp 5, .c _)] rfl ⟨.st rfl rfl t66 rfl rfl, .tmp rfl, trivial⟩ (to' := [(0, _), (1, _)]) ⟨rfl, rfl, trivial⟩ ?_ ?_ rfl rfl rfl (.inl rfl)
 · cases H0; rfl
 · cases H0; rfl
theorem Tree_DropS_con {k : Nat}  {p1 : Pool (TNode TSlot TSize)} {rt0 : TRef} {a1 : TSlot} {r : TSlot × Bool × TRef × Pool (TNode TSlot TSize)}  (H0 : Tree_Drop.f opsS k p1 rt0 a1 = some r) (m0 m1 : Nat) : Tree_DropS_st p1 rt0 a1 r m0 m1 :=
 SCon.ren (rn [(0, m0), (1, m1)]) (Tree_DropS_con0 (k := k)   H0) ⟨(blk_ren rfl rfl), (pl_ren rfl), trivial⟩ ⟨(blk_ren rfl rfl), (pl_ren rfl), trivial⟩ (by simp) (by simp)
abbrev Tree_allS_o2_st (p1 : Pool (TNode TSlot TSize)) (a1 : TRef) (l2 : List TSlot) (ri0 : Int) (rg0 : Int) (r : List TSlot) (m0 : Nat) (m1 : Nat) (m2 : Nat) (m30 : Nat) : Prop := SCon Tryz.prog 109 [SV.p m0 0, .a (.agg ((eTRef a1).map .v)), .a (.c (.nv m2))] [(m0, blk m0 [.p m1 0, .i ri0, .i rg0] 131), (m1, plS m1 p1), (m2, lrow m2 66 eTSlot 4 l2)] (.a (.c (.nv m30))) [(m0, blk m0 [.p m1 0, .i ri0, .i rg0] 131), (m1, plS m1 p1), (m30, lrow m30 66 eTSlot 4 r)] [m30]
theorem Tree_allS_o2_con0 {k : Nat}  : ∀ {n : Nat} {p1 : Pool (TNode TSlot TSize)} {a1 : TRef} {l2 : List TSlot} {ri0 rg0 : Int} {r : List TSlot}  (H0 : Tree_all.r opsS k n p1 a1 l2 = some r), Tree_allS_o2_st p1 a1 l2 ri0 rg0 r 0 1 2 30 := by
 intro n
 induction n with
 | zero => intro p1 a1 l2 ri0 rg0 r H0; exact absurd H0 (by simp [Tree_all.r])
 | succ n ih =>
  intro p1 a1 l2 ri0 rg0 r H0
  rw [Tree_all.r] at H0
  refine spec_of [(0, _), (1, _), (2, _)] [(0, _), (1, _), (2, _)] 28 Tryz.func109 rfl Tryz.ntmps109 rfl rfl rfl rfl (fun β W F => ?_)
  refine G.seq <| G.rg <| K.box Y 100 _ g0 rfl rfl rfl rfl rfl rfl <| K.nilRow 101 66 eTSlot 4 (.inl rfl) g0 rfl rfl rfl <| K.nil <| At.ns <| G.seq <| G.rg <| K.fieldAddr Y g0 rfl t108 rfl rfl <| K.load1 Y g0 rfl rfl t3 rfl rfl <| K.bin (V := .bool (a1.gen == 0)) g0 rfl rfl (fun _ => rfl) rfl <| K.nil <| At.next <| G.cond rfl (fun h1 => ?_) (fun h1 => ?_)
  ·
   replace H0 := bif_t H0 h1
   exact G.seq <| G.rg <| K.mv rfl rfl <| K.as rfl rfl <| K.nil <| At.next <| G.ret <| At.over_ret <| At.ren (fs' := [(6, .a (.c (.nv 30)))]) (tl := [(0, blk 0 [.p 1 0, .v (.int .i64 ri0), .v (.int .i64 rg0)] 131), (1, plS 1 p1), (30, lrow 30 66 eTSlot 4 l2)]) [(30, 2)] [_, _, _] rfl ⟨rfl, trivial⟩ ⟨rfl, (blk_ren rfl rfl), rfl, (pl_ren rfl), rfl, (lrow_ren rfl), trivial⟩ rfl <| At.dr Y [6] rfl rfl (by cases H0; rfl) (by cases H0; rfl) rfl rfl rfl
  ·
   replace H0 := bif_f H0 h1
   refine G.skip <| At.ns ?_
   obtain ⟨x1, hx1, H0⟩ := bnd H0
   refine G.rg <| K.mv rfl rfl <| K.loadS Y _ g0 rfl rfl t108 rfl rfl rfl <| K.cR (cf 79 rfl) (Tree_getS_con hx1 0 1) g0 rfl rfl rfl rfl <| K.alloc Y 102 _ g0 t127 rfl rfl rfl rfl rfl <| K.store Y _ g0 rfl rfl rfl t127 rfl rfl rfl rfl rfl <| K.nil <| At.ns ?_
   obtain ⟨x2, hx2, H0⟩ := bnd H0
   obtain ⟨h2, H0⟩ := grd H0
   obtain ⟨x3, hx3, H0⟩ := bnd H0
   exact G.rd mixed <| K.mv rfl rfl <| K.fieldAddr Y g0 rfl t127 rfl rfl <| K.loadS Y _ g0 rfl rfl t108 rfl rfl rfl <| K.mv rfl rfl <| K.fieldAddr Y g0 rfl t127 rfl rfl <| K.loadS Y _ g0 rfl rfl t108 rfl rfl rfl <| K.mv rfl rfl <| K.cC (cf 109 rfl) [] (fun β w S2 h => SCon.rd0 (SCon.ren (ti' := [(0, _), (1, _), (2, _)]) (to' := [(0, _), (1, _), (103, _)]) (rn [(0, 0), (1, 1), (2, 2), (30, 103)]) (ih  hx2) ⟨(blk_ren rfl rfl), (pl_ren rfl), (lrow_ren rfl), trivial⟩ ⟨(blk_ren rfl rfl), (pl_ren rfl), (lrow_ren rfl), trivial⟩ (rn_nd (hd_ [0, 1, 2, 103] rfl) rfl rfl) (rn_ks (hd_ [0, 1, 2, 103] rfl) rfl rfl rfl)) S2 w h) g0 (fun _ => rfl) rfl rfl rfl <| K.fieldAddr Y g0 rfl t127 rfl rfl <| K.loadS Y _ g0 rfl rfl t66 rfl rfl rfl <| K.buildL Y 104 ([x1.e] : List TSlot) [(0, _)] [((.tmp 24), _)] eTSlot_len g0 (AllE.spec ⟨rfl, trivial⟩) rfl rfl Tryz.underlying135 t66 rfl rfl rfl rfl rfl rfl rfl rfl <| K.appendL 105 (lrowV 104 66 eTSlot 4 ([x1.e] : List TSlot)) _ el135 (lrowV_is eTSlot_len (by decide)) eTSlot_one g0 rfl rfl rfl rfl rfl (ap_m h2) (ap_b h2 (by decide)) rfl rfl rfl rfl rfl rfl <| K.cC (cf 109 rfl) [] (fun β w S2 h => SCon.rd0 (SCon.ren (ti' := [(0, _), (1, _), (105, _)]) (to' := [(0, _), (1, _), (106, _)]) (rn [(0, 0), (1, 1), (2, 105), (30, 106)]) (ih  hx3) ⟨(blk_ren rfl rfl), (pl_ren rfl), (lrow_ren rfl), trivial⟩ ⟨(blk_ren rfl rfl), (pl_ren rfl), (lrow_ren rfl), trivial⟩ (rn_nd (hd_ [0, 1, 105, 106] rfl) rfl rfl) (rn_ks (hd_ [0, 1, 105, 106] rfl) rfl rfl rfl)) S2 w h) g0 (fun _ => rfl) rfl rfl rfl <| K.as rfl rfl <| K.nil <| And.intro (by kernel_rfl) <| At.next <| G.ret <| At.ren (fs' := [(6, .a (.c (.nv 30)))]) (tl := [(0, blk 0 [.p 1 0, .v (.int .i64 ri0), .v (.int .i64 rg0)] 131), (1, plS 1 p1), (30, lrow 30 66 eTSlot 4 x3)]) [(30, 106)] [_, _, _] rfl ⟨rfl, trivial⟩ ⟨rfl, (blk_ren rfl rfl), rfl, (pl_ren rfl), rfl, (lrow_ren rfl), trivial⟩ rfl <| At.dr Y [6] rfl rfl (by cases H0; rfl) (by cases H0; rfl) rfl rfl rfl
theorem Tree_allS_o2_con {k n : Nat}  {p1 : Pool (TNode TSlot TSize)} {a1 : TRef} {l2 : List TSlot} {ri0 rg0 : Int} {r : List TSlot}  (H0 : Tree_all.r opsS k n p1 a1 l2 = some r) (m0 m1 m2 m30 : Nat) (hd : ndB [m0, m1, m2, m30] = true) : Tree_allS_o2_st p1 a1 l2 ri0 rg0 r m0 m1 m2 m30 :=
 SCon.ren (rn [(0, m0), (1, m1), (2, m2), (30, m30)]) (Tree_allS_o2_con0 (k := k)   H0) ⟨(blk_ren rfl rfl), (pl_ren rfl), (lrow_ren rfl), trivial⟩ ⟨(blk_ren rfl rfl), (pl_ren rfl), (lrow_ren rfl), trivial⟩ (rn_nd hd rfl rfl) (rn_ks hd rfl rfl rfl)
abbrev Tree_allS_n2_st (p1 : Pool (TNode TSlot TSize)) (a1 : TRef) (ri0 : Int) (rg0 : Int) (r : List TSlot) (m0 : Nat) (m1 : Nat) (m30 : Nat) : Prop := SCon Tryz.prog 109 [SV.p m0 0, .a (.agg ((eTRef a1).map .v)), SV.raw (.slice none 0 0)] [(m0, blk m0 [.p m1 0, .i ri0, .i rg0] 131), (m1, plS m1 p1)] (.a (.c (.nv m30))) [(m0, blk m0 [.p m1 0, .i ri0, .i rg0] 131), (m1, plS m1 p1), (m30, lrow m30 66 eTSlot 4 r)] [m30]
theorem Tree_allS_n2_con0 {k : Nat}  : ∀ {n : Nat} {p1 : Pool (TNode TSlot TSize)} {a1 : TRef} {ri0 rg0 : Int} {r : List TSlot}  (H0 : Tree_all.r opsS k n p1 a1 ([] : List TSlot) = some r), Tree_allS_n2_st p1 a1 ri0 rg0 r 0 1 30 := by
 intro n
 cases n with
 | zero => intro p1 a1 ri0 rg0 r H0; exact absurd H0 (by simp [Tree_all.r])
 | succ n =>
  intro p1 a1 ri0 rg0 r H0
  rw [Tree_all.r] at H0
  refine spec_of [(0, _), (1, _), (2, _)] [(0, _), (1, _)] 28 Tryz.func109 rfl Tryz.ntmps109 rfl rfl rfl rfl (fun β W F => ?_)
  refine G.seq <| G.rg <| K.box Y 100 _ g0 rfl rfl rfl rfl rfl rfl <| K.nilRow 101 66 eTSlot 4 (.inl rfl) g0 rfl rfl rfl <| K.nil <| At.ns <| G.seq <| G.rg <| K.fieldAddr Y g0 rfl t108 rfl rfl <| K.load1 Y g0 rfl rfl t3 rfl rfl <| K.bin (V := .bool (a1.gen == 0)) g0 rfl rfl (fun _ => rfl) rfl <| K.nil <| At.next <| G.cond rfl (fun h1 => ?_) (fun h1 => ?_)
  ·
   replace H0 := bif_t H0 h1
   exact G.seq <| G.rg <| K.nilRowS 102 66 eTSlot 4 (.inr rfl) g0 rfl rfl rfl rfl <| K.as rfl rfl <| K.nil <| At.next <| G.ret <| At.over_ret <| At.ren (fs' := [(6, .a (.c (.nv 30)))]) (tl := [(0, blk 0 [.p 1 0, .v (.int .i64 ri0), .v (.int .i64 rg0)] 131), (1, plS 1 p1), (30, lrow 30 66 eTSlot 4 ([] : List TSlot))]) [(30, 102)] [_, _, _] rfl ⟨rfl, trivial⟩ ⟨rfl, (blk_ren rfl rfl), rfl, (pl_ren rfl), rfl, (lrow_ren rfl), trivial⟩ rfl <| At.dr Y [6] rfl rfl (by cases H0; rfl) (by cases H0; rfl) rfl rfl rfl
  ·
   replace H0 := bif_f H0 h1
   refine G.skip <| At.ns ?_
   obtain ⟨x1, hx1, H0⟩ := bnd H0
   refine G.rg <| K.mv rfl rfl <| K.loadS Y _ g0 rfl rfl t108 rfl rfl rfl <| K.cR (cf 79 rfl) (Tree_getS_con hx1 0 1) g0 rfl rfl rfl rfl <| K.alloc Y 103 _ g0 t127 rfl rfl rfl rfl rfl <| K.store Y _ g0 rfl rfl rfl t127 rfl rfl rfl rfl rfl <| K.nil <| At.ns ?_
   obtain ⟨x2, hx2, H0⟩ := bnd H0
   obtain ⟨h2, H0⟩ := grd H0
   obtain ⟨x3, hx3, H0⟩ := bnd H0
   exact G.rd mixed <| K.mv rfl rfl <| K.fieldAddr Y g0 rfl t127 rfl rfl <| K.loadS Y _ g0 rfl rfl t108 rfl rfl rfl <| K.mv rfl rfl <| K.fieldAddr Y g0 rfl t127 rfl rfl <| K.loadS Y _ g0 rfl rfl t108 rfl rfl rfl <| K.nilRowS 104 66 eTSlot 4 (.inr rfl) g0 rfl rfl rfl rfl <| K.cC (cf 109 rfl) [] (fun β w S2 h => SCon.rd0 (Tree_allS_o2_con hx2 0 1 104 105 rfl) S2 w h) g0 (fun _ => rfl) rfl rfl rfl <| K.fieldAddr Y g0 rfl t127 rfl rfl <| K.loadS Y _ g0 rfl rfl t66 rfl rfl rfl <| K.buildL Y 106 ([x1.e] : List TSlot) [(0, _)] [((.tmp 24), _)] eTSlot_len g0 (AllE.spec ⟨rfl, trivial⟩) rfl rfl Tryz.underlying135 t66 rfl rfl rfl rfl rfl rfl rfl rfl <| K.appendL 107 (lrowV 106 66 eTSlot 4 ([x1.e] : List TSlot)) _ el135 (lrowV_is eTSlot_len (by decide)) eTSlot_one g0 rfl rfl rfl rfl rfl (ap_m h2) (ap_b h2 (by decide)) rfl rfl rfl rfl rfl rfl <| K.cC (cf 109 rfl) [] (fun β w S2 h => SCon.rd0 (Tree_allS_o2_con hx3 0 1 107 108 rfl) S2 w h) g0 (fun _ => rfl) rfl rfl rfl <| K.as rfl rfl <| K.nil <| And.intro (by kernel_rfl) <| At.next <| G.ret <| At.ren (fs' := [(6, .a (.c (.nv 30)))]) (tl := [(0, blk 0 [.p 1 0, .v (.int .i64 ri0), .v (.int .i64 rg0)] 131), (1, plS 1 p1), (30, lrow 30 66 eTSlot 4 x3)]) [(30, 108)] [_, _, _] rfl ⟨rfl, trivial⟩ ⟨rfl, (blk_ren rfl rfl), rfl, (pl_ren rfl), rfl, (lrow_ren rfl), trivial⟩ rfl <| At.dr Y [6] rfl rfl (by cases H0; rfl) (by cases H0; rfl) rfl rfl rfl
theorem Tree_allS_n2_con {k n : Nat}  {p1 : Pool (TNode TSlot TSize)} {a1 : TRef} {ri0 rg0 : Int} {r : List TSlot}  (H0 : Tree_all.r opsS k n p1 a1 ([] : List TSlot) = some r) (m0 m1 m30 : Nat) (hd : ndB [m0, m1, m30] = true) : Tree_allS_n2_st p1 a1 ri0 rg0 r m0 m1 m30 :=
 SCon.ren (rn [(0, m0), (1, m1), (30, m30)]) (Tree_allS_n2_con0 (k := k)   H0) ⟨(blk_ren rfl rfl), (pl_ren rfl), trivial⟩ ⟨(blk_ren rfl rfl), (pl_ren rfl), (lrow_ren rfl), trivial⟩ (rn_nd hd rfl rfl) (rn_ks hd rfl rfl rfl)
abbrev Tree_AllS_st (p1 : Pool (TNode TSlot TSize)) (rt0 : TRef) (r : List TSlot) (m0 : Nat) (m1 : Nat) (m30 : Nat) : Prop := SCon Tryz.prog 81 [SV.p m0 0] [(m0, blk m0 [.p m1 0, .i rt0.index, .i rt0.gen] 131), (m1, plS m1 p1)] (.a (.c (.nv m30))) [(m0, blk m0 [.p m1 0, .i rt0.index, .i rt0.gen] 131), (m1, plS m1 p1), (m30, lrow m30 66 eTSlot 4 r)] [m30]
theorem Tree_AllS_con0 {k : Nat}  {p1 : Pool (TNode TSlot TSize)} {rt0 : TRef} {r : List TSlot}  (H0 : Tree_All.f opsS k p1 rt0 = some r) : Tree_AllS_st p1 rt0 r 0 1 30 := by
 rw [Tree_All.f] at H0
 refine spec_of [(0, _)] [(0, _), (1, _)] 9 Tryz.func81 rfl Tryz.ntmps81 rfl rfl rfl rfl (fun β W F => ?_)
 refine G.seq <| G.rg <| K.nilRow 100 66 eTSlot 4 (.inl rfl) g0 rfl rfl rfl <| K.nil <| At.ns ?_
 obtain ⟨x1, hx1, H0⟩ := bnd H0
 exact G.rg <| K.mv rfl rfl <| K.mv rfl rfl <| K.nilCheck g0 rfl rfl <| K.fieldAddr Y g0 rfl t131 rfl rfl <| K.loadS Y _ g0 rfl rfl t108 rfl rfl rfl <| K.c0 (cf 109 rfl) (Tree_allS_n2_con hx1 0 1 101 rfl) g0 rfl rfl rfl rfl <| K.as rfl rfl <| K.nil <| At.next <| G.ret <| At.ren (fs' := [(2, .a (.c (.nv 30)))]) (tl := [(0, blk 0 [.p 1 0, .v (.int .i64 rt0.index), .v (.int .i64 rt0.gen)] 131), (1, plS 1 p1), (30, lrow 30 66 eTSlot 4 x1)]) [(30, 101)] [_, _, _] rfl ⟨rfl, trivial⟩ ⟨rfl, (blk_ren rfl rfl), rfl, (pl_ren rfl), rfl, (lrow_ren rfl), trivial⟩ rfl <| At.dr Y [2] rfl rfl (by cases H0; rfl) (by cases H0; rfl) rfl rfl rfl
theorem Tree_AllS_con {k : Nat}  {p1 : Pool (TNode TSlot TSize)} {rt0 : TRef} {r : List TSlot}  (H0 : Tree_All.f opsS k p1 rt0 = some r) (m0 m1 m30 : Nat) (hd : ndB [m0, m1, m30] = true) : Tree_AllS_st p1 rt0 r m0 m1 m30 :=
 SCon.ren (rn [(0, m0), (1, m1), (30, m30)]) (Tree_AllS_con0 (k := k)   H0) ⟨(blk_ren rfl rfl), (pl_ren rfl), trivial⟩ ⟨(blk_ren rfl rfl), (pl_ren rfl), (lrow_ren rfl), trivial⟩ (rn_nd hd rfl rfl) (rn_ks hd rfl rfl rfl)
end Go.Proofs.YtpeoalmhccmdiaaGreat

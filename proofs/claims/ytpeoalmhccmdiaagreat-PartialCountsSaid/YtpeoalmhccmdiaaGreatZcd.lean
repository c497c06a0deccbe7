/- My texts that the proof of PartialCounts rests on, part 4: a calculus of walks, the walks, and the plain law. -/
import Derived.KernelRfl
import Derived.Test.YtpeoalmhccmdiaaGreatZcc
set_option linter.unusedVariables false
set_option linter.unusedSimpArgs false
namespace Go.Proofs.YtpeoalmhccmdiaaGreat
open Go Go.Proofs.YtpeoalmhccmdiaaGreat.Sx
abbrev plS (k : Nat) (p : Pool (TNode TSlot TSize)) : Tok := pl k 178 191 3 12 fCS p
theorem plgetS {p : Pool (TNode TSlot TSize)} {i g : Int} {x : (TNode TSlot TSize) × Bool} (h : pGet zNodeS p i g = some x) (k : Nat) : SCon Tryz.prog 107 [SV.p k 0, SV.agg [.i i, .i g]] [(k, plS k p)] (.tup [avS x.1, .c (.b x.2)]) [(k, plS k p)] [] := by
 obtain ⟨hp, hx⟩ := grd h
 cases hx
 refine SCon.hide fun v => ?_
 obtain ⟨h1, v', h2⟩ := get_vis (p := p) (z := zNodeS) v i g
 refine ⟨v', ?_⟩
 have := getS' { p with vis := v } i g (hp.ok v) (by decide) k
 rw [h1, h2] at this
 exact this
theorem plsetS {p : Pool (TNode TSlot TSize)} {i g : Int} {y : (TNode TSlot TSize)} {x : Bool × Pool (TNode TSlot TSize)} (h : pSet p i g y = some x) (k : Nat) : SCon Tryz.prog 122 [SV.p k 0, SV.agg [.i i, .i g], .a (avS y)] [(k, plS k p)] (SV.b x.1) [(k, plS k x.2)] [] := by
 obtain ⟨hp, hx⟩ := grd h
 cases hx
 refine SCon.hide fun v => ?_
 obtain ⟨h1, v', h2⟩ := set_vis (p := p) v i g y
 refine ⟨v', ?_⟩
 have := setS' { p with vis := v } i g y (hp.ok v) (by decide) k
 rw [h1, h2] at this
 exact this
theorem plputS {p : Pool (TNode TSlot TSize)} {y : (TNode TSlot TSize)} {x : ((Int × Int) × Bool) × Pool (TNode TSlot TSize)} (h : pPut zNodeS p y = some x) (k : Nat) : SCon Tryz.prog 120 [SV.p k 0, .a (avS y)] [(k, plS k p)] (.tup [.agg [.i x.1.1.1, .i x.1.1.2], .c (.b x.1.2)]) [(k, plS k x.2)] [] := by
 obtain ⟨hp, hx⟩ := grd h
 cases hx
 refine SCon.hide fun v => ?_
 obtain ⟨h1, v', h2⟩ := put_vis (p := p) (z := zNodeS) v y
 refine ⟨v', ?_⟩
 have := putS { p with vis := v } y (hp.ok v) (by decide) k
 rw [h1, h2] at this
 exact this
theorem pldropS {p : Pool (TNode TSlot TSize)} {i g : Int} {x : ((TNode TSlot TSize) × Bool) × Pool (TNode TSlot TSize)} (h : pDrop zNodeS p i g = some x) (k : Nat) : SCon Tryz.prog 133 [SV.p k 0, SV.agg [.i i, .i g]] [(k, plS k p)] (.tup [avS x.1.1, .c (.b x.1.2)]) [(k, plS k x.2)] [] := by
 obtain ⟨hp, hx⟩ := grd h
 cases hx
 refine SCon.hide fun v => ?_
 obtain ⟨h1, v', h2⟩ := drop_vis (p := p) (z := zNodeS) v i g
 refine ⟨v', ?_⟩
 have := dropS' { p with vis := v } i g (hp.ok v) (by decide) k
 rw [h1, h2] at this
 exact this
theorem plnewS (c : Int) (k : Nat) : SCon Tryz.prog 117 [SV.i c] [] (SV.p k 0) [(k, plS k ⟨[], [], capOf c, 0, 0⟩)] [k] := SCon.hideNew (newS c k)
abbrev Tree_NewS_st (a0 : Int) (r : TRef × Pool (TNode TSlot TSize)) (m40 : Nat) (m41 : Nat) : Prop := SCon Tryz.prog 92 [.a (.c (.v (.int .i64 a0)))] [] (.a (.c (.p m40 0))) [(m40, blk m40 [.p m41 0, .i r.1.index, .i r.1.gen] 131), (m41, plS m41 r.2)] [m40, m41]
theorem Tree_NewS_con0 {k : Nat}  {a0 : Int} {r : TRef × Pool (TNode TSlot TSize)}  (H0 : Tree_New.f opsS k a0 = some r) : Tree_NewS_st a0 r 40 41 := by
 rw [Tree_New.f] at H0
 refine spec_of [(0, _)] [] 7 Tryz.func92 rfl Tryz.ntmps92 rfl rfl rfl rfl (fun β W F => ?_)
 exact G.seq <| G.rg <| K.as rfl rfl <| K.nil <| At.nr <| K.mv rfl rfl <| K.call0 [(.func 117, _), ((.tmp 3), _)] (plnewS a0 100) (toFn_func (cf 117 rfl) rfl) g0 ⟨rfl, rfl, trivial⟩ trivial rfl rfl rfl rfl rfl rfl <| K.build Y [(0, _)] [_, _, _] [((.tmp 4), _)] g0 (AllE.spec ⟨rfl, trivial⟩) rfl rfl t131 rfl rfl <| K.box Y 101 _ g0 rfl rfl rfl rfl rfl rfl <| K.as rfl rfl <| K.nil <| At.next <| G.ret <| At.ren (fs' := [(2, .a (.c (.p 40 0)))]) (tl := [(40, blk 40 [.p 41 0, .v (.int .i64 0), .v (.int .i64 0)] 131), (41, plS 41 (⟨[], [], capOf a0, 0, 0⟩ : Pool (TNode TSlot TSize)))]) [(40, 101), (41, 100)] [_, _] rfl ⟨rfl, trivial⟩ ⟨rfl, (blk_ren rfl rfl), rfl, (pl_ren rfl), trivial⟩ rfl <| At.dr Y [2] rfl rfl (by cases H0; rfl) (by cases H0; rfl) rfl rfl rfl
theorem Tree_NewS_con {k : Nat}  {a0 : Int} {r : TRef × Pool (TNode TSlot TSize)}  (H0 : Tree_New.f opsS k a0 = some r) (m40 m41 : Nat) (hd : ndB [m40, m41] = true) : Tree_NewS_st a0 r m40 m41 :=
 SCon.ren (rn [(40, m40), (41, m41)]) (Tree_NewS_con0 (k := k)   H0) trivial ⟨(blk_ren rfl rfl), (pl_ren rfl), trivial⟩ (rn_nd hd rfl rfl) (rn_ks hd rfl rfl rfl)
abbrev Tree_getS_st (p1 : Pool (TNode TSlot TSize)) (a1 : TRef) (ri0 : Int) (rg0 : Int) (r : TNode TSlot TSize) (m0 : Nat) (m1 : Nat) : Prop := SCon Tryz.prog 79 [SV.p m0 0, .a (.agg ((eTRef a1).map .v))] [(m0, blk m0 [.p m1 0, .i ri0, .i rg0] 131), (m1, plS m1 p1)] (.a (.agg ((eTNode_TSlot_TSize r).map .v))) [(m0, blk m0 [.p m1 0, .i ri0, .i rg0] 131), (m1, plS m1 p1)] []
theorem Tree_getS_con0 {k : Nat}  {p1 : Pool (TNode TSlot TSize)} {a1 : TRef} {ri0 rg0 : Int} {r : TNode TSlot TSize}  (H0 : Tree_get.f opsS k p1 a1 = some r) : Tree_getS_st p1 a1 ri0 rg0 r 0 1 := by
 rw [Tree_get.f] at H0
 refine spec_of [(0, _), (1, _)] [(0, _), (1, _)] 21 Tryz.func79 rfl Tryz.ntmps79 rfl rfl rfl rfl (fun β W F => ?_)
 refine G.seq <| G.rg <| K.box Y 100 _ g0 rfl rfl rfl rfl rfl rfl <| K.alloc Y 101 _ g0 t127 rfl rfl rfl rfl rfl <| K.nil <| At.ns <| G.seq <| G.rg <| K.fieldAddr Y g0 rfl t108 rfl rfl <| K.load1 Y g0 rfl rfl t3 rfl rfl <| K.bin (V := .bool (a1.gen == 0)) g0 rfl rfl (fun _ => rfl) rfl <| K.nil <| At.next <| G.cond rfl (fun h1 => ?_) (fun h1 => ?_)
 ·
  replace H0 := bif_t H0 h1
  refine G.seq <| G.rg <| K.build Y [] [_, _, _, _, _, _, _, _, _, _] [] g0 (AllE.spec trivial) rfl rfl t127 rfl rfl <| K.store Y _ g0 rfl rfl rfl t127 rfl rfl rfl rfl rfl <| K.nil <| At.next <| G.ret <| At.over_ret <| At.done Y [(.cell 4 127, .agg [_, _, _, _, _, _, _, _, _, _])] rfl ⟨.st rfl rfl t127 rfl rfl, trivial⟩ (to' := [(0, _), (1, _)]) ⟨rfl, rfl, trivial⟩ ?_ ?_ rfl rfl rfl (.inl rfl)
  · cases H0; rfl
  · cases H0; rfl
 ·
  replace H0 := bif_f H0 h1
  refine G.skip <| At.ns ?_
  obtain ⟨x1, hx1, H0⟩ := bnd H0
  refine G.rd mixed <| K.mv rfl rfl <| K.nilCheck g0 rfl rfl <| K.fieldAddr Y g0 rfl t131 rfl rfl <| K.load1 Y g0 rfl rfl t129 rfl rfl <| K.loadS Y _ g0 rfl rfl t108 rfl rfl rfl <| K.callR [(.func 107, _), ((.tmp 15), _), ((.tmp 16), _)] (plgetS hx1 1) (toFn_func (cf 107 rfl) rfl) g0 ⟨rfl, rfl, rfl, trivial⟩ ⟨rfl, trivial⟩ rfl rfl rfl <| K.mv rfl rfl <| K.extract g0 rfl rfl rfl <| K.extract g0 rfl rfl rfl <| K.alloc Y 102 _ g0 t127 rfl rfl rfl rfl rfl <| K.store Y _ g0 rfl rfl rfl t127 rfl rfl rfl rfl rfl <| K.as rfl rfl <| K.nil <| And.intro (by kernel_rfl) <| At.nr <| K.loadS Y _ g0 rfl rfl t127 rfl rfl rfl <| K.store Y _ g0 rfl rfl rfl t127 rfl rfl rfl rfl rfl <| K.nil <| At.next <| G.ret <| At.done Y [(.cell 4 127, .agg [_, _, _, _, _, _, _, _, _, _])] rfl ⟨.st rfl rfl t127 rfl rfl, trivial⟩ (to' := [(0, _), (1, _)]) ⟨rfl, rfl, trivial⟩ ?_ ?_ rfl rfl rfl (.inl rfl)
  · cases H0; rfl
  · cases H0; rfl
theorem Tree_getS_con {k : Nat}  {p1 : Pool (TNode TSlot TSize)} {a1 : TRef} {ri0 rg0 : Int} {r : TNode TSlot TSize}  (H0 : Tree_get.f opsS k p1 a1 = some r) (m0 m1 : Nat) : Tree_getS_st p1 a1 ri0 rg0 r m0 m1 :=
 SCon.ren (rn [(0, m0), (1, m1)]) (Tree_getS_con0 (k := k)   H0) ⟨(blk_ren rfl rfl), (pl_ren rfl), trivial⟩ ⟨(blk_ren rfl rfl), (pl_ren rfl), trivial⟩ (by simp) (by simp)
abbrev Tree_FindS_st (p1 : Pool (TNode TSlot TSize)) (rt0 : TRef) (a1 : TSlot) (r : TSlot × Bool) (m0 : Nat) (m1 : Nat) : Prop := SCon Tryz.prog 64 [SV.p m0 0, .a (.agg ((eTSlot a1).map .v))] [(m0, blk m0 [.p m1 0, .i rt0.index, .i rt0.gen] 131), (m1, plS m1 p1)] (.tup [.agg ((eTSlot r.1).map .v), .c (.v (.bool r.2))]) [(m0, blk m0 [.p m1 0, .i rt0.index, .i rt0.gen] 131), (m1, plS m1 p1)] []
theorem Tree_FindS_con0 {k : Nat}  {p1 : Pool (TNode TSlot TSize)} {rt0 : TRef} {a1 : TSlot} {r : TSlot × Bool}  (H0 : Tree_Find.f opsS k p1 rt0 a1 = some r) : Tree_FindS_st p1 rt0 a1 r 0 1 := by
 rw [Tree_Find.f] at H0
 refine spec_of [(0, _), (1, _)] [(0, _), (1, _)] 37 Tryz.func64 rfl Tryz.ntmps64 rfl rfl rfl rfl (fun β W F => ?_)
 refine G.seq <| G.rg <| K.box Y 100 _ g0 rfl rfl rfl rfl rfl rfl <| K.alloc Y 101 _ g0 t66 rfl rfl rfl rfl rfl <| K.as rfl rfl <| K.nil <| At.next ?_
 obtain ⟨x1, H1, H0⟩ := bnd H0
 refine G.sJ (σ := { v : Unit // x1 = Sum.inr v }) (fun q => [(4, .a (.c (.p 102 0)))]) (fun q => [(102, blk 102 [.v (.int .i64 0), .v (.int .i64 0), .v (.bool false), .v (.int .i64 0)] 66), (1, plS 1 p1), (0, blk 0 [.p 1 0, .v (.int .i64 rt0.index), .v (.int .i64 rt0.gen)] 131)]) ?_ ?_
 ·
  refine G.seq <| G.rg <| K.mv rfl rfl <| K.nilCheck g0 rfl rfl <| K.fieldAddr Y g0 rfl t131 rfl rfl <| K.loadS Y _ g0 rfl rfl t108 rfl rfl rfl <| K.alloc Y 103 _ g0 t108 rfl rfl rfl rfl rfl <| K.store Y _ g0 rfl rfl rfl t108 rfl rfl rfl rfl rfl <| K.nil <| At.next <| G.block <| G.lp (σ := { q : Nat × (TRef) // Tree_Find.l0 opsS k p1 a1 q.1 q.2 = some x1 }) (fun q => [(0, .a (.c (.p 0 0))), (3, .a (.c (.p 110 0))), (4, .a (.c (.p 111 0))), (6, .a (.c (.p 112 0)))]) (fun q => [(1, plS 1 p1), (0, blk 0 [.p 1 0, .v (.int .i64 rt0.index), .v (.int .i64 rt0.gen)] 131), (110, blk 110 [.v (.int .i64 a1.item.key), .v (.int .i64 a1.item.id), .v (.bool a1.eaten), .v (.int .i64 a1.time)] 66), (111, blk 111 [.v (.int .i64 0), .v (.int .i64 0), .v (.bool false), .v (.int .i64 0)] 66), (112, blk 112 [.v (.int .i64 q.1.2.index), .v (.int .i64 q.1.2.gen)] 108)]) (fun q => q.1.1) ⟨(k, rt0), H1⟩ ?_ ?_
  · exact At.into [(110, 100), (111, 101), (112, 103)] [_, _, _, _, _] rfl ⟨rfl, rfl, rfl, rfl, trivial⟩ ⟨rfl, (pl_ren rfl), rfl, (blk_ren rfl rfl), rfl, (blk_ren rfl rfl), rfl, (blk_ren rfl rfl), rfl, (blk_ren rfl rfl), trivial⟩ rfl
  ·
   rintro ⟨⟨n0, v1⟩, H1⟩
   show G _ _ [(0, .a (.c (.p 0 0))), (3, .a (.c (.p 110 0))), (4, .a (.c (.p 111 0))), (6, .a (.c (.p 112 0)))] [(1, some (plS 1 p1)), (0, some (blk 0 [.p 1 0, .v (.int .i64 rt0.index), .v (.int .i64 rt0.gen)] 131)), (110, some (blk 110 [.v (.int .i64 a1.item.key), .v (.int .i64 a1.item.id), .v (.bool a1.eaten), .v (.int .i64 a1.time)] 66)), (111, some (blk 111 [.v (.int .i64 0), .v (.int .i64 0), .v (.bool false), .v (.int .i64 0)] 66)), (112, some (blk 112 [.v (.int .i64 v1.index), .v (.int .i64 v1.gen)] 108))] _ _
   cases n0 with
   | zero => exact absurd H1 (by simp [Tree_Find.l0])
   | succ n0 =>
    have HL0 := H1
    rw [Tree_Find.l0] at H1
    refine G.seq <| G.seq <| G.rg <| K.fieldAddr Y g0 rfl t108 rfl rfl <| K.load1 Y g0 rfl rfl t3 rfl rfl <| K.bin (V := .bool (v1.gen != 0)) g0 rfl rfl (fun _ => rfl) rfl <| K.nil <| At.next <| G.cond rfl (fun h1 => ?_) (fun h1 => ?_)
    ·
     replace H1 := bif_t H1 h1
     refine G.skip <| At.ns <| G.block <| G.seq ?_
     obtain ⟨x2, hx2, H1⟩ := bnd H1
     refine G.rg <| K.mv rfl rfl <| K.loadS Y _ g0 rfl rfl t108 rfl rfl rfl <| K.cR (cf 79 rfl) (Tree_getS_con hx2 0 1) g0 rfl rfl rfl rfl <| K.alloc Y 113 _ g0 t127 rfl rfl rfl rfl rfl <| K.store Y _ g0 rfl rfl rfl t127 rfl rfl rfl rfl rfl <| K.nil <| At.ns ?_
     obtain ⟨x3, hx3, H1⟩ := bnd H1
     refine G.rg <| K.loadS Y _ g0 rfl rfl t66 rfl rfl rfl <| K.mkIface Y g0 rfl (mkI Tryz.underlying66 rfl) rfl <| K.fieldAddr Y g0 rfl t127 rfl rfl <| K.loadS Y _ g0 rfl rfl t66 rfl rfl rfl <| K.callR [((.tmp 21), _), ((.tmp 23), _)] (shelf_Slot_Compare_con (k := k) hx3) (toFn_invoke (cf 212 rfl) (me66_212) rfl) g0 ⟨rfl, rfl, trivial⟩ trivial rfl rfl rfl <| K.as rfl rfl <| K.nil <| At.ns <| G.seq <| G.rg <| K.mv rfl rfl <| K.bin (V := .bool (x3 == 0)) g0 rfl rfl (fun _ => rfl) rfl <| K.nil <| At.next <| G.cond rfl (fun h2 => ?_) (fun h2 => ?_)
     ·
      replace H1 := bif_t H1 h2
      refine G.seq <| G.rg <| K.fieldAddr Y g0 rfl t127 rfl rfl <| K.loadS Y _ g0 rfl rfl t66 rfl rfl rfl <| K.store Y _ g0 rfl rfl rfl t66 rfl rfl rfl rfl rfl <| K.as rfl rfl <| K.nil <| At.next <| G.ret <| At.over_ret <| At.block_ret <| At.over_ret <| At.over_ret <| At.block_ret <| At.over_ret ?_
      cases H1
      replace H0 := sum_l H0
      refine At.done Y [(.cell 4 66, .agg [_, _, _, _]), (.tmp 5, .c _)] rfl ⟨.st rfl rfl t66 rfl rfl, .tmp rfl, trivial⟩ (to' := [(0, _), (1, _)]) ⟨rfl, rfl, trivial⟩ ?_ ?_ rfl rfl rfl (.inl rfl)
      · cases H0; rfl
      · cases H0; rfl
     ·
      replace H1 := bif_f H1 h2
      refine G.skip <| At.nr <| K.fieldAddr Y g0 rfl t127 rfl rfl <| K.loadS Y _ g0 rfl rfl t108 rfl rfl rfl <| K.store Y _ g0 rfl rfl rfl t108 rfl rfl rfl rfl rfl <| K.nil <| At.nr <| K.mv rfl rfl <| K.bin (V := .bool (decide (x3 < 0))) g0 rfl rfl (fun _ => rfl) rfl <| K.nil <| At.next <| G.cond rfl (fun h3 => ?_) (fun h3 => ?_)
      ·
       replace H1 := bif_t H1 h3
       exact G.rg <| K.fieldAddr Y g0 rfl t127 rfl rfl <| K.loadS Y _ g0 rfl rfl t108 rfl rfl rfl <| K.store Y _ g0 rfl rfl rfl t108 rfl rfl rfl rfl rfl <| K.nil <| At.block_normal <| At.nr <| K.loadS Y _ g0 rfl rfl t108 rfl rfl rfl <| K.nil <| At.next <| G.rg <| K.alloc Y 114 _ g0 t108 rfl rfl rfl rfl rfl <| K.store Y _ g0 rfl rfl rfl t108 rfl rfl rfl rfl rfl <| K.nil <| At.ag ⟨(n0, x2.left), H1⟩ [(112, 114)] [_, _, _, _, _] (Nat.lt_succ_self _) rfl ⟨rfl, rfl, rfl, rfl, trivial⟩ ⟨rfl, (pl_ren rfl), rfl, (blk_ren rfl rfl), rfl, (blk_ren rfl rfl), rfl, (blk_ren rfl rfl), rfl, (blk_ren rfl rfl), trivial⟩ rfl
      ·
       replace H1 := bif_f H1 h3
       exact G.skip <| At.block_normal <| At.nr <| K.loadS Y _ g0 rfl rfl t108 rfl rfl rfl <| K.nil <| At.next <| G.rg <| K.alloc Y 115 _ g0 t108 rfl rfl rfl rfl rfl <| K.store Y _ g0 rfl rfl rfl t108 rfl rfl rfl rfl rfl <| K.nil <| At.ag ⟨(n0, x2.right), H1⟩ [(112, 115)] [_, _, _, _, _] (Nat.lt_succ_self _) rfl ⟨rfl, rfl, rfl, rfl, trivial⟩ ⟨rfl, (pl_ren rfl), rfl, (blk_ren rfl rfl), rfl, (blk_ren rfl rfl), rfl, (blk_ren rfl rfl), rfl, (blk_ren rfl rfl), trivial⟩ rfl
    ·
     replace H1 := bif_f H1 h1
     exact G.exit <| At.over_exit <| At.over_exit <| At.block_hit <| At.jd ⟨(), oi H1⟩ [(102, 111)] [_, _, _] rfl ⟨rfl, trivial⟩ ⟨rfl, (blk_ren rfl rfl), rfl, (pl_ren rfl), rfl, (blk_ren rfl rfl), trivial⟩ rfl
 ·
  rintro ⟨v1, rfl⟩
  replace H0 := sum_r H0
  show G _ _ [(4, .a (.c (.p 102 0)))] [(102, some (blk 102 [.v (.int .i64 0), .v (.int .i64 0), .v (.bool false), .v (.int .i64 0)] 66)), (1, some (plS 1 p1)), (0, some (blk 0 [.p 1 0, .v (.int .i64 rt0.index), .v (.int .i64 rt0.gen)] 131))] _ _
  refine G.seq <| G.rg <| K.alloc Y 116 _ g0 t66 rfl rfl rfl rfl rfl <| K.nil <| At.nr <| K.loadS Y _ g0 rfl rfl t66 rfl rfl rfl <| K.store Y _ g0 rfl rfl rfl t66 rfl rfl rfl rfl rfl <| K.as rfl rfl <| K.nil <| At.next <| G.ret <| At.done Y [(.cell 4 66, .agg [_, _, _, _]), (.tmp 5, .c _)] rfl ⟨.st rfl rfl t66 rfl rfl, .tmp rfl, trivial⟩ (to' := [(0, _), (1, _)]) ⟨rfl, rfl, trivial⟩ ?_ ?_ rfl rfl rfl (.inl rfl)
  · cases H0; rfl
  · cases H0; rfl
theorem Tree_FindS_con {k : Nat}  {p1 : Pool (TNode TSlot TSize)} {rt0 : TRef} {a1 : TSlot} {r : TSlot × Bool}  (H0 : Tree_Find.f opsS k p1 rt0 a1 = some r) (m0 m1 : Nat) : Tree_FindS_st p1 rt0 a1 r m0 m1 :=
 SCon.ren (rn [(0, m0), (1, m1)]) (Tree_FindS_con0 (k := k)   H0) ⟨(blk_ren rfl rfl), (pl_ren rfl), trivial⟩ ⟨(blk_ren rfl rfl), (pl_ren rfl), trivial⟩ (by simp) (by simp)
abbrev Tree_weightS_st (p1 : Pool (TNode TSlot TSize)) (a1 : TRef) (ri0 : Int) (rg0 : Int) (r : Int) (m0 : Nat) (m1 : Nat) : Prop := SCon Tryz.prog 144 [SV.p m0 0, .a (.agg ((eTRef a1).map .v))] [(m0, blk m0 [.p m1 0, .i ri0, .i rg0] 131), (m1, plS m1 p1)] (.a (.c (.v (.int .i64 r)))) [(m0, blk m0 [.p m1 0, .i ri0, .i rg0] 131), (m1, plS m1 p1)] []
theorem Tree_weightS_con0 {k : Nat}  {p1 : Pool (TNode TSlot TSize)} {a1 : TRef} {ri0 rg0 : Int} {r : Int}  (H0 : Tree_weight.f opsS k p1 a1 = some r) : Tree_weightS_st p1 a1 ri0 rg0 r 0 1 := by
 rw [Tree_weight.f] at H0
 refine spec_of [(0, _), (1, _)] [(0, _), (1, _)] 10 Tryz.func144 rfl Tryz.ntmps144 rfl rfl rfl rfl (fun β W F => ?_)
 refine G.seq <| G.rg <| K.box Y 100 _ g0 rfl rfl rfl rfl rfl rfl <| K.as rfl rfl <| K.nil <| At.ns ?_
 obtain ⟨x1, hx1, H0⟩ := bnd H0
 exact G.rg <| K.mv rfl rfl <| K.loadS Y _ g0 rfl rfl t108 rfl rfl rfl <| K.cR (cf 79 rfl) (Tree_getS_con hx1 0 1) g0 rfl rfl rfl rfl <| K.field1 Y g0 rfl t127 rfl t3 rfl rfl <| K.bin (V := .int .i64 (w64 (x1.size + 1))) g0 rfl rfl (fun _ => rfl) rfl <| K.as rfl rfl <| K.nil <| At.next <| G.ret <| At.dr Y [4] rfl rfl (by cases H0; rfl) (by cases H0; rfl) rfl rfl rfl
theorem Tree_weightS_con {k : Nat}  {p1 : Pool (TNode TSlot TSize)} {a1 : TRef} {ri0 rg0 : Int} {r : Int}  (H0 : Tree_weight.f opsS k p1 a1 = some r) (m0 m1 : Nat) : Tree_weightS_st p1 a1 ri0 rg0 r m0 m1 :=
 SCon.ren (rn [(0, m0), (1, m1)]) (Tree_weightS_con0 (k := k)   H0) ⟨(blk_ren rfl rfl), (pl_ren rfl), trivial⟩ ⟨(blk_ren rfl rfl), (pl_ren rfl), trivial⟩ (by simp) (by simp)
abbrev Tree_layS_st (p1 : Pool (TNode TSlot TSize)) (a1 : TRef) (a2 : TRef) (a3 : TRef) (ri0 : Int) (rg0 : Int) (r : TRef × Pool (TNode TSlot TSize)) (m0 : Nat) (m1 : Nat) : Prop := SCon Tryz.prog 123 [SV.p m0 0, .a (.agg ((eTRef a1).map .v)), .a (.agg ((eTRef a2).map .v)), .a (.agg ((eTRef a3).map .v))] [(m0, blk m0 [.p m1 0, .i ri0, .i rg0] 131), (m1, plS m1 p1)] (.a (.agg ((eTRef r.1).map .v))) [(m0, blk m0 [.p m1 0, .i ri0, .i rg0] 131), (m1, plS m1 r.2)] []
theorem Tree_layS_con0 {k : Nat}  {p1 : Pool (TNode TSlot TSize)} {a1 : TRef} {a2 : TRef} {a3 : TRef} {ri0 rg0 : Int} {r : TRef × Pool (TNode TSlot TSize)}  (H0 : Tree_lay.f opsS k p1 a1 a2 a3 = some r) : Tree_layS_st p1 a1 a2 a3 ri0 rg0 r 0 1 := by
 rw [Tree_lay.f] at H0
 refine spec_of [(0, _), (1, _), (2, _), (3, _)] [(0, _), (1, _)] 53 Tryz.func123 rfl Tryz.ntmps123 rfl rfl rfl rfl (fun β W F => ?_)
 refine G.seq <| G.rg <| K.box Y 100 _ g0 rfl rfl rfl rfl rfl rfl <| K.box Y 101 _ g0 rfl rfl rfl rfl rfl rfl <| K.box Y 102 _ g0 rfl rfl rfl rfl rfl rfl <| K.alloc Y 103 _ g0 t108 rfl rfl rfl rfl rfl <| K.nil <| At.ns ?_
 obtain ⟨x1, hx1, H0⟩ := bnd H0
 refine G.rg <| K.mv rfl rfl <| K.loadS Y _ g0 rfl rfl t108 rfl rfl rfl <| K.cR (cf 79 rfl) (Tree_getS_con hx1 0 1) g0 rfl rfl rfl rfl <| K.alloc Y 104 _ g0 t127 rfl rfl rfl rfl rfl <| K.store Y _ g0 rfl rfl rfl t127 rfl rfl rfl rfl rfl <| K.nil <| At.ns ?_
 obtain ⟨x2, hx2, H0⟩ := bnd H0
 obtain ⟨x3, hx3, H0⟩ := bnd H0
 refine G.rd mixed <| K.mv rfl rfl <| K.loadS Y _ g0 rfl rfl t108 rfl rfl rfl <| K.cR (cf 79 rfl) (Tree_getS_con hx2 0 1) g0 rfl rfl rfl rfl <| K.mv rfl rfl <| K.loadS Y _ g0 rfl rfl t108 rfl rfl rfl <| K.cR (cf 79 rfl) (Tree_getS_con hx3 0 1) g0 rfl rfl rfl rfl <| K.alloc Y 105 _ g0 t127 rfl rfl rfl rfl rfl <| K.alloc Y 106 _ g0 t127 rfl rfl rfl rfl rfl <| K.store Y _ g0 rfl rfl rfl t127 rfl rfl rfl rfl rfl <| K.store Y _ g0 rfl rfl rfl t127 rfl rfl rfl rfl rfl <| K.nil <| And.intro (by kernel_rfl) <| At.ns <| G.rd mixed <| K.loadS Y _ g0 rfl rfl t108 rfl rfl rfl <| K.loadS Y _ g0 rfl rfl t108 rfl rfl rfl <| K.fieldAddr Y g0 rfl t127 rfl rfl <| K.store Y _ g0 rfl rfl rfl t108 rfl rfl rfl rfl rfl <| K.fieldAddr Y g0 rfl t127 rfl rfl <| K.store Y _ g0 rfl rfl rfl t108 rfl rfl rfl rfl rfl <| K.nil <| And.intro (by kernel_rfl) <| At.nr <| K.fieldAddr Y g0 rfl t127 rfl rfl <| K.load1 Y g0 rfl rfl t3 rfl rfl <| K.bin (V := .int .i64 (w64 (x2.size + 1))) g0 rfl rfl (fun _ => rfl) rfl <| K.fieldAddr Y g0 rfl t127 rfl rfl <| K.load1 Y g0 rfl rfl t3 rfl rfl <| K.bin (V := .int .i64 (w64 ((w64 (x2.size + 1)) + x3.size))) g0 rfl rfl (fun _ => rfl) rfl <| K.fieldAddr Y g0 rfl t127 rfl rfl <| K.store Y _ g0 rfl rfl rfl t3 rfl rfl rfl rfl rfl <| K.nil <| At.ns ?_
 obtain ⟨x4, hx4, H0⟩ := bnd H0
 obtain ⟨x5, hx5, H0⟩ := bnd H0
 obtain ⟨x6, hx6, H0⟩ := bnd H0
 refine G.rd mixed <| K.fieldAddr Y g0 rfl t127 rfl rfl <| K.load1 Y g0 rfl rfl t67 rfl rfl <| K.mkIface Y g0 rfl (mkI Tryz.underlying67 rfl) rfl <| K.fieldAddr Y g0 rfl t127 rfl rfl <| K.loadS Y _ g0 rfl rfl t66 rfl rfl rfl <| K.mkIface Y g0 rfl (mkI Tryz.underlying66 rfl) rfl <| K.callR [((.tmp 37), _)] (shelf_Slot_Sum_con (k := k) hx4) (toFn_invoke (cf 213 rfl) (me66_213) rfl) g0 ⟨rfl, trivial⟩ trivial rfl rfl rfl <| K.callR [((.tmp 34), _), ((.tmp 38), _)] (shelf_Size_Plus_con (k := k) hx5) (toFn_invoke (cf 214 rfl) (me67_214) rfl) g0 ⟨rfl, rfl, trivial⟩ trivial rfl rfl rfl <| K.mkIface Y g0 rfl (mkI Tryz.underlying67 rfl) rfl <| K.fieldAddr Y g0 rfl t127 rfl rfl <| K.load1 Y g0 rfl rfl t67 rfl rfl <| K.callR [((.tmp 40), _), ((.tmp 42), _)] (shelf_Size_Plus_con (k := k) hx6) (toFn_invoke (cf 214 rfl) (me67_214) rfl) g0 ⟨rfl, rfl, trivial⟩ trivial rfl rfl rfl <| K.fieldAddr Y g0 rfl t127 rfl rfl <| K.store Y _ g0 rfl rfl rfl t67 rfl rfl rfl rfl rfl <| K.nil <| And.intro (by kernel_rfl) <| At.ns ?_
 obtain ⟨x7, hx7, H0⟩ := bnd H0
 refine G.rd mixed <| K.mv rfl rfl <| K.nilCheck g0 rfl rfl <| K.fieldAddr Y g0 rfl t131 rfl rfl <| K.load1 Y g0 rfl rfl t129 rfl rfl <| K.loadS Y _ g0 rfl rfl t108 rfl rfl rfl <| K.loadS Y _ g0 rfl rfl t127 rfl rfl rfl <| K.call0 [(.func 122, _), ((.tmp 48), _), ((.tmp 49), _), ((.tmp 50), _)] (plsetS hx7 1) (toFn_func (cf 122 rfl) rfl) g0 ⟨rfl, rfl, rfl, rfl, trivial⟩ ⟨rfl, trivial⟩ rfl rfl rfl rfl rfl rfl <| K.nil <| And.intro (by kernel_rfl) <| At.nr <| K.loadS Y _ g0 rfl rfl t108 rfl rfl rfl <| K.store Y _ g0 rfl rfl rfl t108 rfl rfl rfl rfl rfl <| K.nil <| At.next <| G.ret <| At.done Y [(.cell 8 108, .agg [_, _])] rfl ⟨.st rfl rfl t108 rfl rfl, trivial⟩ (to' := [(0, _), (1, _)]) ⟨rfl, rfl, trivial⟩ ?_ ?_ rfl rfl rfl (.inl rfl)
 · cases H0; rfl
 · cases H0; rfl
theorem Tree_layS_con {k : Nat}  {p1 : Pool (TNode TSlot TSize)} {a1 : TRef} {a2 : TRef} {a3 : TRef} {ri0 rg0 : Int} {r : TRef × Pool (TNode TSlot TSize)}  (H0 : Tree_lay.f opsS k p1 a1 a2 a3 = some r) (m0 m1 : Nat) : Tree_layS_st p1 a1 a2 a3 ri0 rg0 r m0 m1 :=
 SCon.ren (rn [(0, m0), (1, m1)]) (Tree_layS_con0 (k := k)   H0) ⟨(blk_ren rfl rfl), (pl_ren rfl), trivial⟩ ⟨(blk_ren rfl rfl), (pl_ren rfl), trivial⟩ (by simp) (by simp)
abbrev Tree_turnRightS_st (p1 : Pool (TNode TSlot TSize)) (a1 : TRef) (ri0 : Int) (rg0 : Int) (r : TRef × Pool (TNode TSlot TSize)) (m0 : Nat) (m1 : Nat) : Prop := SCon Tryz.prog 156 [SV.p m0 0, .a (.agg ((eTRef a1).map .v))] [(m0, blk m0 [.p m1 0, .i ri0, .i rg0] 131), (m1, plS m1 p1)] (.a (.agg ((eTRef r.1).map .v))) [(m0, blk m0 [.p m1 0, .i ri0, .i rg0] 131), (m1, plS m1 r.2)] []
theorem Tree_turnRightS_con0 {k : Nat}  {p1 : Pool (TNode TSlot TSize)} {a1 : TRef} {ri0 rg0 : Int} {r : TRef × Pool (TNode TSlot TSize)}  (H0 : Tree_turnRight.f opsS k p1 a1 = some r) : Tree_turnRightS_st p1 a1 ri0 rg0 r 0 1 := by
 rw [Tree_turnRight.f] at H0
 refine spec_of [(0, _), (1, _)] [(0, _), (1, _)] 28 Tryz.func156 rfl Tryz.ntmps156 rfl rfl rfl rfl (fun β W F => ?_)
 refine G.seq <| G.rg <| K.box Y 100 _ g0 rfl rfl rfl rfl rfl rfl <| K.alloc Y 101 _ g0 t108 rfl rfl rfl rfl rfl <| K.nil <| At.ns ?_
 obtain ⟨x1, hx1, H0⟩ := bnd H0
 refine G.rg <| K.mv rfl rfl <| K.loadS Y _ g0 rfl rfl t108 rfl rfl rfl <| K.cR (cf 79 rfl) (Tree_getS_con hx1 0 1) g0 rfl rfl rfl rfl <| K.alloc Y 102 _ g0 t127 rfl rfl rfl rfl rfl <| K.store Y _ g0 rfl rfl rfl t127 rfl rfl rfl rfl rfl <| K.nil <| At.ns ?_
 obtain ⟨x2, hx2, H0⟩ := bnd H0
 refine G.rg <| K.mv rfl rfl <| K.fieldAddr Y g0 rfl t127 rfl rfl <| K.loadS Y _ g0 rfl rfl t108 rfl rfl rfl <| K.cR (cf 79 rfl) (Tree_getS_con hx2 0 1) g0 rfl rfl rfl rfl <| K.alloc Y 103 _ g0 t127 rfl rfl rfl rfl rfl <| K.store Y _ g0 rfl rfl rfl t127 rfl rfl rfl rfl rfl <| K.nil <| At.ns ?_
 obtain ⟨x3, hx3, H0⟩ := bnd H0
 refine G.rg <| K.mv rfl rfl <| K.loadS Y _ g0 rfl rfl t108 rfl rfl rfl <| K.fieldAddr Y g0 rfl t127 rfl rfl <| K.loadS Y _ g0 rfl rfl t108 rfl rfl rfl <| K.fieldAddr Y g0 rfl t127 rfl rfl <| K.loadS Y _ g0 rfl rfl t108 rfl rfl rfl <| K.c0 (cf 123 rfl) (Tree_layS_con hx3 0 1) g0 rfl rfl rfl rfl <| K.nil <| At.ns ?_
 obtain ⟨x4, hx4, H0⟩ := bnd H0
 refine G.rg <| K.mv rfl rfl <| K.fieldAddr Y g0 rfl t127 rfl rfl <| K.loadS Y _ g0 rfl rfl t108 rfl rfl rfl <| K.fieldAddr Y g0 rfl t127 rfl rfl <| K.loadS Y _ g0 rfl rfl t108 rfl rfl rfl <| K.loadS Y _ g0 rfl rfl t108 rfl rfl rfl <| K.c0 (cf 123 rfl) (Tree_layS_con hx4 0 1) g0 rfl rfl rfl rfl <| K.store Y _ g0 rfl rfl rfl t108 rfl rfl rfl rfl rfl <| K.nil <| At.next <| G.ret <| At.done Y [(.cell 4 108, .agg [_, _])] rfl ⟨.st rfl rfl t108 rfl rfl, trivial⟩ (to' := [(0, _), (1, _)]) ⟨rfl, rfl, trivial⟩ ?_ ?_ rfl rfl rfl (.inl rfl)
 · cases H0; rfl
 · cases H0; rfl
theorem Tree_turnRightS_con {k : Nat}  {p1 : Pool (TNode TSlot TSize)} {a1 : TRef} {ri0 rg0 : Int} {r : TRef × Pool (TNode TSlot TSize)}  (H0 : Tree_turnRight.f opsS k p1 a1 = some r) (m0 m1 : Nat) : Tree_turnRightS_st p1 a1 ri0 rg0 r m0 m1 :=
 SCon.ren (rn [(0, m0), (1, m1)]) (Tree_turnRightS_con0 (k := k)   H0) ⟨(blk_ren rfl rfl), (pl_ren rfl), trivial⟩ ⟨(blk_ren rfl rfl), (pl_ren rfl), trivial⟩ (by simp) (by simp)
abbrev Tree_turnLeftS_st (p1 : Pool (TNode TSlot TSize)) (a1 : TRef) (ri0 : Int) (rg0 : Int) (r : TRef × Pool (TNode TSlot TSize)) (m0 : Nat) (m1 : Nat) : Prop := SCon Tryz.prog 157 [SV.p m0 0, .a (.agg ((eTRef a1).map .v))] [(m0, blk m0 [.p m1 0, .i ri0, .i rg0] 131), (m1, plS m1 p1)] (.a (.agg ((eTRef r.1).map .v))) [(m0, blk m0 [.p m1 0, .i ri0, .i rg0] 131), (m1, plS m1 r.2)] []
theorem Tree_turnLeftS_con0 {k : Nat}  {p1 : Pool (TNode TSlot TSize)} {a1 : TRef} {ri0 rg0 : Int} {r : TRef × Pool (TNode TSlot TSize)}  (H0 : Tree_turnLeft.f opsS k p1 a1 = some r) : Tree_turnLeftS_st p1 a1 ri0 rg0 r 0 1 := by
 rw [Tree_turnLeft.f] at H0
 refine spec_of [(0, _), (1, _)] [(0, _), (1, _)] 28 Tryz.func157 rfl Tryz.ntmps157 rfl rfl rfl rfl (fun β W F => ?_)
 refine G.seq <| G.rg <| K.box Y 100 _ g0 rfl rfl rfl rfl rfl rfl <| K.alloc Y 101 _ g0 t108 rfl rfl rfl rfl rfl <| K.nil <| At.ns ?_
 obtain ⟨x1, hx1, H0⟩ := bnd H0
 refine G.rg <| K.mv rfl rfl <| K.loadS Y _ g0 rfl rfl t108 rfl rfl rfl <| K.cR (cf 79 rfl) (Tree_getS_con hx1 0 1) g0 rfl rfl rfl rfl <| K.alloc Y 102 _ g0 t127 rfl rfl rfl rfl rfl <| K.store Y _ g0 rfl rfl rfl t127 rfl rfl rfl rfl rfl <| K.nil <| At.ns ?_
 obtain ⟨x2, hx2, H0⟩ := bnd H0
 refine G.rg <| K.mv rfl rfl <| K.fieldAddr Y g0 rfl t127 rfl rfl <| K.loadS Y _ g0 rfl rfl t108 rfl rfl rfl <| K.cR (cf 79 rfl) (Tree_getS_con hx2 0 1) g0 rfl rfl rfl rfl <| K.alloc Y 103 _ g0 t127 rfl rfl rfl rfl rfl <| K.store Y _ g0 rfl rfl rfl t127 rfl rfl rfl rfl rfl <| K.nil <| At.ns ?_
 obtain ⟨x3, hx3, H0⟩ := bnd H0
 refine G.rg <| K.mv rfl rfl <| K.loadS Y _ g0 rfl rfl t108 rfl rfl rfl <| K.fieldAddr Y g0 rfl t127 rfl rfl <| K.loadS Y _ g0 rfl rfl t108 rfl rfl rfl <| K.fieldAddr Y g0 rfl t127 rfl rfl <| K.loadS Y _ g0 rfl rfl t108 rfl rfl rfl <| K.c0 (cf 123 rfl) (Tree_layS_con hx3 0 1) g0 rfl rfl rfl rfl <| K.nil <| At.ns ?_
 obtain ⟨x4, hx4, H0⟩ := bnd H0
 refine G.rg <| K.mv rfl rfl <| K.fieldAddr Y g0 rfl t127 rfl rfl <| K.loadS Y _ g0 rfl rfl t108 rfl rfl rfl <| K.loadS Y _ g0 rfl rfl t108 rfl rfl rfl <| K.fieldAddr Y g0 rfl t127 rfl rfl <| K.loadS Y _ g0 rfl rfl t108 rfl rfl rfl <| K.c0 (cf 123 rfl) (Tree_layS_con hx4 0 1) g0 rfl rfl rfl rfl <| K.store Y _ g0 rfl rfl rfl t108 rfl rfl rfl rfl rfl <| K.nil <| At.next <| G.ret <| At.done Y [(.cell 4 108, .agg [_, _])] rfl ⟨.st rfl rfl t108 rfl rfl, trivial⟩ (to' := [(0, _), (1, _)]) ⟨rfl, rfl, trivial⟩ ?_ ?_ rfl rfl rfl (.inl rfl)
 · cases H0; rfl
 · cases H0; rfl
theorem Tree_turnLeftS_con {k : Nat}  {p1 : Pool (TNode TSlot TSize)} {a1 : TRef} {ri0 rg0 : Int} {r : TRef × Pool (TNode TSlot TSize)}  (H0 : Tree_turnLeft.f opsS k p1 a1 = some r) (m0 m1 : Nat) : Tree_turnLeftS_st p1 a1 ri0 rg0 r m0 m1 :=
 SCon.ren (rn [(0, m0), (1, m1)]) (Tree_turnLeftS_con0 (k := k)   H0) ⟨(blk_ren rfl rfl), (pl_ren rfl), trivial⟩ ⟨(blk_ren rfl rfl), (pl_ren rfl), trivial⟩ (by simp) (by simp)
abbrev Tree_balanceS_st (p1 : Pool (TNode TSlot TSize)) (a1 : TRef) (ri0 : Int) (rg0 : Int) (r : TRef × Pool (TNode TSlot TSize)) (m0 : Nat) (m1 : Nat) : Prop := SCon Tryz.prog 145 [SV.p m0 0, .a (.agg ((eTRef a1).map .v))] [(m0, blk m0 [.p m1 0, .i ri0, .i rg0] 131), (m1, plS m1 p1)] (.a (.agg ((eTRef r.1).map .v))) [(m0, blk m0 [.p m1 0, .i ri0, .i rg0] 131), (m1, plS m1 r.2)] []
theorem Tree_balanceS_con0 {k : Nat}  {p1 : Pool (TNode TSlot TSize)} {a1 : TRef} {ri0 rg0 : Int} {r : TRef × Pool (TNode TSlot TSize)}  (H0 : Tree_balance.f opsS k p1 a1 = some r) : Tree_balanceS_st p1 a1 ri0 rg0 r 0 1 := by
 rw [Tree_balance.f] at H0
 refine spec_of [(0, _), (1, _)] [(0, _), (1, _)] 84 Tryz.func145 rfl Tryz.ntmps145 rfl rfl rfl rfl (fun β W F => ?_)
 refine G.seq <| G.rg <| K.box Y 100 _ g0 rfl rfl rfl rfl rfl rfl <| K.alloc Y 101 _ g0 t108 rfl rfl rfl rfl rfl <| K.nil <| At.ns ?_
 obtain ⟨x1, hx1, H0⟩ := bnd H0
 refine G.rg <| K.mv rfl rfl <| K.loadS Y _ g0 rfl rfl t108 rfl rfl rfl <| K.cR (cf 79 rfl) (Tree_getS_con hx1 0 1) g0 rfl rfl rfl rfl <| K.alloc Y 102 _ g0 t127 rfl rfl rfl rfl rfl <| K.store Y _ g0 rfl rfl rfl t127 rfl rfl rfl rfl rfl <| K.nil <| At.ns ?_
 obtain ⟨x2, hx2, H0⟩ := bnd H0
 obtain ⟨x3, hx3, H0⟩ := bnd H0
 refine G.rd mixed <| K.mv rfl rfl <| K.fieldAddr Y g0 rfl t127 rfl rfl <| K.loadS Y _ g0 rfl rfl t108 rfl rfl rfl <| K.cR (cf 144 rfl) (Tree_weightS_con hx2 0 1) g0 rfl rfl rfl rfl <| K.mv rfl rfl <| K.fieldAddr Y g0 rfl t127 rfl rfl <| K.loadS Y _ g0 rfl rfl t108 rfl rfl rfl <| K.cR (cf 144 rfl) (Tree_weightS_con hx3 0 1) g0 rfl rfl rfl rfl <| K.as rfl rfl <| K.as rfl rfl <| K.nil <| And.intro (by kernel_rfl) <| At.ns <| G.block <| G.seq <| G.rg <| K.mv rfl rfl <| K.mv rfl rfl <| K.bin (V := .int .i64 (w64 (3 * x2))) g0 rfl rfl (fun _ => rfl) rfl <| K.bin (V := .bool (decide (x3 > (w64 (3 * x2))))) g0 rfl rfl (fun _ => rfl) rfl <| K.as rfl rfl <| K.nil <| At.next <| G.cond rfl (fun h1 => ?_) (fun h1 => ?_)
 ·
  replace H0 := bif_t H0 h1
  refine G.seq ?_
  obtain ⟨x4, hx4, H0⟩ := bnd H0
  refine G.rg <| K.mv rfl rfl <| K.fieldAddr Y g0 rfl t127 rfl rfl <| K.loadS Y _ g0 rfl rfl t108 rfl rfl rfl <| K.cR (cf 79 rfl) (Tree_getS_con hx4 0 1) g0 rfl rfl rfl rfl <| K.alloc Y 103 _ g0 t127 rfl rfl rfl rfl rfl <| K.store Y _ g0 rfl rfl rfl t127 rfl rfl rfl rfl rfl <| K.nil <| At.ns <| G.seq ?_
  obtain ⟨x5, hx5, H0⟩ := bnd H0
  obtain ⟨x6, hx6, H0⟩ := bnd H0
  refine G.rd mixed <| K.mv rfl rfl <| K.fieldAddr Y g0 rfl t127 rfl rfl <| K.loadS Y _ g0 rfl rfl t108 rfl rfl rfl <| K.cR (cf 144 rfl) (Tree_weightS_con hx5 0 1) g0 rfl rfl rfl rfl <| K.mv rfl rfl <| K.fieldAddr Y g0 rfl t127 rfl rfl <| K.loadS Y _ g0 rfl rfl t108 rfl rfl rfl <| K.cR (cf 144 rfl) (Tree_weightS_con hx6 0 1) g0 rfl rfl rfl rfl <| K.bin (V := .int .i64 (w64 (2 * x6))) g0 rfl rfl (fun _ => rfl) rfl <| K.bin (V := .bool (decide (x5 ≥ (w64 (2 * x6))))) g0 rfl rfl (fun _ => rfl) rfl <| K.nil <| And.intro (by kernel_rfl) <| At.next <| G.cond rfl (fun h2 => ?_) (fun h2 => ?_)
  ·
   replace H0 := bif_t H0 h2
   obtain ⟨x7, hx7, H0⟩ := bnd H0
   obtain ⟨x8, hx8, H0⟩ := bnd H0
   refine G.rd mixed <| K.mv rfl rfl <| K.loadS Y _ g0 rfl rfl t108 rfl rfl rfl <| K.fieldAddr Y g0 rfl t127 rfl rfl <| K.loadS Y _ g0 rfl rfl t108 rfl rfl rfl <| K.mv rfl rfl <| K.fieldAddr Y g0 rfl t127 rfl rfl <| K.loadS Y _ g0 rfl rfl t108 rfl rfl rfl <| K.c0 (cf 156 rfl) (Tree_turnRightS_con hx7 0 1) g0 rfl rfl rfl rfl <| K.c0 (cf 123 rfl) (Tree_layS_con hx8 0 1) g0 rfl rfl rfl rfl <| K.nil <| And.intro (by kernel_rfl) <| At.ns ?_
   obtain ⟨x9, hx9, H0⟩ := bnd H0
   refine G.rg <| K.mv rfl rfl <| K.loadS Y _ g0 rfl rfl t108 rfl rfl rfl <| K.c0 (cf 157 rfl) (Tree_turnLeftS_con hx9 0 1) g0 rfl rfl rfl rfl <| K.store Y _ g0 rfl rfl rfl t108 rfl rfl rfl rfl rfl <| K.nil <| At.next <| G.ret <| At.block_ret <| At.over_ret <| At.done Y [(.cell 4 108, .agg [_, _])] rfl ⟨.st rfl rfl t108 rfl rfl, trivial⟩ (to' := [(0, _), (1, _)]) ⟨rfl, rfl, trivial⟩ ?_ ?_ rfl rfl rfl (.inl rfl)
   · cases H0; rfl
   · cases H0; rfl
  ·
   replace H0 := bif_f H0 h2
   refine G.skip <| At.ns ?_
   obtain ⟨x10, hx10, H0⟩ := bnd H0
   refine G.rg <| K.mv rfl rfl <| K.loadS Y _ g0 rfl rfl t108 rfl rfl rfl <| K.c0 (cf 157 rfl) (Tree_turnLeftS_con hx10 0 1) g0 rfl rfl rfl rfl <| K.store Y _ g0 rfl rfl rfl t108 rfl rfl rfl rfl rfl <| K.nil <| At.next <| G.ret <| At.block_ret <| At.over_ret <| At.done Y [(.cell 4 108, .agg [_, _])] rfl ⟨.st rfl rfl t108 rfl rfl, trivial⟩ (to' := [(0, _), (1, _)]) ⟨rfl, rfl, trivial⟩ ?_ ?_ rfl rfl rfl (.inl rfl)
   · cases H0; rfl
   · cases H0; rfl
 ·
  replace H0 := bif_f H0 h1
  refine G.seq <| G.rg <| K.mv rfl rfl <| K.mv rfl rfl <| K.bin (V := .int .i64 (w64 (3 * x3))) g0 rfl rfl (fun _ => rfl) rfl <| K.bin (V := .bool (decide (x2 > (w64 (3 * x3))))) g0 rfl rfl (fun _ => rfl) rfl <| K.as rfl rfl <| K.nil <| At.next <| G.cond rfl (fun h3 => ?_) (fun h3 => ?_)
  ·
   replace H0 := bif_t H0 h3
   refine G.seq ?_
   obtain ⟨x11, hx11, H0⟩ := bnd H0
   refine G.rg <| K.mv rfl rfl <| K.fieldAddr Y g0 rfl t127 rfl rfl <| K.loadS Y _ g0 rfl rfl t108 rfl rfl rfl <| K.cR (cf 79 rfl) (Tree_getS_con hx11 0 1) g0 rfl rfl rfl rfl <| K.alloc Y 104 _ g0 t127 rfl rfl rfl rfl rfl <| K.store Y _ g0 rfl rfl rfl t127 rfl rfl rfl rfl rfl <| K.nil <| At.ns <| G.seq ?_
   obtain ⟨x12, hx12, H0⟩ := bnd H0
   obtain ⟨x13, hx13, H0⟩ := bnd H0
   refine G.rd mixed <| K.mv rfl rfl <| K.fieldAddr Y g0 rfl t127 rfl rfl <| K.loadS Y _ g0 rfl rfl t108 rfl rfl rfl <| K.cR (cf 144 rfl) (Tree_weightS_con hx12 0 1) g0 rfl rfl rfl rfl <| K.mv rfl rfl <| K.fieldAddr Y g0 rfl t127 rfl rfl <| K.loadS Y _ g0 rfl rfl t108 rfl rfl rfl <| K.cR (cf 144 rfl) (Tree_weightS_con hx13 0 1) g0 rfl rfl rfl rfl <| K.bin (V := .int .i64 (w64 (2 * x13))) g0 rfl rfl (fun _ => rfl) rfl <| K.bin (V := .bool (decide (x12 ≥ (w64 (2 * x13))))) g0 rfl rfl (fun _ => rfl) rfl <| K.nil <| And.intro (by kernel_rfl) <| At.next <| G.cond rfl (fun h4 => ?_) (fun h4 => ?_)
   ·
    replace H0 := bif_t H0 h4
    obtain ⟨x14, hx14, H0⟩ := bnd H0
    obtain ⟨x15, hx15, H0⟩ := bnd H0
    refine G.rd mixed <| K.mv rfl rfl <| K.loadS Y _ g0 rfl rfl t108 rfl rfl rfl <| K.mv rfl rfl <| K.fieldAddr Y g0 rfl t127 rfl rfl <| K.loadS Y _ g0 rfl rfl t108 rfl rfl rfl <| K.c0 (cf 157 rfl) (Tree_turnLeftS_con hx14 0 1) g0 rfl rfl rfl rfl <| K.fieldAddr Y g0 rfl t127 rfl rfl <| K.loadS Y _ g0 rfl rfl t108 rfl rfl rfl <| K.c0 (cf 123 rfl) (Tree_layS_con hx15 0 1) g0 rfl rfl rfl rfl <| K.nil <| And.intro (by kernel_rfl) <| At.ns ?_
    obtain ⟨x16, hx16, H0⟩ := bnd H0
    refine G.rg <| K.mv rfl rfl <| K.loadS Y _ g0 rfl rfl t108 rfl rfl rfl <| K.c0 (cf 156 rfl) (Tree_turnRightS_con hx16 0 1) g0 rfl rfl rfl rfl <| K.store Y _ g0 rfl rfl rfl t108 rfl rfl rfl rfl rfl <| K.nil <| At.next <| G.ret <| At.block_ret <| At.over_ret <| At.done Y [(.cell 4 108, .agg [_, _])] rfl ⟨.st rfl rfl t108 rfl rfl, trivial⟩ (to' := [(0, _), (1, _)]) ⟨rfl, rfl, trivial⟩ ?_ ?_ rfl rfl rfl (.inl rfl)
    · cases H0; rfl
    · cases H0; rfl
   ·
    replace H0 := bif_f H0 h4
    refine G.skip <| At.ns ?_
    obtain ⟨x17, hx17, H0⟩ := bnd H0
    refine G.rg <| K.mv rfl rfl <| K.loadS Y _ g0 rfl rfl t108 rfl rfl rfl <| K.c0 (cf 156 rfl) (Tree_turnRightS_con hx17 0 1) g0 rfl rfl rfl rfl <| K.store Y _ g0 rfl rfl rfl t108 rfl rfl rfl rfl rfl <| K.nil <| At.next <| G.ret <| At.block_ret <| At.over_ret <| At.done Y [(.cell 4 108, .agg [_, _])] rfl ⟨.st rfl rfl t108 rfl rfl, trivial⟩ (to' := [(0, _), (1, _)]) ⟨rfl, rfl, trivial⟩ ?_ ?_ rfl rfl rfl (.inl rfl)
    · cases H0; rfl
    · cases H0; rfl
  ·
   replace H0 := bif_f H0 h3
   refine G.skip <| At.block_normal <| At.nr <| K.loadS Y _ g0 rfl rfl t108 rfl rfl rfl <| K.store Y _ g0 rfl rfl rfl t108 rfl rfl rfl rfl rfl <| K.nil <| At.next <| G.ret <| At.done Y [(.cell 4 108, .agg [_, _])] rfl ⟨.st rfl rfl t108 rfl rfl, trivial⟩ (to' := [(0, _), (1, _)]) ⟨rfl, rfl, trivial⟩ ?_ ?_ rfl rfl rfl (.inl rfl)
   · cases H0; rfl
   · cases H0; rfl
theorem Tree_balanceS_con {k : Nat}  {p1 : Pool (TNode TSlot TSize)} {a1 : TRef} {ri0 rg0 : Int} {r : TRef × Pool (TNode TSlot TSize)}  (H0 : Tree_balance.f opsS k p1 a1 = some r) (m0 m1 : Nat) : Tree_balanceS_st p1 a1 ri0 rg0 r m0 m1 :=
 SCon.ren (rn [(0, m0), (1, m1)]) (Tree_balanceS_con0 (k := k)   H0) ⟨(blk_ren rfl rfl), (pl_ren rfl), trivial⟩ ⟨(blk_ren rfl rfl), (pl_ren rfl), trivial⟩ (by simp) (by simp)
abbrev Tree_linkS_st (p1 : Pool (TNode TSlot TSize)) (a1 : TRef) (a2 : TRef) (a3 : TRef) (ri0 : Int) (rg0 : Int) (r : TRef × Pool (TNode TSlot TSize)) (m0 : Nat) (m1 : Nat) : Prop := SCon Tryz.prog 121 [SV.p m0 0, .a (.agg ((eTRef a1).map .v)), .a (.agg ((eTRef a2).map .v)), .a (.agg ((eTRef a3).map .v))] [(m0, blk m0 [.p m1 0, .i ri0, .i rg0] 131), (m1, plS m1 p1)] (.a (.agg ((eTRef r.1).map .v))) [(m0, blk m0 [.p m1 0, .i ri0, .i rg0] 131), (m1, plS m1 r.2)] []
theorem Tree_linkS_con0 {k : Nat}  : ∀ {n : Nat} {p1 : Pool (TNode TSlot TSize)} {a1 : TRef} {a2 : TRef} {a3 : TRef} {ri0 rg0 : Int} {r : TRef × Pool (TNode TSlot TSize)}  (H0 : Tree_link.r opsS k n p1 a1 a2 a3 = some r), Tree_linkS_st p1 a1 a2 a3 ri0 rg0 r 0 1 := by
 intro n
 induction n with
 | zero => intro p1 a1 a2 a3 ri0 rg0 r H0; exact absurd H0 (by simp [Tree_link.r])
 | succ n ih =>
  intro p1 a1 a2 a3 ri0 rg0 r H0
  rw [Tree_link.r] at H0
  refine spec_of [(0, _), (1, _), (2, _), (3, _)] [(0, _), (1, _)] 66 Tryz.func121 rfl Tryz.ntmps121 rfl rfl rfl rfl (fun β W F => ?_)
  refine G.seq <| G.rg <| K.box Y 100 _ g0 rfl rfl rfl rfl rfl rfl <| K.box Y 101 _ g0 rfl rfl rfl rfl rfl rfl <| K.box Y 102 _ g0 rfl rfl rfl rfl rfl rfl <| K.alloc Y 103 _ g0 t108 rfl rfl rfl rfl rfl <| K.nil <| At.ns ?_
  obtain ⟨x1, hx1, H0⟩ := bnd H0
  obtain ⟨x2, hx2, H0⟩ := bnd H0
  refine G.rd mixed <| K.mv rfl rfl <| K.loadS Y _ g0 rfl rfl t108 rfl rfl rfl <| K.cR (cf 144 rfl) (Tree_weightS_con hx1 0 1) g0 rfl rfl rfl rfl <| K.mv rfl rfl <| K.loadS Y _ g0 rfl rfl t108 rfl rfl rfl <| K.cR (cf 144 rfl) (Tree_weightS_con hx2 0 1) g0 rfl rfl rfl rfl <| K.as rfl rfl <| K.as rfl rfl <| K.nil <| And.intro (by kernel_rfl) <| At.ns <| G.block <| G.seq <| G.rg <| K.mv rfl rfl <| K.mv rfl rfl <| K.bin (V := .int .i64 (w64 (3 * x1))) g0 rfl rfl (fun _ => rfl) rfl <| K.bin (V := .bool (decide (x2 > (w64 (3 * x1))))) g0 rfl rfl (fun _ => rfl) rfl <| K.as rfl rfl <| K.nil <| At.next <| G.cond rfl (fun h1 => ?_) (fun h1 => ?_)
  ·
   replace H0 := bif_t H0 h1
   refine G.seq ?_
   obtain ⟨x3, hx3, H0⟩ := bnd H0
   refine G.rg <| K.mv rfl rfl <| K.loadS Y _ g0 rfl rfl t108 rfl rfl rfl <| K.cR (cf 79 rfl) (Tree_getS_con hx3 0 1) g0 rfl rfl rfl rfl <| K.alloc Y 104 _ g0 t127 rfl rfl rfl rfl rfl <| K.store Y _ g0 rfl rfl rfl t127 rfl rfl rfl rfl rfl <| K.nil <| At.ns ?_
   obtain ⟨x4, hx4, H0⟩ := bnd H0
   obtain ⟨x5, hx5, H0⟩ := bnd H0
   obtain ⟨x6, hx6, H0⟩ := bnd H0
   refine G.rd mixed <| K.mv rfl rfl <| K.mv rfl rfl <| K.loadS Y _ g0 rfl rfl t108 rfl rfl rfl <| K.mv rfl rfl <| K.loadS Y _ g0 rfl rfl t108 rfl rfl rfl <| K.loadS Y _ g0 rfl rfl t108 rfl rfl rfl <| K.fieldAddr Y g0 rfl t127 rfl rfl <| K.loadS Y _ g0 rfl rfl t108 rfl rfl rfl <| K.c0 (cf 121 rfl) (ih hx4) g0 rfl rfl rfl rfl <| K.fieldAddr Y g0 rfl t127 rfl rfl <| K.loadS Y _ g0 rfl rfl t108 rfl rfl rfl <| K.c0 (cf 123 rfl) (Tree_layS_con hx5 0 1) g0 rfl rfl rfl rfl <| K.c0 (cf 145 rfl) (Tree_balanceS_con hx6 0 1) g0 rfl rfl rfl rfl <| K.store Y _ g0 rfl rfl rfl t108 rfl rfl rfl rfl rfl <| K.nil <| And.intro (by kernel_rfl) <| At.next <| G.ret <| At.block_ret <| At.over_ret <| At.done Y [(.cell 8 108, .agg [_, _])] rfl ⟨.st rfl rfl t108 rfl rfl, trivial⟩ (to' := [(0, _), (1, _)]) ⟨rfl, rfl, trivial⟩ ?_ ?_ rfl rfl rfl (.inl rfl)
   · cases H0; rfl
   · cases H0; rfl
  ·
   replace H0 := bif_f H0 h1
   refine G.seq <| G.rg <| K.mv rfl rfl <| K.mv rfl rfl <| K.bin (V := .int .i64 (w64 (3 * x2))) g0 rfl rfl (fun _ => rfl) rfl <| K.bin (V := .bool (decide (x1 > (w64 (3 * x2))))) g0 rfl rfl (fun _ => rfl) rfl <| K.as rfl rfl <| K.nil <| At.next <| G.cond rfl (fun h2 => ?_) (fun h2 => ?_)
   ·
    replace H0 := bif_t H0 h2
    refine G.seq ?_
    obtain ⟨x7, hx7, H0⟩ := bnd H0
    refine G.rg <| K.mv rfl rfl <| K.loadS Y _ g0 rfl rfl t108 rfl rfl rfl <| K.cR (cf 79 rfl) (Tree_getS_con hx7 0 1) g0 rfl rfl rfl rfl <| K.alloc Y 105 _ g0 t127 rfl rfl rfl rfl rfl <| K.store Y _ g0 rfl rfl rfl t127 rfl rfl rfl rfl rfl <| K.nil <| At.ns ?_
    obtain ⟨x8, hx8, H0⟩ := bnd H0
    obtain ⟨x9, hx9, H0⟩ := bnd H0
    obtain ⟨x10, hx10, H0⟩ := bnd H0
    refine G.rd mixed <| K.mv rfl rfl <| K.mv rfl rfl <| K.loadS Y _ g0 rfl rfl t108 rfl rfl rfl <| K.fieldAddr Y g0 rfl t127 rfl rfl <| K.loadS Y _ g0 rfl rfl t108 rfl rfl rfl <| K.mv rfl rfl <| K.fieldAddr Y g0 rfl t127 rfl rfl <| K.loadS Y _ g0 rfl rfl t108 rfl rfl rfl <| K.loadS Y _ g0 rfl rfl t108 rfl rfl rfl <| K.loadS Y _ g0 rfl rfl t108 rfl rfl rfl <| K.c0 (cf 121 rfl) (ih hx8) g0 rfl rfl rfl rfl <| K.c0 (cf 123 rfl) (Tree_layS_con hx9 0 1) g0 rfl rfl rfl rfl <| K.c0 (cf 145 rfl) (Tree_balanceS_con hx10 0 1) g0 rfl rfl rfl rfl <| K.store Y _ g0 rfl rfl rfl t108 rfl rfl rfl rfl rfl <| K.nil <| And.intro (by kernel_rfl) <| At.next <| G.ret <| At.block_ret <| At.over_ret <| At.done Y [(.cell 8 108, .agg [_, _])] rfl ⟨.st rfl rfl t108 rfl rfl, trivial⟩ (to' := [(0, _), (1, _)]) ⟨rfl, rfl, trivial⟩ ?_ ?_ rfl rfl rfl (.inl rfl)
    · cases H0; rfl
    · cases H0; rfl
   ·
    replace H0 := bif_f H0 h2
    refine G.skip <| At.block_normal <| At.ns ?_
    obtain ⟨x11, hx11, H0⟩ := bnd H0
    refine G.rg <| K.mv rfl rfl <| K.loadS Y _ g0 rfl rfl t108 rfl rfl rfl <| K.loadS Y _ g0 rfl rfl t108 rfl rfl rfl <| K.loadS Y _ g0 rfl rfl t108 rfl rfl rfl <| K.c0 (cf 123 rfl) (Tree_layS_con hx11 0 1) g0 rfl rfl rfl rfl <| K.store Y _ g0 rfl rfl rfl t108 rfl rfl rfl rfl rfl <| K.nil <| At.next <| G.ret <| At.done Y [(.cell 8 108, .agg [_, _])] rfl ⟨.st rfl rfl t108 rfl rfl, trivial⟩ (to' := [(0, _), (1, _)]) ⟨rfl, rfl, trivial⟩ ?_ ?_ rfl rfl rfl (.inl rfl)
    · cases H0; rfl
    · cases H0; rfl
theorem Tree_linkS_con {k n : Nat}  {p1 : Pool (TNode TSlot TSize)} {a1 : TRef} {a2 : TRef} {a3 : TRef} {ri0 rg0 : Int} {r : TRef × Pool (TNode TSlot TSize)}  (H0 : Tree_link.r opsS k n p1 a1 a2 a3 = some r) (m0 m1 : Nat) : Tree_linkS_st p1 a1 a2 a3 ri0 rg0 r m0 m1 :=
 SCon.ren (rn [(0, m0), (1, m1)]) (Tree_linkS_con0 (k := k)   H0) ⟨(blk_ren rfl rfl), (pl_ren rfl), trivial⟩ ⟨(blk_ren rfl rfl), (pl_ren rfl), trivial⟩ (by simp) (by simp)
abbrev Tree_putS_st (p1 : Pool (TNode TSlot TSize)) (a1 : TRef) (a2 : TSlot) (ri0 : Int) (rg0 : Int) (r : TRef × Bool × Pool (TNode TSlot TSize)) (m0 : Nat) (m1 : Nat) : Prop := SCon Tryz.prog 100 [SV.p m0 0, .a (.agg ((eTRef a1).map .v)), .a (.agg ((eTSlot a2).map .v))] [(m0, blk m0 [.p m1 0, .i ri0, .i rg0] 131), (m1, plS m1 p1)] (.tup [.agg ((eTRef r.1).map .v), .c (.v (.bool r.2.1))]) [(m0, blk m0 [.p m1 0, .i ri0, .i rg0] 131), (m1, plS m1 r.2.2)] []
set_option maxHeartbeats 4000000 in
theorem Tree_putS_con0 {k : Nat}  : ∀ {n : Nat} {p1 : Pool (TNode TSlot TSize)} {a1 : TRef} {a2 : TSlot} {ri0 rg0 : Int} {r : TRef × Bool × Pool (TNode TSlot TSize)}  (H0 : Tree_put.r opsS k n p1 a1 a2 = some r), Tree_putS_st p1 a1 a2 ri0 rg0 r 0 1 := by
 intro n
 induction n with
 | zero => intro p1 a1 a2 ri0 rg0 r H0; exact absurd H0 (by simp [Tree_put.r])
 | succ n ih =>
  intro p1 a1 a2 ri0 rg0 r H0
  rw [Tree_put.r] at H0
  refine spec_of [(0, _), (1, _), (2, _)] [(0, _), (1, _)] 98 Tryz.func100 rfl Tryz.ntmps100 rfl rfl rfl rfl (fun β W F => ?_)
  refine G.seq <| G.rg <| K.box Y 100 _ g0 rfl rfl rfl rfl rfl rfl <| K.box Y 101 _ g0 rfl rfl rfl rfl rfl rfl <| K.alloc Y 102 _ g0 t108 rfl rfl rfl rfl rfl <| K.as rfl rfl <| K.nil <| At.ns <| G.seq <| G.rg <| K.fieldAddr Y g0 rfl t108 rfl rfl <| K.load1 Y g0 rfl rfl t3 rfl rfl <| K.bin (V := .bool (a1.gen == 0)) g0 rfl rfl (fun _ => rfl) rfl <| K.nil <| At.next <| G.cond rfl (fun h1 => ?_) (fun h1 => ?_)
  ·
   replace H0 := bif_t H0 h1
   refine G.seq ?_
   obtain ⟨x1, hx1, H0⟩ := bnd H0
   obtain ⟨x2, hx2, H0⟩ := bnd H0
   refine G.rd mixed <| K.mv rfl rfl <| K.nilCheck g0 rfl rfl <| K.fieldAddr Y g0 rfl t131 rfl rfl <| K.load1 Y g0 rfl rfl t129 rfl rfl <| K.loadS Y _ g0 rfl rfl t66 rfl rfl rfl <| K.loadS Y _ g0 rfl rfl t66 rfl rfl rfl <| K.mkIface Y g0 rfl (mkI Tryz.underlying66 rfl) rfl <| K.callR [((.tmp 26), _)] (shelf_Slot_Sum_con (k := k) hx1) (toFn_invoke (cf 213 rfl) (me66_213) rfl) g0 ⟨rfl, trivial⟩ trivial rfl rfl rfl <| K.build Y [(0, _), (3, _), (4, _)] [_, _, _, _, _, _, _, _, _, _] [((.tmp 24), _), (_, _), ((.tmp 27), _)] g0 (AllE.spec ⟨rfl, rfl, rfl, trivial⟩) rfl rfl t127 rfl rfl <| K.call0 [(.func 120, _), ((.tmp 23), _), ((.tmp 28), _)] (plputS hx2 1) (toFn_func (cf 120 rfl) rfl) g0 ⟨rfl, rfl, rfl, trivial⟩ ⟨rfl, trivial⟩ rfl rfl rfl rfl rfl rfl <| K.mv rfl rfl <| K.extract g0 rfl rfl rfl <| K.extract g0 rfl rfl rfl <| K.alloc Y 103 _ g0 t108 rfl rfl rfl rfl rfl <| K.store Y _ g0 rfl rfl rfl t108 rfl rfl rfl rfl rfl <| K.as rfl rfl <| K.nil <| And.intro (by kernel_rfl) <| At.nr <| K.loadS Y _ g0 rfl rfl t108 rfl rfl rfl <| K.mv rfl rfl <| K.store Y _ g0 rfl rfl rfl t108 rfl rfl rfl rfl rfl <| K.as rfl rfl <| K.nil <| At.next <| G.ret <| At.over_ret <| At.done Y [(.cell 6 108, .agg [_, _]), (.tmp 7, .c _)] rfl ⟨.st rfl rfl t108 rfl rfl, .tmp rfl, trivial⟩ (to' := [(0, _), (1, _)]) ⟨rfl, rfl, trivial⟩ ?_ ?_ rfl rfl rfl (.inl rfl)
   · cases H0; rfl
   · cases H0; rfl
  ·
   replace H0 := bif_f H0 h1
   refine G.skip <| At.ns ?_
   obtain ⟨x3, hx3, H0⟩ := bnd H0
   refine G.rg <| K.mv rfl rfl <| K.loadS Y _ g0 rfl rfl t108 rfl rfl rfl <| K.cR (cf 79 rfl) (Tree_getS_con hx3 0 1) g0 rfl rfl rfl rfl <| K.alloc Y 104 _ g0 t127 rfl rfl rfl rfl rfl <| K.store Y _ g0 rfl rfl rfl t127 rfl rfl rfl rfl rfl <| K.nil <| At.ns ?_
   obtain ⟨x4, hx4, H0⟩ := bnd H0
   refine G.rg <| K.loadS Y _ g0 rfl rfl t66 rfl rfl rfl <| K.mkIface Y g0 rfl (mkI Tryz.underlying66 rfl) rfl <| K.fieldAddr Y g0 rfl t127 rfl rfl <| K.loadS Y _ g0 rfl rfl t66 rfl rfl rfl <| K.callR [((.tmp 38), _), ((.tmp 40), _)] (shelf_Slot_Compare_con (k := k) hx4) (toFn_invoke (cf 212 rfl) (me66_212) rfl) g0 ⟨rfl, rfl, trivial⟩ trivial rfl rfl rfl <| K.as rfl rfl <| K.nil <| At.ns <| G.block <| G.seq <| G.rg <| K.mv rfl rfl <| K.bin (V := .bool (decide (x4 < 0))) g0 rfl rfl (fun _ => rfl) rfl <| K.as rfl rfl <| K.nil <| At.next <| G.cond rfl (fun h2 => ?_) (fun h2 => ?_)
   ·
    replace H0 := bif_t H0 h2
    refine G.seq ?_
    obtain ⟨x5, hx5, H0⟩ := bnd H0
    refine G.rg <| K.mv rfl rfl <| K.fieldAddr Y g0 rfl t127 rfl rfl <| K.loadS Y _ g0 rfl rfl t108 rfl rfl rfl <| K.loadS Y _ g0 rfl rfl t66 rfl rfl rfl <| K.c0 (cf 100 rfl) (ih hx5) g0 rfl rfl rfl rfl <| K.mv rfl rfl <| K.extract g0 rfl rfl rfl <| K.extract g0 rfl rfl rfl <| K.alloc Y 105 _ g0 t108 rfl rfl rfl rfl rfl <| K.store Y _ g0 rfl rfl rfl t108 rfl rfl rfl rfl rfl <| K.as rfl rfl <| K.nil <| At.ns <| G.seq <| G.rg <| K.mv rfl rfl <| K.un (V := .bool (!x5.2.1)) g0 rfl (fun _ => rfl) rfl <| K.nil <| At.next <| G.cond rfl (fun h3 => ?_) (fun h3 => ?_)
    ·
     replace H0 := bif_t H0 h3
     refine G.seq <| G.rg <| K.loadS Y _ g0 rfl rfl t108 rfl rfl rfl <| K.store Y _ g0 rfl rfl rfl t108 rfl rfl rfl rfl rfl <| K.as rfl rfl <| K.nil <| At.next <| G.ret <| At.over_ret <| At.block_ret <| At.over_ret <| At.done Y [(.cell 6 108, .agg [_, _]), (.tmp 7, .c _)] rfl ⟨.st rfl rfl t108 rfl rfl, .tmp rfl, trivial⟩ (to' := [(0, _), (1, _)]) ⟨rfl, rfl, trivial⟩ ?_ ?_ rfl rfl rfl (.inl rfl)
     · cases H0; rfl
     · cases H0; rfl
    ·
     replace H0 := bif_f H0 h3
     refine G.skip <| At.ns ?_
     obtain ⟨x6, hx6, H0⟩ := bnd H0
     refine G.rg <| K.mv rfl rfl <| K.loadS Y _ g0 rfl rfl t108 rfl rfl rfl <| K.loadS Y _ g0 rfl rfl t108 rfl rfl rfl <| K.fieldAddr Y g0 rfl t127 rfl rfl <| K.loadS Y _ g0 rfl rfl t108 rfl rfl rfl <| K.c0 (cf 121 rfl) (Tree_linkS_con hx6 0 1) g0 rfl rfl rfl rfl <| K.store Y _ g0 rfl rfl rfl t108 rfl rfl rfl rfl rfl <| K.as rfl rfl <| K.nil <| At.next <| G.ret <| At.block_ret <| At.over_ret <| At.done Y [(.cell 6 108, .agg [_, _]), (.tmp 7, .c _)] rfl ⟨.st rfl rfl t108 rfl rfl, .tmp rfl, trivial⟩ (to' := [(0, _), (1, _)]) ⟨rfl, rfl, trivial⟩ ?_ ?_ rfl rfl rfl (.inl rfl)
     · cases H0; rfl
     · cases H0; rfl
   ·
    replace H0 := bif_f H0 h2
    refine G.seq <| G.rg <| K.mv rfl rfl <| K.bin (V := .bool (decide (x4 > 0))) g0 rfl rfl (fun _ => rfl) rfl <| K.as rfl rfl <| K.nil <| At.next <| G.cond rfl (fun h4 => ?_) (fun h4 => ?_)
    ·
     replace H0 := bif_t H0 h4
     refine G.seq ?_
     obtain ⟨x7, hx7, H0⟩ := bnd H0
     refine G.rg <| K.mv rfl rfl <| K.fieldAddr Y g0 rfl t127 rfl rfl <| K.loadS Y _ g0 rfl rfl t108 rfl rfl rfl <| K.loadS Y _ g0 rfl rfl t66 rfl rfl rfl <| K.c0 (cf 100 rfl) (ih hx7) g0 rfl rfl rfl rfl <| K.mv rfl rfl <| K.extract g0 rfl rfl rfl <| K.extract g0 rfl rfl rfl <| K.alloc Y 106 _ g0 t108 rfl rfl rfl rfl rfl <| K.store Y _ g0 rfl rfl rfl t108 rfl rfl rfl rfl rfl <| K.as rfl rfl <| K.nil <| At.ns <| G.seq <| G.rg <| K.mv rfl rfl <| K.un (V := .bool (!x7.2.1)) g0 rfl (fun _ => rfl) rfl <| K.nil <| At.next <| G.cond rfl (fun h5 => ?_) (fun h5 => ?_)
     ·
      replace H0 := bif_t H0 h5
      refine G.seq <| G.rg <| K.loadS Y _ g0 rfl rfl t108 rfl rfl rfl <| K.store Y _ g0 rfl rfl rfl t108 rfl rfl rfl rfl rfl <| K.as rfl rfl <| K.nil <| At.next <| G.ret <| At.over_ret <| At.block_ret <| At.over_ret <| At.done Y [(.cell 6 108, .agg [_, _]), (.tmp 7, .c _)] rfl ⟨.st rfl rfl t108 rfl rfl, .tmp rfl, trivial⟩ (to' := [(0, _), (1, _)]) ⟨rfl, rfl, trivial⟩ ?_ ?_ rfl rfl rfl (.inl rfl)
      · cases H0; rfl
      · cases H0; rfl
     ·
      replace H0 := bif_f H0 h5
      refine G.skip <| At.ns ?_
      obtain ⟨x8, hx8, H0⟩ := bnd H0
      refine G.rg <| K.mv rfl rfl <| K.fieldAddr Y g0 rfl t127 rfl rfl <| K.loadS Y _ g0 rfl rfl t108 rfl rfl rfl <| K.loadS Y _ g0 rfl rfl t108 rfl rfl rfl <| K.loadS Y _ g0 rfl rfl t108 rfl rfl rfl <| K.c0 (cf 121 rfl) (Tree_linkS_con hx8 0 1) g0 rfl rfl rfl rfl <| K.store Y _ g0 rfl rfl rfl t108 rfl rfl rfl rfl rfl <| K.as rfl rfl <| K.nil <| At.next <| G.ret <| At.block_ret <| At.over_ret <| At.done Y [(.cell 6 108, .agg [_, _]), (.tmp 7, .c _)] rfl ⟨.st rfl rfl t108 rfl rfl, .tmp rfl, trivial⟩ (to' := [(0, _), (1, _)]) ⟨rfl, rfl, trivial⟩ ?_ ?_ rfl rfl rfl (.inl rfl)
      · cases H0; rfl
      · cases H0; rfl
    ·
     replace H0 := bif_f H0 h4
     refine G.skip <| At.block_normal <| At.nr <| K.loadS Y _ g0 rfl rfl t66 rfl rfl rfl <| K.fieldAddr Y g0 rfl t127 rfl rfl <| K.store Y _ g0 rfl rfl rfl t66 rfl rfl rfl rfl rfl <| K.nil <| At.ns ?_
     obtain ⟨x9, hx9, H0⟩ := bnd H0
     refine G.rd mixed <| K.mv rfl rfl <| K.nilCheck g0 rfl rfl <| K.fieldAddr Y g0 rfl t131 rfl rfl <| K.load1 Y g0 rfl rfl t129 rfl rfl <| K.loadS Y _ g0 rfl rfl t108 rfl rfl rfl <| K.loadS Y _ g0 rfl rfl t127 rfl rfl rfl <| K.call0 [(.func 122, _), ((.tmp 87), _), ((.tmp 88), _), ((.tmp 89), _)] (plsetS hx9 1) (toFn_func (cf 122 rfl) rfl) g0 ⟨rfl, rfl, rfl, rfl, trivial⟩ ⟨rfl, trivial⟩ rfl rfl rfl rfl rfl rfl <| K.nil <| And.intro (by kernel_rfl) <| At.ns ?_
     obtain ⟨x10, hx10, H0⟩ := bnd H0
     refine G.rg <| K.mv rfl rfl <| K.loadS Y _ g0 rfl rfl t108 rfl rfl rfl <| K.fieldAddr Y g0 rfl t127 rfl rfl <| K.loadS Y _ g0 rfl rfl t108 rfl rfl rfl <| K.fieldAddr Y g0 rfl t127 rfl rfl <| K.loadS Y _ g0 rfl rfl t108 rfl rfl rfl <| K.c0 (cf 123 rfl) (Tree_layS_con hx10 0 1) g0 rfl rfl rfl rfl <| K.store Y _ g0 rfl rfl rfl t108 rfl rfl rfl rfl rfl <| K.as rfl rfl <| K.nil <| At.next <| G.ret <| At.done Y [(.cell 6 108, .agg [_, _]), (.tmp 7, .c _)] rfl ⟨.st rfl rfl t108 rfl rfl, .tmp rfl, trivial⟩ (to' := [(0, _), (1, _)]) ⟨rfl, rfl, trivial⟩ ?_ ?_ rfl rfl rfl (.inl rfl)
     · cases H0; rfl
     · cases H0; rfl
theorem Tree_putS_con {k n : Nat}  {p1 : Pool (TNode TSlot TSize)} {a1 : TRef} {a2 : TSlot} {ri0 rg0 : Int} {r : TRef × Bool × Pool (TNode TSlot TSize)}  (H0 : Tree_put.r opsS k n p1 a1 a2 = some r) (m0 m1 : Nat) : Tree_putS_st p1 a1 a2 ri0 rg0 r m0 m1 :=
 SCon.ren (rn [(0, m0), (1, m1)]) (Tree_putS_con0 (k := k)   H0) ⟨(blk_ren rfl rfl), (pl_ren rfl), trivial⟩ ⟨(blk_ren rfl rfl), (pl_ren rfl), trivial⟩ (by simp) (by simp)
abbrev Tree_PutS_st (p1 : Pool (TNode TSlot TSize)) (rt0 : TRef) (a1 : TSlot) (r : Bool × TRef × Pool (TNode TSlot TSize)) (m0 : Nat) (m1 : Nat) : Prop := SCon Tryz.prog 69 [SV.p m0 0, .a (.agg ((eTSlot a1).map .v))] [(m0, blk m0 [.p m1 0, .i rt0.index, .i rt0.gen] 131), (m1, plS m1 p1)] (.a (.c (.v (.bool r.1)))) [(m0, blk m0 [.p m1 0, .i r.2.1.index, .i r.2.1.gen] 131), (m1, plS m1 r.2.2)] []
theorem Tree_PutS_con0 {k : Nat}  {p1 : Pool (TNode TSlot TSize)} {rt0 : TRef} {a1 : TSlot} {r : Bool × TRef × Pool (TNode TSlot TSize)}  (H0 : Tree_Put.f opsS k p1 rt0 a1 = some r) : Tree_PutS_st p1 rt0 a1 r 0 1 := by
 rw [Tree_Put.f] at H0
 refine spec_of [(0, _), (1, _)] [(0, _), (1, _)] 23 Tryz.func69 rfl Tryz.ntmps69 rfl rfl rfl rfl (fun β W F => ?_)
 refine G.seq <| G.rg <| K.box Y 100 _ g0 rfl rfl rfl rfl rfl rfl <| K.as rfl rfl <| K.nil <| At.ns ?_
 obtain ⟨x1, hx1, H0⟩ := bnd H0
 refine G.rd mixed <| K.mv rfl rfl <| K.mv rfl rfl <| K.nilCheck g0 rfl rfl <| K.fieldAddr Y g0 rfl t131 rfl rfl <| K.loadS Y _ g0 rfl rfl t108 rfl rfl rfl <| K.loadS Y _ g0 rfl rfl t66 rfl rfl rfl <| K.c0 (cf 100 rfl) (Tree_putS_con hx1 0 1) g0 rfl rfl rfl rfl <| K.mv rfl rfl <| K.extract g0 rfl rfl rfl <| K.extract g0 rfl rfl rfl <| K.alloc Y 101 _ g0 t108 rfl rfl rfl rfl rfl <| K.store Y _ g0 rfl rfl rfl t108 rfl rfl rfl rfl rfl <| K.as rfl rfl <| K.nil <| And.intro (by kernel_rfl) <| At.ns <| G.seq <| G.rg <| K.mv rfl rfl <| K.nil <| At.next <| G.cond rfl (fun h1 => ?_) (fun h1 => ?_)
 ·
  replace H0 := bif_t H0 h1
  exact G.rg <| K.mv rfl rfl <| K.loadS Y _ g0 rfl rfl t108 rfl rfl rfl <| K.nilCheck g0 rfl rfl <| K.fieldAddr Y g0 rfl t131 rfl rfl <| K.store Y _ g0 rfl rfl rfl t108 rfl rfl rfl rfl rfl <| K.nil <| At.nr <| K.mv rfl rfl <| K.as rfl rfl <| K.nil <| At.next <| G.ret <| At.dr Y [4] rfl rfl (by cases H0; rfl) (by cases H0; rfl) rfl rfl rfl
 ·
  replace H0 := bif_f H0 h1
  exact G.skip <| At.nr <| K.mv rfl rfl <| K.as rfl rfl <| K.nil <| At.next <| G.ret <| At.dr Y [4] rfl rfl (by cases H0; rfl) (by cases H0; rfl) rfl rfl rfl
theorem Tree_PutS_con {k : Nat}  {p1 : Pool (TNode TSlot TSize)} {rt0 : TRef} {a1 : TSlot} {r : Bool × TRef × Pool (TNode TSlot TSize)}  (H0 : Tree_Put.f opsS k p1 rt0 a1 = some r) (m0 m1 : Nat) : Tree_PutS_st p1 rt0 a1 r m0 m1 :=
 SCon.ren (rn [(0, m0), (1, m1)]) (Tree_PutS_con0 (k := k)   H0) ⟨(blk_ren rfl rfl), (pl_ren rfl), trivial⟩ ⟨(blk_ren rfl rfl), (pl_ren rfl), trivial⟩ (by simp) (by simp)
abbrev Tree_lastS_st (p1 : Pool (TNode TSlot TSize)) (a1 : TRef) (ri0 : Int) (rg0 : Int) (r : TRef × TRef × Pool (TNode TSlot TSize)) (m0 : Nat) (m1 : Nat) : Prop := SCon Tryz.prog 150 [SV.p m0 0, .a (.agg ((eTRef a1).map .v))] [(m0, blk m0 [.p m1 0, .i ri0, .i rg0] 131), (m1, plS m1 p1)] (.tup [.agg ((eTRef r.1).map .v), .agg ((eTRef r.2.1).map .v)]) [(m0, blk m0 [.p m1 0, .i ri0, .i rg0] 131), (m1, plS m1 r.2.2)] []
theorem Tree_lastS_con0 {k : Nat}  : ∀ {n : Nat} {p1 : Pool (TNode TSlot TSize)} {a1 : TRef} {ri0 rg0 : Int} {r : TRef × TRef × Pool (TNode TSlot TSize)}  (H0 : Tree_last.r opsS k n p1 a1 = some r), Tree_lastS_st p1 a1 ri0 rg0 r 0 1 := by
 intro n
 induction n with
 | zero => intro p1 a1 ri0 rg0 r H0; exact absurd H0 (by simp [Tree_last.r])
 | succ n ih =>
  intro p1 a1 ri0 rg0 r H0
  rw [Tree_last.r] at H0
  refine spec_of [(0, _), (1, _)] [(0, _), (1, _)] 33 Tryz.func150 rfl Tryz.ntmps150 rfl rfl rfl rfl (fun β W F => ?_)
  refine G.seq <| G.rg <| K.box Y 100 _ g0 rfl rfl rfl rfl rfl rfl <| K.alloc Y 101 _ g0 t108 rfl rfl rfl rfl rfl <| K.alloc Y 102 _ g0 t108 rfl rfl rfl rfl rfl <| K.nil <| At.ns ?_
  obtain ⟨x1, hx1, H0⟩ := bnd H0
  refine G.rg <| K.mv rfl rfl <| K.loadS Y _ g0 rfl rfl t108 rfl rfl rfl <| K.cR (cf 79 rfl) (Tree_getS_con hx1 0 1) g0 rfl rfl rfl rfl <| K.alloc Y 103 _ g0 t127 rfl rfl rfl rfl rfl <| K.store Y _ g0 rfl rfl rfl t127 rfl rfl rfl rfl rfl <| K.nil <| At.ns <| G.seq <| G.rg <| K.fieldAddr Y g0 rfl t127 rfl rfl <| K.fieldAddr Y g0 rfl t108 rfl rfl <| K.load1 Y g0 rfl rfl t3 rfl rfl <| K.bin (V := .bool (x1.right.gen == 0)) g0 rfl rfl (fun _ => rfl) rfl <| K.nil <| At.next <| G.cond rfl (fun h1 => ?_) (fun h1 => ?_)
  ·
   replace H0 := bif_t H0 h1
   refine G.seq <| G.rd mixed <| K.fieldAddr Y g0 rfl t127 rfl rfl <| K.loadS Y _ g0 rfl rfl t108 rfl rfl rfl <| K.loadS Y _ g0 rfl rfl t108 rfl rfl rfl <| K.store Y _ g0 rfl rfl rfl t108 rfl rfl rfl rfl rfl <| K.store Y _ g0 rfl rfl rfl t108 rfl rfl rfl rfl rfl <| K.nil <| And.intro (by kernel_rfl) <| At.next <| G.ret <| At.over_ret <| At.done Y [(.cell 4 108, .agg [_, _]), (.cell 5 108, .agg [_, _])] rfl ⟨.st rfl rfl t108 rfl rfl, .st rfl rfl t108 rfl rfl, trivial⟩ (to' := [(0, _), (1, _)]) ⟨rfl, rfl, trivial⟩ ?_ ?_ rfl rfl rfl (.inl rfl)
   · cases H0; rfl
   · cases H0; rfl
  ·
   replace H0 := bif_f H0 h1
   refine G.skip <| At.ns ?_
   obtain ⟨x2, hx2, H0⟩ := bnd H0
   refine G.rg <| K.mv rfl rfl <| K.fieldAddr Y g0 rfl t127 rfl rfl <| K.loadS Y _ g0 rfl rfl t108 rfl rfl rfl <| K.c0 (cf 150 rfl) (ih hx2) g0 rfl rfl rfl rfl <| K.mv rfl rfl <| K.extract g0 rfl rfl rfl <| K.extract g0 rfl rfl rfl <| K.alloc Y 104 _ g0 t108 rfl rfl rfl rfl rfl <| K.alloc Y 105 _ g0 t108 rfl rfl rfl rfl rfl <| K.store Y _ g0 rfl rfl rfl t108 rfl rfl rfl rfl rfl <| K.store Y _ g0 rfl rfl rfl t108 rfl rfl rfl rfl rfl <| K.nil <| At.ns ?_
   obtain ⟨x3, hx3, H0⟩ := bnd H0
   refine G.rd mixed <| K.mv rfl rfl <| K.fieldAddr Y g0 rfl t127 rfl rfl <| K.loadS Y _ g0 rfl rfl t108 rfl rfl rfl <| K.loadS Y _ g0 rfl rfl t108 rfl rfl rfl <| K.loadS Y _ g0 rfl rfl t108 rfl rfl rfl <| K.c0 (cf 121 rfl) (Tree_linkS_con hx3 0 1) g0 rfl rfl rfl rfl <| K.loadS Y _ g0 rfl rfl t108 rfl rfl rfl <| K.store Y _ g0 rfl rfl rfl t108 rfl rfl rfl rfl rfl <| K.store Y _ g0 rfl rfl rfl t108 rfl rfl rfl rfl rfl <| K.nil <| And.intro (by kernel_rfl) <| At.next <| G.ret <| At.done Y [(.cell 4 108, .agg [_, _]), (.cell 5 108, .agg [_, _])] rfl ⟨.st rfl rfl t108 rfl rfl, .st rfl rfl t108 rfl rfl, trivial⟩ (to' := [(0, _), (1, _)]) ⟨rfl, rfl, trivial⟩ ?_ ?_ rfl rfl rfl (.inl rfl)
   · cases H0; rfl
   · cases H0; rfl
theorem Tree_lastS_con {k n : Nat}  {p1 : Pool (TNode TSlot TSize)} {a1 : TRef} {ri0 rg0 : Int} {r : TRef × TRef × Pool (TNode TSlot TSize)}  (H0 : Tree_last.r opsS k n p1 a1 = some r) (m0 m1 : Nat) : Tree_lastS_st p1 a1 ri0 rg0 r m0 m1 :=
 SCon.ren (rn [(0, m0), (1, m1)]) (Tree_lastS_con0 (k := k)   H0) ⟨(blk_ren rfl rfl), (pl_ren rfl), trivial⟩ ⟨(blk_ren rfl rfl), (pl_ren rfl), trivial⟩ (by simp) (by simp)
abbrev Tree_mergeS_st (p1 : Pool (TNode TSlot TSize)) (a1 : TRef) (a2 : TRef) (ri0 : Int) (rg0 : Int) (r : TRef × Pool (TNode TSlot TSize)) (m0 : Nat) (m1 : Nat) : Prop := SCon Tryz.prog 134 [SV.p m0 0, .a (.agg ((eTRef a1).map .v)), .a (.agg ((eTRef a2).map .v))] [(m0, blk m0 [.p m1 0, .i ri0, .i rg0] 131), (m1, plS m1 p1)] (.a (.agg ((eTRef r.1).map .v))) [(m0, blk m0 [.p m1 0, .i ri0, .i rg0] 131), (m1, plS m1 r.2)] []
theorem Tree_mergeS_con0 {k : Nat}  {p1 : Pool (TNode TSlot TSize)} {a1 : TRef} {a2 : TRef} {ri0 rg0 : Int} {r : TRef × Pool (TNode TSlot TSize)}  (H0 : Tree_merge.f opsS k p1 a1 a2 = some r) : Tree_mergeS_st p1 a1 a2 ri0 rg0 r 0 1 := by
 rw [Tree_merge.f] at H0
 refine spec_of [(0, _), (1, _), (2, _)] [(0, _), (1, _)] 30 Tryz.func134 rfl Tryz.ntmps134 rfl rfl rfl rfl (fun β W F => ?_)
 refine G.seq <| G.rg <| K.box Y 100 _ g0 rfl rfl rfl rfl rfl rfl <| K.box Y 101 _ g0 rfl rfl rfl rfl rfl rfl <| K.alloc Y 102 _ g0 t108 rfl rfl rfl rfl rfl <| K.nil <| At.ns <| G.block <| G.seq <| G.rg <| K.fieldAddr Y g0 rfl t108 rfl rfl <| K.load1 Y g0 rfl rfl t3 rfl rfl <| K.bin (V := .bool (a1.gen == 0)) g0 rfl rfl (fun _ => rfl) rfl <| K.as rfl rfl <| K.nil <| At.next <| G.cond rfl (fun h1 => ?_) (fun h1 => ?_)
 ·
  replace H0 := bif_t H0 h1
  refine G.seq <| G.rg <| K.loadS Y _ g0 rfl rfl t108 rfl rfl rfl <| K.store Y _ g0 rfl rfl rfl t108 rfl rfl rfl rfl rfl <| K.nil <| At.next <| G.ret <| At.block_ret <| At.over_ret <| At.done Y [(.cell 6 108, .agg [_, _])] rfl ⟨.st rfl rfl t108 rfl rfl, trivial⟩ (to' := [(0, _), (1, _)]) ⟨rfl, rfl, trivial⟩ ?_ ?_ rfl rfl rfl (.inl rfl)
  · cases H0; rfl
  · cases H0; rfl
 ·
  replace H0 := bif_f H0 h1
  refine G.seq <| G.rg <| K.fieldAddr Y g0 rfl t108 rfl rfl <| K.load1 Y g0 rfl rfl t3 rfl rfl <| K.bin (V := .bool (a2.gen == 0)) g0 rfl rfl (fun _ => rfl) rfl <| K.as rfl rfl <| K.nil <| At.next <| G.cond rfl (fun h2 => ?_) (fun h2 => ?_)
  ·
   replace H0 := bif_t H0 h2
   refine G.seq <| G.rg <| K.loadS Y _ g0 rfl rfl t108 rfl rfl rfl <| K.store Y _ g0 rfl rfl rfl t108 rfl rfl rfl rfl rfl <| K.nil <| At.next <| G.ret <| At.block_ret <| At.over_ret <| At.done Y [(.cell 6 108, .agg [_, _])] rfl ⟨.st rfl rfl t108 rfl rfl, trivial⟩ (to' := [(0, _), (1, _)]) ⟨rfl, rfl, trivial⟩ ?_ ?_ rfl rfl rfl (.inl rfl)
   · cases H0; rfl
   · cases H0; rfl
  ·
   replace H0 := bif_f H0 h2
   refine G.skip <| At.block_normal <| At.ns ?_
   obtain ⟨x1, hx1, H0⟩ := bnd H0
   refine G.rg <| K.mv rfl rfl <| K.loadS Y _ g0 rfl rfl t108 rfl rfl rfl <| K.c0 (cf 150 rfl) (Tree_lastS_con hx1 0 1) g0 rfl rfl rfl rfl <| K.mv rfl rfl <| K.extract g0 rfl rfl rfl <| K.extract g0 rfl rfl rfl <| K.alloc Y 103 _ g0 t108 rfl rfl rfl rfl rfl <| K.alloc Y 104 _ g0 t108 rfl rfl rfl rfl rfl <| K.store Y _ g0 rfl rfl rfl t108 rfl rfl rfl rfl rfl <| K.store Y _ g0 rfl rfl rfl t108 rfl rfl rfl rfl rfl <| K.nil <| At.ns ?_
   obtain ⟨x2, hx2, H0⟩ := bnd H0
   refine G.rg <| K.mv rfl rfl <| K.loadS Y _ g0 rfl rfl t108 rfl rfl rfl <| K.loadS Y _ g0 rfl rfl t108 rfl rfl rfl <| K.loadS Y _ g0 rfl rfl t108 rfl rfl rfl <| K.c0 (cf 121 rfl) (Tree_linkS_con hx2 0 1) g0 rfl rfl rfl rfl <| K.store Y _ g0 rfl rfl rfl t108 rfl rfl rfl rfl rfl <| K.nil <| At.next <| G.ret <| At.done Y [(.cell 6 108, .agg [_, _])] rfl ⟨.st rfl rfl t108 rfl rfl, trivial⟩ (to' := [(0, _), (1, _)]) ⟨rfl, rfl, trivial⟩ ?_ ?_ rfl rfl rfl (.inl rfl)
   · cases H0; rfl
   · cases H0; rfl
theorem Tree_mergeS_con {k : Nat}  {p1 : Pool (TNode TSlot TSize)} {a1 : TRef} {a2 : TRef} {ri0 rg0 : Int} {r : TRef × Pool (TNode TSlot TSize)}  (H0 : Tree_merge.f opsS k p1 a1 a2 = some r) (m0 m1 : Nat) : Tree_mergeS_st p1 a1 a2 ri0 rg0 r m0 m1 :=
 SCon.ren (rn [(0, m0), (1, m1)]) (Tree_mergeS_con0 (k := k)   H0) ⟨(blk_ren rfl rfl), (pl_ren rfl), trivial⟩ ⟨(blk_ren rfl rfl), (pl_ren rfl), trivial⟩ (by simp) (by simp)
abbrev Tree_dropS_st (p1 : Pool (TNode TSlot TSize)) (a1 : TRef) (a2 : TSlot) (ri0 : Int) (rg0 : Int) (r : TRef × TSlot × Bool × Pool (TNode TSlot TSize)) (m0 : Nat) (m1 : Nat) : Prop := SCon Tryz.prog 106 [SV.p m0 0, .a (.agg ((eTRef a1).map .v)), .a (.agg ((eTSlot a2).map .v))] [(m0, blk m0 [.p m1 0, .i ri0, .i rg0] 131), (m1, plS m1 p1)] (.tup [.agg ((eTRef r.1).map .v), .agg ((eTSlot r.2.1).map .v), .c (.v (.bool r.2.2.1))]) [(m0, blk m0 [.p m1 0, .i ri0, .i rg0] 131), (m1, plS m1 r.2.2.2)] []
set_option maxHeartbeats 4000000 in
theorem Tree_dropS_con0 {k : Nat}  : ∀ {n : Nat} {p1 : Pool (TNode TSlot TSize)} {a1 : TRef} {a2 : TSlot} {ri0 rg0 : Int} {r : TRef × TSlot × Bool × Pool (TNode TSlot TSize)}  (H0 : Tree_drop.r opsS k n p1 a1 a2 = some r), Tree_dropS_st p1 a1 a2 ri0 rg0 r 0 1 := by
 intro n
 induction n with
 | zero => intro p1 a1 a2 ri0 rg0 r H0; exact absurd H0 (by simp [Tree_drop.r])
 | succ n ih =>
  intro p1 a1 a2 ri0 rg0 r H0
  rw [Tree_drop.r] at H0
  refine spec_of [(0, _), (1, _), (2, _)] [(0, _), (1, _)] 91 Tryz.func106 rfl Tryz.ntmps106 rfl rfl rfl rfl (fun β W F => ?_)
  refine G.seq <| G.rg <| K.box Y 100 _ g0 rfl rfl rfl rfl rfl rfl <| K.box Y 101 _ g0 rfl rfl rfl rfl rfl rfl <| K.alloc Y 102 _ g0 t108 rfl rfl rfl rfl rfl <| K.alloc Y 103 _ g0 t66 rfl rfl rfl rfl rfl <| K.as rfl rfl <| K.nil <| At.ns <| G.seq <| G.rg <| K.fieldAddr Y g0 rfl t108 rfl rfl <| K.load1 Y g0 rfl rfl t3 rfl rfl <| K.bin (V := .bool (a1.gen == 0)) g0 rfl rfl (fun _ => rfl) rfl <| K.nil <| At.next <| G.cond rfl (fun h1 => ?_) (fun h1 => ?_)
  ·
   replace H0 := bif_t H0 h1
   refine G.seq <| G.rg <| K.alloc Y 104 _ g0 t66 rfl rfl rfl rfl rfl <| K.nil <| At.ns <| G.rd mixed <| K.loadS Y _ g0 rfl rfl t108 rfl rfl rfl <| K.loadS Y _ g0 rfl rfl t66 rfl rfl rfl <| K.store Y _ g0 rfl rfl rfl t108 rfl rfl rfl rfl rfl <| K.store Y _ g0 rfl rfl rfl t66 rfl rfl rfl rfl rfl <| K.as rfl rfl <| K.nil <| And.intro (by kernel_rfl) <| At.next <| G.ret <| At.over_ret <| At.done Y [(.cell 6 108, .agg [_, _]), (.cell 7 66, .agg [_, _, _, _]), (.tmp 8, .c _)] rfl ⟨.st rfl rfl t108 rfl rfl, .st rfl rfl t66 rfl rfl, .tmp rfl, trivial⟩ (to' := [(0, _), (1, _)]) ⟨rfl, rfl, trivial⟩ ?_ ?_ rfl rfl rfl (.inl rfl)
   · cases H0; rfl
   · cases H0; rfl
  ·
   replace H0 := bif_f H0 h1
   refine G.skip <| At.ns ?_
   obtain ⟨x1, hx1, H0⟩ := bnd H0
   refine G.rg <| K.mv rfl rfl <| K.loadS Y _ g0 rfl rfl t108 rfl rfl rfl <| K.cR (cf 79 rfl) (Tree_getS_con hx1 0 1) g0 rfl rfl rfl rfl <| K.alloc Y 105 _ g0 t127 rfl rfl rfl rfl rfl <| K.store Y _ g0 rfl rfl rfl t127 rfl rfl rfl rfl rfl <| K.nil <| At.ns ?_
   obtain ⟨x2, hx2, H0⟩ := bnd H0
   refine G.rg <| K.loadS Y _ g0 rfl rfl t66 rfl rfl rfl <| K.mkIface Y g0 rfl (mkI Tryz.underlying66 rfl) rfl <| K.fieldAddr Y g0 rfl t127 rfl rfl <| K.loadS Y _ g0 rfl rfl t66 rfl rfl rfl <| K.callR [((.tmp 27), _), ((.tmp 29), _)] (shelf_Slot_Compare_con (k := k) hx2) (toFn_invoke (cf 212 rfl) (me66_212) rfl) g0 ⟨rfl, rfl, trivial⟩ trivial rfl rfl rfl <| K.as rfl rfl <| K.nil <| At.ns <| G.block <| G.seq <| G.rg <| K.mv rfl rfl <| K.bin (V := .bool (decide (x2 < 0))) g0 rfl rfl (fun _ => rfl) rfl <| K.as rfl rfl <| K.nil <| At.next <| G.cond rfl (fun h2 => ?_) (fun h2 => ?_)
   ·
    replace H0 := bif_t H0 h2
    refine G.seq ?_
    obtain ⟨x3, hx3, H0⟩ := bnd H0
    refine G.rg <| K.mv rfl rfl <| K.fieldAddr Y g0 rfl t127 rfl rfl <| K.loadS Y _ g0 rfl rfl t108 rfl rfl rfl <| K.loadS Y _ g0 rfl rfl t66 rfl rfl rfl <| K.c0 (cf 106 rfl) (ih hx3) g0 rfl rfl rfl rfl <| K.mv rfl rfl <| K.extract g0 rfl rfl rfl <| K.extract g0 rfl rfl rfl <| K.extract g0 rfl rfl rfl <| K.alloc Y 106 _ g0 t108 rfl rfl rfl rfl rfl <| K.alloc Y 107 _ g0 t66 rfl rfl rfl rfl rfl <| K.store Y _ g0 rfl rfl rfl t108 rfl rfl rfl rfl rfl <| K.store Y _ g0 rfl rfl rfl t66 rfl rfl rfl rfl rfl <| K.as rfl rfl <| K.nil <| At.ns <| G.seq <| G.rg <| K.mv rfl rfl <| K.un (V := .bool (!x3.2.2.1)) g0 rfl (fun _ => rfl) rfl <| K.nil <| At.next <| G.cond rfl (fun h3 => ?_) (fun h3 => ?_)
    ·
     replace H0 := bif_t H0 h3
     refine G.seq <| G.rd mixed <| K.loadS Y _ g0 rfl rfl t108 rfl rfl rfl <| K.loadS Y _ g0 rfl rfl t66 rfl rfl rfl <| K.store Y _ g0 rfl rfl rfl t108 rfl rfl rfl rfl rfl <| K.store Y _ g0 rfl rfl rfl t66 rfl rfl rfl rfl rfl <| K.as rfl rfl <| K.nil <| And.intro (by kernel_rfl) <| At.next <| G.ret <| At.over_ret <| At.block_ret <| At.over_ret <| At.done Y [(.cell 6 108, .agg [_, _]), (.cell 7 66, .agg [_, _, _, _]), (.tmp 8, .c _)] rfl ⟨.st rfl rfl t108 rfl rfl, .st rfl rfl t66 rfl rfl, .tmp rfl, trivial⟩ (to' := [(0, _), (1, _)]) ⟨rfl, rfl, trivial⟩ ?_ ?_ rfl rfl rfl (.inl rfl)
     · cases H0; rfl
     · cases H0; rfl
    ·
     replace H0 := bif_f H0 h3
     refine G.skip <| At.ns ?_
     obtain ⟨x4, hx4, H0⟩ := bnd H0
     refine G.rd mixed <| K.mv rfl rfl <| K.loadS Y _ g0 rfl rfl t108 rfl rfl rfl <| K.loadS Y _ g0 rfl rfl t108 rfl rfl rfl <| K.fieldAddr Y g0 rfl t127 rfl rfl <| K.loadS Y _ g0 rfl rfl t108 rfl rfl rfl <| K.c0 (cf 121 rfl) (Tree_linkS_con hx4 0 1) g0 rfl rfl rfl rfl <| K.loadS Y _ g0 rfl rfl t66 rfl rfl rfl <| K.store Y _ g0 rfl rfl rfl t108 rfl rfl rfl rfl rfl <| K.store Y _ g0 rfl rfl rfl t66 rfl rfl rfl rfl rfl <| K.as rfl rfl <| K.nil <| And.intro (by kernel_rfl) <| At.next <| G.ret <| At.block_ret <| At.over_ret <| At.done Y [(.cell 6 108, .agg [_, _]), (.cell 7 66, .agg [_, _, _, _]), (.tmp 8, .c _)] rfl ⟨.st rfl rfl t108 rfl rfl, .st rfl rfl t66 rfl rfl, .tmp rfl, trivial⟩ (to' := [(0, _), (1, _)]) ⟨rfl, rfl, trivial⟩ ?_ ?_ rfl rfl rfl (.inl rfl)
     · cases H0; rfl
     · cases H0; rfl
   ·
    replace H0 := bif_f H0 h2
    refine G.seq <| G.rg <| K.mv rfl rfl <| K.bin (V := .bool (decide (x2 > 0))) g0 rfl rfl (fun _ => rfl) rfl <| K.as rfl rfl <| K.nil <| At.next <| G.cond rfl (fun h4 => ?_) (fun h4 => ?_)
    ·
     replace H0 := bif_t H0 h4
     refine G.seq ?_
     obtain ⟨x5, hx5, H0⟩ := bnd H0
     refine G.rg <| K.mv rfl rfl <| K.fieldAddr Y g0 rfl t127 rfl rfl <| K.loadS Y _ g0 rfl rfl t108 rfl rfl rfl <| K.loadS Y _ g0 rfl rfl t66 rfl rfl rfl <| K.c0 (cf 106 rfl) (ih hx5) g0 rfl rfl rfl rfl <| K.mv rfl rfl <| K.extract g0 rfl rfl rfl <| K.extract g0 rfl rfl rfl <| K.extract g0 rfl rfl rfl <| K.alloc Y 108 _ g0 t108 rfl rfl rfl rfl rfl <| K.alloc Y 109 _ g0 t66 rfl rfl rfl rfl rfl <| K.store Y _ g0 rfl rfl rfl t108 rfl rfl rfl rfl rfl <| K.store Y _ g0 rfl rfl rfl t66 rfl rfl rfl rfl rfl <| K.as rfl rfl <| K.nil <| At.ns <| G.seq <| G.rg <| K.mv rfl rfl <| K.un (V := .bool (!x5.2.2.1)) g0 rfl (fun _ => rfl) rfl <| K.nil <| At.next <| G.cond rfl (fun h5 => ?_) (fun h5 => ?_)
     ·
      replace H0 := bif_t H0 h5
      refine G.seq <| G.rd mixed <| K.loadS Y _ g0 rfl rfl t108 rfl rfl rfl <| K.loadS Y _ g0 rfl rfl t66 rfl rfl rfl <| K.store Y _ g0 rfl rfl rfl t108 rfl rfl rfl rfl rfl <| K.store Y _ g0 rfl rfl rfl t66 rfl rfl rfl rfl rfl <| K.as rfl rfl <| K.nil <| And.intro (by kernel_rfl) <| At.next <| G.ret <| At.over_ret <| At.block_ret <| At.over_ret <| At.done Y [(.cell 6 108, .agg [_, _]), (.cell 7 66, .agg [_, _, _, _]), (.tmp 8, .c _)] rfl ⟨.st rfl rfl t108 rfl rfl, .st rfl rfl t66 rfl rfl, .tmp rfl, trivial⟩ (to' := [(0, _), (1, _)]) ⟨rfl, rfl, trivial⟩ ?_ ?_ rfl rfl rfl (.inl rfl)
      · cases H0; rfl
      · cases H0; rfl
     ·
      replace H0 := bif_f H0 h5
      refine G.skip <| At.ns ?_
      obtain ⟨x6, hx6, H0⟩ := bnd H0
      refine G.rd mixed <| K.mv rfl rfl <| K.fieldAddr Y g0 rfl t127 rfl rfl <| K.loadS Y _ g0 rfl rfl t108 rfl rfl rfl <| K.loadS Y _ g0 rfl rfl t108 rfl rfl rfl <| K.loadS Y _ g0 rfl rfl t108 rfl rfl rfl <| K.c0 (cf 121 rfl) (Tree_linkS_con hx6 0 1) g0 rfl rfl rfl rfl <| K.loadS Y _ g0 rfl rfl t66 rfl rfl rfl <| K.store Y _ g0 rfl rfl rfl t108 rfl rfl rfl rfl rfl <| K.store Y _ g0 rfl rfl rfl t66 rfl rfl rfl rfl rfl <| K.as rfl rfl <| K.nil <| And.intro (by kernel_rfl) <| At.next <| G.ret <| At.block_ret <| At.over_ret <| At.done Y [(.cell 6 108, .agg [_, _]), (.cell 7 66, .agg [_, _, _, _]), (.tmp 8, .c _)] rfl ⟨.st rfl rfl t108 rfl rfl, .st rfl rfl t66 rfl rfl, .tmp rfl, trivial⟩ (to' := [(0, _), (1, _)]) ⟨rfl, rfl, trivial⟩ ?_ ?_ rfl rfl rfl (.inl rfl)
      · cases H0; rfl
      · cases H0; rfl
    ·
     replace H0 := bif_f H0 h4
     refine G.skip <| At.block_normal <| At.ns ?_
     obtain ⟨x7, hx7, H0⟩ := bnd H0
     refine G.rd mixed <| K.mv rfl rfl <| K.nilCheck g0 rfl rfl <| K.fieldAddr Y g0 rfl t131 rfl rfl <| K.load1 Y g0 rfl rfl t129 rfl rfl <| K.loadS Y _ g0 rfl rfl t108 rfl rfl rfl <| K.call0 [(.func 133, _), ((.tmp 80), _), ((.tmp 81), _)] (pldropS hx7 1) (toFn_func (cf 133 rfl) rfl) g0 ⟨rfl, rfl, rfl, trivial⟩ ⟨rfl, trivial⟩ rfl rfl rfl rfl rfl rfl <| K.nil <| And.intro (by kernel_rfl) <| At.ns ?_
     obtain ⟨x8, hx8, H0⟩ := bnd H0
     refine G.rd mixed <| K.mv rfl rfl <| K.fieldAddr Y g0 rfl t127 rfl rfl <| K.loadS Y _ g0 rfl rfl t108 rfl rfl rfl <| K.fieldAddr Y g0 rfl t127 rfl rfl <| K.loadS Y _ g0 rfl rfl t108 rfl rfl rfl <| K.c0 (cf 134 rfl) (Tree_mergeS_con hx8 0 1) g0 rfl rfl rfl rfl <| K.fieldAddr Y g0 rfl t127 rfl rfl <| K.loadS Y _ g0 rfl rfl t66 rfl rfl rfl <| K.store Y _ g0 rfl rfl rfl t108 rfl rfl rfl rfl rfl <| K.store Y _ g0 rfl rfl rfl t66 rfl rfl rfl rfl rfl <| K.as rfl rfl <| K.nil <| And.intro (by kernel_rfl) <| At.next <| G.ret <| At.done Y [(.cell 6 108, .agg [_, _]), (.cell 7 66, .agg [_, _, _, _]), (.tmp 8, .c _)] rfl ⟨.st rfl rfl t108 rfl rfl, .st rfl rfl t66 rfl rfl, .tmp rfl, trivial⟩ (to' := [(0, _), (1, _)]) ⟨rfl, rfl, trivial⟩ ?_ ?_ rfl rfl rfl (.inl rfl)
     · cases H0; rfl
     · cases H0; rfl
theorem Tree_dropS_con {k n : Nat}  {p1 : Pool (TNode TSlot TSize)} {a1 : TRef} {a2 : TSlot} {ri0 rg0 : Int} {r : TRef × TSlot × Bool × Pool (TNode TSlot TSize)}  (H0 : Tree_drop.r opsS k n p1 a1 a2 = some r) (m0 m1 : Nat) : Tree_dropS_st p1 a1 a2 ri0 rg0 r m0 m1 :=
 SCon.ren (rn [(0, m0), (1, m1)]) (Tree_dropS_con0 (k := k)   H0) ⟨(blk_ren rfl rfl), (pl_ren rfl), trivial⟩ ⟨(blk_ren rfl rfl), (pl_ren rfl), trivial⟩ (by simp) (by simp)
abbrev Tree_DropS_st (p1 : Pool (TNode TSlot TSize)) (rt0 : TRef) (a1 : TSlot) (r : TSlot × Bool × TRef × Pool (TNode TSlot TSize)) (m0 : Nat) (m1 : Nat) : Prop := SCon Tryz.prog 77 [SV.p m0 0, .a (.agg ((eTSlot a1).map .v))] [(m0, blk m0 [.p m1 0, .i rt0.index, .i rt0.gen] 131), (m1, plS m1 p1)] (.tup [.agg ((eTSlot r.1).map .v), .c (.v (.bool r.2.1))]) [(m0, blk m0 [.p m1 0, .i r.2.2.1.index, .i r.2.2.1.gen] 131), (m1, plS m1 r.2.2.2)] []
theorem Tree_DropS_con0 {k : Nat}  {p1 : Pool (TNode TSlot TSize)} {rt0 : TRef} {a1 : TSlot} {r : TSlot × Bool × TRef × Pool (TNode TSlot TSize)}  (H0 : Tree_Drop.f opsS k p1 rt0 a1 = some r) : Tree_DropS_st p1 rt0 a1 r 0 1 := by
 rw [Tree_Drop.f] at H0
 refine spec_of [(0, _), (1, _)] [(0, _), (1, _)] 26 Tryz.func77 rfl Tryz.ntmps77 rfl rfl rfl rfl (fun β W F => ?_)
 refine G.seq <| G.rg <| K.box Y 100 _ g0 rfl rfl rfl rfl rfl rfl <| K.alloc Y 101 _ g0 t66 rfl rfl rfl rfl rfl <| K.as rfl rfl <| K.nil <| At.ns ?_
 obtain ⟨x1, hx1, H0⟩ := bnd H0
 refine G.rd mixed <| K.mv rfl rfl <| K.mv rfl rfl <| K.nilCheck g0 rfl rfl <| K.fieldAddr Y g0 rfl t131 rfl rfl <| K.loadS Y _ g0 rfl rfl t108 rfl rfl rfl <| K.loadS Y _ g0 rfl rfl t66 rfl rfl rfl <| K.c0 (cf 106 rfl) (Tree_dropS_con hx1 0 1) g0 rfl rfl rfl rfl <| K.mv rfl rfl <| K.extract g0 rfl rfl rfl <| K.extract g0 rfl rfl rfl <| K.extract g0 rfl rfl rfl <| K.alloc Y 102 _ g0 t108 rfl rfl rfl rfl rfl <| K.alloc Y 103 _ g0 t66 rfl rfl rfl rfl rfl <| K.store Y _ g0 rfl rfl rfl t108 rfl rfl rfl rfl rfl <| K.store Y _ g0 rfl rfl rfl t66 rfl rfl rfl rfl rfl <| K.as rfl rfl <| K.nil <| And.intro (by kernel_rfl) <| At.nr <| K.mv rfl rfl <| K.loadS Y _ g0 rfl rfl t108 rfl rfl rfl <| K.nilCheck g0 rfl rfl <| K.fieldAddr Y g0 rfl t131 rfl rfl <| K.store Y _ g0 rfl rfl rfl t108 rfl rfl rfl rfl rfl <| K.nil <| At.nr <| K.loadS Y _ g0 rfl rfl t66 rfl rfl rfl <| K.mv rfl rfl <| K.store Y _ g0 rfl rfl rfl t66 rfl rfl rfl rfl rfl <| K.as rfl rfl <| K.nil <| At.next <| G.ret <| At.done Y [(.cell 4 66, .agg [_, _, _, _]), (.tmp 5, .c _)] rfl ⟨.st rfl rfl t66 rfl rfl, .tmp rfl, trivial⟩ (to' := [(0, _), (1, _)]) ⟨rfl, rfl, trivial⟩ ?_ ?_ rfl rfl rfl (.inl rfl)
 · cases H0; rfl
 · cases H0; rfl
theorem Tree_DropS_con {k : Nat}  {p1 : Pool (TNode TSlot TSize)} {rt0 : TRef} {a1 : TSlot} {r : TSlot × Bool × TRef × Pool (TNode TSlot TSize)}  (H0 : Tree_Drop.f opsS k p1 rt0 a1 = some r) (m0 m1 : Nat) : Tree_DropS_st p1 rt0 a1 r m0 m1 :=
 SCon.ren (rn [(0, m0), (1, m1)]) (Tree_DropS_con0 (k := k)   H0) ⟨(blk_ren rfl rfl), (pl_ren rfl), trivial⟩ ⟨(blk_ren rfl rfl), (pl_ren rfl), trivial⟩ (by simp) (by simp)
abbrev Tree_LenS_st (p1 : Pool (TNode TSlot TSize)) (rt0 : TRef) (r : Int) (m0 : Nat) (m1 : Nat) : Prop := SCon Tryz.prog 31 [SV.p m0 0] [(m0, blk m0 [.p m1 0, .i rt0.index, .i rt0.gen] 131), (m1, plS m1 p1)] (.a (.c (.v (.int .i64 r)))) [(m0, blk m0 [.p m1 0, .i rt0.index, .i rt0.gen] 131), (m1, plS m1 p1)] []
theorem Tree_LenS_con0 {k : Nat}  {p1 : Pool (TNode TSlot TSize)} {rt0 : TRef} {r : Int}  (H0 : Tree_Len.f opsS k p1 rt0 = some r) : Tree_LenS_st p1 rt0 r 0 1 := by
 rw [Tree_Len.f] at H0
 refine spec_of [(0, _)] [(0, _), (1, _)] 10 Tryz.func31 rfl Tryz.ntmps31 rfl rfl rfl rfl (fun β W F => ?_)
 refine G.seq <| G.rg <| K.as rfl rfl <| K.nil <| At.ns ?_
 obtain ⟨x1, hx1, H0⟩ := bnd H0
 exact G.rg <| K.mv rfl rfl <| K.mv rfl rfl <| K.nilCheck g0 rfl rfl <| K.fieldAddr Y g0 rfl t131 rfl rfl <| K.loadS Y _ g0 rfl rfl t108 rfl rfl rfl <| K.cR (cf 79 rfl) (Tree_getS_con hx1 0 1) g0 rfl rfl rfl rfl <| K.field1 Y g0 rfl t127 rfl t3 rfl rfl <| K.as rfl rfl <| K.nil <| At.next <| G.ret <| At.dr Y [2] rfl rfl (by cases H0; rfl) (by cases H0; rfl) rfl rfl rfl
theorem Tree_LenS_con {k : Nat}  {p1 : Pool (TNode TSlot TSize)} {rt0 : TRef} {r : Int}  (H0 : Tree_Len.f opsS k p1 rt0 = some r) (m0 m1 : Nat) : Tree_LenS_st p1 rt0 r m0 m1 :=
 SCon.ren (rn [(0, m0), (1, m1)]) (Tree_LenS_con0 (k := k)   H0) ⟨(blk_ren rfl rfl), (pl_ren rfl), trivial⟩ ⟨(blk_ren rfl rfl), (pl_ren rfl), trivial⟩ (by simp) (by simp)
end Go.Proofs.YtpeoalmhccmdiaaGreat
namespace Go.Proofs.YtpeoalmhccmdiaaGreat
open Go Go.Proofs.YtpeoalmhccmdiaaGreat.Sx
abbrev tkQueue (n0 n1 n2 n3 n4 n5 n6 n7 n8 : Nat) (q : TQueue) (l : List (Nat × Tok)) : List (Nat × Tok) := (n0, blk n0 [.v (.int .i64 q.capacity), .p n1 0, .p n3 0, .p n5 0, .p n7 0, .v (.int .i64 q.excess)] 98) :: (n1, blk n1 [.p n2 0, .v (.int .i64 q.marks.r.index), .v (.int .i64 q.marks.r.gen)] 110) :: (n2, plM n2 (q.marks.p)) :: (n3, blk n3 [.p n4 0, .v (.int .i64 q.present.r.index), .v (.int .i64 q.present.r.gen)] 131) :: (n4, plS n4 (q.present.p)) :: (n5, blk n5 [.p n6 0, .v (.int .i64 q.gone.r.index), .v (.int .i64 q.gone.r.gen)] 131) :: (n6, plS n6 (q.gone.p)) :: (n7, blk n7 [.p n8 0, .v (.int .i64 q.times.r.index), .v (.int .i64 q.times.r.gen)] 131) :: (n8, plS n8 (q.times.p)) :: l
abbrev wave_New_st (a0 : Int) (r : TRef × Pool (TNode TMark TSwell)) (m40 : Nat) (m41 : Nat) : Prop := SCon Tryz.prog 52 [.a (.c (.v (.int .i64 a0)))] [] (.a (.c (.p m40 0))) [(m40, blk m40 [.p m41 0, .i r.1.index, .i r.1.gen] 110), (m41, plM m41 r.2)] [m40, m41]
theorem wave_New_con0 {k : Nat}  {a0 : Int} {r : TRef × Pool (TNode TMark TSwell)}  (H0 : wave_New.f k a0 = some r) : wave_New_st a0 r 40 41 := by
 rw [wave_New.f] at H0
 refine spec_of [(0, _)] [] 5 Tryz.func52 rfl Tryz.ntmps52 rfl rfl rfl rfl (fun β W F => ?_)
 refine G.seq <| G.rg <| K.as rfl rfl <| K.nil <| At.ns ?_
 obtain ⟨x1, hx1, H0⟩ := bnd H0
 exact G.rg <| K.mv rfl rfl <| K.c0 (cf 91 rfl) (Tree_NewM_con hx1 100 101 rfl) g0 rfl rfl rfl rfl <| K.as rfl rfl <| K.nil <| At.next <| G.ret <| At.ren (fs' := [(2, .a (.c (.p 40 0)))]) (tl := [(40, blk 40 [.p 41 0, .v (.int .i64 x1.1.index), .v (.int .i64 x1.1.gen)] 110), (41, plM 41 x1.2)]) [(40, 100), (41, 101)] [_, _] rfl ⟨rfl, trivial⟩ ⟨rfl, (blk_ren rfl rfl), rfl, (pl_ren rfl), trivial⟩ rfl <| At.dr Y [2] rfl rfl (by cases H0; rfl) (by cases H0; rfl) rfl rfl rfl
theorem wave_New_con {k : Nat}  {a0 : Int} {r : TRef × Pool (TNode TMark TSwell)}  (H0 : wave_New.f k a0 = some r) (m40 m41 : Nat) (hd : ndB [m40, m41] = true) : wave_New_st a0 r m40 m41 :=
 SCon.ren (rn [(40, m40), (41, m41)]) (wave_New_con0 (k := k)   H0) trivial ⟨(blk_ren rfl rfl), (pl_ren rfl), trivial⟩ (rn_nd hd rfl rfl) (rn_ks hd rfl rfl rfl)
abbrev shelf_New_st (a0 : Int) (r : TRef × Pool (TNode TSlot TSize)) (m40 : Nat) (m41 : Nat) : Prop := SCon Tryz.prog 53 [.a (.c (.v (.int .i64 a0)))] [] (.a (.c (.p m40 0))) [(m40, blk m40 [.p m41 0, .i r.1.index, .i r.1.gen] 131), (m41, plS m41 r.2)] [m40, m41]
theorem shelf_New_con0 {k : Nat}  {a0 : Int} {r : TRef × Pool (TNode TSlot TSize)}  (H0 : shelf_New.f k a0 = some r) : shelf_New_st a0 r 40 41 := by
 rw [shelf_New.f] at H0
 refine spec_of [(0, _)] [] 5 Tryz.func53 rfl Tryz.ntmps53 rfl rfl rfl rfl (fun β W F => ?_)
 refine G.seq <| G.rg <| K.as rfl rfl <| K.nil <| At.ns ?_
 obtain ⟨x1, hx1, H0⟩ := bnd H0
 exact G.rg <| K.mv rfl rfl <| K.c0 (cf 92 rfl) (Tree_NewS_con hx1 100 101 rfl) g0 rfl rfl rfl rfl <| K.as rfl rfl <| K.nil <| At.next <| G.ret <| At.ren (fs' := [(2, .a (.c (.p 40 0)))]) (tl := [(40, blk 40 [.p 41 0, .v (.int .i64 x1.1.index), .v (.int .i64 x1.1.gen)] 131), (41, plS 41 x1.2)]) [(40, 100), (41, 101)] [_, _] rfl ⟨rfl, trivial⟩ ⟨rfl, (blk_ren rfl rfl), rfl, (pl_ren rfl), trivial⟩ rfl <| At.dr Y [2] rfl rfl (by cases H0; rfl) (by cases H0; rfl) rfl rfl rfl
theorem shelf_New_con {k : Nat}  {a0 : Int} {r : TRef × Pool (TNode TSlot TSize)}  (H0 : shelf_New.f k a0 = some r) (m40 m41 : Nat) (hd : ndB [m40, m41] = true) : shelf_New_st a0 r m40 m41 :=
 SCon.ren (rn [(40, m40), (41, m41)]) (shelf_New_con0 (k := k)   H0) trivial ⟨(blk_ren rfl rfl), (pl_ren rfl), trivial⟩ (rn_nd hd rfl rfl) (rn_ks hd rfl rfl rfl)
abbrev partial_New_st (a0 : Int) (r : TQueue) (m80 : Nat) (m81 : Nat) (m82 : Nat) (m83 : Nat) (m84 : Nat) (m85 : Nat) (m86 : Nat) (m87 : Nat) (m88 : Nat) : Prop := SCon Tryz.prog 15 [.a (.c (.v (.int .i64 a0)))] [] (.a (.c (.p m80 0))) (tkQueue m80 m81 m82 m83 m84 m85 m86 m87 m88 r []) [m80, m81, m82, m83, m84, m85, m86, m87, m88]
theorem partial_New_con0 {k : Nat}  {a0 : Int} {r : TQueue}  (H0 : partial_New.f k a0 = some r) : partial_New_st a0 r 80 81 82 83 84 85 86 87 88 := by
 rw [partial_New.f] at H0
 refine spec_of [(0, _)] [] 18 Tryz.func15 rfl Tryz.ntmps15 rfl rfl rfl rfl (fun β W F => ?_)
 refine G.seq <| G.rg <| K.as rfl rfl <| K.nil <| At.nr <| K.mv rfl rfl <| K.bi2 (V := .int .i64 (gmax a0 0)) g0 rfl rfl (fun _ _ => rfl) rfl <| K.bi2 (V := .int .i64 (gmin (gmax a0 0) 65536)) g0 rfl rfl (fun _ _ => rfl) rfl <| K.as rfl rfl <| K.nil <| At.ns ?_
 obtain ⟨x1, hx1, H0⟩ := bnd H0
 obtain ⟨x2, hx2, H0⟩ := bnd H0
 obtain ⟨x3, hx3, H0⟩ := bnd H0
 obtain ⟨x4, hx4, H0⟩ := bnd H0
 exact G.rg <| K.mv rfl rfl <| K.mv rfl rfl <| K.c0 (cf 52 rfl) (wave_New_con hx1 100 101 rfl) g0 rfl rfl rfl rfl <| K.mv rfl rfl <| K.c0 (cf 53 rfl) (shelf_New_con hx2 102 103 rfl) g0 rfl rfl rfl rfl <| K.mv rfl rfl <| K.c0 (cf 53 rfl) (shelf_New_con hx3 104 105 rfl) g0 rfl rfl rfl rfl <| K.mv rfl rfl <| K.c0 (cf 53 rfl) (shelf_New_con hx4 106 107 rfl) g0 rfl rfl rfl rfl <| K.build Y [(0, _), (1, _), (2, _), (3, _), (4, _)] [_, _, _, _, _, _] [((.tmp 7), _), ((.tmp 9), _), ((.tmp 11), _), ((.tmp 13), _), ((.tmp 15), _)] g0 (AllE.spec ⟨rfl, rfl, rfl, rfl, rfl, trivial⟩) rfl rfl t98 rfl rfl <| K.box Y 108 _ g0 rfl rfl rfl rfl rfl rfl <| K.as rfl rfl <| K.nil <| At.next <| G.ret <| At.ren (fs' := [(2, .a (.c (.p 80 0)))]) (tl := (tkQueue 80 81 82 83 84 85 86 87 88 (TQueue.mk (gmin (gmax a0 0) 65536) (TS.mk x1.2 x1.1) (TS.mk x2.2 x2.1) (TS.mk x3.2 x3.1) (TS.mk x4.2 x4.1) 0) [])) [(80, 108), (81, 100), (82, 101), (83, 102), (84, 103), (85, 104), (86, 105), (87, 106), (88, 107)] [_, _, _, _, _, _, _, _, _] rfl ⟨rfl, trivial⟩ ⟨rfl, (blk_ren rfl rfl), rfl, (blk_ren rfl rfl), rfl, (pl_ren rfl), rfl, (blk_ren rfl rfl), rfl, (pl_ren rfl), rfl, (blk_ren rfl rfl), rfl, (pl_ren rfl), rfl, (blk_ren rfl rfl), rfl, (pl_ren rfl), trivial⟩ rfl <| At.dr Y [2] rfl rfl (by cases H0; rfl) (by cases H0; rfl) rfl rfl rfl
theorem partial_New_con {k : Nat}  {a0 : Int} {r : TQueue}  (H0 : partial_New.f k a0 = some r) (m80 m81 m82 m83 m84 m85 m86 m87 m88 : Nat) (hd : ndB [m80, m81, m82, m83, m84, m85, m86, m87, m88] = true) : partial_New_st a0 r m80 m81 m82 m83 m84 m85 m86 m87 m88 :=
 SCon.ren (rn [(80, m80), (81, m81), (82, m82), (83, m83), (84, m84), (85, m85), (86, m86), (87, m87), (88, m88)]) (partial_New_con0 (k := k)   H0) trivial ⟨(blk_ren rfl rfl), (blk_ren rfl rfl), (pl_ren rfl), (blk_ren rfl rfl), (pl_ren rfl), (blk_ren rfl rfl), (pl_ren rfl), (blk_ren rfl rfl), (pl_ren rfl), trivial⟩ (rn_nd hd rfl rfl) (rn_ks hd rfl rfl rfl)
abbrev wave_Key_st (a0 : Int) (r : TMark) : Prop := SCon Tryz.prog 67 [.a (.c (.v (.int .i64 a0)))] [] (.a (.agg ((eTMark r).map .v))) [] []
theorem wave_Key_con0 {k : Nat}  {a0 : Int} {r : TMark}  (H0 : wave_Key.f k a0 = some r) : wave_Key_st a0 r := by
 rw [wave_Key.f] at H0
 refine spec_of [(0, _)] [] 6 Tryz.func67 rfl Tryz.ntmps67 rfl rfl rfl rfl (fun β W F => ?_)
 refine G.seq <| G.rg <| K.alloc Y 100 _ g0 t46 rfl rfl rfl rfl rfl <| K.nil <| At.nr <| K.mv rfl rfl <| K.build Y [(0, _)] [_, _, _, _] [((.tmp 3), _)] g0 (AllE.spec ⟨rfl, trivial⟩) rfl rfl t42 rfl rfl <| K.build Y [(0, _)] [_, _, _, _, _, _, _, _] [((.tmp 4), _)] g0 (AllE.spec ⟨rfl, trivial⟩) rfl rfl t46 rfl rfl <| K.store Y _ g0 rfl rfl rfl t46 rfl rfl rfl rfl rfl <| K.nil <| At.next <| G.ret <| At.done Y [(.cell 2 46, .agg [_, _, _, _, _, _, _, _])] rfl ⟨.st rfl rfl t46 rfl rfl, trivial⟩ (to' := []) trivial ?_ ?_ rfl rfl rfl (.inl rfl)
 · cases H0; rfl
 · cases H0; rfl
theorem wave_Key_con {k : Nat}  {a0 : Int} {r : TMark}  (H0 : wave_Key.f k a0 = some r) : wave_Key_st a0 r :=
 SCon.ren (rn []) (wave_Key_con0 (k := k)   H0) trivial trivial (by simp) (by simp)
abbrev partial_Queue_may_st (q0 : TQueue) (a1 : Int) (r : Int) (m0 : Nat) (m1 : Nat) (m2 : Nat) (m3 : Nat) (m4 : Nat) (m5 : Nat) (m6 : Nat) (m7 : Nat) (m8 : Nat) : Prop := SCon Tryz.prog 63 [SV.p m0 0, .a (.c (.v (.int .i64 a1)))] (tkQueue m0 m1 m2 m3 m4 m5 m6 m7 m8 q0 []) (.a (.c (.v (.int .i64 r)))) (tkQueue m0 m1 m2 m3 m4 m5 m6 m7 m8 q0 []) []
theorem partial_Queue_may_con0 {k : Nat}  {q0 : TQueue} {a1 : Int} {r : Int}  (H0 : partial_Queue_may.f k q0 a1 = some r) : partial_Queue_may_st q0 a1 r 0 1 2 3 4 5 6 7 8 := by
 rw [partial_Queue_may.f] at H0
 refine spec_of [(0, _), (1, _)] [(0, _), (1, _), (2, _), (3, _), (4, _), (5, _), (6, _), (7, _), (8, _)] 28 Tryz.func63 rfl Tryz.ntmps63 rfl rfl rfl rfl (fun β W F => ?_)
 refine G.seq <| G.rg <| K.as rfl rfl <| K.nil <| At.ns <| G.seq ?_
 obtain ⟨x1, hx1, H0⟩ := bnd H0
 refine G.rd mixed <| K.mv rfl rfl <| K.nilCheck g0 rfl rfl <| K.fieldAddr Y g0 rfl t98 rfl rfl <| K.load1 Y g0 rfl rfl t38 rfl rfl <| K.cR (cf 34 rfl) (Tree_LenM_con hx1 1 2) g0 rfl rfl rfl rfl <| K.mv rfl rfl <| K.nilCheck g0 rfl rfl <| K.fieldAddr Y g0 rfl t98 rfl rfl <| K.load1 Y g0 rfl rfl t3 rfl rfl <| K.bin (V := .bool (x1 == q0.capacity)) g0 rfl rfl (fun _ => rfl) rfl <| K.nil <| And.intro (by kernel_rfl) <| At.next <| G.cond rfl (fun h1 => ?_) (fun h1 => ?_)
 ·
  replace H0 := bif_t H0 h1
  exact G.seq <| G.rg <| K.as rfl rfl <| K.nil <| At.next <| G.ret <| At.over_ret <| At.dr Y [4] rfl rfl (by cases H0; rfl) (by cases H0; rfl) rfl rfl rfl
 ·
  replace H0 := bif_f H0 h1
  refine G.skip <| At.ns <| G.seq ?_
  obtain ⟨x2, hx2, H0⟩ := bnd H0
  obtain ⟨x3, hx3, H0⟩ := bnd H0
  refine G.rd mixed <| K.mv rfl rfl <| K.nilCheck g0 rfl rfl <| K.fieldAddr Y g0 rfl t98 rfl rfl <| K.load1 Y g0 rfl rfl t38 rfl rfl <| K.mv rfl rfl <| K.cR (cf 67 rfl) (wave_Key_con hx2) g0 rfl rfl rfl rfl <| K.cR (cf 74 rfl) (Tree_FindM_con hx3 1 2) g0 rfl rfl rfl rfl <| K.mv rfl rfl <| K.extract g0 rfl rfl rfl <| K.extract g0 rfl rfl rfl <| K.alloc Y 100 _ g0 t46 rfl rfl rfl rfl rfl <| K.store Y _ g0 rfl rfl rfl t46 rfl rfl rfl rfl rfl <| K.as rfl rfl <| K.nil <| And.intro (by kernel_rfl) <| At.nr <| K.mv rfl rfl <| K.nil <| At.next <| G.cond rfl (fun h2 => ?_) (fun h2 => ?_)
  ·
   replace H0 := bif_t H0 h2
   exact G.seq <| G.rg <| K.as rfl rfl <| K.nil <| At.next <| G.ret <| At.over_ret <| At.dr Y [4] rfl rfl (by cases H0; rfl) (by cases H0; rfl) rfl rfl rfl
  ·
   replace H0 := bif_f H0 h2
   exact G.skip <| At.nr <| K.as rfl rfl <| K.nil <| At.next <| G.ret <| At.dr Y [4] rfl rfl (by cases H0; rfl) (by cases H0; rfl) rfl rfl rfl
theorem partial_Queue_may_con {k : Nat}  {q0 : TQueue} {a1 : Int} {r : Int}  (H0 : partial_Queue_may.f k q0 a1 = some r) (m0 m1 m2 m3 m4 m5 m6 m7 m8 : Nat) : partial_Queue_may_st q0 a1 r m0 m1 m2 m3 m4 m5 m6 m7 m8 :=
 SCon.ren (rn [(0, m0), (1, m1), (2, m2), (3, m3), (4, m4), (5, m5), (6, m6), (7, m7), (8, m8)]) (partial_Queue_may_con0 (k := k)   H0) ⟨(blk_ren rfl rfl), (blk_ren rfl rfl), (pl_ren rfl), (blk_ren rfl rfl), (pl_ren rfl), (blk_ren rfl rfl), (pl_ren rfl), (blk_ren rfl rfl), (pl_ren rfl), trivial⟩ ⟨(blk_ren rfl rfl), (blk_ren rfl rfl), (pl_ren rfl), (blk_ren rfl rfl), (pl_ren rfl), (blk_ren rfl rfl), (pl_ren rfl), (blk_ren rfl rfl), (pl_ren rfl), trivial⟩ (by simp) (by simp)
abbrev shelf_Of_st (a0 : TItem) (r : TSlot) : Prop := SCon Tryz.prog 65 [.a (.agg ((eTItem a0).map .v))] [] (.a (.agg ((eTSlot r).map .v))) [] []
theorem shelf_Of_con0 {k : Nat}  {a0 : TItem} {r : TSlot}  (H0 : shelf_Of.f k a0 = some r) : shelf_Of_st a0 r := by
 rw [shelf_Of.f] at H0
 refine spec_of [(0, _)] [] 5 Tryz.func65 rfl Tryz.ntmps65 rfl rfl rfl rfl (fun β W F => ?_)
 refine G.seq <| G.rg <| K.box Y 100 _ g0 rfl rfl rfl rfl rfl rfl <| K.alloc Y 101 _ g0 t66 rfl rfl rfl rfl rfl <| K.nil <| At.nr <| K.loadS Y _ g0 rfl rfl t30 rfl rfl rfl <| K.build Y [(0, _)] [_, _, _, _] [((.tmp 3), _)] g0 (AllE.spec ⟨rfl, trivial⟩) rfl rfl t66 rfl rfl <| K.store Y _ g0 rfl rfl rfl t66 rfl rfl rfl rfl rfl <| K.nil <| At.next <| G.ret <| At.done Y [(.cell 2 66, .agg [_, _, _, _])] rfl ⟨.st rfl rfl t66 rfl rfl, trivial⟩ (to' := []) trivial ?_ ?_ rfl rfl rfl (.inl rfl)
 · cases H0; rfl
 · cases H0; rfl
theorem shelf_Of_con {k : Nat}  {a0 : TItem} {r : TSlot}  (H0 : shelf_Of.f k a0 = some r) : shelf_Of_st a0 r :=
 SCon.ren (rn []) (shelf_Of_con0 (k := k)   H0) trivial trivial (by simp) (by simp)
abbrev bridge_clamp_st (p1 : Pool (TNode TMark TSwell)) (rt0 : TRef) (a1 : Int) (r : Int) (m0 : Nat) (m1 : Nat) : Prop := SCon Tryz.prog 98 [SV.p m0 0, .a (.c (.v (.int .i64 a1)))] [(m0, blk m0 [.p m1 0, .i rt0.index, .i rt0.gen] 110), (m1, plM m1 p1)] (.a (.c (.v (.int .i64 r)))) [(m0, blk m0 [.p m1 0, .i rt0.index, .i rt0.gen] 110), (m1, plM m1 p1)] []
theorem bridge_clamp_con0 {k : Nat}  {p1 : Pool (TNode TMark TSwell)} {rt0 : TRef} {a1 : Int} {r : Int}  (H0 : bridge_clamp.f k p1 rt0 a1 = some r) : bridge_clamp_st p1 rt0 a1 r 0 1 := by
 rw [bridge_clamp.f] at H0
 refine spec_of [(0, _), (1, _)] [(0, _), (1, _)] 10 Tryz.func98 rfl Tryz.ntmps98 rfl rfl rfl rfl (fun β W F => ?_)
 refine G.seq <| G.rg <| K.as rfl rfl <| K.nil <| At.ns ?_
 obtain ⟨x1, hx1, H0⟩ := bnd H0
 exact G.rg <| K.mv rfl rfl <| K.bi2 (V := .int .i64 (gmax a1 0)) g0 rfl rfl (fun _ _ => rfl) rfl <| K.mv rfl rfl <| K.cR (cf 34 rfl) (Tree_LenM_con hx1 0 1) g0 rfl rfl rfl rfl <| K.bi2 (V := .int .i64 (gmin (gmax a1 0) x1)) g0 rfl rfl (fun _ _ => rfl) rfl <| K.as rfl rfl <| K.nil <| At.next <| G.ret <| At.dr Y [4] rfl rfl (by cases H0; rfl) (by cases H0; rfl) rfl rfl rfl
theorem bridge_clamp_con {k : Nat}  {p1 : Pool (TNode TMark TSwell)} {rt0 : TRef} {a1 : Int} {r : Int}  (H0 : bridge_clamp.f k p1 rt0 a1 = some r) (m0 m1 : Nat) : bridge_clamp_st p1 rt0 a1 r m0 m1 :=
 SCon.ren (rn [(0, m0), (1, m1)]) (bridge_clamp_con0 (k := k)   H0) ⟨(blk_ren rfl rfl), (pl_ren rfl), trivial⟩ ⟨(blk_ren rfl rfl), (pl_ren rfl), trivial⟩ (by simp) (by simp)
abbrev bridge_low_st (a0 : Int) (r : Int) (m50 : Nat) : Prop := SCon Tryz.prog 99 [.a (.c (.v (.int .i64 a0)))] [] (.a (.c (.fn (.func 119) [m50]))) [(m50, blk m50 [.v (.int .i64 r)] 3)] [m50]
theorem bridge_low_con0 {k : Nat}  {a0 : Int} {r : Int}  (H0 : bridge_low.f k a0 = some r) : bridge_low_st a0 r 50 := by
 rw [bridge_low.f] at H0
 refine spec_of [(0, _)] [] 4 Tryz.func99 rfl Tryz.ntmps99 rfl rfl rfl rfl (fun β W F => ?_)
 exact G.seq <| G.rg <| K.box Y 100 _ g0 rfl rfl rfl rfl rfl rfl <| K.as rfl rfl <| K.nil <| At.nr <| K.mkFn1 g0 rfl rfl <| K.as rfl rfl <| K.nil <| At.next <| G.ret <| At.ren (fs' := [(2, .a (.c (.fn (.func 119) [50])))]) (tl := [(50, blk 50 [.v (.int .i64 a0)] 3)]) [(50, 100)] [_] rfl ⟨rfl, trivial⟩ ⟨rfl, (blk_ren rfl rfl), trivial⟩ rfl <| At.dr Y [2] rfl rfl (by cases H0; rfl) (by cases H0; rfl) rfl rfl rfl
theorem bridge_low_con {k : Nat}  {a0 : Int} {r : Int}  (H0 : bridge_low.f k a0 = some r) (m50 : Nat) (hd : ndB [m50] = true) : bridge_low_st a0 r m50 :=
 SCon.ren (rn [(50, m50)]) (bridge_low_con0 (k := k)   H0) trivial ⟨(blk_ren rfl rfl), trivial⟩ (rn_nd hd rfl rfl) (rn_ks hd rfl rfl rfl)
abbrev bridge_low_1_st (a0 : TSwell) (a1 : TSwell) (c0 : Int) (r : Bool) (m0 : Nat) : Prop := SCon Tryz.prog 119 [.a (.agg ((eTSwell a0).map .v)), .a (.agg ((eTSwell a1).map .v)), SV.p m0 0] [(m0, blk m0 [.v (.int .i64 c0)] 3)] (.a (.c (.v (.bool r)))) [(m0, blk m0 [.v (.int .i64 c0)] 3)] []
theorem bridge_low_1_con0 {k : Nat}  {a0 : TSwell} {a1 : TSwell} {c0 : Int} {r : Bool}  (H0 : bridge_low_1.f k a0 a1 c0 = some r) : bridge_low_1_st a0 a1 c0 r 0 := by
 rw [bridge_low_1.f] at H0
 refine spec_of [(0, _), (1, _), (2, _)] [(0, _)] 22 Tryz.func119 rfl Tryz.ntmps119 rfl rfl rfl rfl (fun β W F => ?_)
 refine G.seq <| G.rg <| K.box Y 100 _ g0 rfl rfl rfl rfl rfl rfl <| K.box Y 101 _ g0 rfl rfl rfl rfl rfl rfl <| K.as rfl rfl <| K.nil <| At.ns ?_
 rcases Bool.eq_false_or_eq_true (decide (a1.weight.n > 0)) with h1 | h1
 ·
  replace H0 := bif_t H0 h1
  exact G.rg <| K.fieldAddr Y g0 rfl t50 rfl rfl <| K.fieldAddr Y g0 rfl t48 rfl rfl <| K.load1 Y g0 rfl rfl t3 rfl rfl <| K.bin (V := .bool (decide (a1.weight.n > 0))) g0 rfl rfl (fun _ => rfl) rfl <| K.mv rfl rfl <| K.load1 Y (g1 rfl rfl h1) rfl rfl t3 rfl rfl <| K.fieldAddr Y (g1 rfl rfl h1) rfl t50 rfl rfl <| K.fieldAddr Y (g1 rfl rfl h1) rfl t48 rfl rfl <| K.load1 Y (g1 rfl rfl h1) rfl rfl t3 rfl rfl <| K.bin (V := .int .i64 (w64 (c0 + a0.weight.sum))) (g1 rfl rfl h1) rfl rfl (fun _ => rfl) rfl <| K.fieldAddr Y (g1 rfl rfl h1) rfl t50 rfl rfl <| K.fieldAddr Y (g1 rfl rfl h1) rfl t48 rfl rfl <| K.load1 Y (g1 rfl rfl h1) rfl rfl t3 rfl rfl <| K.bin (V := .int .i64 (w64 ((w64 (c0 + a0.weight.sum)) + a1.weight.low))) (g1 rfl rfl h1) rfl rfl (fun _ => rfl) rfl <| K.bin (V := .bool (decide ((w64 ((w64 (c0 + a0.weight.sum)) + a1.weight.low)) ≤ 0))) (g1 rfl rfl h1) rfl rfl (fun _ => rfl) rfl <| K.pickT g0 rfl (h1) rfl rfl <| K.as rfl rfl <| K.nil <| At.next <| G.ret <| At.dr Y [5] rfl rfl (by cases H0; rfl) (by cases H0; rfl) rfl rfl rfl
 ·
  replace H0 := bif_f H0 h1
  exact G.rg <| K.fieldAddr Y g0 rfl t50 rfl rfl <| K.fieldAddr Y g0 rfl t48 rfl rfl <| K.load1 Y g0 rfl rfl t3 rfl rfl <| K.bin (V := .bool (decide (a1.weight.n > 0))) g0 rfl rfl (fun _ => rfl) rfl <| K.mv rfl rfl <| K.sk rfl rfl h1 rfl <| K.sk rfl rfl h1 rfl <| K.sk rfl rfl h1 rfl <| K.sk rfl rfl h1 rfl <| K.sk rfl rfl h1 rfl <| K.sk rfl rfl h1 rfl <| K.sk rfl rfl h1 rfl <| K.sk rfl rfl h1 rfl <| K.sk rfl rfl h1 rfl <| K.sk rfl rfl h1 rfl <| K.pickF g0 rfl (h1) rfl rfl <| K.as rfl rfl <| K.nil <| At.next <| G.ret <| At.dr Y [5] rfl rfl (by cases H0; rfl) (by cases H0; rfl) rfl rfl rfl
theorem bridge_low_1_con {k : Nat}  {a0 : TSwell} {a1 : TSwell} {c0 : Int} {r : Bool}  (H0 : bridge_low_1.f k a0 a1 c0 = some r) (m0 : Nat) : bridge_low_1_st a0 a1 c0 r m0 :=
 SCon.ren (rn [(0, m0)]) (bridge_low_1_con0 (k := k)   H0) ⟨(blk_ren rfl rfl), trivial⟩ ⟨(blk_ren rfl rfl), trivial⟩ (by simp) (by simp)
abbrev bridge_Prior_st (p1 : Pool (TNode TMark TSwell)) (rt0 : TRef) (a1 : Int) (a2 : Int) (r : Int) (m0 : Nat) (m1 : Nat) : Prop := SCon Tryz.prog 68 [SV.p m0 0, .a (.c (.v (.int .i64 a1))), .a (.c (.v (.int .i64 a2)))] [(m0, blk m0 [.p m1 0, .i rt0.index, .i rt0.gen] 110), (m1, plM m1 p1)] (.a (.c (.v (.int .i64 r)))) [(m0, blk m0 [.p m1 0, .i rt0.index, .i rt0.gen] 110), (m1, plM m1 p1)] []
theorem bridge_Prior_con0 {k : Nat}  {p1 : Pool (TNode TMark TSwell)} {rt0 : TRef} {a1 : Int} {a2 : Int} {r : Int}  (H0 : bridge_Prior.f k p1 rt0 a1 a2 = some r) : bridge_Prior_st p1 rt0 a1 a2 r 0 1 := by
 rw [bridge_Prior.f] at H0
 refine spec_of [(0, _), (1, _), (2, _)] [(0, _), (1, _)] 21 Tryz.func68 rfl Tryz.ntmps68 rfl rfl rfl rfl (fun β W F => ?_)
 refine G.seq <| G.rg <| K.as rfl rfl <| K.nil <| At.ns <| G.seq ?_
 obtain ⟨x1, hx1, H0⟩ := bnd H0
 obtain ⟨x2, hx2, H0⟩ := bnd H0
 obtain ⟨x3, hx3, H0⟩ := bnd H0
 refine G.rg <| K.mv rfl rfl <| K.mv rfl rfl <| K.mv rfl rfl <| K.cR (cf 98 rfl) (bridge_clamp_con hx1 0 1) g0 rfl rfl rfl rfl <| K.mv rfl rfl <| K.c0 (cf 99 rfl) (bridge_low_con hx2 100 rfl) g0 rfl rfl rfl rfl <| K.cR (cf 97 rfl) (Tree_LastM_f12_con (cv2 := [(.int .i64 x2)]) (Tc2 := 3) (cf 119 rfl) (fun c _ _ _ h => bridge_low_1_con h c) hx3 0 1 100) g0 rfl rfl rfl rfl <| K.as rfl rfl <| K.nil <| At.nr <| K.mv rfl rfl <| K.bin (V := .bool (decide (x3 ≥ 0))) g0 rfl rfl (fun _ => rfl) rfl <| K.nil <| At.next <| G.cond rfl (fun h1 => ?_) (fun h1 => ?_)
 ·
  replace H0 := bif_t H0 h1
  exact G.seq <| G.rg <| K.mv rfl rfl <| K.bin (V := .int .i64 (w64 (x3 + 1))) g0 rfl rfl (fun _ => rfl) rfl <| K.as rfl rfl <| K.nil <| At.next <| G.ret <| At.over_ret <| At.dr Y [6] rfl rfl (by cases H0; rfl) (by cases H0; rfl) rfl rfl rfl
 ·
  replace H0 := bif_f H0 h1
  refine G.skip <| At.ns <| G.seq <| G.rg <| K.mv rfl rfl <| K.bin (V := .bool (decide (a2 ≤ 0))) g0 rfl rfl (fun _ => rfl) rfl <| K.nil <| At.next <| G.cond rfl (fun h2 => ?_) (fun h2 => ?_)
  ·
   replace H0 := bif_t H0 h2
   exact G.seq <| G.rg <| K.as rfl rfl <| K.nil <| At.next <| G.ret <| At.over_ret <| At.dr Y [6] rfl rfl (by cases H0; rfl) (by cases H0; rfl) rfl rfl rfl
  ·
   replace H0 := bif_f H0 h2
   exact G.skip <| At.nr <| K.as rfl rfl <| K.nil <| At.next <| G.ret <| At.dr Y [6] rfl rfl (by cases H0; rfl) (by cases H0; rfl) rfl rfl rfl
theorem bridge_Prior_con {k : Nat}  {p1 : Pool (TNode TMark TSwell)} {rt0 : TRef} {a1 : Int} {a2 : Int} {r : Int}  (H0 : bridge_Prior.f k p1 rt0 a1 a2 = some r) (m0 m1 : Nat) : bridge_Prior_st p1 rt0 a1 a2 r m0 m1 :=
 SCon.ren (rn [(0, m0), (1, m1)]) (bridge_Prior_con0 (k := k)   H0) ⟨(blk_ren rfl rfl), (pl_ren rfl), trivial⟩ ⟨(blk_ren rfl rfl), (pl_ren rfl), trivial⟩ (by simp) (by simp)
abbrev bridge_Best_st (p1 : Pool (TNode TMark TSwell)) (rt0 : TRef) (a1 : Int) (r : TTook) (m0 : Nat) (m1 : Nat) : Prop := SCon Tryz.prog 71 [SV.p m0 0, .a (.c (.v (.int .i64 a1)))] [(m0, blk m0 [.p m1 0, .i rt0.index, .i rt0.gen] 110), (m1, plM m1 p1)] (.a (.agg ((eTTook r).map .v))) [(m0, blk m0 [.p m1 0, .i rt0.index, .i rt0.gen] 110), (m1, plM m1 p1)] []
theorem bridge_Best_con0 {k : Nat}  {p1 : Pool (TNode TMark TSwell)} {rt0 : TRef} {a1 : Int} {r : TTook}  (H0 : bridge_Best.f k p1 rt0 a1 = some r) : bridge_Best_st p1 rt0 a1 r 0 1 := by
 rw [bridge_Best.f] at H0
 refine spec_of [(0, _), (1, _)] [(0, _), (1, _)] 13 Tryz.func71 rfl Tryz.ntmps71 rfl rfl rfl rfl (fun β W F => ?_)
 refine G.seq <| G.rg <| K.alloc Y 100 _ g0 t44 rfl rfl rfl rfl rfl <| K.nil <| At.ns ?_
 obtain ⟨x1, hx1, H0⟩ := bnd H0
 obtain ⟨x2, hx2, H0⟩ := bnd H0
 obtain ⟨x3, hx3, H0⟩ := bnd H0
 refine G.rg <| K.mv rfl rfl <| K.mv rfl rfl <| K.mv rfl rfl <| K.cR (cf 98 rfl) (bridge_clamp_con hx1 0 1) g0 rfl rfl rfl rfl <| K.mv rfl rfl <| K.cR (cf 34 rfl) (Tree_LenM_con hx2 0 1) g0 rfl rfl rfl rfl <| K.cR (cf 102 rfl) (Tree_BetweenM_con hx3 0 1) g0 rfl rfl rfl rfl <| K.fieldS Y _ g0 rfl t50 rfl t44 rfl rfl <| K.store Y _ g0 rfl rfl rfl t44 rfl rfl rfl rfl rfl <| K.nil <| At.next <| G.ret <| At.done Y [(.cell 4 44, .agg [_, _, _])] rfl ⟨.st rfl rfl t44 rfl rfl, trivial⟩ (to' := [(0, _), (1, _)]) ⟨rfl, rfl, trivial⟩ ?_ ?_ rfl rfl rfl (.inl rfl)
 · cases H0; rfl
 · cases H0; rfl
theorem bridge_Best_con {k : Nat}  {p1 : Pool (TNode TMark TSwell)} {rt0 : TRef} {a1 : Int} {r : TTook}  (H0 : bridge_Best.f k p1 rt0 a1 = some r) (m0 m1 : Nat) : bridge_Best_st p1 rt0 a1 r m0 m1 :=
 SCon.ren (rn [(0, m0), (1, m1)]) (bridge_Best_con0 (k := k)   H0) ⟨(blk_ren rfl rfl), (pl_ren rfl), trivial⟩ ⟨(blk_ren rfl rfl), (pl_ren rfl), trivial⟩ (by simp) (by simp)
abbrev partial_Queue_turn_st (q0 : TQueue) (a1 : TItem) (a2 : Bool) (r : TQueue) (m0 : Nat) (m1 : Nat) (m2 : Nat) (m3 : Nat) (m4 : Nat) (m5 : Nat) (m6 : Nat) (m7 : Nat) (m8 : Nat) : Prop := SCon Tryz.prog 72 [SV.p m0 0, .a (.agg ((eTItem a1).map .v)), .a (.c (.v (.bool a2)))] (tkQueue m0 m1 m2 m3 m4 m5 m6 m7 m8 q0 []) (.tup []) (tkQueue m0 m1 m2 m3 m4 m5 m6 m7 m8 r []) []
theorem partial_Queue_turn_con0 {k : Nat}  {q0 : TQueue} {a1 : TItem} {a2 : Bool} {r : TQueue}  (H0 : partial_Queue_turn.f k q0 a1 a2 = some r) : partial_Queue_turn_st q0 a1 a2 r 0 1 2 3 4 5 6 7 8 := by
 rw [partial_Queue_turn.f] at H0
 refine spec_of [(0, _), (1, _), (2, _)] [(0, _), (1, _), (2, _), (3, _), (4, _), (5, _), (6, _), (7, _), (8, _)] 60 Tryz.func72 rfl Tryz.ntmps72 rfl rfl rfl rfl (fun β W F => ?_)
 refine G.seq <| G.rg <| K.box Y 100 _ g0 rfl rfl rfl rfl rfl rfl <| K.nil <| At.ns ?_
 obtain ⟨x1, hx1, H0⟩ := bnd H0
 obtain ⟨x2, hx2, H0⟩ := bnd H0
 refine G.rd mixed <| K.mv rfl rfl <| K.nilCheck g0 rfl rfl <| K.fieldAddr Y g0 rfl t98 rfl rfl <| K.load1 Y g0 rfl rfl t63 rfl rfl <| K.loadS Y _ g0 rfl rfl t30 rfl rfl rfl <| K.cR (cf 65 rfl) (shelf_Of_con hx1) g0 rfl rfl rfl rfl <| K.cR (cf 64 rfl) (Tree_FindS_con hx2 7 8) g0 rfl rfl rfl rfl <| K.mv rfl rfl <| K.extract g0 rfl rfl rfl <| K.extract g0 rfl rfl rfl <| K.alloc Y 101 _ g0 t66 rfl rfl rfl rfl rfl <| K.store Y _ g0 rfl rfl rfl t66 rfl rfl rfl rfl rfl <| K.as rfl rfl <| K.nil <| And.intro (by kernel_rfl) <| At.ns ?_
 obtain ⟨x3, hx3, H0⟩ := bnd H0
 obtain ⟨x4, hx4, H0⟩ := bnd H0
 refine G.rd mixed <| K.mv rfl rfl <| K.nilCheck g0 rfl rfl <| K.fieldAddr Y g0 rfl t98 rfl rfl <| K.load1 Y g0 rfl rfl t38 rfl rfl <| K.fieldAddr Y g0 rfl t66 rfl rfl <| K.load1 Y g0 rfl rfl t3 rfl rfl <| K.cR (cf 67 rfl) (wave_Key_con hx3) g0 rfl rfl rfl rfl <| K.cR (cf 74 rfl) (Tree_FindM_con hx4 1 2) g0 rfl rfl rfl rfl <| K.mv rfl rfl <| K.extract g0 rfl rfl rfl <| K.extract g0 rfl rfl rfl <| K.alloc Y 102 _ g0 t46 rfl rfl rfl rfl rfl <| K.store Y _ g0 rfl rfl rfl t46 rfl rfl rfl rfl rfl <| K.as rfl rfl <| K.nil <| And.intro (by kernel_rfl) <| At.nr <| K.mv rfl rfl <| K.fieldAddr Y g0 rfl t46 rfl rfl <| K.store Y _ g0 rfl rfl rfl t4 rfl rfl rfl rfl rfl <| K.nil <| At.ns ?_
 obtain ⟨x5, hx5, H0⟩ := bnd H0
 refine G.rd mixed <| K.mv rfl rfl <| K.nilCheck g0 rfl rfl <| K.fieldAddr Y g0 rfl t98 rfl rfl <| K.load1 Y g0 rfl rfl t38 rfl rfl <| K.loadS Y _ g0 rfl rfl t46 rfl rfl rfl <| K.c0 (cf 70 rfl) (Tree_PutM_con hx5 1 2) g0 rfl rfl rfl rfl <| K.nil <| And.intro (by kernel_rfl) <| At.ns <| G.rd mixed <| K.mv rfl rfl <| K.nilCheck g0 rfl rfl <| K.fieldAddr Y g0 rfl t98 rfl rfl <| K.load1 Y g0 rfl rfl t63 rfl rfl <| K.mv rfl rfl <| K.nilCheck g0 rfl rfl <| K.fieldAddr Y g0 rfl t98 rfl rfl <| K.load1 Y g0 rfl rfl t63 rfl rfl <| K.as rfl rfl <| K.as rfl rfl <| K.nil <| And.intro (by kernel_rfl) <| At.ns <| G.seq <| G.rg <| K.mv rfl rfl <| K.nil <| At.next <| G.cond rfl (fun h1 => ?_) (fun h1 => ?_)
 ·
  replace H0 := bif_t H0 h1
  refine G.rg <| K.mv rfl rfl <| K.mv rfl rfl <| K.as rfl rfl <| K.as rfl rfl <| K.nil <| At.ns ?_
  obtain ⟨x6, hx6, H0⟩ := bnd H0
  obtain ⟨x7, hx7, H0⟩ := bnd H0
  refine G.rg <| K.mv rfl rfl <| K.loadS Y _ g0 rfl rfl t30 rfl rfl rfl <| K.cR (cf 65 rfl) (shelf_Of_con hx6) g0 rfl rfl rfl rfl <| K.c0 (cf 77 rfl) (Tree_DropS_con hx7 5 6) g0 rfl rfl rfl rfl <| K.nil <| At.next ?_
  obtain ⟨x8, hx8, H0⟩ := bnd H0
  obtain ⟨x9, hx9, H0⟩ := bnd H0
  exact G.rg <| K.mv rfl rfl <| K.loadS Y _ g0 rfl rfl t30 rfl rfl rfl <| K.cR (cf 65 rfl) (shelf_Of_con hx8) g0 rfl rfl rfl rfl <| K.c0 (cf 69 rfl) (Tree_PutS_con hx9 3 4) g0 rfl rfl rfl rfl <| K.nil <| At.dn Y [] rfl rfl (by cases H0; rfl) (by cases H0; rfl) rfl rfl rfl
 ·
  replace H0 := bif_f H0 h1
  refine G.skip <| At.ns ?_
  obtain ⟨x10, hx10, H0⟩ := bnd H0
  obtain ⟨x11, hx11, H0⟩ := bnd H0
  refine G.rg <| K.mv rfl rfl <| K.loadS Y _ g0 rfl rfl t30 rfl rfl rfl <| K.cR (cf 65 rfl) (shelf_Of_con hx10) g0 rfl rfl rfl rfl <| K.c0 (cf 77 rfl) (Tree_DropS_con hx11 3 4) g0 rfl rfl rfl rfl <| K.nil <| At.next ?_
  obtain ⟨x12, hx12, H0⟩ := bnd H0
  obtain ⟨x13, hx13, H0⟩ := bnd H0
  exact G.rg <| K.mv rfl rfl <| K.loadS Y _ g0 rfl rfl t30 rfl rfl rfl <| K.cR (cf 65 rfl) (shelf_Of_con hx12) g0 rfl rfl rfl rfl <| K.c0 (cf 69 rfl) (Tree_PutS_con hx13 5 6) g0 rfl rfl rfl rfl <| K.nil <| At.dn Y [] rfl rfl (by cases H0; rfl) (by cases H0; rfl) rfl rfl rfl
theorem partial_Queue_turn_con {k : Nat}  {q0 : TQueue} {a1 : TItem} {a2 : Bool} {r : TQueue}  (H0 : partial_Queue_turn.f k q0 a1 a2 = some r) (m0 m1 m2 m3 m4 m5 m6 m7 m8 : Nat) : partial_Queue_turn_st q0 a1 a2 r m0 m1 m2 m3 m4 m5 m6 m7 m8 :=
 SCon.ren (rn [(0, m0), (1, m1), (2, m2), (3, m3), (4, m4), (5, m5), (6, m6), (7, m7), (8, m8)]) (partial_Queue_turn_con0 (k := k)   H0) ⟨(blk_ren rfl rfl), (blk_ren rfl rfl), (pl_ren rfl), (blk_ren rfl rfl), (pl_ren rfl), (blk_ren rfl rfl), (pl_ren rfl), (blk_ren rfl rfl), (pl_ren rfl), trivial⟩ ⟨(blk_ren rfl rfl), (blk_ren rfl rfl), (pl_ren rfl), (blk_ren rfl rfl), (pl_ren rfl), (blk_ren rfl rfl), (pl_ren rfl), (blk_ren rfl rfl), (pl_ren rfl), trivial⟩ (by simp) (by simp)
abbrev partial_Queue_Insert_st (q0 : TQueue) (a1 : Int) (a2 : TItem) (r : TChange × Int × TQueue) (m0 : Nat) (m1 : Nat) (m2 : Nat) (m3 : Nat) (m4 : Nat) (m5 : Nat) (m6 : Nat) (m7 : Nat) (m8 : Nat) (m60 : Nat) (m61 : Nat) : Prop := SCon Tryz.prog 23 [SV.p m0 0, .a (.c (.v (.int .i64 a1))), .a (.agg ((eTItem a2).map .v))] (tkQueue m0 m1 m2 m3 m4 m5 m6 m7 m8 q0 []) (.tup [.agg [.nv m60, .nv m61], .c (.v (.int .i64 r.2.1))]) (tkQueue m0 m1 m2 m3 m4 m5 m6 m7 m8 r.2.2 [(m60, lrow m60 30 eTItem 2 (r.1.in_)), (m61, lrow m61 30 eTItem 2 (r.1.out))]) [m60, m61]
set_option maxHeartbeats 4000000 in
theorem partial_Queue_Insert_con0 {k : Nat}  {q0 : TQueue} {a1 : Int} {a2 : TItem} {r : TChange × Int × TQueue}  (H0 : partial_Queue_Insert.f k q0 a1 a2 = some r) : partial_Queue_Insert_st q0 a1 a2 r 0 1 2 3 4 5 6 7 8 60 61 := by
 rw [partial_Queue_Insert.f] at H0
 refine spec_of [(0, _), (1, _), (2, _)] [(0, _), (1, _), (2, _), (3, _), (4, _), (5, _), (6, _), (7, _), (8, _)] 98 Tryz.func23 rfl Tryz.ntmps23 rfl rfl rfl rfl (fun β W F => ?_)
 refine G.seq <| G.rg <| K.box Y 100 _ g0 rfl rfl rfl rfl rfl rfl <| K.alloc Y 101 _ g0 t56 rfl rfl rfl rfl rfl <| K.as rfl rfl <| K.nil <| At.nilBlk (n := 101) (l' := [_, _]) 0 102 30 eTItem 2 rfl rfl rfl rfl rfl <| At.nilBlk (n := 101) (l' := [_, _]) 1 103 30 eTItem 2 rfl rfl rfl rfl rfl <| At.ns <| G.seq ?_
 obtain ⟨x1, hx1, H0⟩ := bnd H0
 refine G.rg <| K.mv rfl rfl <| K.mv rfl rfl <| K.cR (cf 63 rfl) (partial_Queue_may_con hx1 0 1 2 3 4 5 6 7 8) g0 rfl rfl rfl rfl <| K.as rfl rfl <| K.nil <| At.nr <| K.mv rfl rfl <| K.bin (V := .bool (x1 != 0)) g0 rfl rfl (fun _ => rfl) rfl <| K.nil <| At.next <| G.cond rfl (fun h1 => ?_) (fun h1 => ?_)
 ·
  replace H0 := bif_t H0 h1
  refine G.seq <| G.rg <| K.build Y [] [_, _] [] g0 (AllE.spec trivial) rfl rfl t56 rfl rfl <| K.mv rfl rfl <| K.store Y _ g0 rfl rfl rfl t56 rfl rfl rfl rfl rfl <| K.as rfl rfl <| K.nil <| At.nilAgg (t := 19) (l' := [_, _]) 0 104 30 eTItem 2 rfl rfl rfl rfl rfl <| At.nilAgg (t := 19) (l' := [_, _]) 1 105 30 eTItem 2 rfl rfl rfl rfl rfl <| At.nilBlk (n := 101) (l' := [_, _]) 0 106 30 eTItem 2 rfl rfl rfl rfl rfl <| At.nilBlk (n := 101) (l' := [_, _]) 1 107 30 eTItem 2 rfl rfl rfl rfl rfl <| At.next <| G.ret <| At.over_ret <| At.ren (fs' := [(6, .a (.c (.p 101 0))), (7, .a (.c (.v (.int .i64 x1))))]) (tl := (tkQueue 0 1 2 3 4 5 6 7 8 q0 [(60, lrow 60 30 eTItem 2 ([] : List TItem)), (61, lrow 61 30 eTItem 2 ([] : List TItem)), (101, blk 101 [.nv 60, .nv 61] 56)])) [(60, 106), (61, 107)] [_, _, _, _, _, _, _, _, _, _, _, _] rfl ⟨rfl, rfl, trivial⟩ ⟨rfl, (blk_ren rfl rfl), rfl, (blk_ren rfl rfl), rfl, (pl_ren rfl), rfl, (blk_ren rfl rfl), rfl, (pl_ren rfl), rfl, (blk_ren rfl rfl), rfl, (pl_ren rfl), rfl, (blk_ren rfl rfl), rfl, (pl_ren rfl), rfl, (lrow_ren rfl), rfl, (lrow_ren rfl), rfl, (blk_ren rfl rfl), trivial⟩ rfl <| At.done Y [(.cell 6 56, .agg [_, _]), (.tmp 7, .c _)] rfl ⟨.st rfl rfl t56 rfl rfl, .tmp rfl, trivial⟩ (to' := [(0, _), (1, _), (2, _), (3, _), (4, _), (5, _), (6, _), (7, _), (8, _), (60, _), (61, _)]) ⟨rfl, rfl, rfl, rfl, rfl, rfl, rfl, rfl, rfl, rfl, rfl, trivial⟩ ?_ ?_ rfl rfl rfl (.inl rfl)
  · cases H0; rfl
  · cases H0; rfl
 ·
  replace H0 := bif_f H0 h1
  refine G.skip <| At.ns <| G.seq ?_
  obtain ⟨x2, hx2, H0⟩ := bnd H0
  obtain ⟨x3, hx3, H0⟩ := bnd H0
  refine G.rd mixed <| K.mv rfl rfl <| K.nilCheck g0 rfl rfl <| K.fieldAddr Y g0 rfl t98 rfl rfl <| K.load1 Y g0 rfl rfl t63 rfl rfl <| K.loadS Y _ g0 rfl rfl t30 rfl rfl rfl <| K.cR (cf 65 rfl) (shelf_Of_con hx2) g0 rfl rfl rfl rfl <| K.cR (cf 64 rfl) (Tree_FindS_con hx3 7 8) g0 rfl rfl rfl rfl <| K.mv rfl rfl <| K.extract g0 rfl rfl rfl <| K.extract g0 rfl rfl rfl <| K.alloc Y 108 _ g0 t66 rfl rfl rfl rfl rfl <| K.store Y _ g0 rfl rfl rfl t66 rfl rfl rfl rfl rfl <| K.as rfl rfl <| K.nil <| And.intro (by kernel_rfl) <| At.nr <| K.mv rfl rfl <| K.nil <| At.next <| G.cond rfl (fun h2 => ?_) (fun h2 => ?_)
  ·
   replace H0 := bif_t H0 h2
   refine G.seq <| G.rg <| K.build Y [] [_, _] [] g0 (AllE.spec trivial) rfl rfl t56 rfl rfl <| K.store Y _ g0 rfl rfl rfl t56 rfl rfl rfl rfl rfl <| K.as rfl rfl <| K.nil <| At.nilAgg (t := 32) (l' := [_, _]) 0 109 30 eTItem 2 rfl rfl rfl rfl rfl <| At.nilAgg (t := 32) (l' := [_, _]) 1 110 30 eTItem 2 rfl rfl rfl rfl rfl <| At.nilBlk (n := 101) (l' := [_, _]) 0 111 30 eTItem 2 rfl rfl rfl rfl rfl <| At.nilBlk (n := 101) (l' := [_, _]) 1 112 30 eTItem 2 rfl rfl rfl rfl rfl <| At.next <| G.ret <| At.over_ret <| At.ren (fs' := [(6, .a (.c (.p 101 0))), (7, .a (.c (.v (.int .i64 2))))]) (tl := (tkQueue 0 1 2 3 4 5 6 7 8 q0 [(60, lrow 60 30 eTItem 2 ([] : List TItem)), (61, lrow 61 30 eTItem 2 ([] : List TItem)), (101, blk 101 [.nv 60, .nv 61] 56)])) [(60, 111), (61, 112)] [_, _, _, _, _, _, _, _, _, _, _, _] rfl ⟨rfl, rfl, trivial⟩ ⟨rfl, (blk_ren rfl rfl), rfl, (blk_ren rfl rfl), rfl, (pl_ren rfl), rfl, (blk_ren rfl rfl), rfl, (pl_ren rfl), rfl, (blk_ren rfl rfl), rfl, (pl_ren rfl), rfl, (blk_ren rfl rfl), rfl, (pl_ren rfl), rfl, (lrow_ren rfl), rfl, (lrow_ren rfl), rfl, (blk_ren rfl rfl), trivial⟩ rfl <| At.done Y [(.cell 6 56, .agg [_, _]), (.tmp 7, .c _)] rfl ⟨.st rfl rfl t56 rfl rfl, .tmp rfl, trivial⟩ (to' := [(0, _), (1, _), (2, _), (3, _), (4, _), (5, _), (6, _), (7, _), (8, _), (60, _), (61, _)]) ⟨rfl, rfl, rfl, rfl, rfl, rfl, rfl, rfl, rfl, rfl, rfl, trivial⟩ ?_ ?_ rfl rfl rfl (.inl rfl)
   · cases H0; rfl
   · cases H0; rfl
  ·
   replace H0 := bif_f H0 h2
   refine G.skip <| At.ns ?_
   obtain ⟨x4, hx4, H0⟩ := bnd H0
   obtain ⟨x5, hx5, H0⟩ := bnd H0
   refine G.rd mixed <| K.mv rfl rfl <| K.nilCheck g0 rfl rfl <| K.fieldAddr Y g0 rfl t98 rfl rfl <| K.load1 Y g0 rfl rfl t38 rfl rfl <| K.mv rfl rfl <| K.cR (cf 67 rfl) (wave_Key_con hx4) g0 rfl rfl rfl rfl <| K.cR (cf 66 rfl) (Tree_RankM_con hx5 1 2) g0 rfl rfl rfl rfl <| K.as rfl rfl <| K.nil <| And.intro (by kernel_rfl) <| At.ns ?_
   obtain ⟨x6, hx6, H0⟩ := bnd H0
   refine G.rd mixed <| K.mv rfl rfl <| K.nilCheck g0 rfl rfl <| K.fieldAddr Y g0 rfl t98 rfl rfl <| K.load1 Y g0 rfl rfl t38 rfl rfl <| K.mv rfl rfl <| K.mv rfl rfl <| K.nilCheck g0 rfl rfl <| K.fieldAddr Y g0 rfl t98 rfl rfl <| K.load1 Y g0 rfl rfl t3 rfl rfl <| K.cR (cf 68 rfl) (bridge_Prior_con hx6 1 2) g0 rfl rfl rfl rfl <| K.as rfl rfl <| K.nil <| And.intro (by kernel_rfl) <| At.ns ?_
   obtain ⟨x7, hx7, H0⟩ := bnd H0
   refine G.rd mixed <| K.mv rfl rfl <| K.nilCheck g0 rfl rfl <| K.fieldAddr Y g0 rfl t98 rfl rfl <| K.load1 Y g0 rfl rfl t63 rfl rfl <| K.loadS Y _ g0 rfl rfl t30 rfl rfl rfl <| K.mv rfl rfl <| K.build Y [(0, _), (1, _), (2, _)] [_, _, _, _] [((.tmp 54), _), (_, _), ((.tmp 55), _)] g0 (AllE.spec ⟨rfl, rfl, rfl, trivial⟩) rfl rfl t66 rfl rfl <| K.c0 (cf 69 rfl) (Tree_PutS_con hx7 7 8) g0 rfl rfl rfl rfl <| K.nil <| And.intro (by kernel_rfl) <| At.ns ?_
   obtain ⟨x8, hx8, H0⟩ := bnd H0
   refine G.rd mixed <| K.mv rfl rfl <| K.nilCheck g0 rfl rfl <| K.fieldAddr Y g0 rfl t98 rfl rfl <| K.load1 Y g0 rfl rfl t38 rfl rfl <| K.mv rfl rfl <| K.loadS Y _ g0 rfl rfl t30 rfl rfl rfl <| K.build Y [(0, _), (1, _), (2, _)] [_, _, _, _] [((.tmp 62), _), (_, _), ((.tmp 63), _)] g0 (AllE.spec ⟨rfl, rfl, rfl, trivial⟩) rfl rfl t42 rfl rfl <| K.build Y [(0, _)] [_, _, _, _, _, _, _, _] [((.tmp 64), _)] g0 (AllE.spec ⟨rfl, trivial⟩) rfl rfl t46 rfl rfl <| K.c0 (cf 70 rfl) (Tree_PutM_con hx8 1 2) g0 rfl rfl rfl rfl <| K.nil <| And.intro (by kernel_rfl) <| At.ns ?_
   obtain ⟨x9, hx9, H0⟩ := bnd H0
   obtain ⟨x10, hx10, H0⟩ := bnd H0
   refine G.rd mixed <| K.mv rfl rfl <| K.nilCheck g0 rfl rfl <| K.fieldAddr Y g0 rfl t98 rfl rfl <| K.load1 Y g0 rfl rfl t63 rfl rfl <| K.loadS Y _ g0 rfl rfl t30 rfl rfl rfl <| K.cR (cf 65 rfl) (shelf_Of_con hx9) g0 rfl rfl rfl rfl <| K.c0 (cf 69 rfl) (Tree_PutS_con hx10 5 6) g0 rfl rfl rfl rfl <| K.nil <| And.intro (by kernel_rfl) <| At.ns <| G.seq <| G.rg <| K.mv rfl rfl <| K.bin (V := .bool (decide (x6 < 0))) g0 rfl rfl (fun _ => rfl) rfl <| K.nil <| At.next <| G.cond rfl (fun h3 => ?_) (fun h3 => ?_)
   ·
    replace H0 := bif_t H0 h3
    refine G.seq <| G.rg <| K.mv rfl rfl <| K.nilCheck g0 rfl rfl <| K.fieldAddr Y g0 rfl t98 rfl rfl <| K.load1 Y g0 rfl rfl t3 rfl rfl <| K.bin (V := .int .i64 (w64 (q0.excess - 1))) g0 rfl rfl (fun _ => rfl) rfl <| K.nilCheck g0 rfl rfl <| K.fieldAddr Y g0 rfl t98 rfl rfl <| K.store Y _ g0 rfl rfl rfl t3 rfl rfl rfl rfl rfl <| K.nil <| At.nr <| K.build Y [] [_, _] [] g0 (AllE.spec trivial) rfl rfl t56 rfl rfl <| K.store Y _ g0 rfl rfl rfl t56 rfl rfl rfl rfl rfl <| K.as rfl rfl <| K.nil <| At.nilAgg (t := 83) (l' := [_, _]) 0 113 30 eTItem 2 rfl rfl rfl rfl rfl <| At.nilAgg (t := 83) (l' := [_, _]) 1 114 30 eTItem 2 rfl rfl rfl rfl rfl <| At.nilBlk (n := 101) (l' := [_, _]) 0 115 30 eTItem 2 rfl rfl rfl rfl rfl <| At.nilBlk (n := 101) (l' := [_, _]) 1 116 30 eTItem 2 rfl rfl rfl rfl rfl <| At.next <| G.ret <| At.over_ret <| At.ren (fs' := [(6, .a (.c (.p 101 0))), (7, .a (.c (.v (.int .i64 0))))]) (tl := (tkQueue 0 1 2 3 4 5 6 7 8 (TQueue.mk q0.capacity (TS.mk x8.2.2 x8.2.1) q0.present (TS.mk x10.2.2 x10.2.1) (TS.mk x7.2.2 x7.2.1) (w64 (q0.excess - 1))) [(60, lrow 60 30 eTItem 2 ([] : List TItem)), (61, lrow 61 30 eTItem 2 ([] : List TItem)), (101, blk 101 [.nv 60, .nv 61] 56)])) [(60, 115), (61, 116)] [_, _, _, _, _, _, _, _, _, _, _, _] rfl ⟨rfl, rfl, trivial⟩ ⟨rfl, (blk_ren rfl rfl), rfl, (blk_ren rfl rfl), rfl, (pl_ren rfl), rfl, (blk_ren rfl rfl), rfl, (pl_ren rfl), rfl, (blk_ren rfl rfl), rfl, (pl_ren rfl), rfl, (blk_ren rfl rfl), rfl, (pl_ren rfl), rfl, (lrow_ren rfl), rfl, (lrow_ren rfl), rfl, (blk_ren rfl rfl), trivial⟩ rfl <| At.done Y [(.cell 6 56, .agg [_, _]), (.tmp 7, .c _)] rfl ⟨.st rfl rfl t56 rfl rfl, .tmp rfl, trivial⟩ (to' := [(0, _), (1, _), (2, _), (3, _), (4, _), (5, _), (6, _), (7, _), (8, _), (60, _), (61, _)]) ⟨rfl, rfl, rfl, rfl, rfl, rfl, rfl, rfl, rfl, rfl, rfl, trivial⟩ ?_ ?_ rfl rfl rfl (.inl rfl)
    · cases H0; rfl
    · cases H0; rfl
   ·
    replace H0 := bif_f H0 h3
    refine G.skip <| At.ns ?_
    obtain ⟨x11, hx11, H0⟩ := bnd H0
    refine G.rg <| K.mv rfl rfl <| K.nilCheck g0 rfl rfl <| K.fieldAddr Y g0 rfl t98 rfl rfl <| K.load1 Y g0 rfl rfl t38 rfl rfl <| K.mv rfl rfl <| K.cR (cf 71 rfl) (bridge_Best_con hx11 1 2) g0 rfl rfl rfl rfl <| K.alloc Y 117 _ g0 t44 rfl rfl rfl rfl rfl <| K.store Y _ g0 rfl rfl rfl t44 rfl rfl rfl rfl rfl <| K.nil <| At.ns ?_
    obtain ⟨x12, hx12, H0⟩ := bnd H0
    refine G.rg <| K.mv rfl rfl <| K.fieldAddr Y g0 rfl t44 rfl rfl <| K.loadS Y _ g0 rfl rfl t30 rfl rfl rfl <| K.c0 (cf 72 rfl) (partial_Queue_turn_con hx12 0 1 2 3 4 5 6 7 8) g0 rfl rfl rfl rfl <| K.nil <| At.nr <| K.fieldAddr Y g0 rfl t44 rfl rfl <| K.loadS Y _ g0 rfl rfl t30 rfl rfl rfl <| K.buildL Y 118 ([x11.item] : List TItem) [(0, _)] [((.tmp 95), _)] eTItem_len g0 (AllE.spec ⟨rfl, trivial⟩) rfl rfl Tryz.underlying33 t30 rfl rfl rfl rfl rfl rfl rfl rfl <| K.build Y [(0, _)] [_, _] [((.tmp 96), _)] g0 (AllE.spec ⟨rfl, trivial⟩) rfl rfl t56 rfl rfl <| K.store Y _ g0 rfl rfl rfl t56 rfl rfl rfl rfl rfl <| K.as rfl rfl <| K.nil <| At.nilAgg (t := 97) (l' := [_, _]) 1 119 30 eTItem 2 rfl rfl rfl rfl rfl <| At.nilBlk (n := 101) (l' := [_, _]) 1 120 30 eTItem 2 rfl rfl rfl rfl rfl <| At.next <| G.ret <| At.ren (fs' := [(6, .a (.c (.p 101 0))), (7, .a (.c (.v (.int .i64 0))))]) (tl := (tkQueue 0 1 2 3 4 5 6 7 8 x12 [(60, lrow 60 30 eTItem 2 ([x11.item] : List TItem)), (61, lrow 61 30 eTItem 2 ([] : List TItem)), (101, blk 101 [.nv 60, .nv 61] 56)])) [(60, 118), (61, 120)] [_, _, _, _, _, _, _, _, _, _, _, _] rfl ⟨rfl, rfl, trivial⟩ ⟨rfl, (blk_ren rfl rfl), rfl, (blk_ren rfl rfl), rfl, (pl_ren rfl), rfl, (blk_ren rfl rfl), rfl, (pl_ren rfl), rfl, (blk_ren rfl rfl), rfl, (pl_ren rfl), rfl, (blk_ren rfl rfl), rfl, (pl_ren rfl), rfl, (lrow_ren rfl), rfl, (lrow_ren rfl), rfl, (blk_ren rfl rfl), trivial⟩ rfl <| At.done Y [(.cell 6 56, .agg [_, _]), (.tmp 7, .c _)] rfl ⟨.st rfl rfl t56 rfl rfl, .tmp rfl, trivial⟩ (to' := [(0, _), (1, _), (2, _), (3, _), (4, _), (5, _), (6, _), (7, _), (8, _), (60, _), (61, _)]) ⟨rfl, rfl, rfl, rfl, rfl, rfl, rfl, rfl, rfl, rfl, rfl, trivial⟩ ?_ ?_ rfl rfl rfl (.inl rfl)
    · cases H0; rfl
    · cases H0; rfl
theorem partial_Queue_Insert_con {k : Nat}  {q0 : TQueue} {a1 : Int} {a2 : TItem} {r : TChange × Int × TQueue}  (H0 : partial_Queue_Insert.f k q0 a1 a2 = some r) (m0 m1 m2 m3 m4 m5 m6 m7 m8 m60 m61 : Nat) (hd : ndB [m0, m1, m2, m3, m4, m5, m6, m7, m8, m60, m61] = true) : partial_Queue_Insert_st q0 a1 a2 r m0 m1 m2 m3 m4 m5 m6 m7 m8 m60 m61 :=
 SCon.ren (rn [(0, m0), (1, m1), (2, m2), (3, m3), (4, m4), (5, m5), (6, m6), (7, m7), (8, m8), (60, m60), (61, m61)]) (partial_Queue_Insert_con0 (k := k)   H0) ⟨(blk_ren rfl rfl), (blk_ren rfl rfl), (pl_ren rfl), (blk_ren rfl rfl), (pl_ren rfl), (blk_ren rfl rfl), (pl_ren rfl), (blk_ren rfl rfl), (pl_ren rfl), trivial⟩ ⟨(blk_ren rfl rfl), (blk_ren rfl rfl), (pl_ren rfl), (blk_ren rfl rfl), (pl_ren rfl), (blk_ren rfl rfl), (pl_ren rfl), (blk_ren rfl rfl), (pl_ren rfl), (lrow_ren rfl), (lrow_ren rfl), trivial⟩ (rn_nd hd rfl rfl) (rn_ks hd rfl rfl rfl)
abbrev bridge_Height_st (p1 : Pool (TNode TMark TSwell)) (rt0 : TRef) (a1 : Int) (a2 : Int) (r : Int) (m0 : Nat) (m1 : Nat) : Prop := SCon Tryz.prog 129 [SV.p m0 0, .a (.c (.v (.int .i64 a1))), .a (.c (.v (.int .i64 a2)))] [(m0, blk m0 [.p m1 0, .i rt0.index, .i rt0.gen] 110), (m1, plM m1 p1)] (.a (.c (.v (.int .i64 r)))) [(m0, blk m0 [.p m1 0, .i rt0.index, .i rt0.gen] 110), (m1, plM m1 p1)] []
theorem bridge_Height_con0 {k : Nat}  {p1 : Pool (TNode TMark TSwell)} {rt0 : TRef} {a1 : Int} {a2 : Int} {r : Int}  (H0 : bridge_Height.f k p1 rt0 a1 a2 = some r) : bridge_Height_st p1 rt0 a1 a2 r 0 1 := by
 rw [bridge_Height.f] at H0
 refine spec_of [(0, _), (1, _), (2, _)] [(0, _), (1, _)] 14 Tryz.func129 rfl Tryz.ntmps129 rfl rfl rfl rfl (fun β W F => ?_)
 refine G.seq <| G.rg <| K.as rfl rfl <| K.nil <| At.ns ?_
 obtain ⟨x1, hx1, H0⟩ := bnd H0
 exact G.rg <| K.mv rfl rfl <| K.mv rfl rfl <| K.mv rfl rfl <| K.cR (cf 102 rfl) (Tree_BetweenM_con hx1 0 1) g0 rfl rfl rfl rfl <| K.fieldS Y _ g0 rfl t50 rfl t48 rfl rfl <| K.field1 Y g0 rfl t48 rfl t3 rfl rfl <| K.bin (V := .int .i64 (w64 (a2 + x1.weight.sum))) g0 rfl rfl (fun _ => rfl) rfl <| K.as rfl rfl <| K.nil <| At.next <| G.ret <| At.dr Y [6] rfl rfl (by cases H0; rfl) (by cases H0; rfl) rfl rfl rfl
theorem bridge_Height_con {k : Nat}  {p1 : Pool (TNode TMark TSwell)} {rt0 : TRef} {a1 : Int} {a2 : Int} {r : Int}  (H0 : bridge_Height.f k p1 rt0 a1 a2 = some r) (m0 m1 : Nat) : bridge_Height_st p1 rt0 a1 a2 r m0 m1 :=
 SCon.ren (rn [(0, m0), (1, m1)]) (bridge_Height_con0 (k := k)   H0) ⟨(blk_ren rfl rfl), (pl_ren rfl), trivial⟩ ⟨(blk_ren rfl rfl), (pl_ren rfl), trivial⟩ (by simp) (by simp)
abbrev bridge_Next_st (p1 : Pool (TNode TMark TSwell)) (rt0 : TRef) (a1 : Int) (a2 : Int) (r : Int) (m0 : Nat) (m1 : Nat) : Prop := SCon Tryz.prog 104 [SV.p m0 0, .a (.c (.v (.int .i64 a1))), .a (.c (.v (.int .i64 a2)))] [(m0, blk m0 [.p m1 0, .i rt0.index, .i rt0.gen] 110), (m1, plM m1 p1)] (.a (.c (.v (.int .i64 r)))) [(m0, blk m0 [.p m1 0, .i rt0.index, .i rt0.gen] 110), (m1, plM m1 p1)] []
theorem bridge_Next_con0 {k : Nat}  {p1 : Pool (TNode TMark TSwell)} {rt0 : TRef} {a1 : Int} {a2 : Int} {r : Int}  (H0 : bridge_Next.f k p1 rt0 a1 a2 = some r) : bridge_Next_st p1 rt0 a1 a2 r 0 1 := by
 rw [bridge_Next.f] at H0
 refine spec_of [(0, _), (1, _), (2, _)] [(0, _), (1, _)] 26 Tryz.func104 rfl Tryz.ntmps104 rfl rfl rfl rfl (fun β W F => ?_)
 refine G.seq <| G.rg <| K.as rfl rfl <| K.nil <| At.ns ?_
 obtain ⟨x1, hx1, H0⟩ := bnd H0
 refine G.rg <| K.mv rfl rfl <| K.mv rfl rfl <| K.cR (cf 98 rfl) (bridge_clamp_con hx1 0 1) g0 rfl rfl rfl rfl <| K.as rfl rfl <| K.nil <| At.ns <| G.seq ?_
 obtain ⟨x2, hx2, H0⟩ := bnd H0
 refine G.rg <| K.mv rfl rfl <| K.mv rfl rfl <| K.mv rfl rfl <| K.cR (cf 129 rfl) (bridge_Height_con hx2 0 1) g0 rfl rfl rfl rfl <| K.bin (V := .bool (decide (x2 ≤ 0))) g0 rfl rfl (fun _ => rfl) rfl <| K.nil <| At.next <| G.cond rfl (fun h1 => ?_) (fun h1 => ?_)
 ·
  replace H0 := bif_t H0 h1
  exact G.seq <| G.rg <| K.mv rfl rfl <| K.as rfl rfl <| K.nil <| At.next <| G.ret <| At.over_ret <| At.dr Y [6] rfl rfl (by cases H0; rfl) (by cases H0; rfl) rfl rfl rfl
 ·
  replace H0 := bif_f H0 h1
  refine G.skip <| At.ns <| G.seq ?_
  obtain ⟨x3, hx3, H0⟩ := bnd H0
  obtain ⟨x4, hx4, H0⟩ := bnd H0
  refine G.rg <| K.mv rfl rfl <| K.mv rfl rfl <| K.mv rfl rfl <| K.c0 (cf 99 rfl) (bridge_low_con hx3 100 rfl) g0 rfl rfl rfl rfl <| K.cR (cf 130 rfl) (Tree_FirstM_f12_con (cv2 := [(.int .i64 x3)]) (Tc2 := 3) (cf 119 rfl) (fun c _ _ _ h => bridge_low_1_con h c) hx4 0 1 100) g0 rfl rfl rfl rfl <| K.as rfl rfl <| K.nil <| At.nr <| K.mv rfl rfl <| K.bin (V := .bool (decide (x4 ≥ 0))) g0 rfl rfl (fun _ => rfl) rfl <| K.nil <| At.next <| G.cond rfl (fun h2 => ?_) (fun h2 => ?_)
  ·
   replace H0 := bif_t H0 h2
   exact G.seq <| G.rg <| K.mv rfl rfl <| K.bin (V := .int .i64 (w64 (x4 + 1))) g0 rfl rfl (fun _ => rfl) rfl <| K.as rfl rfl <| K.nil <| At.next <| G.ret <| At.over_ret <| At.dr Y [6] rfl rfl (by cases H0; rfl) (by cases H0; rfl) rfl rfl rfl
  ·
   replace H0 := bif_f H0 h2
   exact G.skip <| At.nr <| K.as rfl rfl <| K.nil <| At.next <| G.ret <| At.dr Y [6] rfl rfl (by cases H0; rfl) (by cases H0; rfl) rfl rfl rfl
theorem bridge_Next_con {k : Nat}  {p1 : Pool (TNode TMark TSwell)} {rt0 : TRef} {a1 : Int} {a2 : Int} {r : Int}  (H0 : bridge_Next.f k p1 rt0 a1 a2 = some r) (m0 m1 : Nat) : bridge_Next_st p1 rt0 a1 a2 r m0 m1 :=
 SCon.ren (rn [(0, m0), (1, m1)]) (bridge_Next_con0 (k := k)   H0) ⟨(blk_ren rfl rfl), (pl_ren rfl), trivial⟩ ⟨(blk_ren rfl rfl), (pl_ren rfl), trivial⟩ (by simp) (by simp)
abbrev bridge_Least_st (p1 : Pool (TNode TMark TSwell)) (rt0 : TRef) (a1 : Int) (r : TTook) (m0 : Nat) (m1 : Nat) : Prop := SCon Tryz.prog 103 [SV.p m0 0, .a (.c (.v (.int .i64 a1)))] [(m0, blk m0 [.p m1 0, .i rt0.index, .i rt0.gen] 110), (m1, plM m1 p1)] (.a (.agg ((eTTook r).map .v))) [(m0, blk m0 [.p m1 0, .i rt0.index, .i rt0.gen] 110), (m1, plM m1 p1)] []
theorem bridge_Least_con0 {k : Nat}  {p1 : Pool (TNode TMark TSwell)} {rt0 : TRef} {a1 : Int} {r : TTook}  (H0 : bridge_Least.f k p1 rt0 a1 = some r) : bridge_Least_st p1 rt0 a1 r 0 1 := by
 rw [bridge_Least.f] at H0
 refine spec_of [(0, _), (1, _)] [(0, _), (1, _)] 11 Tryz.func103 rfl Tryz.ntmps103 rfl rfl rfl rfl (fun β W F => ?_)
 refine G.seq <| G.rg <| K.alloc Y 100 _ g0 t44 rfl rfl rfl rfl rfl <| K.nil <| At.ns ?_
 obtain ⟨x1, hx1, H0⟩ := bnd H0
 obtain ⟨x2, hx2, H0⟩ := bnd H0
 refine G.rg <| K.mv rfl rfl <| K.mv rfl rfl <| K.mv rfl rfl <| K.cR (cf 98 rfl) (bridge_clamp_con hx1 0 1) g0 rfl rfl rfl rfl <| K.cR (cf 102 rfl) (Tree_BetweenM_con hx2 0 1) g0 rfl rfl rfl rfl <| K.fieldS Y _ g0 rfl t50 rfl t44 rfl rfl <| K.store Y _ g0 rfl rfl rfl t44 rfl rfl rfl rfl rfl <| K.nil <| At.next <| G.ret <| At.done Y [(.cell 4 44, .agg [_, _, _])] rfl ⟨.st rfl rfl t44 rfl rfl, trivial⟩ (to' := [(0, _), (1, _)]) ⟨rfl, rfl, trivial⟩ ?_ ?_ rfl rfl rfl (.inl rfl)
 · cases H0; rfl
 · cases H0; rfl
theorem bridge_Least_con {k : Nat}  {p1 : Pool (TNode TMark TSwell)} {rt0 : TRef} {a1 : Int} {r : TTook}  (H0 : bridge_Least.f k p1 rt0 a1 = some r) (m0 m1 : Nat) : bridge_Least_st p1 rt0 a1 r m0 m1 :=
 SCon.ren (rn [(0, m0), (1, m1)]) (bridge_Least_con0 (k := k)   H0) ⟨(blk_ren rfl rfl), (pl_ren rfl), trivial⟩ ⟨(blk_ren rfl rfl), (pl_ren rfl), trivial⟩ (by simp) (by simp)
abbrev partial_Queue_leave_st (q0 : TQueue) (a1 : Int) (r : TChange × TQueue) (m0 : Nat) (m1 : Nat) (m2 : Nat) (m3 : Nat) (m4 : Nat) (m5 : Nat) (m6 : Nat) (m7 : Nat) (m8 : Nat) (m60 : Nat) (m61 : Nat) : Prop := SCon Tryz.prog 73 [SV.p m0 0, .a (.c (.v (.int .i64 a1)))] (tkQueue m0 m1 m2 m3 m4 m5 m6 m7 m8 q0 []) (.a (.agg [.nv m60, .nv m61])) (tkQueue m0 m1 m2 m3 m4 m5 m6 m7 m8 r.2 [(m60, lrow m60 30 eTItem 2 (r.1.in_)), (m61, lrow m61 30 eTItem 2 (r.1.out))]) [m60, m61]
theorem partial_Queue_leave_con0 {k : Nat}  {q0 : TQueue} {a1 : Int} {r : TChange × TQueue}  (H0 : partial_Queue_leave.f k q0 a1 = some r) : partial_Queue_leave_st q0 a1 r 0 1 2 3 4 5 6 7 8 60 61 := by
 rw [partial_Queue_leave.f] at H0
 refine spec_of [(0, _), (1, _)] [(0, _), (1, _), (2, _), (3, _), (4, _), (5, _), (6, _), (7, _), (8, _)] 40 Tryz.func73 rfl Tryz.ntmps73 rfl rfl rfl rfl (fun β W F => ?_)
 refine G.seq <| G.rg <| K.alloc Y 100 _ g0 t56 rfl rfl rfl rfl rfl <| K.nil <| At.nilBlk (n := 100) (l' := [_, _]) 0 101 30 eTItem 2 rfl rfl rfl rfl rfl <| At.nilBlk (n := 100) (l' := [_, _]) 1 102 30 eTItem 2 rfl rfl rfl rfl rfl <| At.ns ?_
 obtain ⟨x1, hx1, H0⟩ := bnd H0
 obtain ⟨x2, hx2, H0⟩ := bnd H0
 refine G.rd mixed <| K.mv rfl rfl <| K.nilCheck g0 rfl rfl <| K.fieldAddr Y g0 rfl t98 rfl rfl <| K.load1 Y g0 rfl rfl t38 rfl rfl <| K.mv rfl rfl <| K.nilCheck g0 rfl rfl <| K.fieldAddr Y g0 rfl t98 rfl rfl <| K.load1 Y g0 rfl rfl t38 rfl rfl <| K.mv rfl rfl <| K.mv rfl rfl <| K.nilCheck g0 rfl rfl <| K.fieldAddr Y g0 rfl t98 rfl rfl <| K.load1 Y g0 rfl rfl t3 rfl rfl <| K.cR (cf 104 rfl) (bridge_Next_con hx1 1 2) g0 rfl rfl rfl rfl <| K.cR (cf 103 rfl) (bridge_Least_con hx2 1 2) g0 rfl rfl rfl rfl <| K.alloc Y 103 _ g0 t44 rfl rfl rfl rfl rfl <| K.store Y _ g0 rfl rfl rfl t44 rfl rfl rfl rfl rfl <| K.nil <| And.intro (by kernel_rfl) <| At.ns <| G.seq <| G.rg <| K.fieldAddr Y g0 rfl t44 rfl rfl <| K.load1 Y g0 rfl rfl t4 rfl rfl <| K.un (V := .bool (!x2.found)) g0 rfl (fun _ => rfl) rfl <| K.nil <| At.next <| G.cond rfl (fun h1 => ?_) (fun h1 => ?_)
 ·
  replace H0 := bif_t H0 h1
  refine G.seq <| G.rg <| K.mv rfl rfl <| K.nilCheck g0 rfl rfl <| K.fieldAddr Y g0 rfl t98 rfl rfl <| K.load1 Y g0 rfl rfl t3 rfl rfl <| K.bin (V := .int .i64 (w64 (q0.excess + 1))) g0 rfl rfl (fun _ => rfl) rfl <| K.nilCheck g0 rfl rfl <| K.fieldAddr Y g0 rfl t98 rfl rfl <| K.store Y _ g0 rfl rfl rfl t3 rfl rfl rfl rfl rfl <| K.nil <| At.nr <| K.build Y [] [_, _] [] g0 (AllE.spec trivial) rfl rfl t56 rfl rfl <| K.store Y _ g0 rfl rfl rfl t56 rfl rfl rfl rfl rfl <| K.nil <| At.nilAgg (t := 31) (l' := [_, _]) 0 104 30 eTItem 2 rfl rfl rfl rfl rfl <| At.nilAgg (t := 31) (l' := [_, _]) 1 105 30 eTItem 2 rfl rfl rfl rfl rfl <| At.nilBlk (n := 100) (l' := [_, _]) 0 106 30 eTItem 2 rfl rfl rfl rfl rfl <| At.nilBlk (n := 100) (l' := [_, _]) 1 107 30 eTItem 2 rfl rfl rfl rfl rfl <| At.next <| G.ret <| At.over_ret <| At.ren (fs' := [(4, .a (.c (.p 100 0)))]) (tl := (tkQueue 0 1 2 3 4 5 6 7 8 (TQueue.mk q0.capacity q0.marks q0.present q0.gone q0.times (w64 (q0.excess + 1))) [(60, lrow 60 30 eTItem 2 ([] : List TItem)), (61, lrow 61 30 eTItem 2 ([] : List TItem)), (100, blk 100 [.nv 60, .nv 61] 56)])) [(60, 106), (61, 107)] [_, _, _, _, _, _, _, _, _, _, _, _] rfl ⟨rfl, trivial⟩ ⟨rfl, (blk_ren rfl rfl), rfl, (blk_ren rfl rfl), rfl, (pl_ren rfl), rfl, (blk_ren rfl rfl), rfl, (pl_ren rfl), rfl, (blk_ren rfl rfl), rfl, (pl_ren rfl), rfl, (blk_ren rfl rfl), rfl, (pl_ren rfl), rfl, (lrow_ren rfl), rfl, (lrow_ren rfl), rfl, (blk_ren rfl rfl), trivial⟩ rfl <| At.done Y [(.cell 4 56, .agg [_, _])] rfl ⟨.st rfl rfl t56 rfl rfl, trivial⟩ (to' := [(0, _), (1, _), (2, _), (3, _), (4, _), (5, _), (6, _), (7, _), (8, _), (60, _), (61, _)]) ⟨rfl, rfl, rfl, rfl, rfl, rfl, rfl, rfl, rfl, rfl, rfl, trivial⟩ ?_ ?_ rfl rfl rfl (.inl rfl)
  · cases H0; rfl
  · cases H0; rfl
 ·
  replace H0 := bif_f H0 h1
  refine G.skip <| At.ns ?_
  obtain ⟨x3, hx3, H0⟩ := bnd H0
  refine G.rg <| K.mv rfl rfl <| K.fieldAddr Y g0 rfl t44 rfl rfl <| K.loadS Y _ g0 rfl rfl t30 rfl rfl rfl <| K.c0 (cf 72 rfl) (partial_Queue_turn_con hx3 0 1 2 3 4 5 6 7 8) g0 rfl rfl rfl rfl <| K.nil <| At.nr <| K.fieldAddr Y g0 rfl t44 rfl rfl <| K.loadS Y _ g0 rfl rfl t30 rfl rfl rfl <| K.buildL Y 108 ([x2.item] : List TItem) [(0, _)] [((.tmp 37), _)] eTItem_len g0 (AllE.spec ⟨rfl, trivial⟩) rfl rfl Tryz.underlying33 t30 rfl rfl rfl rfl rfl rfl rfl rfl <| K.build Y [(1, _)] [_, _] [((.tmp 38), _)] g0 (AllE.spec ⟨rfl, trivial⟩) rfl rfl t56 rfl rfl <| K.store Y _ g0 rfl rfl rfl t56 rfl rfl rfl rfl rfl <| K.nil <| At.nilAgg (t := 39) (l' := [_, _]) 0 109 30 eTItem 2 rfl rfl rfl rfl rfl <| At.nilBlk (n := 100) (l' := [_, _]) 0 110 30 eTItem 2 rfl rfl rfl rfl rfl <| At.next <| G.ret <| At.ren (fs' := [(4, .a (.c (.p 100 0)))]) (tl := (tkQueue 0 1 2 3 4 5 6 7 8 x3 [(60, lrow 60 30 eTItem 2 ([] : List TItem)), (61, lrow 61 30 eTItem 2 ([x2.item] : List TItem)), (100, blk 100 [.nv 60, .nv 61] 56)])) [(60, 110), (61, 108)] [_, _, _, _, _, _, _, _, _, _, _, _] rfl ⟨rfl, trivial⟩ ⟨rfl, (blk_ren rfl rfl), rfl, (blk_ren rfl rfl), rfl, (pl_ren rfl), rfl, (blk_ren rfl rfl), rfl, (pl_ren rfl), rfl, (blk_ren rfl rfl), rfl, (pl_ren rfl), rfl, (blk_ren rfl rfl), rfl, (pl_ren rfl), rfl, (lrow_ren rfl), rfl, (lrow_ren rfl), rfl, (blk_ren rfl rfl), trivial⟩ rfl <| At.done Y [(.cell 4 56, .agg [_, _])] rfl ⟨.st rfl rfl t56 rfl rfl, trivial⟩ (to' := [(0, _), (1, _), (2, _), (3, _), (4, _), (5, _), (6, _), (7, _), (8, _), (60, _), (61, _)]) ⟨rfl, rfl, rfl, rfl, rfl, rfl, rfl, rfl, rfl, rfl, rfl, trivial⟩ ?_ ?_ rfl rfl rfl (.inl rfl)
  · cases H0; rfl
  · cases H0; rfl
theorem partial_Queue_leave_con {k : Nat}  {q0 : TQueue} {a1 : Int} {r : TChange × TQueue}  (H0 : partial_Queue_leave.f k q0 a1 = some r) (m0 m1 m2 m3 m4 m5 m6 m7 m8 m60 m61 : Nat) (hd : ndB [m0, m1, m2, m3, m4, m5, m6, m7, m8, m60, m61] = true) : partial_Queue_leave_st q0 a1 r m0 m1 m2 m3 m4 m5 m6 m7 m8 m60 m61 :=
 SCon.ren (rn [(0, m0), (1, m1), (2, m2), (3, m3), (4, m4), (5, m5), (6, m6), (7, m7), (8, m8), (60, m60), (61, m61)]) (partial_Queue_leave_con0 (k := k)   H0) ⟨(blk_ren rfl rfl), (blk_ren rfl rfl), (pl_ren rfl), (blk_ren rfl rfl), (pl_ren rfl), (blk_ren rfl rfl), (pl_ren rfl), (blk_ren rfl rfl), (pl_ren rfl), trivial⟩ ⟨(blk_ren rfl rfl), (blk_ren rfl rfl), (pl_ren rfl), (blk_ren rfl rfl), (pl_ren rfl), (blk_ren rfl rfl), (pl_ren rfl), (blk_ren rfl rfl), (pl_ren rfl), (lrow_ren rfl), (lrow_ren rfl), trivial⟩ (rn_nd hd rfl rfl) (rn_ks hd rfl rfl rfl)
abbrev partial_Queue_Delete_st (q0 : TQueue) (a1 : Int) (r : TChange × Int × TQueue) (m0 : Nat) (m1 : Nat) (m2 : Nat) (m3 : Nat) (m4 : Nat) (m5 : Nat) (m6 : Nat) (m7 : Nat) (m8 : Nat) (m60 : Nat) (m61 : Nat) : Prop := SCon Tryz.prog 24 [SV.p m0 0, .a (.c (.v (.int .i64 a1)))] (tkQueue m0 m1 m2 m3 m4 m5 m6 m7 m8 q0 []) (.tup [.agg [.nv m60, .nv m61], .c (.v (.int .i64 r.2.1))]) (tkQueue m0 m1 m2 m3 m4 m5 m6 m7 m8 r.2.2 [(m60, lrow m60 30 eTItem 2 (r.1.in_)), (m61, lrow m61 30 eTItem 2 (r.1.out))]) [m60, m61]
theorem partial_Queue_Delete_con0 {k : Nat}  {q0 : TQueue} {a1 : Int} {r : TChange × Int × TQueue}  (H0 : partial_Queue_Delete.f k q0 a1 = some r) : partial_Queue_Delete_st q0 a1 r 0 1 2 3 4 5 6 7 8 60 61 := by
 rw [partial_Queue_Delete.f] at H0
 refine spec_of [(0, _), (1, _)] [(0, _), (1, _), (2, _), (3, _), (4, _), (5, _), (6, _), (7, _), (8, _)] 32 Tryz.func24 rfl Tryz.ntmps24 rfl rfl rfl rfl (fun β W F => ?_)
 refine G.seq <| G.rg <| K.alloc Y 100 _ g0 t56 rfl rfl rfl rfl rfl <| K.as rfl rfl <| K.nil <| At.nilBlk (n := 100) (l' := [_, _]) 0 101 30 eTItem 2 rfl rfl rfl rfl rfl <| At.nilBlk (n := 100) (l' := [_, _]) 1 102 30 eTItem 2 rfl rfl rfl rfl rfl <| At.ns <| G.seq ?_
 obtain ⟨x1, hx1, H0⟩ := bnd H0
 refine G.rg <| K.mv rfl rfl <| K.mv rfl rfl <| K.cR (cf 63 rfl) (partial_Queue_may_con hx1 0 1 2 3 4 5 6 7 8) g0 rfl rfl rfl rfl <| K.as rfl rfl <| K.nil <| At.nr <| K.mv rfl rfl <| K.bin (V := .bool (x1 != 0)) g0 rfl rfl (fun _ => rfl) rfl <| K.nil <| At.next <| G.cond rfl (fun h1 => ?_) (fun h1 => ?_)
 ·
  replace H0 := bif_t H0 h1
  refine G.seq <| G.rg <| K.build Y [] [_, _] [] g0 (AllE.spec trivial) rfl rfl t56 rfl rfl <| K.mv rfl rfl <| K.store Y _ g0 rfl rfl rfl t56 rfl rfl rfl rfl rfl <| K.as rfl rfl <| K.nil <| At.nilAgg (t := 13) (l' := [_, _]) 0 103 30 eTItem 2 rfl rfl rfl rfl rfl <| At.nilAgg (t := 13) (l' := [_, _]) 1 104 30 eTItem 2 rfl rfl rfl rfl rfl <| At.nilBlk (n := 100) (l' := [_, _]) 0 105 30 eTItem 2 rfl rfl rfl rfl rfl <| At.nilBlk (n := 100) (l' := [_, _]) 1 106 30 eTItem 2 rfl rfl rfl rfl rfl <| At.next <| G.ret <| At.over_ret <| At.ren (fs' := [(4, .a (.c (.p 100 0))), (5, .a (.c (.v (.int .i64 x1))))]) (tl := (tkQueue 0 1 2 3 4 5 6 7 8 q0 [(60, lrow 60 30 eTItem 2 ([] : List TItem)), (61, lrow 61 30 eTItem 2 ([] : List TItem)), (100, blk 100 [.nv 60, .nv 61] 56)])) [(60, 105), (61, 106)] [_, _, _, _, _, _, _, _, _, _, _, _] rfl ⟨rfl, rfl, trivial⟩ ⟨rfl, (blk_ren rfl rfl), rfl, (blk_ren rfl rfl), rfl, (pl_ren rfl), rfl, (blk_ren rfl rfl), rfl, (pl_ren rfl), rfl, (blk_ren rfl rfl), rfl, (pl_ren rfl), rfl, (blk_ren rfl rfl), rfl, (pl_ren rfl), rfl, (lrow_ren rfl), rfl, (lrow_ren rfl), rfl, (blk_ren rfl rfl), trivial⟩ rfl <| At.done Y [(.cell 4 56, .agg [_, _]), (.tmp 5, .c _)] rfl ⟨.st rfl rfl t56 rfl rfl, .tmp rfl, trivial⟩ (to' := [(0, _), (1, _), (2, _), (3, _), (4, _), (5, _), (6, _), (7, _), (8, _), (60, _), (61, _)]) ⟨rfl, rfl, rfl, rfl, rfl, rfl, rfl, rfl, rfl, rfl, rfl, trivial⟩ ?_ ?_ rfl rfl rfl (.inl rfl)
  · cases H0; rfl
  · cases H0; rfl
 ·
  replace H0 := bif_f H0 h1
  refine G.skip <| At.ns ?_
  obtain ⟨x2, hx2, H0⟩ := bnd H0
  obtain ⟨x3, hx3, H0⟩ := bnd H0
  obtain ⟨x4, hx4, H0⟩ := bnd H0
  refine G.rd mixed <| K.mv rfl rfl <| K.mv rfl rfl <| K.nilCheck g0 rfl rfl <| K.fieldAddr Y g0 rfl t98 rfl rfl <| K.load1 Y g0 rfl rfl t38 rfl rfl <| K.mv rfl rfl <| K.cR (cf 67 rfl) (wave_Key_con hx2) g0 rfl rfl rfl rfl <| K.cR (cf 66 rfl) (Tree_RankM_con hx3 1 2) g0 rfl rfl rfl rfl <| K.c0 (cf 73 rfl) (partial_Queue_leave_con hx4 0 1 2 3 4 5 6 7 8 107 108 rfl) g0 rfl rfl rfl rfl <| K.alloc Y 109 _ g0 t56 rfl rfl rfl rfl rfl <| K.store Y _ g0 rfl rfl rfl t56 rfl rfl rfl rfl rfl <| K.nil <| And.intro (by kernel_rfl) <| At.ns ?_
  obtain ⟨x5, hx5, H0⟩ := bnd H0
  obtain ⟨x6, hx6, H0⟩ := bnd H0
  refine G.rd mixed <| K.mv rfl rfl <| K.nilCheck g0 rfl rfl <| K.fieldAddr Y g0 rfl t98 rfl rfl <| K.load1 Y g0 rfl rfl t38 rfl rfl <| K.mv rfl rfl <| K.cR (cf 67 rfl) (wave_Key_con hx5) g0 rfl rfl rfl rfl <| K.c0 (cf 70 rfl) (Tree_PutM_con hx6 1 2) g0 rfl rfl rfl rfl <| K.nil <| And.intro (by kernel_rfl) <| At.nr <| K.loadS Y _ g0 rfl rfl t56 rfl rfl rfl <| K.store Y _ g0 rfl rfl rfl t56 rfl rfl rfl rfl rfl <| K.as rfl rfl <| K.nil <| At.next <| G.ret <| At.ren (fs' := [(4, .a (.c (.p 100 0))), (5, .a (.c (.v (.int .i64 0))))]) (tl := (tkQueue 0 1 2 3 4 5 6 7 8 (TQueue.mk x4.2.capacity (TS.mk x6.2.2 x6.2.1) x4.2.present x4.2.gone x4.2.times x4.2.excess) [(60, lrow 60 30 eTItem 2 x4.1.in_), (61, lrow 61 30 eTItem 2 x4.1.out), (100, blk 100 [.nv 60, .nv 61] 56)])) [(60, 107), (61, 108)] [_, _, _, _, _, _, _, _, _, _, _, _] rfl ⟨rfl, rfl, trivial⟩ ⟨rfl, (blk_ren rfl rfl), rfl, (blk_ren rfl rfl), rfl, (pl_ren rfl), rfl, (blk_ren rfl rfl), rfl, (pl_ren rfl), rfl, (blk_ren rfl rfl), rfl, (pl_ren rfl), rfl, (blk_ren rfl rfl), rfl, (pl_ren rfl), rfl, (lrow_ren rfl), rfl, (lrow_ren rfl), rfl, (blk_ren rfl rfl), trivial⟩ rfl <| At.done Y [(.cell 4 56, .agg [_, _]), (.tmp 5, .c _)] rfl ⟨.st rfl rfl t56 rfl rfl, .tmp rfl, trivial⟩ (to' := [(0, _), (1, _), (2, _), (3, _), (4, _), (5, _), (6, _), (7, _), (8, _), (60, _), (61, _)]) ⟨rfl, rfl, rfl, rfl, rfl, rfl, rfl, rfl, rfl, rfl, rfl, trivial⟩ ?_ ?_ rfl rfl rfl (.inl rfl)
  · cases H0; rfl
  · cases H0; rfl
theorem partial_Queue_Delete_con {k : Nat}  {q0 : TQueue} {a1 : Int} {r : TChange × Int × TQueue}  (H0 : partial_Queue_Delete.f k q0 a1 = some r) (m0 m1 m2 m3 m4 m5 m6 m7 m8 m60 m61 : Nat) (hd : ndB [m0, m1, m2, m3, m4, m5, m6, m7, m8, m60, m61] = true) : partial_Queue_Delete_st q0 a1 r m0 m1 m2 m3 m4 m5 m6 m7 m8 m60 m61 :=
 SCon.ren (rn [(0, m0), (1, m1), (2, m2), (3, m3), (4, m4), (5, m5), (6, m6), (7, m7), (8, m8), (60, m60), (61, m61)]) (partial_Queue_Delete_con0 (k := k)   H0) ⟨(blk_ren rfl rfl), (blk_ren rfl rfl), (pl_ren rfl), (blk_ren rfl rfl), (pl_ren rfl), (blk_ren rfl rfl), (pl_ren rfl), (blk_ren rfl rfl), (pl_ren rfl), trivial⟩ ⟨(blk_ren rfl rfl), (blk_ren rfl rfl), (pl_ren rfl), (blk_ren rfl rfl), (pl_ren rfl), (blk_ren rfl rfl), (pl_ren rfl), (blk_ren rfl rfl), (pl_ren rfl), (lrow_ren rfl), (lrow_ren rfl), trivial⟩ (rn_nd hd rfl rfl) (rn_ks hd rfl rfl rfl)
abbrev partial_Queue_enter_st (q0 : TQueue) (a1 : Int) (r : TChange × TQueue) (m0 : Nat) (m1 : Nat) (m2 : Nat) (m3 : Nat) (m4 : Nat) (m5 : Nat) (m6 : Nat) (m7 : Nat) (m8 : Nat) (m60 : Nat) (m61 : Nat) : Prop := SCon Tryz.prog 75 [SV.p m0 0, .a (.c (.v (.int .i64 a1)))] (tkQueue m0 m1 m2 m3 m4 m5 m6 m7 m8 q0 []) (.a (.agg [.nv m60, .nv m61])) (tkQueue m0 m1 m2 m3 m4 m5 m6 m7 m8 r.2 [(m60, lrow m60 30 eTItem 2 (r.1.in_)), (m61, lrow m61 30 eTItem 2 (r.1.out))]) [m60, m61]
theorem partial_Queue_enter_con0 {k : Nat}  {q0 : TQueue} {a1 : Int} {r : TChange × TQueue}  (H0 : partial_Queue_enter.f k q0 a1 = some r) : partial_Queue_enter_st q0 a1 r 0 1 2 3 4 5 6 7 8 60 61 := by
 rw [partial_Queue_enter.f] at H0
 refine spec_of [(0, _), (1, _)] [(0, _), (1, _), (2, _), (3, _), (4, _), (5, _), (6, _), (7, _), (8, _)] 45 Tryz.func75 rfl Tryz.ntmps75 rfl rfl rfl rfl (fun β W F => ?_)
 refine G.seq <| G.rg <| K.alloc Y 100 _ g0 t56 rfl rfl rfl rfl rfl <| K.nil <| At.nilBlk (n := 100) (l' := [_, _]) 0 101 30 eTItem 2 rfl rfl rfl rfl rfl <| At.nilBlk (n := 100) (l' := [_, _]) 1 102 30 eTItem 2 rfl rfl rfl rfl rfl <| At.ns ?_
 obtain ⟨x1, hx1, H0⟩ := bnd H0
 refine G.rd mixed <| K.mv rfl rfl <| K.nilCheck g0 rfl rfl <| K.fieldAddr Y g0 rfl t98 rfl rfl <| K.load1 Y g0 rfl rfl t38 rfl rfl <| K.mv rfl rfl <| K.mv rfl rfl <| K.nilCheck g0 rfl rfl <| K.fieldAddr Y g0 rfl t98 rfl rfl <| K.load1 Y g0 rfl rfl t3 rfl rfl <| K.cR (cf 68 rfl) (bridge_Prior_con hx1 1 2) g0 rfl rfl rfl rfl <| K.as rfl rfl <| K.nil <| And.intro (by kernel_rfl) <| At.ns <| G.seq <| G.rg <| K.mv rfl rfl <| K.bin (V := .bool (decide (x1 < 0))) g0 rfl rfl (fun _ => rfl) rfl <| K.nil <| At.next <| G.cond rfl (fun h1 => ?_) (fun h1 => ?_)
 ·
  replace H0 := bif_t H0 h1
  refine G.seq <| G.rg <| K.mv rfl rfl <| K.nilCheck g0 rfl rfl <| K.fieldAddr Y g0 rfl t98 rfl rfl <| K.load1 Y g0 rfl rfl t3 rfl rfl <| K.bin (V := .int .i64 (w64 (q0.excess - 1))) g0 rfl rfl (fun _ => rfl) rfl <| K.nilCheck g0 rfl rfl <| K.fieldAddr Y g0 rfl t98 rfl rfl <| K.store Y _ g0 rfl rfl rfl t3 rfl rfl rfl rfl rfl <| K.nil <| At.nr <| K.build Y [] [_, _] [] g0 (AllE.spec trivial) rfl rfl t56 rfl rfl <| K.store Y _ g0 rfl rfl rfl t56 rfl rfl rfl rfl rfl <| K.nil <| At.nilAgg (t := 26) (l' := [_, _]) 0 103 30 eTItem 2 rfl rfl rfl rfl rfl <| At.nilAgg (t := 26) (l' := [_, _]) 1 104 30 eTItem 2 rfl rfl rfl rfl rfl <| At.nilBlk (n := 100) (l' := [_, _]) 0 105 30 eTItem 2 rfl rfl rfl rfl rfl <| At.nilBlk (n := 100) (l' := [_, _]) 1 106 30 eTItem 2 rfl rfl rfl rfl rfl <| At.next <| G.ret <| At.over_ret <| At.ren (fs' := [(4, .a (.c (.p 100 0)))]) (tl := (tkQueue 0 1 2 3 4 5 6 7 8 (TQueue.mk q0.capacity q0.marks q0.present q0.gone q0.times (w64 (q0.excess - 1))) [(60, lrow 60 30 eTItem 2 ([] : List TItem)), (61, lrow 61 30 eTItem 2 ([] : List TItem)), (100, blk 100 [.nv 60, .nv 61] 56)])) [(60, 105), (61, 106)] [_, _, _, _, _, _, _, _, _, _, _, _] rfl ⟨rfl, trivial⟩ ⟨rfl, (blk_ren rfl rfl), rfl, (blk_ren rfl rfl), rfl, (pl_ren rfl), rfl, (blk_ren rfl rfl), rfl, (pl_ren rfl), rfl, (blk_ren rfl rfl), rfl, (pl_ren rfl), rfl, (blk_ren rfl rfl), rfl, (pl_ren rfl), rfl, (lrow_ren rfl), rfl, (lrow_ren rfl), rfl, (blk_ren rfl rfl), trivial⟩ rfl <| At.done Y [(.cell 4 56, .agg [_, _])] rfl ⟨.st rfl rfl t56 rfl rfl, trivial⟩ (to' := [(0, _), (1, _), (2, _), (3, _), (4, _), (5, _), (6, _), (7, _), (8, _), (60, _), (61, _)]) ⟨rfl, rfl, rfl, rfl, rfl, rfl, rfl, rfl, rfl, rfl, rfl, trivial⟩ ?_ ?_ rfl rfl rfl (.inl rfl)
  · cases H0; rfl
  · cases H0; rfl
 ·
  replace H0 := bif_f H0 h1
  refine G.skip <| At.ns ?_
  obtain ⟨x2, hx2, H0⟩ := bnd H0
  refine G.rg <| K.mv rfl rfl <| K.nilCheck g0 rfl rfl <| K.fieldAddr Y g0 rfl t98 rfl rfl <| K.load1 Y g0 rfl rfl t38 rfl rfl <| K.mv rfl rfl <| K.cR (cf 71 rfl) (bridge_Best_con hx2 1 2) g0 rfl rfl rfl rfl <| K.alloc Y 107 _ g0 t44 rfl rfl rfl rfl rfl <| K.store Y _ g0 rfl rfl rfl t44 rfl rfl rfl rfl rfl <| K.nil <| At.ns <| G.seq <| G.rg <| K.fieldAddr Y g0 rfl t44 rfl rfl <| K.load1 Y g0 rfl rfl t4 rfl rfl <| K.un (V := .bool (!x2.found)) g0 rfl (fun _ => rfl) rfl <| K.nil <| At.next <| G.cond rfl (fun h2 => ?_) (fun h2 => ?_)
  ·
   replace H0 := bif_t H0 h2
   refine G.seq <| G.rg <| K.build Y [] [_, _] [] g0 (AllE.spec trivial) rfl rfl t56 rfl rfl <| K.store Y _ g0 rfl rfl rfl t56 rfl rfl rfl rfl rfl <| K.nil <| At.nilAgg (t := 36) (l' := [_, _]) 0 108 30 eTItem 2 rfl rfl rfl rfl rfl <| At.nilAgg (t := 36) (l' := [_, _]) 1 109 30 eTItem 2 rfl rfl rfl rfl rfl <| At.nilBlk (n := 100) (l' := [_, _]) 0 110 30 eTItem 2 rfl rfl rfl rfl rfl <| At.nilBlk (n := 100) (l' := [_, _]) 1 111 30 eTItem 2 rfl rfl rfl rfl rfl <| At.next <| G.ret <| At.over_ret <| At.ren (fs' := [(4, .a (.c (.p 100 0)))]) (tl := (tkQueue 0 1 2 3 4 5 6 7 8 q0 [(60, lrow 60 30 eTItem 2 ([] : List TItem)), (61, lrow 61 30 eTItem 2 ([] : List TItem)), (100, blk 100 [.nv 60, .nv 61] 56)])) [(60, 110), (61, 111)] [_, _, _, _, _, _, _, _, _, _, _, _] rfl ⟨rfl, trivial⟩ ⟨rfl, (blk_ren rfl rfl), rfl, (blk_ren rfl rfl), rfl, (pl_ren rfl), rfl, (blk_ren rfl rfl), rfl, (pl_ren rfl), rfl, (blk_ren rfl rfl), rfl, (pl_ren rfl), rfl, (blk_ren rfl rfl), rfl, (pl_ren rfl), rfl, (lrow_ren rfl), rfl, (lrow_ren rfl), rfl, (blk_ren rfl rfl), trivial⟩ rfl <| At.done Y [(.cell 4 56, .agg [_, _])] rfl ⟨.st rfl rfl t56 rfl rfl, trivial⟩ (to' := [(0, _), (1, _), (2, _), (3, _), (4, _), (5, _), (6, _), (7, _), (8, _), (60, _), (61, _)]) ⟨rfl, rfl, rfl, rfl, rfl, rfl, rfl, rfl, rfl, rfl, rfl, trivial⟩ ?_ ?_ rfl rfl rfl (.inl rfl)
   · cases H0; rfl
   · cases H0; rfl
  ·
   replace H0 := bif_f H0 h2
   refine G.skip <| At.ns ?_
   obtain ⟨x3, hx3, H0⟩ := bnd H0
   refine G.rg <| K.mv rfl rfl <| K.fieldAddr Y g0 rfl t44 rfl rfl <| K.loadS Y _ g0 rfl rfl t30 rfl rfl rfl <| K.c0 (cf 72 rfl) (partial_Queue_turn_con hx3 0 1 2 3 4 5 6 7 8) g0 rfl rfl rfl rfl <| K.nil <| At.nr <| K.fieldAddr Y g0 rfl t44 rfl rfl <| K.loadS Y _ g0 rfl rfl t30 rfl rfl rfl <| K.buildL Y 112 ([x2.item] : List TItem) [(0, _)] [((.tmp 42), _)] eTItem_len g0 (AllE.spec ⟨rfl, trivial⟩) rfl rfl Tryz.underlying33 t30 rfl rfl rfl rfl rfl rfl rfl rfl <| K.build Y [(0, _)] [_, _] [((.tmp 43), _)] g0 (AllE.spec ⟨rfl, trivial⟩) rfl rfl t56 rfl rfl <| K.store Y _ g0 rfl rfl rfl t56 rfl rfl rfl rfl rfl <| K.nil <| At.nilAgg (t := 44) (l' := [_, _]) 1 113 30 eTItem 2 rfl rfl rfl rfl rfl <| At.nilBlk (n := 100) (l' := [_, _]) 1 114 30 eTItem 2 rfl rfl rfl rfl rfl <| At.next <| G.ret <| At.ren (fs' := [(4, .a (.c (.p 100 0)))]) (tl := (tkQueue 0 1 2 3 4 5 6 7 8 x3 [(60, lrow 60 30 eTItem 2 ([x2.item] : List TItem)), (61, lrow 61 30 eTItem 2 ([] : List TItem)), (100, blk 100 [.nv 60, .nv 61] 56)])) [(60, 112), (61, 114)] [_, _, _, _, _, _, _, _, _, _, _, _] rfl ⟨rfl, trivial⟩ ⟨rfl, (blk_ren rfl rfl), rfl, (blk_ren rfl rfl), rfl, (pl_ren rfl), rfl, (blk_ren rfl rfl), rfl, (pl_ren rfl), rfl, (blk_ren rfl rfl), rfl, (pl_ren rfl), rfl, (blk_ren rfl rfl), rfl, (pl_ren rfl), rfl, (lrow_ren rfl), rfl, (lrow_ren rfl), rfl, (blk_ren rfl rfl), trivial⟩ rfl <| At.done Y [(.cell 4 56, .agg [_, _])] rfl ⟨.st rfl rfl t56 rfl rfl, trivial⟩ (to' := [(0, _), (1, _), (2, _), (3, _), (4, _), (5, _), (6, _), (7, _), (8, _), (60, _), (61, _)]) ⟨rfl, rfl, rfl, rfl, rfl, rfl, rfl, rfl, rfl, rfl, rfl, trivial⟩ ?_ ?_ rfl rfl rfl (.inl rfl)
   · cases H0; rfl
   · cases H0; rfl
theorem partial_Queue_enter_con {k : Nat}  {q0 : TQueue} {a1 : Int} {r : TChange × TQueue}  (H0 : partial_Queue_enter.f k q0 a1 = some r) (m0 m1 m2 m3 m4 m5 m6 m7 m8 m60 m61 : Nat) (hd : ndB [m0, m1, m2, m3, m4, m5, m6, m7, m8, m60, m61] = true) : partial_Queue_enter_st q0 a1 r m0 m1 m2 m3 m4 m5 m6 m7 m8 m60 m61 :=
 SCon.ren (rn [(0, m0), (1, m1), (2, m2), (3, m3), (4, m4), (5, m5), (6, m6), (7, m7), (8, m8), (60, m60), (61, m61)]) (partial_Queue_enter_con0 (k := k)   H0) ⟨(blk_ren rfl rfl), (blk_ren rfl rfl), (pl_ren rfl), (blk_ren rfl rfl), (pl_ren rfl), (blk_ren rfl rfl), (pl_ren rfl), (blk_ren rfl rfl), (pl_ren rfl), trivial⟩ ⟨(blk_ren rfl rfl), (blk_ren rfl rfl), (pl_ren rfl), (blk_ren rfl rfl), (pl_ren rfl), (blk_ren rfl rfl), (pl_ren rfl), (blk_ren rfl rfl), (pl_ren rfl), (lrow_ren rfl), (lrow_ren rfl), trivial⟩ (rn_nd hd rfl rfl) (rn_ks hd rfl rfl rfl)
abbrev partial_Queue_Revoke_st (q0 : TQueue) (a1 : Int) (r : TChange × Int × TQueue) (m0 : Nat) (m1 : Nat) (m2 : Nat) (m3 : Nat) (m4 : Nat) (m5 : Nat) (m6 : Nat) (m7 : Nat) (m8 : Nat) (m60 : Nat) (m61 : Nat) : Prop := SCon Tryz.prog 25 [SV.p m0 0, .a (.c (.v (.int .i64 a1)))] (tkQueue m0 m1 m2 m3 m4 m5 m6 m7 m8 q0 []) (.tup [.agg [.nv m60, .nv m61], .c (.v (.int .i64 r.2.1))]) (tkQueue m0 m1 m2 m3 m4 m5 m6 m7 m8 r.2.2 [(m60, lrow m60 30 eTItem 2 (r.1.in_)), (m61, lrow m61 30 eTItem 2 (r.1.out))]) [m60, m61]
theorem partial_Queue_Revoke_con0 {k : Nat}  {q0 : TQueue} {a1 : Int} {r : TChange × Int × TQueue}  (H0 : partial_Queue_Revoke.f k q0 a1 = some r) : partial_Queue_Revoke_st q0 a1 r 0 1 2 3 4 5 6 7 8 60 61 := by
 rw [partial_Queue_Revoke.f] at H0
 refine spec_of [(0, _), (1, _)] [(0, _), (1, _), (2, _), (3, _), (4, _), (5, _), (6, _), (7, _), (8, _)] 93 Tryz.func25 rfl Tryz.ntmps25 rfl rfl rfl rfl (fun β W F => ?_)
 refine G.seq <| G.rg <| K.alloc Y 100 _ g0 t56 rfl rfl rfl rfl rfl <| K.as rfl rfl <| K.nil <| At.nilBlk (n := 100) (l' := [_, _]) 0 101 30 eTItem 2 rfl rfl rfl rfl rfl <| At.nilBlk (n := 100) (l' := [_, _]) 1 102 30 eTItem 2 rfl rfl rfl rfl rfl <| At.ns ?_
 obtain ⟨x1, hx1, H0⟩ := bnd H0
 obtain ⟨x2, hx2, H0⟩ := bnd H0
 refine G.rd mixed <| K.mv rfl rfl <| K.nilCheck g0 rfl rfl <| K.fieldAddr Y g0 rfl t98 rfl rfl <| K.load1 Y g0 rfl rfl t38 rfl rfl <| K.mv rfl rfl <| K.cR (cf 67 rfl) (wave_Key_con hx1) g0 rfl rfl rfl rfl <| K.cR (cf 74 rfl) (Tree_FindM_con hx2 1 2) g0 rfl rfl rfl rfl <| K.mv rfl rfl <| K.extract g0 rfl rfl rfl <| K.extract g0 rfl rfl rfl <| K.alloc Y 103 _ g0 t46 rfl rfl rfl rfl rfl <| K.store Y _ g0 rfl rfl rfl t46 rfl rfl rfl rfl rfl <| K.as rfl rfl <| K.nil <| And.intro (by kernel_rfl) <| At.ns <| G.seq <| G.rg <| K.mv rfl rfl <| K.un (V := .bool (!x2.2)) g0 rfl (fun _ => rfl) rfl <| K.nil <| At.next <| G.cond rfl (fun h1 => ?_) (fun h1 => ?_)
 ·
  replace H0 := bif_t H0 h1
  refine G.seq <| G.rg <| K.build Y [] [_, _] [] g0 (AllE.spec trivial) rfl rfl t56 rfl rfl <| K.store Y _ g0 rfl rfl rfl t56 rfl rfl rfl rfl rfl <| K.as rfl rfl <| K.nil <| At.nilAgg (t := 23) (l' := [_, _]) 0 104 30 eTItem 2 rfl rfl rfl rfl rfl <| At.nilAgg (t := 23) (l' := [_, _]) 1 105 30 eTItem 2 rfl rfl rfl rfl rfl <| At.nilBlk (n := 100) (l' := [_, _]) 0 106 30 eTItem 2 rfl rfl rfl rfl rfl <| At.nilBlk (n := 100) (l' := [_, _]) 1 107 30 eTItem 2 rfl rfl rfl rfl rfl <| At.next <| G.ret <| At.over_ret <| At.ren (fs' := [(4, .a (.c (.p 100 0))), (5, .a (.c (.v (.int .i64 14))))]) (tl := (tkQueue 0 1 2 3 4 5 6 7 8 q0 [(60, lrow 60 30 eTItem 2 ([] : List TItem)), (61, lrow 61 30 eTItem 2 ([] : List TItem)), (100, blk 100 [.nv 60, .nv 61] 56)])) [(60, 106), (61, 107)] [_, _, _, _, _, _, _, _, _, _, _, _] rfl ⟨rfl, rfl, trivial⟩ ⟨rfl, (blk_ren rfl rfl), rfl, (blk_ren rfl rfl), rfl, (pl_ren rfl), rfl, (blk_ren rfl rfl), rfl, (pl_ren rfl), rfl, (blk_ren rfl rfl), rfl, (pl_ren rfl), rfl, (blk_ren rfl rfl), rfl, (pl_ren rfl), rfl, (lrow_ren rfl), rfl, (lrow_ren rfl), rfl, (blk_ren rfl rfl), trivial⟩ rfl <| At.done Y [(.cell 4 56, .agg [_, _]), (.tmp 5, .c _)] rfl ⟨.st rfl rfl t56 rfl rfl, .tmp rfl, trivial⟩ (to' := [(0, _), (1, _), (2, _), (3, _), (4, _), (5, _), (6, _), (7, _), (8, _), (60, _), (61, _)]) ⟨rfl, rfl, rfl, rfl, rfl, rfl, rfl, rfl, rfl, rfl, rfl, trivial⟩ ?_ ?_ rfl rfl rfl (.inl rfl)
  · cases H0; rfl
  · cases H0; rfl
 ·
  replace H0 := bif_f H0 h1
  refine G.skip <| At.ns ?_
  obtain ⟨x3, hx3, H0⟩ := bnd H0
  obtain ⟨x4, hx4, H0⟩ := bnd H0
  refine G.rd mixed <| K.mv rfl rfl <| K.nilCheck g0 rfl rfl <| K.fieldAddr Y g0 rfl t98 rfl rfl <| K.load1 Y g0 rfl rfl t38 rfl rfl <| K.mv rfl rfl <| K.cR (cf 67 rfl) (wave_Key_con hx3) g0 rfl rfl rfl rfl <| K.cR (cf 66 rfl) (Tree_RankM_con hx4 1 2) g0 rfl rfl rfl rfl <| K.as rfl rfl <| K.nil <| And.intro (by kernel_rfl) <| At.ns <| G.seq <| G.rg <| K.fieldAddr Y g0 rfl t46 rfl rfl <| K.fieldAddr Y g0 rfl t42 rfl rfl <| K.load1 Y g0 rfl rfl t4 rfl rfl <| K.un (V := .bool (!x2.1.op.insert)) g0 rfl (fun _ => rfl) rfl <| K.nil <| At.next <| G.cond rfl (fun h2 => ?_) (fun h2 => ?_)
  ·
   replace H0 := bif_t H0 h2
   refine G.seq ?_
   obtain ⟨x5, hx5, H0⟩ := bnd H0
   refine G.rg <| K.mv rfl rfl <| K.mv rfl rfl <| K.c0 (cf 75 rfl) (partial_Queue_enter_con hx5 0 1 2 3 4 5 6 7 8 108 109 rfl) g0 rfl rfl rfl rfl <| K.alloc Y 110 _ g0 t56 rfl rfl rfl rfl rfl <| K.store Y _ g0 rfl rfl rfl t56 rfl rfl rfl rfl rfl <| K.nil <| At.ns ?_
   obtain ⟨x6, hx6, H0⟩ := bnd H0
   obtain ⟨x7, hx7, H0⟩ := bnd H0
   refine G.rd mixed <| K.mv rfl rfl <| K.nilCheck g0 rfl rfl <| K.fieldAddr Y g0 rfl t98 rfl rfl <| K.load1 Y g0 rfl rfl t38 rfl rfl <| K.mv rfl rfl <| K.cR (cf 67 rfl) (wave_Key_con hx6) g0 rfl rfl rfl rfl <| K.c0 (cf 76 rfl) (Tree_DropM_con hx7 1 2) g0 rfl rfl rfl rfl <| K.nil <| And.intro (by kernel_rfl) <| At.nr <| K.loadS Y _ g0 rfl rfl t56 rfl rfl rfl <| K.store Y _ g0 rfl rfl rfl t56 rfl rfl rfl rfl rfl <| K.as rfl rfl <| K.nil <| At.next <| G.ret <| At.over_ret <| At.ren (fs' := [(4, .a (.c (.p 100 0))), (5, .a (.c (.v (.int .i64 0))))]) (tl := (tkQueue 0 1 2 3 4 5 6 7 8 (TQueue.mk x5.2.capacity (TS.mk x7.2.2.2 x7.2.2.1) x5.2.present x5.2.gone x5.2.times x5.2.excess) [(60, lrow 60 30 eTItem 2 x5.1.in_), (61, lrow 61 30 eTItem 2 x5.1.out), (100, blk 100 [.nv 60, .nv 61] 56)])) [(60, 108), (61, 109)] [_, _, _, _, _, _, _, _, _, _, _, _] rfl ⟨rfl, rfl, trivial⟩ ⟨rfl, (blk_ren rfl rfl), rfl, (blk_ren rfl rfl), rfl, (pl_ren rfl), rfl, (blk_ren rfl rfl), rfl, (pl_ren rfl), rfl, (blk_ren rfl rfl), rfl, (pl_ren rfl), rfl, (blk_ren rfl rfl), rfl, (pl_ren rfl), rfl, (lrow_ren rfl), rfl, (lrow_ren rfl), rfl, (blk_ren rfl rfl), trivial⟩ rfl <| At.done Y [(.cell 4 56, .agg [_, _]), (.tmp 5, .c _)] rfl ⟨.st rfl rfl t56 rfl rfl, .tmp rfl, trivial⟩ (to' := [(0, _), (1, _), (2, _), (3, _), (4, _), (5, _), (6, _), (7, _), (8, _), (60, _), (61, _)]) ⟨rfl, rfl, rfl, rfl, rfl, rfl, rfl, rfl, rfl, rfl, rfl, trivial⟩ ?_ ?_ rfl rfl rfl (.inl rfl)
   · cases H0; rfl
   · cases H0; rfl
  ·
   replace H0 := bif_f H0 h2
   refine G.skip <| At.nr <| K.fieldAddr Y g0 rfl t46 rfl rfl <| K.fieldAddr Y g0 rfl t42 rfl rfl <| K.loadS Y _ g0 rfl rfl t30 rfl rfl rfl <| K.buildL Y 111 ([x2.1.op.item] : List TItem) [(0, _)] [((.tmp 48), _)] eTItem_len g0 (AllE.spec ⟨rfl, trivial⟩) rfl rfl Tryz.underlying33 t30 rfl rfl rfl rfl rfl rfl rfl rfl <| K.build Y [(1, _)] [_, _] [((.tmp 49), _)] g0 (AllE.spec ⟨rfl, trivial⟩) rfl rfl t56 rfl rfl <| K.alloc Y 112 _ g0 t56 rfl rfl rfl rfl rfl <| K.store Y _ g0 rfl rfl rfl t56 rfl rfl rfl rfl rfl <| K.nil <| At.nilAgg (t := 50) (l' := [_, _]) 0 113 30 eTItem 2 rfl rfl rfl rfl rfl <| At.nilBlk (n := 112) (l' := [_, _]) 0 114 30 eTItem 2 rfl rfl rfl rfl rfl <| At.next ?_
   obtain ⟨x8, H1, H0⟩ := bnd H0
   refine G.sJ (σ := { v : TQueue × List TItem × List TItem // x8 = v }) (fun q => [(0, .a (.c (.p 0 0))), (1, .a (.c (.v (.int .i64 a1)))), (4, .a (.c (.p 115 0))), (6, .a (.c (.p 118 0))), (10, .a (.c (.p 119 0)))]) (fun q => (tkQueue 0 1 2 3 4 5 6 7 8 q.1.1 [(116, lrow 116 30 eTItem 2 ([] : List TItem)), (117, lrow 117 30 eTItem 2 ([] : List TItem)), (115, blk 115 [.nv 116, .nv 117] 56), (118, blk 118 [.v (.int .i64 x2.1.op.time), .v (.bool x2.1.op.insert), .v (.int .i64 x2.1.op.item.key), .v (.int .i64 x2.1.op.item.id), .v (.bool x2.1.here), .v (.bool x2.1.took.found), .v (.int .i64 x2.1.took.item.key), .v (.int .i64 x2.1.took.item.id)] 46), (120, lrow 120 30 eTItem 2 q.1.2.1), (121, lrow 121 30 eTItem 2 q.1.2.2), (119, blk 119 [.nv 120, .nv 121] 56)])) ?_ ?_
   ·
    refine G.seq <| G.rg <| K.fieldAddr Y g0 rfl t46 rfl rfl <| K.load1 Y g0 rfl rfl t4 rfl rfl <| K.un (V := .bool (!x2.1.here)) g0 rfl (fun _ => rfl) rfl <| K.nil <| At.next <| G.cond rfl (fun h3 => ?_) (fun h3 => ?_)
    ·
     replace H1 := bif_t H1 h3
     obtain ⟨x9, hx9, H1⟩ := bnd H1
     exact G.rg <| K.mv rfl rfl <| K.mv rfl rfl <| K.bin (V := .int .i64 (w64 (x4 + 1))) g0 rfl rfl (fun _ => rfl) rfl <| K.c0 (cf 73 rfl) (partial_Queue_leave_con hx9 0 1 2 3 4 5 6 7 8 122 123 rfl) g0 rfl rfl rfl rfl <| K.store Y _ g0 rfl rfl rfl t56 rfl rfl rfl rfl rfl <| K.nil <| At.jd ⟨(x9.2, x9.1.in_, x9.1.out), oi H1⟩ [(115, 100), (116, 101), (117, 102), (118, 103), (119, 112), (120, 122), (121, 123)] [_, _, _, _, _, _, _, _, _, _, _, _, _, _, _, _] rfl ⟨rfl, rfl, rfl, rfl, rfl, trivial⟩ ⟨rfl, (blk_ren rfl rfl), rfl, (blk_ren rfl rfl), rfl, (pl_ren rfl), rfl, (blk_ren rfl rfl), rfl, (pl_ren rfl), rfl, (blk_ren rfl rfl), rfl, (pl_ren rfl), rfl, (blk_ren rfl rfl), rfl, (pl_ren rfl), rfl, (lrow_ren rfl), rfl, (lrow_ren rfl), rfl, (blk_ren rfl rfl), rfl, (blk_ren rfl rfl), rfl, (lrow_ren rfl), rfl, (lrow_ren rfl), rfl, (blk_ren rfl rfl), trivial⟩ rfl
    ·
     replace H1 := bif_f H1 h3
     exact G.skip <| At.jd ⟨(q0, ([] : List TItem), ([x2.1.op.item] : List TItem)), oi H1⟩ [(115, 100), (116, 101), (117, 102), (118, 103), (119, 112), (120, 114), (121, 111)] [_, _, _, _, _, _, _, _, _, _, _, _, _, _, _, _] rfl ⟨rfl, rfl, rfl, rfl, rfl, trivial⟩ ⟨rfl, (blk_ren rfl rfl), rfl, (blk_ren rfl rfl), rfl, (pl_ren rfl), rfl, (blk_ren rfl rfl), rfl, (pl_ren rfl), rfl, (blk_ren rfl rfl), rfl, (pl_ren rfl), rfl, (blk_ren rfl rfl), rfl, (pl_ren rfl), rfl, (lrow_ren rfl), rfl, (lrow_ren rfl), rfl, (blk_ren rfl rfl), rfl, (blk_ren rfl rfl), rfl, (lrow_ren rfl), rfl, (lrow_ren rfl), rfl, (blk_ren rfl rfl), trivial⟩ rfl
   ·
    rintro ⟨_, rfl⟩
    show G _ _ [(0, .a (.c (.p 0 0))), (1, .a (.c (.v (.int .i64 a1)))), (4, .a (.c (.p 115 0))), (6, .a (.c (.p 118 0))), (10, .a (.c (.p 119 0)))] (sm (tkQueue 0 1 2 3 4 5 6 7 8 x8.1 [(116, lrow 116 30 eTItem 2 ([] : List TItem)), (117, lrow 117 30 eTItem 2 ([] : List TItem)), (115, blk 115 [.nv 116, .nv 117] 56), (118, blk 118 [.v (.int .i64 x2.1.op.time), .v (.bool x2.1.op.insert), .v (.int .i64 x2.1.op.item.key), .v (.int .i64 x2.1.op.item.id), .v (.bool x2.1.here), .v (.bool x2.1.took.found), .v (.int .i64 x2.1.took.item.key), .v (.int .i64 x2.1.took.item.id)] 46), (120, lrow 120 30 eTItem 2 x8.2.1), (121, lrow 121 30 eTItem 2 x8.2.2), (119, blk 119 [.nv 120, .nv 121] 56)])) _ _
    refine G.seq ?_
    obtain ⟨x10, hx10, H0⟩ := bnd H0
    obtain ⟨x11, hx11, H0⟩ := bnd H0
    refine G.rd mixed <| K.mv rfl rfl <| K.nilCheck g0 rfl rfl <| K.fieldAddr Y g0 rfl t98 rfl rfl <| K.load1 Y g0 rfl rfl t38 rfl rfl <| K.mv rfl rfl <| K.cR (cf 67 rfl) (wave_Key_con hx10) g0 rfl rfl rfl rfl <| K.c0 (cf 76 rfl) (Tree_DropM_con hx11 1 2) g0 rfl rfl rfl rfl <| K.nil <| And.intro (by kernel_rfl) <| At.ns ?_
    obtain ⟨x12, hx12, H0⟩ := bnd H0
    obtain ⟨x13, hx13, H0⟩ := bnd H0
    refine G.rd mixed <| K.mv rfl rfl <| K.nilCheck g0 rfl rfl <| K.fieldAddr Y g0 rfl t98 rfl rfl <| K.load1 Y g0 rfl rfl t63 rfl rfl <| K.fieldAddr Y g0 rfl t46 rfl rfl <| K.fieldAddr Y g0 rfl t42 rfl rfl <| K.loadS Y _ g0 rfl rfl t30 rfl rfl rfl <| K.cR (cf 65 rfl) (shelf_Of_con hx12) g0 rfl rfl rfl rfl <| K.c0 (cf 77 rfl) (Tree_DropS_con hx13 3 4) g0 rfl rfl rfl rfl <| K.nil <| And.intro (by kernel_rfl) <| At.ns ?_
    obtain ⟨x14, hx14, H0⟩ := bnd H0
    obtain ⟨x15, hx15, H0⟩ := bnd H0
    refine G.rd mixed <| K.mv rfl rfl <| K.nilCheck g0 rfl rfl <| K.fieldAddr Y g0 rfl t98 rfl rfl <| K.load1 Y g0 rfl rfl t63 rfl rfl <| K.fieldAddr Y g0 rfl t46 rfl rfl <| K.fieldAddr Y g0 rfl t42 rfl rfl <| K.loadS Y _ g0 rfl rfl t30 rfl rfl rfl <| K.cR (cf 65 rfl) (shelf_Of_con hx14) g0 rfl rfl rfl rfl <| K.c0 (cf 77 rfl) (Tree_DropS_con hx15 5 6) g0 rfl rfl rfl rfl <| K.nil <| And.intro (by kernel_rfl) <| At.ns ?_
    obtain ⟨x16, hx16, H0⟩ := bnd H0
    obtain ⟨x17, hx17, H0⟩ := bnd H0
    refine G.rd mixed <| K.mv rfl rfl <| K.nilCheck g0 rfl rfl <| K.fieldAddr Y g0 rfl t98 rfl rfl <| K.load1 Y g0 rfl rfl t63 rfl rfl <| K.fieldAddr Y g0 rfl t46 rfl rfl <| K.fieldAddr Y g0 rfl t42 rfl rfl <| K.loadS Y _ g0 rfl rfl t30 rfl rfl rfl <| K.cR (cf 65 rfl) (shelf_Of_con hx16) g0 rfl rfl rfl rfl <| K.c0 (cf 77 rfl) (Tree_DropS_con hx17 7 8) g0 rfl rfl rfl rfl <| K.nil <| And.intro (by kernel_rfl) <| At.nr <| K.loadS Y _ g0 rfl rfl t56 rfl rfl rfl <| K.store Y _ g0 rfl rfl rfl t56 rfl rfl rfl rfl rfl <| K.as rfl rfl <| K.nil <| At.next <| G.ret <| At.ren (fs' := [(4, .a (.c (.p 115 0))), (5, .a (.c (.v (.int .i64 0))))]) (tl := (tkQueue 0 1 2 3 4 5 6 7 8 (TQueue.mk x8.1.capacity (TS.mk x11.2.2.2 x11.2.2.1) (TS.mk x13.2.2.2 x13.2.2.1) (TS.mk x15.2.2.2 x15.2.2.1) (TS.mk x17.2.2.2 x17.2.2.1) x8.1.excess) [(60, lrow 60 30 eTItem 2 x8.2.1), (61, lrow 61 30 eTItem 2 x8.2.2), (115, blk 115 [.nv 60, .nv 61] 56)])) [(60, 120), (61, 121)] [_, _, _, _, _, _, _, _, _, _, _, _] rfl ⟨rfl, rfl, trivial⟩ ⟨rfl, (blk_ren rfl rfl), rfl, (blk_ren rfl rfl), rfl, (pl_ren rfl), rfl, (blk_ren rfl rfl), rfl, (pl_ren rfl), rfl, (blk_ren rfl rfl), rfl, (pl_ren rfl), rfl, (blk_ren rfl rfl), rfl, (pl_ren rfl), rfl, (lrow_ren rfl), rfl, (lrow_ren rfl), rfl, (blk_ren rfl rfl), trivial⟩ rfl <| At.done Y [(.cell 4 56, .agg [_, _]), (.tmp 5, .c _)] rfl ⟨.st rfl rfl t56 rfl rfl, .tmp rfl, trivial⟩ (to' := [(0, _), (1, _), (2, _), (3, _), (4, _), (5, _), (6, _), (7, _), (8, _), (60, _), (61, _)]) ⟨rfl, rfl, rfl, rfl, rfl, rfl, rfl, rfl, rfl, rfl, rfl, trivial⟩ ?_ ?_ rfl rfl rfl (.inl rfl)
    · cases H0; rfl
    · cases H0; rfl
theorem partial_Queue_Revoke_con {k : Nat}  {q0 : TQueue} {a1 : Int} {r : TChange × Int × TQueue}  (H0 : partial_Queue_Revoke.f k q0 a1 = some r) (m0 m1 m2 m3 m4 m5 m6 m7 m8 m60 m61 : Nat) (hd : ndB [m0, m1, m2, m3, m4, m5, m6, m7, m8, m60, m61] = true) : partial_Queue_Revoke_st q0 a1 r m0 m1 m2 m3 m4 m5 m6 m7 m8 m60 m61 :=
 SCon.ren (rn [(0, m0), (1, m1), (2, m2), (3, m3), (4, m4), (5, m5), (6, m6), (7, m7), (8, m8), (60, m60), (61, m61)]) (partial_Queue_Revoke_con0 (k := k)   H0) ⟨(blk_ren rfl rfl), (blk_ren rfl rfl), (pl_ren rfl), (blk_ren rfl rfl), (pl_ren rfl), (blk_ren rfl rfl), (pl_ren rfl), (blk_ren rfl rfl), (pl_ren rfl), trivial⟩ ⟨(blk_ren rfl rfl), (blk_ren rfl rfl), (pl_ren rfl), (blk_ren rfl rfl), (pl_ren rfl), (blk_ren rfl rfl), (pl_ren rfl), (blk_ren rfl rfl), (pl_ren rfl), (lrow_ren rfl), (lrow_ren rfl), trivial⟩ (rn_nd hd rfl rfl) (rn_ks hd rfl rfl rfl)
abbrev partial_Queue_Excess_st (q0 : TQueue) (r : Int) (m0 : Nat) (m1 : Nat) (m2 : Nat) (m3 : Nat) (m4 : Nat) (m5 : Nat) (m6 : Nat) (m7 : Nat) (m8 : Nat) : Prop := SCon Tryz.prog 32 [SV.p m0 0] (tkQueue m0 m1 m2 m3 m4 m5 m6 m7 m8 q0 []) (.a (.c (.v (.int .i64 r)))) (tkQueue m0 m1 m2 m3 m4 m5 m6 m7 m8 q0 []) []
theorem partial_Queue_Excess_con0 {k : Nat}  {q0 : TQueue} {r : Int}  (H0 : partial_Queue_Excess.f k q0 = some r) : partial_Queue_Excess_st q0 r 0 1 2 3 4 5 6 7 8 := by
 rw [partial_Queue_Excess.f] at H0
 refine spec_of [(0, _)] [(0, _), (1, _), (2, _), (3, _), (4, _), (5, _), (6, _), (7, _), (8, _)] 7 Tryz.func32 rfl Tryz.ntmps32 rfl rfl rfl rfl (fun β W F => ?_)
 exact G.seq <| G.rg <| K.as rfl rfl <| K.nil <| At.nr <| K.mv rfl rfl <| K.nilCheck g0 rfl rfl <| K.fieldAddr Y g0 rfl t98 rfl rfl <| K.load1 Y g0 rfl rfl t3 rfl rfl <| K.as rfl rfl <| K.nil <| At.next <| G.ret <| At.dr Y [2] rfl rfl (by cases H0; rfl) (by cases H0; rfl) rfl rfl rfl
theorem partial_Queue_Excess_con {k : Nat}  {q0 : TQueue} {r : Int}  (H0 : partial_Queue_Excess.f k q0 = some r) (m0 m1 m2 m3 m4 m5 m6 m7 m8 : Nat) : partial_Queue_Excess_st q0 r m0 m1 m2 m3 m4 m5 m6 m7 m8 :=
 SCon.ren (rn [(0, m0), (1, m1), (2, m2), (3, m3), (4, m4), (5, m5), (6, m6), (7, m7), (8, m8)]) (partial_Queue_Excess_con0 (k := k)   H0) ⟨(blk_ren rfl rfl), (blk_ren rfl rfl), (pl_ren rfl), (blk_ren rfl rfl), (pl_ren rfl), (blk_ren rfl rfl), (pl_ren rfl), (blk_ren rfl rfl), (pl_ren rfl), trivial⟩ ⟨(blk_ren rfl rfl), (blk_ren rfl rfl), (pl_ren rfl), (blk_ren rfl rfl), (pl_ren rfl), (blk_ren rfl rfl), (pl_ren rfl), (blk_ren rfl rfl), (pl_ren rfl), trivial⟩ (by simp) (by simp)
abbrev Lw12_awake_st (r : Bool) : Prop := SCon Tryz.prog 14 [] [] (.a (.c (.v (.bool r)))) [] []
set_option maxHeartbeats 4000000 in
theorem Lw12_awake_con0 {k : Nat}  {r : Bool}  (H0 : Lw12_awake.f k = some r) : Lw12_awake_st r := by
 rw [Lw12_awake.f] at H0
 refine spec_of [] [] 62 Tryz.func14 rfl Tryz.ntmps14 rfl rfl rfl rfl (fun β W F => ?_)
 refine G.seq <| G.rg <| K.as rfl rfl <| K.nil <| At.ns ?_
 obtain ⟨x1, hx1, H0⟩ := bnd H0
 refine G.rg <| K.c0 (cf 15 rfl) (partial_New_con hx1 100 101 102 103 104 105 106 107 108 rfl) g0 rfl rfl rfl rfl <| K.as rfl rfl <| K.nil <| At.ns <| G.seq <| G.rg <| K.mv rfl rfl <| K.eqnil (V := false) g0 rfl rfl (pn_eql_some Tryz.underlying24) rfl <| K.nil <| At.next <| G.cond rfl (fun h1 => ?_) (fun h1 => ?_)
 · cases h1
 ·
  refine G.skip <| At.ns ?_
  obtain ⟨x2, hx2, H0⟩ := bnd H0
  refine G.rg <| K.mv rfl rfl <| K.build Y [(0, _)] [_, _] [(_, _)] g0 (AllE.spec ⟨rfl, trivial⟩) rfl rfl t30 rfl rfl <| K.c0 (cf 23 rfl) (partial_Queue_Insert_con hx2 100 101 102 103 104 105 106 107 108 109 110 rfl) g0 rfl rfl rfl rfl <| K.nil <| At.ns ?_
  obtain ⟨x3, hx3, H0⟩ := bnd H0
  refine G.rg <| K.mv rfl rfl <| K.build Y [(0, _)] [_, _] [(_, _)] g0 (AllE.spec ⟨rfl, trivial⟩) rfl rfl t30 rfl rfl <| K.c0 (cf 23 rfl) (partial_Queue_Insert_con hx3 100 101 102 103 104 105 106 107 108 111 112 rfl) g0 rfl rfl rfl rfl <| K.nil <| At.ns ?_
  obtain ⟨x4, hx4, H0⟩ := bnd H0
  refine G.rg <| K.mv rfl rfl <| K.c0 (cf 24 rfl) (partial_Queue_Delete_con hx4 100 101 102 103 104 105 106 107 108 113 114 rfl) g0 rfl rfl rfl rfl <| K.nil <| At.ns ?_
  obtain ⟨x5, hx5, H0⟩ := bnd H0
  refine G.rg <| K.mv rfl rfl <| K.c0 (cf 25 rfl) (partial_Queue_Revoke_con hx5 100 101 102 103 104 105 106 107 108 115 116 rfl) g0 rfl rfl rfl rfl <| K.mv rfl rfl <| K.extract g0 rfl rfl rfl <| K.extract g0 rfl rfl rfl <| K.alloc Y 117 _ g0 t56 rfl rfl rfl rfl rfl <| K.store Y _ g0 rfl rfl rfl t56 rfl rfl rfl rfl rfl <| K.as rfl rfl <| K.nil <| At.ns ?_
  obtain ⟨x6, hx6, H0⟩ := bnd H0
  refine G.rg <| K.mv rfl rfl <| K.c0 (cf 24 rfl) (partial_Queue_Delete_con hx6 100 101 102 103 104 105 106 107 108 118 119 rfl) g0 rfl rfl rfl rfl <| K.mv rfl rfl <| K.extract g0 rfl rfl rfl <| K.extract g0 rfl rfl rfl <| K.alloc Y 120 _ g0 t56 rfl rfl rfl rfl rfl <| K.store Y _ g0 rfl rfl rfl t56 rfl rfl rfl rfl rfl <| K.as rfl rfl <| K.nil <| At.ns ?_
  rcases Bool.eq_false_or_eq_true (x5.2.1 == 0) with h2 | h2
  ·
   replace H0 := bif_t H0 h2
   rcases Bool.eq_false_or_eq_true (x6.2.1 == 0) with h3 | h3
   ·
    replace H0 := bif_t H0 h3
    rcases Bool.eq_false_or_eq_true ((x5.1.out.length : Int) == 1) with h4 | h4
    ·
     replace H0 := bif_t H0 h4
     obtain ⟨x7, hx7, H0⟩ := bnd H0
     rcases Bool.eq_false_or_eq_true (x7.key == 5) with h5 | h5
     ·
      replace H0 := bif_t H0 h5
      rcases Bool.eq_false_or_eq_true ((w64 ((x6.1.in_.length : Int) + (x6.1.out.length : Int))) == 0) with h6 | h6
      ·
       replace H0 := bif_t H0 h6
       obtain ⟨x8, hx8, H0⟩ := bnd H0
       exact G.rg <| K.mv rfl rfl <| K.bin (V := .bool (x5.2.1 == 0)) g0 rfl rfl (fun _ => rfl) rfl <| K.mv rfl rfl <| K.move (.inl rfl) (g1 rfl rfl h2) rfl rfl <| K.bin (V := .bool (x6.2.1 == 0)) (g1 rfl rfl h2) rfl rfl (fun _ => rfl) rfl <| K.pickT g0 rfl (h2) rfl rfl <| K.mv rfl rfl <| K.fieldAddr Y (g1 rfl rfl h3) rfl t56 rfl rfl <| K.load1 Y (g1 rfl rfl h3) rfl rfl t33 rfl rfl <| K.lenL (lrowV 116 30 eTItem 2 x5.1.out) (lrowV_is eTItem_len (by decide)) (g1 rfl rfl h3) rfl rfl Tryz.underlying33 rfl <| K.bin (V := .bool ((x5.1.out.length : Int) == 1)) (g1 rfl rfl h3) rfl rfl (fun _ => rfl) rfl <| K.pickT g0 rfl (h3) rfl rfl <| K.mv rfl rfl <| K.fieldAddr Y (g1 rfl rfl h4) rfl t56 rfl rfl <| K.load1 Y (g1 rfl rfl h4) rfl rfl t33 rfl rfl <| K.idxL (lrowV 116 30 eTItem 2 x5.1.out) ((0 : Int).toNat) (lrowV_is eTItem_len (by decide)) (atL_get hx7) (atL_nn hx7) (g1 rfl rfl h4) rfl rfl rfl Tryz.underlying33 el33.size_run rfl <| K.fieldL Y (lrowV 116 30 eTItem 2 x5.1.out) ((0 : Int).toNat) 0 0 (lrowV_is eTItem_len (by decide)) (atL_get hx7) (g1 rfl rfl h4) rfl rfl t30 rfl rfl rfl rfl <| K.load1L Y (lrowV 116 30 eTItem 2 x5.1.out) ((0 : Int).toNat) 0 (lrowV_is eTItem_len (by decide)) (atL_get hx7) (g1 rfl rfl h4) rfl rfl t3 rfl rfl <| K.bin (V := .bool (x7.key == 5)) (g1 rfl rfl h4) rfl rfl (fun _ => rfl) rfl <| K.pickT g0 rfl (h4) rfl rfl <| K.mv rfl rfl <| K.fieldAddr Y (g1 rfl rfl h5) rfl t56 rfl rfl <| K.load1 Y (g1 rfl rfl h5) rfl rfl t33 rfl rfl <| K.lenL (lrowV 118 30 eTItem 2 x6.1.in_) (lrowV_is eTItem_len (by decide)) (g1 rfl rfl h5) rfl rfl Tryz.underlying33 rfl <| K.fieldAddr Y (g1 rfl rfl h5) rfl t56 rfl rfl <| K.load1 Y (g1 rfl rfl h5) rfl rfl t33 rfl rfl <| K.lenL (lrowV 119 30 eTItem 2 x6.1.out) (lrowV_is eTItem_len (by decide)) (g1 rfl rfl h5) rfl rfl Tryz.underlying33 rfl <| K.bin (V := .int .i64 (w64 ((x6.1.in_.length : Int) + (x6.1.out.length : Int)))) (g1 rfl rfl h5) rfl rfl (fun _ => rfl) rfl <| K.bin (V := .bool ((w64 ((x6.1.in_.length : Int) + (x6.1.out.length : Int))) == 0)) (g1 rfl rfl h5) rfl rfl (fun _ => rfl) rfl <| K.pickT g0 rfl (h5) rfl rfl <| K.mv rfl rfl <| K.move (.inl rfl) (g1 rfl rfl h6) rfl rfl <| K.cR (cf 32 rfl) (partial_Queue_Excess_con hx8 100 101 102 103 104 105 106 107 108) (g1 rfl rfl h6) rfl rfl rfl rfl <| K.bin (V := .bool (x8 == 1)) (g1 rfl rfl h6) rfl rfl (fun _ => rfl) rfl <| K.pickT g0 rfl (h6) rfl rfl <| K.as rfl rfl <| K.nil <| At.next <| G.ret <| At.dr Y [0] rfl rfl (by cases H0; rfl) (by cases H0; rfl) rfl rfl rfl
      ·
       replace H0 := bif_f H0 h6
       exact G.rg <| K.mv rfl rfl <| K.bin (V := .bool (x5.2.1 == 0)) g0 rfl rfl (fun _ => rfl) rfl <| K.mv rfl rfl <| K.move (.inl rfl) (g1 rfl rfl h2) rfl rfl <| K.bin (V := .bool (x6.2.1 == 0)) (g1 rfl rfl h2) rfl rfl (fun _ => rfl) rfl <| K.pickT g0 rfl (h2) rfl rfl <| K.mv rfl rfl <| K.fieldAddr Y (g1 rfl rfl h3) rfl t56 rfl rfl <| K.load1 Y (g1 rfl rfl h3) rfl rfl t33 rfl rfl <| K.lenL (lrowV 116 30 eTItem 2 x5.1.out) (lrowV_is eTItem_len (by decide)) (g1 rfl rfl h3) rfl rfl Tryz.underlying33 rfl <| K.bin (V := .bool ((x5.1.out.length : Int) == 1)) (g1 rfl rfl h3) rfl rfl (fun _ => rfl) rfl <| K.pickT g0 rfl (h3) rfl rfl <| K.mv rfl rfl <| K.fieldAddr Y (g1 rfl rfl h4) rfl t56 rfl rfl <| K.load1 Y (g1 rfl rfl h4) rfl rfl t33 rfl rfl <| K.idxL (lrowV 116 30 eTItem 2 x5.1.out) ((0 : Int).toNat) (lrowV_is eTItem_len (by decide)) (atL_get hx7) (atL_nn hx7) (g1 rfl rfl h4) rfl rfl rfl Tryz.underlying33 el33.size_run rfl <| K.fieldL Y (lrowV 116 30 eTItem 2 x5.1.out) ((0 : Int).toNat) 0 0 (lrowV_is eTItem_len (by decide)) (atL_get hx7) (g1 rfl rfl h4) rfl rfl t30 rfl rfl rfl rfl <| K.load1L Y (lrowV 116 30 eTItem 2 x5.1.out) ((0 : Int).toNat) 0 (lrowV_is eTItem_len (by decide)) (atL_get hx7) (g1 rfl rfl h4) rfl rfl t3 rfl rfl <| K.bin (V := .bool (x7.key == 5)) (g1 rfl rfl h4) rfl rfl (fun _ => rfl) rfl <| K.pickT g0 rfl (h4) rfl rfl <| K.mv rfl rfl <| K.fieldAddr Y (g1 rfl rfl h5) rfl t56 rfl rfl <| K.load1 Y (g1 rfl rfl h5) rfl rfl t33 rfl rfl <| K.lenL (lrowV 118 30 eTItem 2 x6.1.in_) (lrowV_is eTItem_len (by decide)) (g1 rfl rfl h5) rfl rfl Tryz.underlying33 rfl <| K.fieldAddr Y (g1 rfl rfl h5) rfl t56 rfl rfl <| K.load1 Y (g1 rfl rfl h5) rfl rfl t33 rfl rfl <| K.lenL (lrowV 119 30 eTItem 2 x6.1.out) (lrowV_is eTItem_len (by decide)) (g1 rfl rfl h5) rfl rfl Tryz.underlying33 rfl <| K.bin (V := .int .i64 (w64 ((x6.1.in_.length : Int) + (x6.1.out.length : Int)))) (g1 rfl rfl h5) rfl rfl (fun _ => rfl) rfl <| K.bin (V := .bool ((w64 ((x6.1.in_.length : Int) + (x6.1.out.length : Int))) == 0)) (g1 rfl rfl h5) rfl rfl (fun _ => rfl) rfl <| K.pickT g0 rfl (h5) rfl rfl <| K.mv rfl rfl <| K.sk rfl rfl h6 rfl <| K.sk rfl rfl h6 rfl <| K.sk rfl rfl h6 rfl <| K.pickF g0 rfl (h6) rfl rfl <| K.as rfl rfl <| K.nil <| At.next <| G.ret <| At.dr Y [0] rfl rfl (by cases H0; rfl) (by cases H0; rfl) rfl rfl rfl
     ·
      replace H0 := bif_f H0 h5
      exact G.rg <| K.mv rfl rfl <| K.bin (V := .bool (x5.2.1 == 0)) g0 rfl rfl (fun _ => rfl) rfl <| K.mv rfl rfl <| K.move (.inl rfl) (g1 rfl rfl h2) rfl rfl <| K.bin (V := .bool (x6.2.1 == 0)) (g1 rfl rfl h2) rfl rfl (fun _ => rfl) rfl <| K.pickT g0 rfl (h2) rfl rfl <| K.mv rfl rfl <| K.fieldAddr Y (g1 rfl rfl h3) rfl t56 rfl rfl <| K.load1 Y (g1 rfl rfl h3) rfl rfl t33 rfl rfl <| K.lenL (lrowV 116 30 eTItem 2 x5.1.out) (lrowV_is eTItem_len (by decide)) (g1 rfl rfl h3) rfl rfl Tryz.underlying33 rfl <| K.bin (V := .bool ((x5.1.out.length : Int) == 1)) (g1 rfl rfl h3) rfl rfl (fun _ => rfl) rfl <| K.pickT g0 rfl (h3) rfl rfl <| K.mv rfl rfl <| K.fieldAddr Y (g1 rfl rfl h4) rfl t56 rfl rfl <| K.load1 Y (g1 rfl rfl h4) rfl rfl t33 rfl rfl <| K.idxL (lrowV 116 30 eTItem 2 x5.1.out) ((0 : Int).toNat) (lrowV_is eTItem_len (by decide)) (atL_get hx7) (atL_nn hx7) (g1 rfl rfl h4) rfl rfl rfl Tryz.underlying33 el33.size_run rfl <| K.fieldL Y (lrowV 116 30 eTItem 2 x5.1.out) ((0 : Int).toNat) 0 0 (lrowV_is eTItem_len (by decide)) (atL_get hx7) (g1 rfl rfl h4) rfl rfl t30 rfl rfl rfl rfl <| K.load1L Y (lrowV 116 30 eTItem 2 x5.1.out) ((0 : Int).toNat) 0 (lrowV_is eTItem_len (by decide)) (atL_get hx7) (g1 rfl rfl h4) rfl rfl t3 rfl rfl <| K.bin (V := .bool (x7.key == 5)) (g1 rfl rfl h4) rfl rfl (fun _ => rfl) rfl <| K.pickT g0 rfl (h4) rfl rfl <| K.mv rfl rfl <| K.sk rfl rfl h5 rfl <| K.sk rfl rfl h5 rfl <| K.sk rfl rfl h5 rfl <| K.sk rfl rfl h5 rfl <| K.sk rfl rfl h5 rfl <| K.sk rfl rfl h5 rfl <| K.sk rfl rfl h5 rfl <| K.sk rfl rfl h5 rfl <| K.pickF g0 rfl (h5) rfl rfl <| K.mv rfl rfl <| K.sk rfl rfl rfl rfl <| K.sk rfl rfl rfl rfl <| K.sk rfl rfl rfl rfl <| K.pickF g0 rfl (rfl) rfl rfl <| K.as rfl rfl <| K.nil <| At.next <| G.ret <| At.dr Y [0] rfl rfl (by cases H0; rfl) (by cases H0; rfl) rfl rfl rfl
    ·
     replace H0 := bif_f H0 h4
     exact G.rg <| K.mv rfl rfl <| K.bin (V := .bool (x5.2.1 == 0)) g0 rfl rfl (fun _ => rfl) rfl <| K.mv rfl rfl <| K.move (.inl rfl) (g1 rfl rfl h2) rfl rfl <| K.bin (V := .bool (x6.2.1 == 0)) (g1 rfl rfl h2) rfl rfl (fun _ => rfl) rfl <| K.pickT g0 rfl (h2) rfl rfl <| K.mv rfl rfl <| K.fieldAddr Y (g1 rfl rfl h3) rfl t56 rfl rfl <| K.load1 Y (g1 rfl rfl h3) rfl rfl t33 rfl rfl <| K.lenL (lrowV 116 30 eTItem 2 x5.1.out) (lrowV_is eTItem_len (by decide)) (g1 rfl rfl h3) rfl rfl Tryz.underlying33 rfl <| K.bin (V := .bool ((x5.1.out.length : Int) == 1)) (g1 rfl rfl h3) rfl rfl (fun _ => rfl) rfl <| K.pickT g0 rfl (h3) rfl rfl <| K.mv rfl rfl <| K.sk rfl rfl h4 rfl <| K.sk rfl rfl h4 rfl <| K.sk rfl rfl h4 rfl <| K.sk rfl rfl h4 rfl <| K.sk rfl rfl h4 rfl <| K.sk rfl rfl h4 rfl <| K.pickF g0 rfl (h4) rfl rfl <| K.mv rfl rfl <| K.sk rfl rfl rfl rfl <| K.sk rfl rfl rfl rfl <| K.sk rfl rfl rfl rfl <| K.sk rfl rfl rfl rfl <| K.sk rfl rfl rfl rfl <| K.sk rfl rfl rfl rfl <| K.sk rfl rfl rfl rfl <| K.sk rfl rfl rfl rfl <| K.pickF g0 rfl (rfl) rfl rfl <| K.mv rfl rfl <| K.sk rfl rfl rfl rfl <| K.sk rfl rfl rfl rfl <| K.sk rfl rfl rfl rfl <| K.pickF g0 rfl (rfl) rfl rfl <| K.as rfl rfl <| K.nil <| At.next <| G.ret <| At.dr Y [0] rfl rfl (by cases H0; rfl) (by cases H0; rfl) rfl rfl rfl
   ·
    replace H0 := bif_f H0 h3
    exact G.rg <| K.mv rfl rfl <| K.bin (V := .bool (x5.2.1 == 0)) g0 rfl rfl (fun _ => rfl) rfl <| K.mv rfl rfl <| K.move (.inl rfl) (g1 rfl rfl h2) rfl rfl <| K.bin (V := .bool (x6.2.1 == 0)) (g1 rfl rfl h2) rfl rfl (fun _ => rfl) rfl <| K.pickT g0 rfl (h2) rfl rfl <| K.mv rfl rfl <| K.sk rfl rfl h3 rfl <| K.sk rfl rfl h3 rfl <| K.sk rfl rfl h3 rfl <| K.sk rfl rfl h3 rfl <| K.pickF g0 rfl (h3) rfl rfl <| K.mv rfl rfl <| K.sk rfl rfl rfl rfl <| K.sk rfl rfl rfl rfl <| K.sk rfl rfl rfl rfl <| K.sk rfl rfl rfl rfl <| K.sk rfl rfl rfl rfl <| K.sk rfl rfl rfl rfl <| K.pickF g0 rfl (rfl) rfl rfl <| K.mv rfl rfl <| K.sk rfl rfl rfl rfl <| K.sk rfl rfl rfl rfl <| K.sk rfl rfl rfl rfl <| K.sk rfl rfl rfl rfl <| K.sk rfl rfl rfl rfl <| K.sk rfl rfl rfl rfl <| K.sk rfl rfl rfl rfl <| K.sk rfl rfl rfl rfl <| K.pickF g0 rfl (rfl) rfl rfl <| K.mv rfl rfl <| K.sk rfl rfl rfl rfl <| K.sk rfl rfl rfl rfl <| K.sk rfl rfl rfl rfl <| K.pickF g0 rfl (rfl) rfl rfl <| K.as rfl rfl <| K.nil <| At.next <| G.ret <| At.dr Y [0] rfl rfl (by cases H0; rfl) (by cases H0; rfl) rfl rfl rfl
  ·
   replace H0 := bif_f H0 h2
   exact G.rg <| K.mv rfl rfl <| K.bin (V := .bool (x5.2.1 == 0)) g0 rfl rfl (fun _ => rfl) rfl <| K.mv rfl rfl <| K.sk rfl rfl h2 rfl <| K.sk rfl rfl h2 rfl <| K.pickF g0 rfl (h2) rfl rfl <| K.mv rfl rfl <| K.sk rfl rfl rfl rfl <| K.sk rfl rfl rfl rfl <| K.sk rfl rfl rfl rfl <| K.sk rfl rfl rfl rfl <| K.pickF g0 rfl (rfl) rfl rfl <| K.mv rfl rfl <| K.sk rfl rfl rfl rfl <| K.sk rfl rfl rfl rfl <| K.sk rfl rfl rfl rfl <| K.sk rfl rfl rfl rfl <| K.sk rfl rfl rfl rfl <| K.sk rfl rfl rfl rfl <| K.pickF g0 rfl (rfl) rfl rfl <| K.mv rfl rfl <| K.sk rfl rfl rfl rfl <| K.sk rfl rfl rfl rfl <| K.sk rfl rfl rfl rfl <| K.sk rfl rfl rfl rfl <| K.sk rfl rfl rfl rfl <| K.sk rfl rfl rfl rfl <| K.sk rfl rfl rfl rfl <| K.sk rfl rfl rfl rfl <| K.pickF g0 rfl (rfl) rfl rfl <| K.mv rfl rfl <| K.sk rfl rfl rfl rfl <| K.sk rfl rfl rfl rfl <| K.sk rfl rfl rfl rfl <| K.pickF g0 rfl (rfl) rfl rfl <| K.as rfl rfl <| K.nil <| At.next <| G.ret <| At.dr Y [0] rfl rfl (by cases H0; rfl) (by cases H0; rfl) rfl rfl rfl
theorem Lw12_awake_con {k : Nat}  {r : Bool}  (H0 : Lw12_awake.f k = some r) : Lw12_awake_st r :=
 SCon.ren (rn []) (Lw12_awake_con0 (k := k)   H0) trivial trivial (by simp) (by simp)
abbrev R01_Rest_st (a0 : Int) (a1 : Int) (r : Int) : Prop := SCon Tryz.prog 22 [.a (.c (.v (.int .i64 a0))), .a (.c (.v (.int .i64 a1)))] [] (.a (.c (.v (.int .i64 r)))) [] []
theorem R01_Rest_con0 {k : Nat}  {a0 : Int} {a1 : Int} {r : Int}  (H0 : R01_Rest.f k a0 a1 = some r) : R01_Rest_st a0 a1 r := by
 rw [R01_Rest.f] at H0
 refine spec_of [(0, _), (1, _)] [] 12 Tryz.func22 rfl Tryz.ntmps22 rfl rfl rfl rfl (fun β W F => ?_)
 refine G.seq <| G.rg <| K.as rfl rfl <| K.nil <| At.ns ?_
 obtain ⟨h1, H0⟩ := grd H0
 obtain ⟨h2, H0⟩ := grd H0
 exact G.rg <| K.mv rfl rfl <| K.mv rfl rfl <| K.bin (V := .int .i64 (a0.tmod a1)) g0 rfl rfl (rem_run h1) rfl <| K.mv rfl rfl <| K.bin (V := .int .i64 (w64 ((a0.tmod a1) + a1))) g0 rfl rfl (fun _ => rfl) rfl <| K.mv rfl rfl <| K.bin (V := .int .i64 ((w64 ((a0.tmod a1) + a1)).tmod a1)) g0 rfl rfl (rem_run h2) rfl <| K.as rfl rfl <| K.nil <| At.next <| G.ret <| At.dr Y [4] rfl rfl (by cases H0; rfl) (by cases H0; rfl) rfl rfl rfl
theorem R01_Rest_con {k : Nat}  {a0 : Int} {a1 : Int} {r : Int}  (H0 : R01_Rest.f k a0 a1 = some r) : R01_Rest_st a0 a1 r :=
 SCon.ren (rn []) (R01_Rest_con0 (k := k)   H0) trivial trivial (by simp) (by simp)
abbrev Lw12_Act_time_st (S : Foot) (W0 : World) (s1 : Value) (a0 : TL12Act) (r : Int) : Prop := SCon Tryz.prog 21 [.a (.agg ((eTL12Act a0).map .v)), SV.raw s1] [(0, rd S W0)] (.a (.c (.v (.int .i64 r)))) [(0, rd S W0)] []
theorem Lw12_Act_time_con0 {k : Nat}  {S : Foot} {W0 : World} {s1 : Value} {a0 : TL12Act} {l1 : List TOp} {r : Int} (hL1 : LArg S W0 s1 eTOp 4 l1) (H0 : Lw12_Act_time.f k a0 l1 = some r) : Lw12_Act_time_st S W0 s1 a0 r := by
 rw [Lw12_Act_time.f] at H0
 obtain ⟨b1, o1, hI1⟩ := hL1
 refine spec_of [(0, _), (1, _)] [(0, _)] 24 Tryz.func21 rfl Tryz.ntmps21 rfl rfl rfl rfl (fun β W F => ?_)
 refine G.seq <| G.rg <| K.box Y 100 _ g0 rfl rfl rfl rfl rfl rfl <| K.as rfl rfl <| K.nil <| At.ns <| G.seq ?_
 rcases Bool.eq_false_or_eq_true (!a0.told) with h1 | h1
 ·
  replace H0 := bif_t H0 h1
  refine G.rg <| K.fieldAddr Y g0 rfl t32 rfl rfl <| K.load1 Y g0 rfl rfl t4 rfl rfl <| K.un (V := .bool (!a0.told)) g0 rfl (fun _ => rfl) rfl <| K.mv rfl rfl <| K.sk rfl rfl h1 rfl <| K.sk rfl rfl h1 rfl <| K.sk rfl rfl h1 rfl <| K.pickT g0 rfl (h1) rfl rfl <| K.nil <| At.next <| G.cond rfl (fun h2 => ?_) (fun h2 => ?_)
  ·
   exact G.seq <| G.rg <| K.fieldAddr Y g0 rfl t32 rfl rfl <| K.load1 Y g0 rfl rfl t3 rfl rfl <| K.as rfl rfl <| K.nil <| At.next <| G.ret <| At.over_ret <| At.dr Y [4] rfl rfl (by cases H0; rfl) (by cases H0; rfl) rfl rfl rfl
  · cases h2
 ·
  replace H0 := bif_f H0 h1
  refine G.rg <| K.fieldAddr Y g0 rfl t32 rfl rfl <| K.load1 Y g0 rfl rfl t4 rfl rfl <| K.un (V := .bool (!a0.told)) g0 rfl (fun _ => rfl) rfl <| K.mv rfl rfl <| K.move (.inl rfl) (g1 rfl rfl h1) rfl rfl <| K.lenL (rV 0 S W0 s1 b1 o1 eTOp 4 l1) (hI1.is 0) (g1 rfl rfl h1) rfl rfl Tryz.underlying26 rfl <| K.bin (V := .bool ((l1.length : Int) == 0)) (g1 rfl rfl h1) rfl rfl (fun _ => rfl) rfl <| K.pickF g0 rfl (h1) rfl rfl <| K.nil <| At.next <| G.cond rfl (fun h3 => ?_) (fun h3 => ?_)
  ·
   replace H0 := bif_t H0 h3
   exact G.seq <| G.rg <| K.fieldAddr Y g0 rfl t32 rfl rfl <| K.load1 Y g0 rfl rfl t3 rfl rfl <| K.as rfl rfl <| K.nil <| At.next <| G.ret <| At.over_ret <| At.dr Y [4] rfl rfl (by cases H0; rfl) (by cases H0; rfl) rfl rfl rfl
  ·
   replace H0 := bif_f H0 h3
   refine G.skip <| At.ns ?_
   obtain ⟨x1, hx1, H0⟩ := bnd H0
   obtain ⟨x2, hx2, H0⟩ := bnd H0
   exact G.rg <| K.mv rfl rfl <| K.fieldAddr Y g0 rfl t32 rfl rfl <| K.load1 Y g0 rfl rfl t3 rfl rfl <| K.mv rfl rfl <| K.lenL (rV 0 S W0 s1 b1 o1 eTOp 4 l1) (hI1.is 0) g0 rfl rfl Tryz.underlying26 rfl <| K.cR (cf 22 rfl) (R01_Rest_con hx1) g0 rfl rfl rfl rfl <| K.idxL (rV 0 S W0 s1 b1 o1 eTOp 4 l1) ((x1).toNat) (hI1.is 0) (atL_get hx2) (atL_nn hx2) g0 rfl rfl rfl Tryz.underlying26 el26.size_run rfl <| K.fieldL Y (rV 0 S W0 s1 b1 o1 eTOp 4 l1) ((x1).toNat) 0 0 (hI1.is 0) (atL_get hx2) g0 rfl rfl t42 rfl rfl rfl rfl <| K.load1L Y (rV 0 S W0 s1 b1 o1 eTOp 4 l1) ((x1).toNat) 0 (hI1.is 0) (atL_get hx2) g0 rfl rfl t3 rfl rfl <| K.as rfl rfl <| K.nil <| At.next <| G.ret <| At.dr Y [4] rfl rfl (by cases H0; rfl) (by cases H0; rfl) rfl rfl rfl
theorem Lw12_Act_time_con {k : Nat}  {S : Foot} {W0 : World} {s1 : Value} {a0 : TL12Act} {l1 : List TOp} {r : Int} (hL1 : LArg S W0 s1 eTOp 4 l1) (H0 : Lw12_Act_time.f k a0 l1 = some r) : Lw12_Act_time_st S W0 s1 a0 r :=
 SCon.ren (rn []) (Lw12_Act_time_con0 (k := k)  hL1 H0) ⟨(fun _ => rfl), trivial⟩ ⟨(fun _ => rfl), trivial⟩ (by simp) (by simp)
abbrev partial_Queue_Len_st (q0 : TQueue) (r : Int) (m0 : Nat) (m1 : Nat) (m2 : Nat) (m3 : Nat) (m4 : Nat) (m5 : Nat) (m6 : Nat) (m7 : Nat) (m8 : Nat) : Prop := SCon Tryz.prog 28 [SV.p m0 0] (tkQueue m0 m1 m2 m3 m4 m5 m6 m7 m8 q0 []) (.a (.c (.v (.int .i64 r)))) (tkQueue m0 m1 m2 m3 m4 m5 m6 m7 m8 q0 []) []
theorem partial_Queue_Len_con0 {k : Nat}  {q0 : TQueue} {r : Int}  (H0 : partial_Queue_Len.f k q0 = some r) : partial_Queue_Len_st q0 r 0 1 2 3 4 5 6 7 8 := by
 rw [partial_Queue_Len.f] at H0
 refine spec_of [(0, _)] [(0, _), (1, _), (2, _), (3, _), (4, _), (5, _), (6, _), (7, _), (8, _)] 8 Tryz.func28 rfl Tryz.ntmps28 rfl rfl rfl rfl (fun β W F => ?_)
 refine G.seq <| G.rg <| K.as rfl rfl <| K.nil <| At.ns ?_
 obtain ⟨x1, hx1, H0⟩ := bnd H0
 exact G.rg <| K.mv rfl rfl <| K.nilCheck g0 rfl rfl <| K.fieldAddr Y g0 rfl t98 rfl rfl <| K.load1 Y g0 rfl rfl t38 rfl rfl <| K.cR (cf 34 rfl) (Tree_LenM_con hx1 1 2) g0 rfl rfl rfl rfl <| K.as rfl rfl <| K.nil <| At.next <| G.ret <| At.dr Y [2] rfl rfl (by cases H0; rfl) (by cases H0; rfl) rfl rfl rfl
theorem partial_Queue_Len_con {k : Nat}  {q0 : TQueue} {r : Int}  (H0 : partial_Queue_Len.f k q0 = some r) (m0 m1 m2 m3 m4 m5 m6 m7 m8 : Nat) : partial_Queue_Len_st q0 r m0 m1 m2 m3 m4 m5 m6 m7 m8 :=
 SCon.ren (rn [(0, m0), (1, m1), (2, m2), (3, m3), (4, m4), (5, m5), (6, m6), (7, m7), (8, m8)]) (partial_Queue_Len_con0 (k := k)   H0) ⟨(blk_ren rfl rfl), (blk_ren rfl rfl), (pl_ren rfl), (blk_ren rfl rfl), (pl_ren rfl), (blk_ren rfl rfl), (pl_ren rfl), (blk_ren rfl rfl), (pl_ren rfl), trivial⟩ ⟨(blk_ren rfl rfl), (blk_ren rfl rfl), (pl_ren rfl), (blk_ren rfl rfl), (pl_ren rfl), (blk_ren rfl rfl), (pl_ren rfl), (blk_ren rfl rfl), (pl_ren rfl), trivial⟩ (by simp) (by simp)
abbrev partial_Queue_all_st (q0 : TQueue) (r : TSwell) (m0 : Nat) (m1 : Nat) (m2 : Nat) (m3 : Nat) (m4 : Nat) (m5 : Nat) (m6 : Nat) (m7 : Nat) (m8 : Nat) : Prop := SCon Tryz.prog 78 [SV.p m0 0] (tkQueue m0 m1 m2 m3 m4 m5 m6 m7 m8 q0 []) (.a (.agg ((eTSwell r).map .v))) (tkQueue m0 m1 m2 m3 m4 m5 m6 m7 m8 q0 []) []
theorem partial_Queue_all_con0 {k : Nat}  {q0 : TQueue} {r : TSwell}  (H0 : partial_Queue_all.f k q0 = some r) : partial_Queue_all_st q0 r 0 1 2 3 4 5 6 7 8 := by
 rw [partial_Queue_all.f] at H0
 refine spec_of [(0, _)] [(0, _), (1, _), (2, _), (3, _), (4, _), (5, _), (6, _), (7, _), (8, _)] 13 Tryz.func78 rfl Tryz.ntmps78 rfl rfl rfl rfl (fun β W F => ?_)
 refine G.seq <| G.rg <| K.alloc Y 100 _ g0 t50 rfl rfl rfl rfl rfl <| K.nil <| At.ns ?_
 obtain ⟨x1, hx1, H0⟩ := bnd H0
 obtain ⟨x2, hx2, H0⟩ := bnd H0
 refine G.rd mixed <| K.mv rfl rfl <| K.nilCheck g0 rfl rfl <| K.fieldAddr Y g0 rfl t98 rfl rfl <| K.load1 Y g0 rfl rfl t38 rfl rfl <| K.mv rfl rfl <| K.nilCheck g0 rfl rfl <| K.fieldAddr Y g0 rfl t98 rfl rfl <| K.load1 Y g0 rfl rfl t38 rfl rfl <| K.cR (cf 34 rfl) (Tree_LenM_con hx1 1 2) g0 rfl rfl rfl rfl <| K.cR (cf 102 rfl) (Tree_BetweenM_con hx2 1 2) g0 rfl rfl rfl rfl <| K.store Y _ g0 rfl rfl rfl t50 rfl rfl rfl rfl rfl <| K.nil <| And.intro (by kernel_rfl) <| At.next <| G.ret <| At.done Y [(.cell 2 50, .agg [_, _, _, _, _, _, _, _, _, _, _, _, _, _, _, _])] rfl ⟨.st rfl rfl t50 rfl rfl, trivial⟩ (to' := [(0, _), (1, _), (2, _), (3, _), (4, _), (5, _), (6, _), (7, _), (8, _)]) ⟨rfl, rfl, rfl, rfl, rfl, rfl, rfl, rfl, rfl, trivial⟩ ?_ ?_ rfl rfl rfl (.inl rfl)
 · cases H0; rfl
 · cases H0; rfl
theorem partial_Queue_all_con {k : Nat}  {q0 : TQueue} {r : TSwell}  (H0 : partial_Queue_all.f k q0 = some r) (m0 m1 m2 m3 m4 m5 m6 m7 m8 : Nat) : partial_Queue_all_st q0 r m0 m1 m2 m3 m4 m5 m6 m7 m8 :=
 SCon.ren (rn [(0, m0), (1, m1), (2, m2), (3, m3), (4, m4), (5, m5), (6, m6), (7, m7), (8, m8)]) (partial_Queue_all_con0 (k := k)   H0) ⟨(blk_ren rfl rfl), (blk_ren rfl rfl), (pl_ren rfl), (blk_ren rfl rfl), (pl_ren rfl), (blk_ren rfl rfl), (pl_ren rfl), (blk_ren rfl rfl), (pl_ren rfl), trivial⟩ ⟨(blk_ren rfl rfl), (blk_ren rfl rfl), (pl_ren rfl), (blk_ren rfl rfl), (pl_ren rfl), (blk_ren rfl rfl), (pl_ren rfl), (blk_ren rfl rfl), (pl_ren rfl), trivial⟩ (by simp) (by simp)
abbrev partial_Queue_Deletes_st (q0 : TQueue) (r : Int) (m0 : Nat) (m1 : Nat) (m2 : Nat) (m3 : Nat) (m4 : Nat) (m5 : Nat) (m6 : Nat) (m7 : Nat) (m8 : Nat) : Prop := SCon Tryz.prog 29 [SV.p m0 0] (tkQueue m0 m1 m2 m3 m4 m5 m6 m7 m8 q0 []) (.a (.c (.v (.int .i64 r)))) (tkQueue m0 m1 m2 m3 m4 m5 m6 m7 m8 q0 []) []
theorem partial_Queue_Deletes_con0 {k : Nat}  {q0 : TQueue} {r : Int}  (H0 : partial_Queue_Deletes.f k q0 = some r) : partial_Queue_Deletes_st q0 r 0 1 2 3 4 5 6 7 8 := by
 rw [partial_Queue_Deletes.f] at H0
 refine spec_of [(0, _)] [(0, _), (1, _), (2, _), (3, _), (4, _), (5, _), (6, _), (7, _), (8, _)] 6 Tryz.func29 rfl Tryz.ntmps29 rfl rfl rfl rfl (fun β W F => ?_)
 refine G.seq <| G.rg <| K.as rfl rfl <| K.nil <| At.ns ?_
 obtain ⟨x1, hx1, H0⟩ := bnd H0
 exact G.rg <| K.mv rfl rfl <| K.cR (cf 78 rfl) (partial_Queue_all_con hx1 0 1 2 3 4 5 6 7 8) g0 rfl rfl rfl rfl <| K.field1 Y g0 rfl t50 rfl t3 rfl rfl <| K.as rfl rfl <| K.nil <| At.next <| G.ret <| At.dr Y [2] rfl rfl (by cases H0; rfl) (by cases H0; rfl) rfl rfl rfl
theorem partial_Queue_Deletes_con {k : Nat}  {q0 : TQueue} {r : Int}  (H0 : partial_Queue_Deletes.f k q0 = some r) (m0 m1 m2 m3 m4 m5 m6 m7 m8 : Nat) : partial_Queue_Deletes_st q0 r m0 m1 m2 m3 m4 m5 m6 m7 m8 :=
 SCon.ren (rn [(0, m0), (1, m1), (2, m2), (3, m3), (4, m4), (5, m5), (6, m6), (7, m7), (8, m8)]) (partial_Queue_Deletes_con0 (k := k)   H0) ⟨(blk_ren rfl rfl), (blk_ren rfl rfl), (pl_ren rfl), (blk_ren rfl rfl), (pl_ren rfl), (blk_ren rfl rfl), (pl_ren rfl), (blk_ren rfl rfl), (pl_ren rfl), trivial⟩ ⟨(blk_ren rfl rfl), (blk_ren rfl rfl), (pl_ren rfl), (blk_ren rfl rfl), (pl_ren rfl), (blk_ren rfl rfl), (pl_ren rfl), (blk_ren rfl rfl), (pl_ren rfl), trivial⟩ (by simp) (by simp)
abbrev partial_Queue_Ops_st (q0 : TQueue) (r : List TOp) (m0 : Nat) (m1 : Nat) (m2 : Nat) (m3 : Nat) (m4 : Nat) (m5 : Nat) (m6 : Nat) (m7 : Nat) (m8 : Nat) (m30 : Nat) : Prop := SCon Tryz.prog 27 [SV.p m0 0] (tkQueue m0 m1 m2 m3 m4 m5 m6 m7 m8 q0 []) (.a (.c (.nv m30))) (tkQueue m0 m1 m2 m3 m4 m5 m6 m7 m8 q0 [(m30, lrow m30 42 eTOp 4 r)]) [m30]
theorem partial_Queue_Ops_con0 {k : Nat}  {q0 : TQueue} {r : List TOp}  (H0 : partial_Queue_Ops.f k q0 = some r) : partial_Queue_Ops_st q0 r 0 1 2 3 4 5 6 7 8 30 := by
 rw [partial_Queue_Ops.f] at H0
 refine spec_of [(0, _)] [(0, _), (1, _), (2, _), (3, _), (4, _), (5, _), (6, _), (7, _), (8, _)] 23 Tryz.func27 rfl Tryz.ntmps27 rfl rfl rfl rfl (fun β W F => ?_)
 refine G.seq <| G.rg <| K.nilRow 100 42 eTOp 4 (.inl rfl) g0 rfl rfl rfl <| K.nil <| At.nr <| K.nilRow 101 42 eTOp 4 (.inl rfl) g0 rfl rfl rfl <| K.nil <| At.next ?_
 obtain ⟨x1, H1, H0⟩ := bnd H0
 refine G.sJ (σ := { v : List TOp // x1 = v }) (fun q => [(3, .a (.c (.nv 102)))]) (fun q => ((102, lrow 102 42 eTOp 4 q.1) :: (tkQueue 0 1 2 3 4 5 6 7 8 q0 []))) ?_ ?_
 ·
  refine G.seq ?_
  obtain ⟨x2, hx2, H1⟩ := bnd H1
  refine G.rg <| K.mv rfl rfl <| K.nilCheck g0 rfl rfl <| K.fieldAddr Y g0 rfl t98 rfl rfl <| K.load1 Y g0 rfl rfl t38 rfl rfl <| K.c0 (cf 19 rfl) (Tree_AllM_con hx2 1 2 103 rfl) g0 rfl rfl rfl rfl <| K.lenL (lrowV 103 46 eTMark 8 x2) (lrowV_is eTMark_len (by decide)) g0 rfl rfl Tryz.underlying37 rfl <| K.mv rfl rfl <| K.nil <| At.next <| G.block <| G.lp (σ := { q : Nat × (List TOp × Int) // partial_Queue_Ops.l0 k x2 q.1 q.2 = some x1 }) (fun q => [(3, .a (.c (.nv 108))), (10, .a (.c (.nv 109))), (11, .a (.c (.v (.int .i64 (x2.length : Int))))), (12, .a (.c (.v (.int .i64 q.1.2.2))))]) (fun q => ((108, lrow 108 42 eTOp 4 q.1.2.1) :: ((109, lrow 109 46 eTMark 8 x2) :: (tkQueue 0 1 2 3 4 5 6 7 8 q0 [])))) (fun q => q.1.1) ⟨(k, (([] : List TOp), 0)), H1⟩ ?_ ?_
  · exact At.into [(108, 101), (109, 103)] [_, _, _, _, _, _, _, _, _, _, _] rfl ⟨rfl, rfl, rfl, rfl, trivial⟩ ⟨rfl, (lrow_ren rfl), rfl, (lrow_ren rfl), rfl, (blk_ren rfl rfl), rfl, (blk_ren rfl rfl), rfl, (pl_ren rfl), rfl, (blk_ren rfl rfl), rfl, (pl_ren rfl), rfl, (blk_ren rfl rfl), rfl, (pl_ren rfl), rfl, (blk_ren rfl rfl), rfl, (pl_ren rfl), trivial⟩ rfl
  ·
   rintro ⟨⟨n0, v1, v2⟩, H1⟩
   show G _ _ [(3, .a (.c (.nv 108))), (10, .a (.c (.nv 109))), (11, .a (.c (.v (.int .i64 (x2.length : Int))))), (12, .a (.c (.v (.int .i64 v2))))] (sm ((108, lrow 108 42 eTOp 4 v1) :: ((109, lrow 109 46 eTMark 8 x2) :: (tkQueue 0 1 2 3 4 5 6 7 8 q0 [])))) _ _
   cases n0 with
   | zero => exact absurd H1 (by simp [partial_Queue_Ops.l0])
   | succ n0 =>
    have HL0 := H1
    rw [partial_Queue_Ops.l0] at H1
    refine G.seq <| G.rg <| K.bin (V := .bool (decide (v2 < (x2.length : Int)))) g0 rfl rfl (fun _ => rfl) rfl <| K.nil <| At.ns <| G.cond rfl (fun h1 => ?_) (fun h1 => ?_)
    ·
     replace H1 := bif_t H1 h1
     refine G.skip <| At.ns <| G.block <| G.seq ?_
     obtain ⟨x3, hx3, H1⟩ := bnd H1
     refine G.rg <| K.idxL (lrowV 109 46 eTMark 8 x2) ((v2).toNat) (lrowV_is eTMark_len (by decide)) (atL_get hx3) (atL_nn hx3) g0 rfl rfl rfl Tryz.underlying37 el37.size_run rfl <| K.loadSL Y (lrowV 109 46 eTMark 8 x2) ((v2).toNat) 0 [_, _, _, _, _, _, _, _] [_, _, _, _, _, _, _, _] (lrowV_is eTMark_len (by decide)) (atL_get hx3) g0 rfl rfl t46 rfl rfl rfl rfl rfl <| K.alloc Y 110 _ g0 t46 rfl rfl rfl rfl rfl <| K.store Y _ g0 rfl rfl rfl t46 rfl rfl rfl rfl rfl <| K.nil <| At.next ?_
     obtain ⟨h2, H1⟩ := grd H1
     exact G.rg <| K.mv rfl rfl <| K.fieldAddr Y g0 rfl t46 rfl rfl <| K.loadS Y _ g0 rfl rfl t42 rfl rfl rfl <| K.buildL Y 111 ([x3.op] : List TOp) [(0, _)] [((.tmp 18), _)] eTOp_len g0 (AllE.spec ⟨rfl, trivial⟩) rfl rfl Tryz.underlying26 t42 rfl rfl rfl rfl rfl rfl rfl rfl <| K.appendL 112 (lrowV 111 42 eTOp 4 ([x3.op] : List TOp)) _ el26 (lrowV_is eTOp_len (by decide)) eTOp_one g0 rfl rfl rfl rfl rfl (ap_m h2) (ap_b h2 (by decide)) rfl rfl rfl rfl rfl rfl <| K.as rfl rfl <| K.nil <| At.block_normal <| At.next <| G.rg <| K.bin (V := .int .i64 (w64 (v2 + 1))) g0 rfl rfl (fun _ => rfl) rfl <| K.mv rfl rfl <| K.nil <| At.ag ⟨(n0, ((v1 ++ ([x3.op] : List TOp)), (w64 (v2 + 1)))), H1⟩ [(108, 112)] [_, _, _, _, _, _, _, _, _, _, _] (Nat.lt_succ_self _) rfl ⟨rfl, rfl, rfl, rfl, trivial⟩ ⟨rfl, (lrow_ren rfl), rfl, (lrow_ren rfl), rfl, (blk_ren rfl rfl), rfl, (blk_ren rfl rfl), rfl, (pl_ren rfl), rfl, (blk_ren rfl rfl), rfl, (pl_ren rfl), rfl, (blk_ren rfl rfl), rfl, (pl_ren rfl), rfl, (blk_ren rfl rfl), rfl, (pl_ren rfl), trivial⟩ rfl
    ·
     replace H1 := bif_f H1 h1
     exact G.exit <| At.over_exit <| At.over_exit <| At.block_hit <| At.jd ⟨v1, oi H1⟩ [(102, 108)] [_, _, _, _, _, _, _, _, _, _] rfl ⟨rfl, trivial⟩ ⟨rfl, (lrow_ren rfl), rfl, (blk_ren rfl rfl), rfl, (blk_ren rfl rfl), rfl, (pl_ren rfl), rfl, (blk_ren rfl rfl), rfl, (pl_ren rfl), rfl, (blk_ren rfl rfl), rfl, (pl_ren rfl), rfl, (blk_ren rfl rfl), rfl, (pl_ren rfl), trivial⟩ rfl
 ·
  rintro ⟨_, rfl⟩
  show G _ _ [(3, .a (.c (.nv 102)))] (sm ((102, lrow 102 42 eTOp 4 x1) :: (tkQueue 0 1 2 3 4 5 6 7 8 q0 []))) _ _
  exact G.seq <| G.rg <| K.mv rfl rfl <| K.as rfl rfl <| K.nil <| At.next <| G.ret <| At.ren (fs' := [(2, .a (.c (.nv 30)))]) (tl := (tkQueue 0 1 2 3 4 5 6 7 8 q0 [(30, lrow 30 42 eTOp 4 x1)])) [(30, 102)] [_, _, _, _, _, _, _, _, _, _] rfl ⟨rfl, trivial⟩ ⟨rfl, (blk_ren rfl rfl), rfl, (blk_ren rfl rfl), rfl, (pl_ren rfl), rfl, (blk_ren rfl rfl), rfl, (pl_ren rfl), rfl, (blk_ren rfl rfl), rfl, (pl_ren rfl), rfl, (blk_ren rfl rfl), rfl, (pl_ren rfl), rfl, (lrow_ren rfl), trivial⟩ rfl <| At.dr Y [2] rfl rfl (by cases H0; rfl) (by cases H0; rfl) rfl rfl rfl
theorem partial_Queue_Ops_con {k : Nat}  {q0 : TQueue} {r : List TOp}  (H0 : partial_Queue_Ops.f k q0 = some r) (m0 m1 m2 m3 m4 m5 m6 m7 m8 m30 : Nat) (hd : ndB [m0, m1, m2, m3, m4, m5, m6, m7, m8, m30] = true) : partial_Queue_Ops_st q0 r m0 m1 m2 m3 m4 m5 m6 m7 m8 m30 :=
 SCon.ren (rn [(0, m0), (1, m1), (2, m2), (3, m3), (4, m4), (5, m5), (6, m6), (7, m7), (8, m8), (30, m30)]) (partial_Queue_Ops_con0 (k := k)   H0) ⟨(blk_ren rfl rfl), (blk_ren rfl rfl), (pl_ren rfl), (blk_ren rfl rfl), (pl_ren rfl), (blk_ren rfl rfl), (pl_ren rfl), (blk_ren rfl rfl), (pl_ren rfl), trivial⟩ ⟨(blk_ren rfl rfl), (blk_ren rfl rfl), (pl_ren rfl), (blk_ren rfl rfl), (pl_ren rfl), (blk_ren rfl rfl), (pl_ren rfl), (blk_ren rfl rfl), (pl_ren rfl), (lrow_ren rfl), trivial⟩ (rn_nd hd rfl rfl) (rn_ks hd rfl rfl rfl)
abbrev partial_Queue_Present_st (q0 : TQueue) (m0 : Nat) (m1 : Nat) (m2 : Nat) (m3 : Nat) (m4 : Nat) (m5 : Nat) (m6 : Nat) (m7 : Nat) (m8 : Nat) : Prop := SCon Tryz.prog 33 [SV.p m0 0] (tkQueue m0 m1 m2 m3 m4 m5 m6 m7 m8 q0 []) (.a (.c (.p m3 0))) (tkQueue m0 m1 m2 m3 m4 m5 m6 m7 m8 q0 []) []
theorem partial_Queue_Present_con0 {k : Nat}  {q0 : TQueue} {r : Unit}  (H0 : partial_Queue_Present.f k q0 = some r) : partial_Queue_Present_st q0 0 1 2 3 4 5 6 7 8 := by
 rw [partial_Queue_Present.f] at H0
 refine spec_of [(0, _)] [(0, _), (1, _), (2, _), (3, _), (4, _), (5, _), (6, _), (7, _), (8, _)] 7 Tryz.func33 rfl Tryz.ntmps33 rfl rfl rfl rfl (fun β W F => ?_)
 exact G.seq <| G.rg <| K.as rfl rfl <| K.nil <| At.nr <| K.mv rfl rfl <| K.nilCheck g0 rfl rfl <| K.fieldAddr Y g0 rfl t98 rfl rfl <| K.load1 Y g0 rfl rfl t63 rfl rfl <| K.as rfl rfl <| K.nil <| At.next <| G.ret <| At.dr Y [2] rfl rfl (by cases H0; rfl) (by cases H0; rfl) rfl rfl rfl
theorem partial_Queue_Present_con {k : Nat}  {q0 : TQueue} {r : Unit}  (H0 : partial_Queue_Present.f k q0 = some r) (m0 m1 m2 m3 m4 m5 m6 m7 m8 : Nat) : partial_Queue_Present_st q0 m0 m1 m2 m3 m4 m5 m6 m7 m8 :=
 SCon.ren (rn [(0, m0), (1, m1), (2, m2), (3, m3), (4, m4), (5, m5), (6, m6), (7, m7), (8, m8)]) (partial_Queue_Present_con0 (k := k)   H0) ⟨(blk_ren rfl rfl), (blk_ren rfl rfl), (pl_ren rfl), (blk_ren rfl rfl), (pl_ren rfl), (blk_ren rfl rfl), (pl_ren rfl), (blk_ren rfl rfl), (pl_ren rfl), trivial⟩ ⟨(blk_ren rfl rfl), (blk_ren rfl rfl), (pl_ren rfl), (blk_ren rfl rfl), (pl_ren rfl), (blk_ren rfl rfl), (pl_ren rfl), (blk_ren rfl rfl), (pl_ren rfl), trivial⟩ (by simp) (by simp)
abbrev partial_Queue_Gone_st (q0 : TQueue) (m0 : Nat) (m1 : Nat) (m2 : Nat) (m3 : Nat) (m4 : Nat) (m5 : Nat) (m6 : Nat) (m7 : Nat) (m8 : Nat) : Prop := SCon Tryz.prog 30 [SV.p m0 0] (tkQueue m0 m1 m2 m3 m4 m5 m6 m7 m8 q0 []) (.a (.c (.p m5 0))) (tkQueue m0 m1 m2 m3 m4 m5 m6 m7 m8 q0 []) []
theorem partial_Queue_Gone_con0 {k : Nat}  {q0 : TQueue} {r : Unit}  (H0 : partial_Queue_Gone.f k q0 = some r) : partial_Queue_Gone_st q0 0 1 2 3 4 5 6 7 8 := by
 rw [partial_Queue_Gone.f] at H0
 refine spec_of [(0, _)] [(0, _), (1, _), (2, _), (3, _), (4, _), (5, _), (6, _), (7, _), (8, _)] 7 Tryz.func30 rfl Tryz.ntmps30 rfl rfl rfl rfl (fun β W F => ?_)
 exact G.seq <| G.rg <| K.as rfl rfl <| K.nil <| At.nr <| K.mv rfl rfl <| K.nilCheck g0 rfl rfl <| K.fieldAddr Y g0 rfl t98 rfl rfl <| K.load1 Y g0 rfl rfl t63 rfl rfl <| K.as rfl rfl <| K.nil <| At.next <| G.ret <| At.dr Y [2] rfl rfl (by cases H0; rfl) (by cases H0; rfl) rfl rfl rfl
theorem partial_Queue_Gone_con {k : Nat}  {q0 : TQueue} {r : Unit}  (H0 : partial_Queue_Gone.f k q0 = some r) (m0 m1 m2 m3 m4 m5 m6 m7 m8 : Nat) : partial_Queue_Gone_st q0 m0 m1 m2 m3 m4 m5 m6 m7 m8 :=
 SCon.ren (rn [(0, m0), (1, m1), (2, m2), (3, m3), (4, m4), (5, m5), (6, m6), (7, m7), (8, m8)]) (partial_Queue_Gone_con0 (k := k)   H0) ⟨(blk_ren rfl rfl), (blk_ren rfl rfl), (pl_ren rfl), (blk_ren rfl rfl), (pl_ren rfl), (blk_ren rfl rfl), (pl_ren rfl), (blk_ren rfl rfl), (pl_ren rfl), trivial⟩ ⟨(blk_ren rfl rfl), (blk_ren rfl rfl), (pl_ren rfl), (blk_ren rfl rfl), (pl_ren rfl), (blk_ren rfl rfl), (pl_ren rfl), (blk_ren rfl rfl), (pl_ren rfl), trivial⟩ (by simp) (by simp)
abbrev partial_Queue_Marks_st (q0 : TQueue) (m0 : Nat) (m1 : Nat) (m2 : Nat) (m3 : Nat) (m4 : Nat) (m5 : Nat) (m6 : Nat) (m7 : Nat) (m8 : Nat) : Prop := SCon Tryz.prog 18 [SV.p m0 0] (tkQueue m0 m1 m2 m3 m4 m5 m6 m7 m8 q0 []) (.a (.c (.p m1 0))) (tkQueue m0 m1 m2 m3 m4 m5 m6 m7 m8 q0 []) []
theorem partial_Queue_Marks_con0 {k : Nat}  {q0 : TQueue} {r : Unit}  (H0 : partial_Queue_Marks.f k q0 = some r) : partial_Queue_Marks_st q0 0 1 2 3 4 5 6 7 8 := by
 rw [partial_Queue_Marks.f] at H0
 refine spec_of [(0, _)] [(0, _), (1, _), (2, _), (3, _), (4, _), (5, _), (6, _), (7, _), (8, _)] 7 Tryz.func18 rfl Tryz.ntmps18 rfl rfl rfl rfl (fun β W F => ?_)
 exact G.seq <| G.rg <| K.as rfl rfl <| K.nil <| At.nr <| K.mv rfl rfl <| K.nilCheck g0 rfl rfl <| K.fieldAddr Y g0 rfl t98 rfl rfl <| K.load1 Y g0 rfl rfl t38 rfl rfl <| K.as rfl rfl <| K.nil <| At.next <| G.ret <| At.dr Y [2] rfl rfl (by cases H0; rfl) (by cases H0; rfl) rfl rfl rfl
theorem partial_Queue_Marks_con {k : Nat}  {q0 : TQueue} {r : Unit}  (H0 : partial_Queue_Marks.f k q0 = some r) (m0 m1 m2 m3 m4 m5 m6 m7 m8 : Nat) : partial_Queue_Marks_st q0 m0 m1 m2 m3 m4 m5 m6 m7 m8 :=
 SCon.ren (rn [(0, m0), (1, m1), (2, m2), (3, m3), (4, m4), (5, m5), (6, m6), (7, m7), (8, m8)]) (partial_Queue_Marks_con0 (k := k)   H0) ⟨(blk_ren rfl rfl), (blk_ren rfl rfl), (pl_ren rfl), (blk_ren rfl rfl), (pl_ren rfl), (blk_ren rfl rfl), (pl_ren rfl), (blk_ren rfl rfl), (pl_ren rfl), trivial⟩ ⟨(blk_ren rfl rfl), (blk_ren rfl rfl), (pl_ren rfl), (blk_ren rfl rfl), (pl_ren rfl), (blk_ren rfl rfl), (pl_ren rfl), (blk_ren rfl rfl), (pl_ren rfl), trivial⟩ (by simp) (by simp)
end Go.Proofs.YtpeoalmhccmdiaaGreat
namespace Go.Proofs.YtpeoalmhccmdiaaGreat
open Go Go.Proofs.YtpeoalmhccmdiaaGreat.Sx
abbrev Lw12_PartialCounts_st (S : Foot) (W0 : World) (s0 : Value) (r : Bool) : Prop := SCon Tryz.prog 5 [SV.raw s0] [(0, rd S W0)] (.a (.c (.v (.bool r)))) [(0, rd S W0)] []
set_option maxHeartbeats 4000000 in
theorem Lw12_PartialCounts_con0 {k : Nat}  {S : Foot} {W0 : World} {s0 : Value} {l0 : List TL12Act} {r : Bool} (hL0 : LArg S W0 s0 eTL12Act 5 l0) (H0 : Lw12_PartialCounts.f k l0 = some r) : Lw12_PartialCounts_st S W0 s0 r := by
 rw [Lw12_PartialCounts.f] at H0
 obtain ⟨b0, o0, hI0⟩ := hL0
 refine spec_of [(0, _)] [(0, _)] 93 Tryz.func5 rfl Tryz.ntmps5 rfl rfl rfl rfl (fun β W F => ?_)
 refine G.seq <| G.rg <| K.as rfl rfl <| K.nil <| At.next ?_
 obtain ⟨x1, H1, H0⟩ := bnd H0
 refine G.sJ (σ := { v : Unit // x1 = Sum.inr v }) (fun q => [(0, SV.raw s0)]) (fun q => [(0, rd S W0)]) ?_ ?_
 ·
  refine G.seq ?_
  obtain ⟨x2, hx2, H1⟩ := bnd H1
  rcases Bool.eq_false_or_eq_true (!x2) with h1 | h1
  ·
   replace H1 := bif_t H1 h1
   refine G.rg <| K.cR (cf 14 rfl) (Lw12_awake_con hx2) g0 rfl rfl rfl rfl <| K.un (V := .bool (!x2)) g0 rfl (fun _ => rfl) rfl <| K.mv rfl rfl <| K.sk rfl rfl h1 rfl <| K.sk rfl rfl h1 rfl <| K.sk rfl rfl h1 rfl <| K.pickT g0 rfl (h1) rfl rfl <| K.nil <| At.next <| G.cond rfl (fun h2 => ?_) (fun h2 => ?_)
   ·
    refine G.seq ?_
    obtain ⟨x3, hx3, H1⟩ := bnd H1
    refine G.rg <| K.cR (cf 14 rfl) (Lw12_awake_con hx3) g0 rfl rfl rfl rfl <| K.as rfl rfl <| K.nil <| At.next <| G.ret <| At.over_ret ?_
    cases H1
    replace H0 := sum_l H0
    exact At.dr Y [2] rfl rfl (by cases H0; rfl) (by cases H0; rfl) rfl rfl rfl
   · cases h2
  ·
   replace H1 := bif_f H1 h1
   refine G.rg <| K.cR (cf 14 rfl) (Lw12_awake_con hx2) g0 rfl rfl rfl rfl <| K.un (V := .bool (!x2)) g0 rfl (fun _ => rfl) rfl <| K.mv rfl rfl <| K.move (.inl rfl) (g1 rfl rfl h1) rfl rfl <| K.lenL (rV 0 S W0 s0 b0 o0 eTL12Act 5 l0) (hI0.is 0) (g1 rfl rfl h1) rfl rfl Tryz.underlying22 rfl <| K.bin (V := .bool (decide ((l0.length : Int) > 60))) (g1 rfl rfl h1) rfl rfl (fun _ => rfl) rfl <| K.pickF g0 rfl (h1) rfl rfl <| K.nil <| At.next <| G.cond rfl (fun h3 => ?_) (fun h3 => ?_)
   ·
    replace H1 := bif_t H1 h3
    refine G.seq ?_
    obtain ⟨x4, hx4, H1⟩ := bnd H1
    refine G.rg <| K.cR (cf 14 rfl) (Lw12_awake_con hx4) g0 rfl rfl rfl rfl <| K.as rfl rfl <| K.nil <| At.next <| G.ret <| At.over_ret ?_
    cases H1
    replace H0 := sum_l H0
    exact At.dr Y [2] rfl rfl (by cases H0; rfl) (by cases H0; rfl) rfl rfl rfl
   ·
    replace H1 := bif_f H1 h3
    exact G.skip <| At.jd ⟨(), oi H1⟩ [] [_] rfl ⟨rfl, trivial⟩ ⟨rfl, (fun _ => rfl), trivial⟩ rfl
 ·
  rintro ⟨v1, rfl⟩
  replace H0 := sum_r H0
  show G _ _ [(0, SV.raw s0)] [(0, some (rd S W0))] _ _
  refine G.seq ?_
  obtain ⟨x5, hx5, H0⟩ := bnd H0
  refine G.rg <| K.c0 (cf 15 rfl) (partial_New_con hx5 100 101 102 103 104 105 106 107 108 rfl) g0 rfl rfl rfl rfl <| K.as rfl rfl <| K.nil <| At.next ?_
  obtain ⟨x6, H1, H0⟩ := bnd H0
  refine G.sJ (σ := { v : Unit // x6 = Sum.inr v }) (fun q => []) (fun q => [(0, rd S W0)]) ?_ ?_
  ·
   refine G.seq <| G.rg <| K.as rfl rfl <| K.nil <| At.next <| G.block <| G.lp (σ := { q : Nat × (TQueue × Int) // Lw12_PartialCounts.l0 k l0 q.1 q.2 = some x6 }) (fun q => [(0, SV.raw s0), (3, .a (.c (.p 127 0))), (4, .a (.c (.v (.int .i64 q.1.2.2))))]) (fun q => ((0, rd S W0) :: (tkQueue 127 128 129 130 131 132 133 134 135 q.1.2.1 []))) (fun q => q.1.1) ⟨(k, (x5, 0)), H1⟩ ?_ ?_
   · exact At.into [(127, 100), (128, 101), (129, 102), (130, 103), (131, 104), (132, 105), (133, 106), (134, 107), (135, 108)] [_, _, _, _, _, _, _, _, _, _] rfl ⟨rfl, rfl, rfl, trivial⟩ ⟨rfl, (fun _ => rfl), rfl, (blk_ren rfl rfl), rfl, (blk_ren rfl rfl), rfl, (pl_ren rfl), rfl, (blk_ren rfl rfl), rfl, (pl_ren rfl), rfl, (blk_ren rfl rfl), rfl, (pl_ren rfl), rfl, (blk_ren rfl rfl), rfl, (pl_ren rfl), trivial⟩ rfl
   ·
    rintro ⟨⟨n0, v1, v2⟩, H1⟩
    show G _ _ [(0, SV.raw s0), (3, .a (.c (.p 127 0))), (4, .a (.c (.v (.int .i64 v2))))] (sm ((0, rd S W0) :: (tkQueue 127 128 129 130 131 132 133 134 135 v1 []))) _ _
    cases n0 with
    | zero => exact absurd H1 (by simp [Lw12_PartialCounts.l0])
    | succ n0 =>
     have HL0 := H1
     rw [Lw12_PartialCounts.l0] at H1
     refine G.seq <| G.seq <| G.rg <| K.mv rfl rfl <| K.mv rfl rfl <| K.lenL (rV 0 S W0 s0 b0 o0 eTL12Act 5 l0) (hI0.is 0) g0 rfl rfl Tryz.underlying22 rfl <| K.bin (V := .bool (decide (v2 < (l0.length : Int)))) g0 rfl rfl (fun _ => rfl) rfl <| K.nil <| At.next <| G.cond rfl (fun h4 => ?_) (fun h4 => ?_)
     ·
      replace H1 := bif_t H1 h4
      refine G.skip <| At.ns <| G.block <| G.seq ?_
      obtain ⟨x7, hx7, H1⟩ := bnd H1
      obtain ⟨x8, hx8, H1⟩ := bnd H1
      obtain ⟨x9, hx9, H1⟩ := bnd H1
      refine G.rd mixed <| K.mv rfl rfl <| K.mv rfl rfl <| K.idxL (rV 0 S W0 s0 b0 o0 eTL12Act 5 l0) ((v2).toNat) (hI0.is 0) (atL_get hx7) (atL_nn hx7) g0 rfl rfl rfl Tryz.underlying22 el22.size_run rfl <| K.loadSL Y (rV 0 S W0 s0 b0 o0 eTL12Act 5 l0) ((v2).toNat) 0 [_, _, _, _, _] [_, _, _, _, _] (hI0.is 0) (atL_get hx7) g0 rfl rfl t32 rfl rfl rfl rfl rfl <| K.mv rfl rfl <| K.c0 (cf 27 rfl) (partial_Queue_Ops_con hx8 127 128 129 130 131 132 133 134 135 136 rfl) g0 rfl rfl rfl rfl <| K.cV (cf 21 rfl) [136] (fun β w S2 h => Lw12_Act_time_con (la 0 rfl eTOp_len rfl h) hx9) g0 (fun _ => rfl) rfl rfl rfl <| K.as rfl rfl <| K.nil <| And.intro (by kernel_rfl) <| At.next ?_
      obtain ⟨x10, H2, H1⟩ := bnd H1
      refine G.sJ (σ := { v : TQueue // x10 = v }) (fun q => [(0, SV.raw s0), (3, .a (.c (.p 137 0))), (4, .a (.c (.v (.int .i64 v2))))]) (fun q => ((0, rd S W0) :: (tkQueue 137 138 139 140 141 142 143 144 145 q.1 []))) ?_ ?_
      ·
       refine G.seq ?_
       obtain ⟨x11, hx11, H2⟩ := bnd H2
       refine G.rg <| K.mv rfl rfl <| K.mv rfl rfl <| K.idxL (rV 0 S W0 s0 b0 o0 eTL12Act 5 l0) ((v2).toNat) (hI0.is 0) (atL_get hx7) (atL_nn hx7) g0 rfl rfl rfl Tryz.underlying22 el22.size_run rfl <| K.fieldL Y (rV 0 S W0 s0 b0 o0 eTL12Act 5 l0) ((v2).toNat) 0 0 (hI0.is 0) (atL_get hx7) g0 rfl rfl t32 rfl rfl rfl rfl <| K.load1L Y (rV 0 S W0 s0 b0 o0 eTL12Act 5 l0) ((v2).toNat) 0 (hI0.is 0) (atL_get hx7) g0 rfl rfl t3 rfl rfl <| K.cR (cf 22 rfl) (R01_Rest_con hx11) g0 rfl rfl rfl rfl <| K.nil <| At.next <| G.block <| G.seq <| G.rg <| K.bin (V := .bool (x11 == 0)) g0 rfl rfl (fun _ => rfl) rfl <| K.as rfl rfl <| K.nil <| At.next <| G.cond rfl (fun h5 => ?_) (fun h5 => ?_)
       ·
        replace H2 := bif_t H2 h5
        obtain ⟨x12, hx12, H2⟩ := bnd H2
        exact G.rg <| K.mv rfl rfl <| K.mv rfl rfl <| K.mv rfl rfl <| K.mv rfl rfl <| K.idxL (rV 0 S W0 s0 b0 o0 eTL12Act 5 l0) ((v2).toNat) (hI0.is 0) (atL_get hx7) (atL_nn hx7) g0 rfl rfl rfl Tryz.underlying22 el22.size_run rfl <| K.fieldL Y (rV 0 S W0 s0 b0 o0 eTL12Act 5 l0) ((v2).toNat) 0 3 (hI0.is 0) (atL_get hx7) g0 rfl rfl t32 rfl rfl rfl rfl <| K.loadSL Y (rV 0 S W0 s0 b0 o0 eTL12Act 5 l0) ((v2).toNat) 3 [_, _] [_, _] (hI0.is 0) (atL_get hx7) g0 rfl rfl t30 rfl rfl rfl rfl rfl <| K.c0 (cf 23 rfl) (partial_Queue_Insert_con hx12 127 128 129 130 131 132 133 134 135 146 147 rfl) g0 rfl rfl rfl rfl <| K.nil <| At.block_normal <| At.jd ⟨x12.2.2, oi H2⟩ [(137, 127), (138, 128), (139, 129), (140, 130), (141, 131), (142, 132), (143, 133), (144, 134), (145, 135)] [_, _, _, _, _, _, _, _, _, _] rfl ⟨rfl, rfl, rfl, trivial⟩ ⟨rfl, (fun _ => rfl), rfl, (blk_ren rfl rfl), rfl, (blk_ren rfl rfl), rfl, (pl_ren rfl), rfl, (blk_ren rfl rfl), rfl, (pl_ren rfl), rfl, (blk_ren rfl rfl), rfl, (pl_ren rfl), rfl, (blk_ren rfl rfl), rfl, (pl_ren rfl), trivial⟩ rfl
       ·
        replace H2 := bif_f H2 h5
        refine G.seq <| G.rg <| K.bin (V := .bool (x11 == 1)) g0 rfl rfl (fun _ => rfl) rfl <| K.as rfl rfl <| K.nil <| At.next <| G.cond rfl (fun h6 => ?_) (fun h6 => ?_)
        ·
         replace H2 := bif_t H2 h6
         obtain ⟨x13, hx13, H2⟩ := bnd H2
         exact G.rg <| K.mv rfl rfl <| K.mv rfl rfl <| K.c0 (cf 24 rfl) (partial_Queue_Delete_con hx13 127 128 129 130 131 132 133 134 135 148 149 rfl) g0 rfl rfl rfl rfl <| K.nil <| At.block_normal <| At.jd ⟨x13.2.2, oi H2⟩ [(137, 127), (138, 128), (139, 129), (140, 130), (141, 131), (142, 132), (143, 133), (144, 134), (145, 135)] [_, _, _, _, _, _, _, _, _, _] rfl ⟨rfl, rfl, rfl, trivial⟩ ⟨rfl, (fun _ => rfl), rfl, (blk_ren rfl rfl), rfl, (blk_ren rfl rfl), rfl, (pl_ren rfl), rfl, (blk_ren rfl rfl), rfl, (pl_ren rfl), rfl, (blk_ren rfl rfl), rfl, (pl_ren rfl), rfl, (blk_ren rfl rfl), rfl, (pl_ren rfl), trivial⟩ rfl
        ·
         replace H2 := bif_f H2 h6
         refine G.seq <| G.rg <| K.bin (V := .bool (x11 == 2)) g0 rfl rfl (fun _ => rfl) rfl <| K.as rfl rfl <| K.nil <| At.next <| G.cond rfl (fun h7 => ?_) (fun h7 => ?_)
         ·
          replace H2 := bif_t H2 h7
          obtain ⟨x14, hx14, H2⟩ := bnd H2
          exact G.rg <| K.mv rfl rfl <| K.mv rfl rfl <| K.c0 (cf 25 rfl) (partial_Queue_Revoke_con hx14 127 128 129 130 131 132 133 134 135 150 151 rfl) g0 rfl rfl rfl rfl <| K.nil <| At.block_normal <| At.jd ⟨x14.2.2, oi H2⟩ [(137, 127), (138, 128), (139, 129), (140, 130), (141, 131), (142, 132), (143, 133), (144, 134), (145, 135)] [_, _, _, _, _, _, _, _, _, _] rfl ⟨rfl, rfl, rfl, trivial⟩ ⟨rfl, (fun _ => rfl), rfl, (blk_ren rfl rfl), rfl, (blk_ren rfl rfl), rfl, (pl_ren rfl), rfl, (blk_ren rfl rfl), rfl, (pl_ren rfl), rfl, (blk_ren rfl rfl), rfl, (pl_ren rfl), rfl, (blk_ren rfl rfl), rfl, (pl_ren rfl), trivial⟩ rfl
         ·
          replace H2 := bif_f H2 h7
          exact G.skip <| At.block_normal <| At.jd ⟨v1, oi H2⟩ [(137, 127), (138, 128), (139, 129), (140, 130), (141, 131), (142, 132), (143, 133), (144, 134), (145, 135)] [_, _, _, _, _, _, _, _, _, _] rfl ⟨rfl, rfl, rfl, trivial⟩ ⟨rfl, (fun _ => rfl), rfl, (blk_ren rfl rfl), rfl, (blk_ren rfl rfl), rfl, (pl_ren rfl), rfl, (blk_ren rfl rfl), rfl, (pl_ren rfl), rfl, (blk_ren rfl rfl), rfl, (pl_ren rfl), rfl, (blk_ren rfl rfl), rfl, (pl_ren rfl), trivial⟩ rfl
      ·
       rintro ⟨_, rfl⟩
       show G _ _ [(0, SV.raw s0), (3, .a (.c (.p 137 0))), (4, .a (.c (.v (.int .i64 v2))))] (sm ((0, rd S W0) :: (tkQueue 137 138 139 140 141 142 143 144 145 x10 []))) _ _
       refine G.seq ?_
       obtain ⟨x15, hx15, H1⟩ := bnd H1
       obtain ⟨x16, hx16, H1⟩ := bnd H1
       refine G.rg <| K.mv rfl rfl <| K.cR (cf 28 rfl) (partial_Queue_Len_con hx15 137 138 139 140 141 142 143 144 145) g0 rfl rfl rfl rfl <| K.mv rfl rfl <| K.cR (cf 29 rfl) (partial_Queue_Deletes_con hx16 137 138 139 140 141 142 143 144 145) g0 rfl rfl rfl rfl <| K.bin (V := .int .i64 (w64 (x15 - x16))) g0 rfl rfl (fun _ => rfl) rfl <| K.as rfl rfl <| K.nil <| At.ns ?_
       obtain ⟨x17, hx17, H1⟩ := bnd H1
       obtain ⟨x18, hx18, H1⟩ := bnd H1
       obtain ⟨x19, hx19, H1⟩ := bnd H1
       obtain ⟨x20, hx20, H1⟩ := bnd H1
       rcases Bool.eq_false_or_eq_true (x18 != (w64 (x19 - x20))) with h8 | h8
       ·
        replace H1 := bif_t H1 h8
        refine G.rg <| K.mv rfl rfl <| K.cR (cf 30 rfl) (partial_Queue_Gone_con hx17 137 138 139 140 141 142 143 144 145) g0 rfl rfl rfl rfl <| K.cR (cf 31 rfl) (Tree_LenS_con hx18 142 143) g0 rfl rfl rfl rfl <| K.mv rfl rfl <| K.cR (cf 29 rfl) (partial_Queue_Deletes_con hx19 137 138 139 140 141 142 143 144 145) g0 rfl rfl rfl rfl <| K.mv rfl rfl <| K.cR (cf 32 rfl) (partial_Queue_Excess_con hx20 137 138 139 140 141 142 143 144 145) g0 rfl rfl rfl rfl <| K.bin (V := .int .i64 (w64 (x19 - x20))) g0 rfl rfl (fun _ => rfl) rfl <| K.bin (V := .bool (x18 != (w64 (x19 - x20)))) g0 rfl rfl (fun _ => rfl) rfl <| K.mv rfl rfl <| K.sk rfl rfl h8 rfl <| K.sk rfl rfl h8 rfl <| K.sk rfl rfl h8 rfl <| K.sk rfl rfl h8 rfl <| K.sk rfl rfl h8 rfl <| K.sk rfl rfl h8 rfl <| K.sk rfl rfl h8 rfl <| K.sk rfl rfl h8 rfl <| K.sk rfl rfl h8 rfl <| K.pickT g0 rfl (h8) rfl rfl <| K.mv rfl rfl <| K.sk rfl rfl rfl rfl <| K.sk rfl rfl rfl rfl <| K.sk rfl rfl rfl rfl <| K.pickT g0 rfl (rfl) rfl rfl <| K.mv rfl rfl <| K.sk rfl rfl rfl rfl <| K.sk rfl rfl rfl rfl <| K.sk rfl rfl rfl rfl <| K.sk rfl rfl rfl rfl <| K.sk rfl rfl rfl rfl <| K.sk rfl rfl rfl rfl <| K.pickT g0 rfl (rfl) rfl rfl <| K.nil <| At.next <| G.cond rfl (fun h9 => ?_) (fun h9 => ?_)
        ·
         refine G.seq <| G.rg <| K.as rfl rfl <| K.nil <| At.next <| G.ret <| At.block_ret <| At.over_ret <| At.over_ret <| At.block_ret <| At.over_ret ?_
         cases H1
         replace H0 := sum_l H0
         exact At.dr Y [2] rfl rfl (by cases H0; rfl) (by cases H0; rfl) rfl rfl rfl
        · cases h9
       ·
        replace H1 := bif_f H1 h8
        obtain ⟨x21, hx21, H1⟩ := bnd H1
        obtain ⟨x22, hx22, H1⟩ := bnd H1
        obtain ⟨x23, hx23, H1⟩ := bnd H1
        obtain ⟨x24, hx24, H1⟩ := bnd H1
        rcases Bool.eq_false_or_eq_true (x22 != (w64 ((w64 (x15 - x16)) - x24))) with h10 | h10
        ·
         replace H1 := bif_t H1 h10
         refine G.rg <| K.mv rfl rfl <| K.cR (cf 30 rfl) (partial_Queue_Gone_con hx17 137 138 139 140 141 142 143 144 145) g0 rfl rfl rfl rfl <| K.cR (cf 31 rfl) (Tree_LenS_con hx18 142 143) g0 rfl rfl rfl rfl <| K.mv rfl rfl <| K.cR (cf 29 rfl) (partial_Queue_Deletes_con hx19 137 138 139 140 141 142 143 144 145) g0 rfl rfl rfl rfl <| K.mv rfl rfl <| K.cR (cf 32 rfl) (partial_Queue_Excess_con hx20 137 138 139 140 141 142 143 144 145) g0 rfl rfl rfl rfl <| K.bin (V := .int .i64 (w64 (x19 - x20))) g0 rfl rfl (fun _ => rfl) rfl <| K.bin (V := .bool (x18 != (w64 (x19 - x20)))) g0 rfl rfl (fun _ => rfl) rfl <| K.mv rfl rfl <| K.move (.inl rfl) (g1 rfl rfl h8) rfl rfl <| K.cR (cf 33 rfl) (partial_Queue_Present_con hx21 137 138 139 140 141 142 143 144 145) (g1 rfl rfl h8) rfl rfl rfl rfl <| K.cR (cf 31 rfl) (Tree_LenS_con hx22 140 141) (g1 rfl rfl h8) rfl rfl rfl rfl <| K.move (.inl rfl) (g1 rfl rfl h8) rfl rfl <| K.move (.inl rfl) (g1 rfl rfl h8) rfl rfl <| K.cR (cf 30 rfl) (partial_Queue_Gone_con hx23 137 138 139 140 141 142 143 144 145) (g1 rfl rfl h8) rfl rfl rfl rfl <| K.cR (cf 31 rfl) (Tree_LenS_con hx24 142 143) (g1 rfl rfl h8) rfl rfl rfl rfl <| K.bin (V := .int .i64 (w64 ((w64 (x15 - x16)) - x24))) (g1 rfl rfl h8) rfl rfl (fun _ => rfl) rfl <| K.bin (V := .bool (x22 != (w64 ((w64 (x15 - x16)) - x24)))) (g1 rfl rfl h8) rfl rfl (fun _ => rfl) rfl <| K.pickF g0 rfl (h8) rfl rfl <| K.mv rfl rfl <| K.sk rfl rfl h10 rfl <| K.sk rfl rfl h10 rfl <| K.sk rfl rfl h10 rfl <| K.pickT g0 rfl (h10) rfl rfl <| K.mv rfl rfl <| K.sk rfl rfl rfl rfl <| K.sk rfl rfl rfl rfl <| K.sk rfl rfl rfl rfl <| K.sk rfl rfl rfl rfl <| K.sk rfl rfl rfl rfl <| K.sk rfl rfl rfl rfl <| K.pickT g0 rfl (rfl) rfl rfl <| K.nil <| At.next <| G.cond rfl (fun h11 => ?_) (fun h11 => ?_)
         ·
          refine G.seq <| G.rg <| K.as rfl rfl <| K.nil <| At.next <| G.ret <| At.block_ret <| At.over_ret <| At.over_ret <| At.block_ret <| At.over_ret ?_
          cases H1
          replace H0 := sum_l H0
          exact At.dr Y [2] rfl rfl (by cases H0; rfl) (by cases H0; rfl) rfl rfl rfl
         · cases h11
        ·
         replace H1 := bif_f H1 h10
         obtain ⟨x25, hx25, H1⟩ := bnd H1
         rcases Bool.eq_false_or_eq_true (decide (x25 < 0)) with h12 | h12
         ·
          replace H1 := bif_t H1 h12
          refine G.rg <| K.mv rfl rfl <| K.cR (cf 30 rfl) (partial_Queue_Gone_con hx17 137 138 139 140 141 142 143 144 145) g0 rfl rfl rfl rfl <| K.cR (cf 31 rfl) (Tree_LenS_con hx18 142 143) g0 rfl rfl rfl rfl <| K.mv rfl rfl <| K.cR (cf 29 rfl) (partial_Queue_Deletes_con hx19 137 138 139 140 141 142 143 144 145) g0 rfl rfl rfl rfl <| K.mv rfl rfl <| K.cR (cf 32 rfl) (partial_Queue_Excess_con hx20 137 138 139 140 141 142 143 144 145) g0 rfl rfl rfl rfl <| K.bin (V := .int .i64 (w64 (x19 - x20))) g0 rfl rfl (fun _ => rfl) rfl <| K.bin (V := .bool (x18 != (w64 (x19 - x20)))) g0 rfl rfl (fun _ => rfl) rfl <| K.mv rfl rfl <| K.move (.inl rfl) (g1 rfl rfl h8) rfl rfl <| K.cR (cf 33 rfl) (partial_Queue_Present_con hx21 137 138 139 140 141 142 143 144 145) (g1 rfl rfl h8) rfl rfl rfl rfl <| K.cR (cf 31 rfl) (Tree_LenS_con hx22 140 141) (g1 rfl rfl h8) rfl rfl rfl rfl <| K.move (.inl rfl) (g1 rfl rfl h8) rfl rfl <| K.move (.inl rfl) (g1 rfl rfl h8) rfl rfl <| K.cR (cf 30 rfl) (partial_Queue_Gone_con hx23 137 138 139 140 141 142 143 144 145) (g1 rfl rfl h8) rfl rfl rfl rfl <| K.cR (cf 31 rfl) (Tree_LenS_con hx24 142 143) (g1 rfl rfl h8) rfl rfl rfl rfl <| K.bin (V := .int .i64 (w64 ((w64 (x15 - x16)) - x24))) (g1 rfl rfl h8) rfl rfl (fun _ => rfl) rfl <| K.bin (V := .bool (x22 != (w64 ((w64 (x15 - x16)) - x24)))) (g1 rfl rfl h8) rfl rfl (fun _ => rfl) rfl <| K.pickF g0 rfl (h8) rfl rfl <| K.mv rfl rfl <| K.move (.inl rfl) (g1 rfl rfl h10) rfl rfl <| K.cR (cf 32 rfl) (partial_Queue_Excess_con hx25 137 138 139 140 141 142 143 144 145) (g1 rfl rfl h10) rfl rfl rfl rfl <| K.bin (V := .bool (decide (x25 < 0))) (g1 rfl rfl h10) rfl rfl (fun _ => rfl) rfl <| K.pickF g0 rfl (h10) rfl rfl <| K.mv rfl rfl <| K.sk rfl rfl h12 rfl <| K.sk rfl rfl h12 rfl <| K.sk rfl rfl h12 rfl <| K.sk rfl rfl h12 rfl <| K.sk rfl rfl h12 rfl <| K.sk rfl rfl h12 rfl <| K.pickT g0 rfl (h12) rfl rfl <| K.nil <| At.next <| G.cond rfl (fun h13 => ?_) (fun h13 => ?_)
          ·
           refine G.seq <| G.rg <| K.as rfl rfl <| K.nil <| At.next <| G.ret <| At.block_ret <| At.over_ret <| At.over_ret <| At.block_ret <| At.over_ret ?_
           cases H1
           replace H0 := sum_l H0
           exact At.dr Y [2] rfl rfl (by cases H0; rfl) (by cases H0; rfl) rfl rfl rfl
          · cases h13
         ·
          replace H1 := bif_f H1 h12
          obtain ⟨x26, hx26, H1⟩ := bnd H1
          obtain ⟨x27, hx27, H1⟩ := bnd H1
          obtain ⟨x28, hx28, H1⟩ := bnd H1
          refine G.rg <| K.mv rfl rfl <| K.cR (cf 30 rfl) (partial_Queue_Gone_con hx17 137 138 139 140 141 142 143 144 145) g0 rfl rfl rfl rfl <| K.cR (cf 31 rfl) (Tree_LenS_con hx18 142 143) g0 rfl rfl rfl rfl <| K.mv rfl rfl <| K.cR (cf 29 rfl) (partial_Queue_Deletes_con hx19 137 138 139 140 141 142 143 144 145) g0 rfl rfl rfl rfl <| K.mv rfl rfl <| K.cR (cf 32 rfl) (partial_Queue_Excess_con hx20 137 138 139 140 141 142 143 144 145) g0 rfl rfl rfl rfl <| K.bin (V := .int .i64 (w64 (x19 - x20))) g0 rfl rfl (fun _ => rfl) rfl <| K.bin (V := .bool (x18 != (w64 (x19 - x20)))) g0 rfl rfl (fun _ => rfl) rfl <| K.mv rfl rfl <| K.move (.inl rfl) (g1 rfl rfl h8) rfl rfl <| K.cR (cf 33 rfl) (partial_Queue_Present_con hx21 137 138 139 140 141 142 143 144 145) (g1 rfl rfl h8) rfl rfl rfl rfl <| K.cR (cf 31 rfl) (Tree_LenS_con hx22 140 141) (g1 rfl rfl h8) rfl rfl rfl rfl <| K.move (.inl rfl) (g1 rfl rfl h8) rfl rfl <| K.move (.inl rfl) (g1 rfl rfl h8) rfl rfl <| K.cR (cf 30 rfl) (partial_Queue_Gone_con hx23 137 138 139 140 141 142 143 144 145) (g1 rfl rfl h8) rfl rfl rfl rfl <| K.cR (cf 31 rfl) (Tree_LenS_con hx24 142 143) (g1 rfl rfl h8) rfl rfl rfl rfl <| K.bin (V := .int .i64 (w64 ((w64 (x15 - x16)) - x24))) (g1 rfl rfl h8) rfl rfl (fun _ => rfl) rfl <| K.bin (V := .bool (x22 != (w64 ((w64 (x15 - x16)) - x24)))) (g1 rfl rfl h8) rfl rfl (fun _ => rfl) rfl <| K.pickF g0 rfl (h8) rfl rfl <| K.mv rfl rfl <| K.move (.inl rfl) (g1 rfl rfl h10) rfl rfl <| K.cR (cf 32 rfl) (partial_Queue_Excess_con hx25 137 138 139 140 141 142 143 144 145) (g1 rfl rfl h10) rfl rfl rfl rfl <| K.bin (V := .bool (decide (x25 < 0))) (g1 rfl rfl h10) rfl rfl (fun _ => rfl) rfl <| K.pickF g0 rfl (h10) rfl rfl <| K.mv rfl rfl <| K.move (.inl rfl) (g1 rfl rfl h12) rfl rfl <| K.cR (cf 18 rfl) (partial_Queue_Marks_con hx26 137 138 139 140 141 142 143 144 145) (g1 rfl rfl h12) rfl rfl rfl rfl <| K.cR (cf 34 rfl) (Tree_LenM_con hx27 138 139) (g1 rfl rfl h12) rfl rfl rfl rfl <| K.move (.inl rfl) (g1 rfl rfl h12) rfl rfl <| K.cR (cf 28 rfl) (partial_Queue_Len_con hx28 137 138 139 140 141 142 143 144 145) (g1 rfl rfl h12) rfl rfl rfl rfl <| K.bin (V := .bool (x27 != x28)) (g1 rfl rfl h12) rfl rfl (fun _ => rfl) rfl <| K.pickF g0 rfl (h12) rfl rfl <| K.nil <| At.next <| G.cond rfl (fun h14 => ?_) (fun h14 => ?_)
          ·
           replace H1 := bif_t H1 h14
           refine G.seq <| G.rg <| K.as rfl rfl <| K.nil <| At.next <| G.ret <| At.block_ret <| At.over_ret <| At.over_ret <| At.block_ret <| At.over_ret ?_
           cases H1
           replace H0 := sum_l H0
           exact At.dr Y [2] rfl rfl (by cases H0; rfl) (by cases H0; rfl) rfl rfl rfl
          ·
           replace H1 := bif_f H1 h14
           exact G.skip <| At.block_normal <| At.next <| G.rg <| K.mv rfl rfl <| K.bin (V := .int .i64 (w64 (v2 + 1))) g0 rfl rfl (fun _ => rfl) rfl <| K.as rfl rfl <| K.nil <| At.ag ⟨(n0, (x10, (w64 (v2 + 1)))), H1⟩ [(127, 137), (128, 138), (129, 139), (130, 140), (131, 141), (132, 142), (133, 143), (134, 144), (135, 145)] [_, _, _, _, _, _, _, _, _, _] (Nat.lt_succ_self _) rfl ⟨rfl, rfl, rfl, trivial⟩ ⟨rfl, (fun _ => rfl), rfl, (blk_ren rfl rfl), rfl, (blk_ren rfl rfl), rfl, (pl_ren rfl), rfl, (blk_ren rfl rfl), rfl, (pl_ren rfl), rfl, (blk_ren rfl rfl), rfl, (pl_ren rfl), rfl, (blk_ren rfl rfl), rfl, (pl_ren rfl), trivial⟩ rfl
     ·
      replace H1 := bif_f H1 h4
      exact G.exit <| At.over_exit <| At.over_exit <| At.block_hit <| At.jd ⟨(), oi H1⟩ [] [_] rfl trivial ⟨rfl, (fun _ => rfl), trivial⟩ rfl
  ·
   rintro ⟨v6, rfl⟩
   replace H0 := sum_r H0
   show G _ _ [] [(0, some (rd S W0))] _ _
   exact G.seq <| G.rg <| K.as rfl rfl <| K.nil <| At.next <| G.ret <| At.dr Y [2] rfl rfl (by cases H0; rfl) (by cases H0; rfl) rfl rfl rfl
end Go.Proofs.YtpeoalmhccmdiaaGreat
namespace Go.Proofs.YtpeoalmhccmdiaaGreat.PQ
structure Cert (n : Nat) (G S : Nat → Prop) (lt : Nat → Nat → Prop) (H : Nat → Int) : Prop where
  low : ∀ p, p ≤ n → 0 ≤ H p
  fin : H n = 0
  two : ∀ i j, i < n → j < n → G i → S j → lt j i → ∃ b, i < b ∧ b ≤ j ∧ H b = 0
  free : 0 < H 0 → ∀ j, j < n → S j → ∃ b, b ≤ j ∧ H b = 0
structure More (n t : Nat) (G S : Nat → Prop) (lt : Nat → Nat → Prop) (H : Nat → Int) : Prop where
  le : t ≤ n
  low : ∀ p, p ≤ n → (if p < t then 0 else 1) ≤ H p
  fin : H n = 1
  two : ∀ i j, i < n → j < n → i + 1 ≠ t → G i → S j → lt j i → ∃ b, i < b ∧ b ≤ j ∧ H b = if b < t then 0 else 1
  free : 0 < H 0 → ∀ j, j < n → S j → ∃ b, b ≤ j ∧ H b = if b < t then 0 else 1
theorem More.none {n t : Nat} {G S : Nat → Prop} {lt : Nat → Nat → Prop} {H : Nat → Int} (h : More n t G S lt H) (hb : ∀ b, b < t → H b ≠ 0) : Cert n G S lt (fun p => H p - 1) := by
  have pos : ∀ p, p ≤ n → 1 ≤ H p := fun p hp => by
    have := h.low p hp
    by_cases e : p < t
    · rw [if_pos e] at this; have := hb p e; omega
    · rw [if_neg e] at this; exact this
  have lv : ∀ b, (H b = if b < t then 0 else 1) → H b - 1 = 0 ∧ t ≤ b := fun b hb' => by
    by_cases e : b < t
    · rw [if_pos e] at hb'; exact absurd hb' (hb b e)
    · rw [if_neg e] at hb'; omega
  refine ⟨fun p hp => by have := pos p hp; show 0 ≤ H p - 1; omega, by show H n - 1 = 0; rw [h.fin]; rfl, fun i j hi hj hg hs hl => ?_, fun _ j hj hs => ?_⟩
  · by_cases e : i + 1 = t
    · obtain ⟨b, h1, h2⟩ := h.free (by have := pos 0 (Nat.zero_le _); omega) j hj hs
      have := lv b h2
      exact ⟨b, by omega, h1, this.1⟩
    · obtain ⟨b, h1, h2, h3⟩ := h.two i j hi hj e hg hs hl
      exact ⟨b, h1, h2, (lv b h3).1⟩
  · obtain ⟨b, h1, h2⟩ := h.free (by have := pos 0 (Nat.zero_le _); omega) j hj hs
    exact ⟨b, h1, (lv b h2).1⟩
theorem More.some {n t : Nat} {G S : Nat → Prop} {lt : Nat → Nat → Prop} {H : Nat → Int} (tr : ∀ a b c, lt a b → lt b c → lt a c) (ir : ∀ a, ¬ lt a a) (h : More n t G S lt H) {b z : Nat} (hb : b < t) (hb0 : H b = 0) (hb1 : ∀ q, b < q → q < t → H q ≠ 0)
    (hz : b ≤ z) (hzn : z < n) (hzG : G z) (hzm : ∀ i, i < n → b ≤ i → G i → i = z ∨ lt i z) (hGS : ∀ i, G i → ¬ S i) :
    Cert n (fun i => G i ∧ i ≠ z) (fun i => S i ∨ i = z) lt (fun p => H p - if z < p then 1 else 0) := by
  have last : ∀ q, q < t → H q = 0 → q ≤ b := fun q h1 h2 => Classical.byContradiction fun hn => hb1 q (by omega) h1 h2
  refine ⟨fun p hp => ?_, ?_, fun i j hi hj hg hs hl => ?_, fun h0 j hj hs => ?_⟩
  · have h1 := h.low p hp
    show 0 ≤ H p - _
    by_cases e : z < p
    · rw [if_pos e]
      by_cases e' : p < t
      · have := hb1 p (by omega) e'; rw [if_pos e'] at h1; omega
      · rw [if_neg e'] at h1; omega
    · rw [if_neg e]; split at h1 <;> omega
  · show H n - _ = 0
    rw [if_pos hzn, h.fin]; rfl
  · show ∃ c, i < c ∧ c ≤ j ∧ H c - (if z < c then 1 else 0) = 0
    have hbr : ∀ c, z < c → (H c = if c < t then 0 else 1) → H c - (if z < c then 1 else 0) = 0 ∧ t ≤ c := fun c h1 h2 => by
      by_cases e : c < t
      · rw [if_pos e] at h2; have := last c e h2; omega
      · rw [if_neg e] at h2; rw [if_pos h1]; omega
    have b0 : H b - (if z < b then 1 else 0) = 0 := by rw [if_neg (by omega)]; omega
    have zj : z + 1 ≠ t → ∀ j, j < n → S j → lt j z → ∃ c, z < c ∧ c ≤ j ∧ t ≤ c ∧ H c - (if z < c then 1 else 0) = 0 := fun e j hj hs hl => by
      obtain ⟨c, h1, h2, h3⟩ := h.two z j hzn hj e hzG hs hl
      have := hbr c h1 h3; exact ⟨c, h1, h2, this.2, this.1⟩
    rcases hs with hs | rfl
    · by_cases e : i + 1 = t
      · have hiz : lt i z := (hzm i hi (by omega) hg.1).resolve_left hg.2
        obtain ⟨c, h1, h2, h3, h4⟩ := zj (fun e' => hg.2 (by omega)) j hj hs (tr _ _ _ hl hiz)
        exact ⟨c, by omega, h2, h4⟩
      · obtain ⟨c, h1, h2, h3⟩ := h.two i j hi hj e hg.1 hs hl
        by_cases e1 : z < c
        · exact ⟨c, h1, h2, (hbr c e1 h3).1⟩
        · by_cases e2 : c < t
          · rw [if_pos e2] at h3; exact ⟨c, h1, h2, by rw [if_neg e1]; omega⟩
          · by_cases e3 : b ≤ i
            · have hiz : lt i z := (hzm i hi e3 hg.1).resolve_left hg.2
              obtain ⟨c', h1', h2', h3', h4'⟩ := zj (by omega) j hj hs (tr _ _ _ hl hiz)
              exact ⟨c', by omega, h2', h4'⟩
            · exact ⟨b, by omega, by omega, b0⟩
    · by_cases e : b ≤ i
      · exact absurd (tr _ _ _ hl ((hzm i hi e hg.1).resolve_left hg.2)) (ir _)
      · exact ⟨b, by omega, hz, b0⟩
  · show ∃ c, c ≤ j ∧ H c - (if z < c then 1 else 0) = 0
    have b0 : H b - (if z < b then 1 else 0) = 0 := by rw [if_neg (by omega)]; omega
    have h0' : 0 < H 0 := by have h0 : 0 < H 0 - (if z < 0 then 1 else 0) := h0; rw [if_neg (by omega)] at h0; omega
    rcases hs with hs | rfl
    · obtain ⟨c, h1, h2⟩ := h.free h0' j hj hs
      by_cases e1 : z < c
      · by_cases e : c < t
        · rw [if_pos e] at h2; have := last c e h2; omega
        · rw [if_neg e] at h2; exact ⟨c, h1, by rw [if_pos e1]; omega⟩
      · by_cases e2 : c < t
        · rw [if_pos e2] at h2; exact ⟨c, h1, by rw [if_neg e1]; omega⟩
        · exact ⟨b, by omega, b0⟩
    · exact ⟨b, hz, b0⟩
structure Less (n t : Nat) (G S : Nat → Prop) (lt : Nat → Nat → Prop) (H : Nat → Int) : Prop where
  le : t ≤ n
  low : ∀ p, p ≤ n → (if p < t then 0 else -1) ≤ H p
  fin : H n = -1
  two : ∀ i j, i < n → j < n → G i → S j → lt j i → ∃ b, i < b ∧ b ≤ j ∧ H b = if b < t then 0 else -1
  free : 0 < H 0 → ∀ j, j < n → S j → ∃ b, b ≤ j ∧ H b = if b < t then 0 else -1
theorem Less.none {n t : Nat} {G S : Nat → Prop} {lt : Nat → Nat → Prop} {H : Nat → Int} (h : Less n t G S lt H) {b : Nat} (hb : t ≤ b) (hbn : b ≤ n) (hb0 : H b = -1) (hb1 : ∀ q, t ≤ q → q < b → H q ≠ -1)
    (hS : ∀ j, j < b → ¬ S j) : Cert n G S lt (fun p => H p + 1) := by
  have lv : ∀ c j, S j → c ≤ j → (H c = if c < t then 0 else -1) → ∃ c', c ≤ c' ∧ c' ≤ j ∧ H c' + 1 = 0 := fun c j hs h1 h2 => by
    by_cases e : c < t
    · have : b ≤ j := Classical.byContradiction fun hn => hS j (by omega) hs
      exact ⟨b, by omega, this, by omega⟩
    · rw [if_neg e] at h2; exact ⟨c, Nat.le_refl _, h1, by omega⟩
  refine ⟨fun p hp => ?_, by show H n + 1 = 0; rw [h.fin]; rfl, fun i j hi hj hg hs hl => ?_, fun _ j hj hs => ?_⟩
  · have := h.low p hp; show 0 ≤ H p + 1; split at this <;> omega
  · obtain ⟨c, h1, h2, h3⟩ := h.two i j hi hj hg hs hl
    obtain ⟨c', h4, h5, h6⟩ := lv c j hs h2 h3
    exact ⟨c', by omega, h5, h6⟩
  · have : b ≤ j := Classical.byContradiction fun hn => hS j (by omega) hs
    exact ⟨b, this, by show H b + 1 = 0; omega⟩
theorem Less.some {n t : Nat} {G S : Nat → Prop} {lt : Nat → Nat → Prop} {H : Nat → Int} (tr : ∀ a b c, lt a b → lt b c → lt a c) (ir : ∀ a, ¬ lt a a) (h : Less n t G S lt H) {b z : Nat} (hb : t ≤ b) (hbn : b ≤ n) (hb0 : H b = -1) (hb1 : ∀ q, t ≤ q → q < b → H q ≠ -1)
    (hzb : z < b) (hzS : S z) (hzm : ∀ j, j < b → S j → j = z ∨ lt z j) :
    Cert n (fun i => G i ∨ i = z) (fun i => S i ∧ i ≠ z) lt (fun p => H p + if z < p then 1 else 0) := by
  have low' : ∀ c, t ≤ c → H c = -1 → H c + (if z < c then 1 else 0) = 0 := fun c h1 h2 => by
    have : b ≤ c := Classical.byContradiction fun hn => hb1 c h1 (by omega) h2
    rw [if_pos (by omega)]; omega
  have b0 := low' b hb hb0
  refine ⟨fun p hp => ?_, ?_, fun i j hi hj hg hs hl => ?_, fun h0 j hj hs => ?_⟩
  · have h1 := h.low p hp
    show 0 ≤ H p + _
    by_cases e : p < t
    · rw [if_pos e] at h1; split <;> omega
    · rw [if_neg e] at h1
      by_cases e' : z < p
      · rw [if_pos e']; omega
      · have := hb1 p (by omega) (by omega); rw [if_neg e']; omega
  · show H n + _ = 0
    rw [if_pos (by omega), h.fin]; rfl
  · show ∃ c, i < c ∧ c ≤ j ∧ H c + (if z < c then 1 else 0) = 0
    by_cases ei : i = z
    · subst ei
      have : b ≤ j := Classical.byContradiction fun hn => by
        rcases hzm j (by omega) hs.1 with e | e
        · exact hs.2 e
        · exact ir _ (tr _ _ _ hl e)
      exact ⟨b, hzb, this, b0⟩
    · have hg := hg.resolve_right ei
      obtain ⟨c, h1, h2, h3⟩ := h.two i j hi hj hg hs.1 hl
      by_cases e : c < t
      · rw [if_pos e] at h3
        by_cases e1 : z < c
        · by_cases e2 : b ≤ j
          · exact ⟨b, by omega, e2, b0⟩
          · have hzj := (hzm j (by omega) hs.1).resolve_left hs.2
            obtain ⟨c2, h4, h5, h6⟩ := h.two i z hi (by omega) hg hzS (tr _ _ _ hzj hl)
            rw [if_pos (by omega)] at h6
            exact ⟨c2, h4, by omega, by rw [if_neg (by omega)]; omega⟩
        · exact ⟨c, h1, h2, by rw [if_neg e1]; omega⟩
      · rw [if_neg e] at h3
        exact ⟨c, h1, h2, low' c (by omega) h3⟩
  · show ∃ c, c ≤ j ∧ H c + (if z < c then 1 else 0) = 0
    have h0' : 0 < H 0 := by have h0 : 0 < H 0 + (if z < 0 then 1 else 0) := h0; rw [if_neg (by omega)] at h0; omega
    obtain ⟨c, h2, h3⟩ := h.free h0' j hj hs.1
    by_cases e : c < t
    · rw [if_pos e] at h3
      by_cases e1 : z < c
      · by_cases e2 : b ≤ j
        · exact ⟨b, e2, b0⟩
        · obtain ⟨c2, h5, h6⟩ := h.free h0' z (by omega) hzS
          rw [if_pos (by omega)] at h6
          exact ⟨c2, by omega, by rw [if_neg (by omega)]; omega⟩
      · exact ⟨c, h2, by rw [if_neg e1]; omega⟩
    · rw [if_neg e] at h3
      exact ⟨c, h2, low' c (by omega) h3⟩
def sh (a i : Nat) : Nat := if i < a then i else i + 1
theorem sh_lt {a i : Nat} (h : i < a) : sh a i = i := if_pos h
theorem sh_ge {a i : Nat} (h : a ≤ i) : sh a i = i + 1 := if_neg (by omega)
theorem sh_cases (a i : Nat) : (i < a ∧ sh a i = i) ∨ (a ≤ i ∧ sh a i = i + 1) := by
  by_cases h : i < a
  · exact .inl ⟨h, sh_lt h⟩
  · exact .inr ⟨by omega, sh_ge (by omega)⟩
theorem sh_ex {a i : Nat} (h : i ≠ a) : ∃ q, i = sh a q := by
  by_cases e : i < a
  · exact ⟨i, (sh_lt e).symm⟩
  · exact ⟨i - 1, by rw [sh_ge (by omega)]; omega⟩
structure Ins (n a : Nat) (w : Int) (G1 S1 : Nat → Prop) (lt1 : Nat → Nat → Prop) (H1 : Nat → Int) (G2 S2 : Nat → Prop) (lt2 : Nat → Nat → Prop) (H2 : Nat → Int) : Prop where
  le : a ≤ n
  g : ∀ i, G2 (sh a i) ↔ G1 i
  s : ∀ i, S2 (sh a i) ↔ S1 i
  l : ∀ i j, lt2 (sh a i) (sh a j) ↔ lt1 i j
  lo : ∀ p, p ≤ a → H2 p = H1 p
  hi : ∀ p, a ≤ p → H2 (p + 1) = H1 p + w
section
variable {n a : Nat} {w : Int} {G1 S1 : Nat → Prop} {lt1 : Nat → Nat → Prop} {H1 : Nat → Int} {G2 S2 : Nat → Prop} {lt2 : Nat → Nat → Prop} {H2 : Nat → Int}
theorem Ins.up (h : Ins n a w G1 S1 lt1 H1 G2 S2 lt2 H2) {i j b : Nat} (h1 : i < b) (h2 : b ≤ j) (hb : H1 b = 0) : ∃ c, sh a i < c ∧ c ≤ sh a j ∧ H2 c = if c < a + 1 then 0 else w := by
  have hi := sh_cases a i
  have hj := sh_cases a j
  by_cases e : b ≤ a
  · exact ⟨b, by omega, by omega, by rw [if_pos (by omega), h.lo b e, hb]⟩
  · exact ⟨b + 1, by omega, by omega, by rw [if_neg (by omega), h.hi b (by omega), hb]; omega⟩
theorem Ins.up0 (h : Ins n a w G1 S1 lt1 H1 G2 S2 lt2 H2) {j b : Nat} (h2 : b ≤ j) (hb : H1 b = 0) : ∃ c, c ≤ sh a j ∧ H2 c = if c < a + 1 then 0 else w := by
  have hj := sh_cases a j
  by_cases e : b ≤ a
  · exact ⟨b, by omega, by rw [if_pos (by omega), h.lo b e, hb]⟩
  · exact ⟨b + 1, by omega, by rw [if_neg (by omega), h.hi b (by omega), hb]; omega⟩
theorem sh_bd {n a i : Nat} (ha : a ≤ n) : sh a i < n + 1 ↔ i < n := by
  have := sh_cases a i; omega
theorem Ins.more (h : Ins n a 1 G1 S1 lt1 H1 G2 S2 lt2 H2) (hS : ¬ S2 a) (c : Cert n G1 S1 lt1 H1) : More (n + 1) (a + 1) G2 S2 lt2 H2 := by
  have hle := h.le
  have h0 := h.lo 0 (Nat.zero_le _)
  refine ⟨by omega, fun p hp => ?_, ?_, fun i j hi hj hia hg hs hl => ?_, fun hf j hj hs => ?_⟩
  · by_cases e : p ≤ a
    · rw [if_pos (by omega), h.lo p e]; exact c.low p (by omega)
    · rw [if_neg (by omega)]
      have := h.hi (p - 1) (by omega); rw [show p - 1 + 1 = p by omega] at this
      have := c.low (p - 1) (by omega); omega
  · rw [h.hi n hle, c.fin]; rfl
  · obtain ⟨i', rfl⟩ := sh_ex (a := a) (i := i) (by omega)
    obtain ⟨j', rfl⟩ := sh_ex (a := a) (i := j) (by rintro rfl; exact hS hs)
    obtain ⟨b, h1, h2, h3⟩ := c.two i' j' ((sh_bd hle).1 hi) ((sh_bd hle).1 hj) ((h.g _).1 hg) ((h.s _).1 hs) ((h.l _ _).1 hl)
    exact h.up h1 h2 h3
  · obtain ⟨j', rfl⟩ := sh_ex (a := a) (i := j) (by rintro rfl; exact hS hs)
    obtain ⟨b, h1, h2⟩ := c.free (by omega) j' ((sh_bd hle).1 hj) ((h.s _).1 hs)
    exact h.up0 h1 h2
theorem Ins.less (h : Ins n a (-1) G1 S1 lt1 H1 G2 S2 lt2 H2) (hG : ¬ G2 a) (hS : ¬ S2 a) (c : Cert n G1 S1 lt1 H1) : Less (n + 1) (a + 1) G2 S2 lt2 H2 := by
  have hle := h.le
  have h0 := h.lo 0 (Nat.zero_le _)
  refine ⟨by omega, fun p hp => ?_, ?_, fun i j hi hj hg hs hl => ?_, fun hf j hj hs => ?_⟩
  · by_cases e : p ≤ a
    · rw [if_pos (by omega), h.lo p e]; exact c.low p (by omega)
    · rw [if_neg (by omega)]
      have := h.hi (p - 1) (by omega); rw [show p - 1 + 1 = p by omega] at this
      have := c.low (p - 1) (by omega); omega
  · rw [h.hi n hle, c.fin]; rfl
  · obtain ⟨i', rfl⟩ := sh_ex (a := a) (i := i) (by rintro rfl; exact hG hg)
    obtain ⟨j', rfl⟩ := sh_ex (a := a) (i := j) (by rintro rfl; exact hS hs)
    obtain ⟨b, h1, h2, h3⟩ := c.two i' j' ((sh_bd hle).1 hi) ((sh_bd hle).1 hj) ((h.g _).1 hg) ((h.s _).1 hs) ((h.l _ _).1 hl)
    exact h.up h1 h2 h3
  · obtain ⟨j', rfl⟩ := sh_ex (a := a) (i := j) (by rintro rfl; exact hS hs)
    obtain ⟨b, h1, h2⟩ := c.free (by omega) j' ((sh_bd hle).1 hj) ((h.s _).1 hs)
    exact h.up0 h1 h2
theorem Ins.revD (h : Ins n a (-1) G1 S1 lt1 H1 G2 S2 lt2 H2) (c : Cert (n + 1) G2 S2 lt2 H2) : More n a G1 S1 lt1 H1 := by
  have hle := h.le
  have h0 := h.lo 0 (Nat.zero_le _)
  have ha : H2 a ≠ 0 := fun e => by
    have h1 := h.hi a (Nat.le_refl _); have h2 := h.lo a (Nat.le_refl _); have h3 := c.low (a + 1) (by omega); omega
  have down : ∀ b, H2 b = 0 → (b < a ∧ H1 b = if b < a then 0 else 1) ∨ (a + 1 ≤ b ∧ H1 (b - 1) = if b - 1 < a then 0 else 1) := fun b hb => by
    by_cases e : b < a
    · exact .inl ⟨e, by rw [if_pos e, ← h.lo b (by omega), hb]⟩
    · by_cases e' : b = a
      · subst e'; exact absurd hb ha
      · have := h.hi (b - 1) (by omega); rw [show b - 1 + 1 = b by omega] at this
        exact .inr ⟨by omega, by rw [if_neg (by omega)]; omega⟩
  refine ⟨hle, fun p hp => ?_, ?_, fun i j hi hj _ hg hs hl => ?_, fun hf j hj hs => ?_⟩
  · by_cases e : p < a
    · rw [if_pos e, ← h.lo p (by omega)]; exact c.low p (by omega)
    · rw [if_neg e]
      have := h.hi p (by omega); have := c.low (p + 1) (by omega); omega
  · have := h.hi n hle; rw [c.fin] at this; omega
  · obtain ⟨b, h1, h2, h3⟩ := c.two _ _ ((sh_bd hle).2 hi) ((sh_bd hle).2 hj) ((h.g _).2 hg) ((h.s _).2 hs) ((h.l _ _).2 hl)
    have := sh_cases a i; have := sh_cases a j
    rcases down b h3 with ⟨e1, e2⟩ | ⟨e1, e2⟩
    · exact ⟨b, by omega, by omega, e2⟩
    · exact ⟨b - 1, by omega, by omega, e2⟩
  · obtain ⟨b, h2, h3⟩ := c.free (by omega) _ ((sh_bd hle).2 hj) ((h.s _).2 hs)
    have := sh_cases a j
    rcases down b h3 with ⟨e1, e2⟩ | ⟨e1, e2⟩
    · exact ⟨b, by omega, e2⟩
    · exact ⟨b - 1, by omega, e2⟩
theorem Ins.revG (h : Ins n a 1 G1 S1 lt1 H1 G2 S2 lt2 H2) (c : Cert (n + 1) G2 S2 lt2 H2) : Less n (a + 1) G1 S1 lt1 H1 := by
  have hle := h.le
  have h0 := h.lo 0 (Nat.zero_le _)
  have h1a := h.hi a (Nat.le_refl _)
  have h2a := h.lo a (Nat.le_refl _)
  have h3a := c.low a (by omega)
  have han : a + 1 ≤ n := Classical.byContradiction fun hn => by
    have : a = n := by omega
    subst this; rw [c.fin] at h1a; omega
  have down : ∀ b, H2 b = 0 → (b ≤ a ∧ H1 b = if b < a + 1 then 0 else -1) ∨ (a + 2 ≤ b ∧ H1 (b - 1) = if b - 1 < a + 1 then 0 else -1) := fun b hb => by
    by_cases e : b ≤ a
    · exact .inl ⟨e, by rw [if_pos (by omega), ← h.lo b e, hb]⟩
    · by_cases e' : b = a + 1
      · subst e'; omega
      · have := h.hi (b - 1) (by omega); rw [show b - 1 + 1 = b by omega] at this
        exact .inr ⟨by omega, by rw [if_neg (by omega)]; omega⟩
  refine ⟨han, fun p hp => ?_, ?_, fun i j hi hj hg hs hl => ?_, fun hf j hj hs => ?_⟩
  · by_cases e : p < a + 1
    · rw [if_pos e, ← h.lo p (by omega)]; exact c.low p (by omega)
    · rw [if_neg e]
      have := h.hi p (by omega); have := c.low (p + 1) (by omega); omega
  · have := h.hi n hle; rw [c.fin] at this; omega
  · obtain ⟨b, h1, h2, h3⟩ := c.two _ _ ((sh_bd hle).2 hi) ((sh_bd hle).2 hj) ((h.g _).2 hg) ((h.s _).2 hs) ((h.l _ _).2 hl)
    have := sh_cases a i; have := sh_cases a j
    rcases down b h3 with ⟨e1, e2⟩ | ⟨e1, e2⟩
    · exact ⟨b, by omega, by omega, e2⟩
    · exact ⟨b - 1, by omega, by omega, e2⟩
  · obtain ⟨b, h2, h3⟩ := c.free (by omega) _ ((sh_bd hle).2 hj) ((h.s _).2 hs)
    have := sh_cases a j
    rcases down b h3 with ⟨e1, e2⟩ | ⟨e1, e2⟩
    · exact ⟨b, by omega, e2⟩
    · exact ⟨b - 1, by omega, e2⟩
theorem Ins.revS (h : Ins n a 0 G1 S1 lt1 H1 G2 S2 lt2 H2) (c : Cert (n + 1) G2 S2 lt2 H2) : Cert n G1 S1 lt1 H1 := by
  have hle := h.le
  have h0 := h.lo 0 (Nat.zero_le _)
  have down : ∀ b, H2 b = 0 → (b ≤ a ∧ H1 b = 0) ∨ (a + 1 ≤ b ∧ H1 (b - 1) = 0) := fun b hb => by
    by_cases e : b ≤ a
    · exact .inl ⟨e, by rw [← h.lo b e, hb]⟩
    · have := h.hi (b - 1) (by omega); rw [show b - 1 + 1 = b by omega] at this
      exact .inr ⟨by omega, by omega⟩
  refine ⟨fun p hp => ?_, ?_, fun i j hi hj hg hs hl => ?_, fun hf j hj hs => ?_⟩
  · by_cases e : p ≤ a
    · rw [← h.lo p e]; exact c.low p (by omega)
    · have := h.hi p (by omega); have := c.low (p + 1) (by omega); omega
  · have := h.hi n hle; rw [c.fin] at this; omega
  · obtain ⟨b, h1, h2, h3⟩ := c.two _ _ ((sh_bd hle).2 hi) ((sh_bd hle).2 hj) ((h.g _).2 hg) ((h.s _).2 hs) ((h.l _ _).2 hl)
    have := sh_cases a i; have := sh_cases a j
    rcases down b h3 with ⟨e1, e2⟩ | ⟨e1, e2⟩
    · exact ⟨b, by omega, by omega, e2⟩
    · exact ⟨b - 1, by omega, by omega, e2⟩
  · obtain ⟨b, h2, h3⟩ := c.free (by omega) _ ((sh_bd hle).2 hj) ((h.s _).2 hs)
    have := sh_cases a j
    rcases down b h3 with ⟨e1, e2⟩ | ⟨e1, e2⟩
    · exact ⟨b, by omega, e2⟩
    · exact ⟨b - 1, by omega, e2⟩
end
end Go.Proofs.YtpeoalmhccmdiaaGreat.PQ
namespace Go.Proofs.YtpeoalmhccmdiaaGreat
open Go Go.Proofs.YtpeoalmhccmdiaaGreat.Sx
theorem w64_id {x : Int} (h0 : -9223372036854775808 ≤ x) (h1 : x < 9223372036854775808) : w64 x = x := by simp only [w64, IntKind.wrap_i64]; omega
theorem w64_succ {i : Nat} (h : i < 4611686018427387904) : w64 ((i : Int) + 1) = ((i + 1 : Nat) : Int) := by rw [w64_id (by omega) (by omega)]; omega
theorem atL_nat {α : Type} {l : List α} {i : Nat} {x : α} (h : l[i]? = some x) : atL l (i : Int) = some x := by
  unfold atL
  have : ¬ ((i : Int) < 0) := by omega
  simp [this, h]
theorem drop_cons {α : Type} {l : List α} {i : Nat} (h : i < l.length) : ∃ x, l[i]? = some x ∧ l.drop i = x :: l.drop (i + 1) :=
  ⟨l[i], List.getElem?_eq_getElem h, List.drop_eq_getElem_cons h⟩
theorem dec_lt {i n : Nat} (h : i < n) : decide ((i : Int) < (n : Int)) = true := by simp; omega
theorem dec_nlt {i n : Nat} (h : n ≤ i) : decide ((i : Int) < (n : Int)) = false := by simp; omega
end Go.Proofs.YtpeoalmhccmdiaaGreat
namespace Go.Proofs.YtpeoalmhccmdiaaGreat
open Go Go.Proofs.YtpeoalmhccmdiaaGreat.Sx
def lowF : List Int → Int
  | [] => 0
  | [x] => x
  | x :: y :: l => min x (x + lowF (y :: l))
def tideF (ns : List Int) : TTide := ⟨ns.length, ns.sum, lowF ns⟩
theorem lowF_append : ∀ (a b : List Int), a ≠ [] → b ≠ [] → lowF (a ++ b) = min (lowF a) (a.sum + lowF b)
  | [x], b, _, hb => by
    cases b with
    | nil => exact absurd rfl hb
    | cons y l => simp [lowF]
  | x :: y :: l, b, _, hb => by
    have ih := lowF_append (y :: l) b (by simp) hb
    have e : lowF (x :: y :: l ++ b) = min x (x + lowF (y :: l ++ b)) := by simp [lowF]
    rw [e, ih]
    have e2 : lowF (x :: y :: l) = min x (x + lowF (y :: l)) := rfl
    have e3 : (x :: y :: l).sum = x + (y :: l).sum := by simp
    rw [e2, e3]
    omega
  | [], _, h, _ => absurd rfl h
def smallN (ns : List Int) : Prop := ∀ x ∈ ns, -1099511627776 ≤ x ∧ x ≤ 1099511627776
theorem smallN.append {a b : List Int} (ha : smallN a) (hb : smallN b) : smallN (a ++ b) := fun x hx => (List.mem_append.1 hx).elim (ha x) (hb x)
theorem smallN.left {a b : List Int} (h : smallN (a ++ b)) : smallN a := fun x hx => h x (List.mem_append_left _ hx)
theorem smallN.right {a b : List Int} (h : smallN (a ++ b)) : smallN b := fun x hx => h x (List.mem_append_right _ hx)
theorem smallN.take {a : List Int} (h : smallN a) (i : Nat) : smallN (a.take i) := fun x hx => h x (List.mem_of_mem_take hx)
theorem sum_bound : ∀ {ns : List Int}, smallN ns → -1099511627776 * (ns.length : Int) ≤ ns.sum ∧ ns.sum ≤ 1099511627776 * (ns.length : Int)
  | [], _ => by simp
  | x :: l, h => by
    have h1 := h x List.mem_cons_self
    have h2 := sum_bound (ns := l) (fun y hy => h y (List.mem_cons_of_mem _ hy))
    simp only [List.sum_cons, List.length_cons]
    omega
theorem low_bound : ∀ {ns : List Int}, smallN ns → -1099511627776 * (ns.length : Int) ≤ lowF ns ∧ lowF ns ≤ 1099511627776 * (ns.length : Int)
  | [], _ => by simp [lowF]
  | [x], h => by have := h x List.mem_cons_self; simp [lowF]; omega
  | x :: y :: l, h => by
    have h1 := h x List.mem_cons_self
    have h2 := low_bound (ns := y :: l) (fun z hz => h z (List.mem_cons_of_mem _ hz))
    have e : lowF (x :: y :: l) = min x (x + lowF (y :: l)) := rfl
    simp only [List.length_cons] at h2 ⊢
    rw [e]
    omega
theorem tidePlus_eq (k : Nat) {a b : List Int} (h : smallN (a ++ b)) (hl : (a ++ b).length < 1000000) : tide_Tide_Plus.f k (tideF a) (tideF b) = some (tideF (a ++ b)) := by
  have ha := sum_bound h.left
  have hb := sum_bound h.right
  have la := low_bound h.left
  have lb := low_bound h.right
  simp only [List.length_append] at hl
  unfold tide_Tide_Plus.f
  by_cases h1 : a = []
  · subst h1; simp [tideF]
  · have p1 : a.length ≠ 0 := fun e => h1 (List.eq_nil_of_length_eq_zero e)
    by_cases h2 : b = []
    · subst h2
      have : ((tideF a).n == 0) = false := by simp [tideF]; exact h1
      simp only [this, cond_false]; simp [tideF]
    · have p2 : b.length ≠ 0 := fun e => h2 (List.eq_nil_of_length_eq_zero e)
      have e1 : ((a.length : Int) == 0) = false := by simp; exact h1
      have e2 : ((b.length : Int) == 0) = false := by simp; exact h2
      simp only [tideF, e1, e2, cond_false]
      rw [w64_id (by omega) (by omega), w64_id (by omega) (by omega), w64_id (by omega) (by omega), lowF_append a b h1 h2, List.sum_append, List.length_append]
      have e : gmin (lowF a) (a.sum + lowF b) = min (lowF a) (a.sum + lowF b) := by unfold gmin; split <;> omega
      rw [e, Int.natCast_add]
theorem tideOf_loop (k : Nat) (l : List Int) (hs : smallN l) (hl : l.length < 1000000) : ∀ (d i n : Nat), i + d = l.length → d < n → tide_Of.l0 k l n (tideF (l.take i), (i : Int)) = some (tideF l)
  | d, i, 0, _, h => by omega
  | 0, i, n + 1, hi, _ => by
    simp only [tide_Of.l0]
    rw [dec_nlt (by omega), List.take_of_length_le (by omega)]; rfl
  | d + 1, i, n + 1, hi, hn => by
    obtain ⟨x, hx, hdr⟩ := drop_cons (l := l) (i := i) (by omega)
    have ht : l.take (i + 1) = l.take i ++ [x] := by rw [List.take_add_one, hx]; rfl
    have e1 : (⟨1, x, x⟩ : TTide) = tideF [x] := by simp [tideF, lowF]
    simp only [tide_Of.l0]
    rw [dec_lt (by omega)]
    simp only [cond_true, atL_nat hx, Option.bind_some, e1]
    rw [tidePlus_eq k (by rw [← ht]; exact hs.take _) (by rw [← ht]; simp; omega)]
    simp only [Option.bind_some, w64_succ (i := i) (by omega), ← ht]
    exact tideOf_loop k l hs hl d (i + 1) n (by omega) (by omega)
theorem tideOf_eq (k : Nat) {l : List Int} (hs : smallN l) (hl : l.length < 1000000) (hk : l.length < k) : tide_Of.f k l = some (tideF l) := by
  have := tideOf_loop k l hs hl l.length 0 k (by omega) hk
  have e : tide_Of.l0 k l k (zTTide, 0) = some (tideF l) := this
  unfold tide_Of.f; rw [e]; rfl
end Go.Proofs.YtpeoalmhccmdiaaGreat
namespace Go.Proofs.YtpeoalmhccmdiaaGreat
open Go Go.Proofs.YtpeoalmhccmdiaaGreat.Sx
def ilt (a b : TItem) : Prop := a.key < b.key ∨ (a.key = b.key ∧ a.id < b.id)
def ile (a b : TItem) : Prop := a.key < b.key ∨ (a.key = b.key ∧ a.id ≤ b.id)
instance (a b : TItem) : Decidable (ilt a b) := by unfold ilt; infer_instance
instance (a b : TItem) : Decidable (ile a b) := by unfold ile; infer_instance
theorem item_ext {a b : TItem} (h1 : a.key = b.key) (h2 : a.id = b.id) : a = b := by cases a; cases b; simp_all
theorem ile_refl (a : TItem) : ile a a := by unfold ile; omega
theorem ile_trans {a b c : TItem} (h : ile a b) (h' : ile b c) : ile a c := by unfold ile at *; omega
theorem ile_antisymm {a b : TItem} (h : ile a b) (h' : ile b a) : a = b := by unfold ile at *; exact item_ext (by omega) (by omega)
theorem not_ilt {a b : TItem} : ¬ ilt a b ↔ ile b a := by unfold ilt ile; omega
theorem ilt_ile {a b : TItem} (h : ilt a b) : ile a b := by unfold ilt at h; unfold ile; omega
theorem ilt_iff {a b : TItem} : ilt a b ↔ ile a b ∧ a ≠ b := by
  constructor
  · intro h; exact ⟨ilt_ile h, fun e => by subst e; unfold ilt at h; omega⟩
  · rintro ⟨h, hn⟩
    rcases Classical.em (ilt a b) with h1 | h1
    · exact h1
    · exact absurd (ile_antisymm h (not_ilt.1 h1)) hn
theorem ilt_trans_le {a b c : TItem} (h : ilt a b) (h' : ile b c) : ilt a c := by unfold ilt ile at *; omega
theorem ilt_irrefl (a : TItem) : ¬ ilt a a := by unfold ilt; omega
def isgn (a b : TItem) : Int := if ilt a b then -1 else if ilt b a then 1 else 0
def csgn (a b : Int) : Int := if a < b then -1 else if b < a then 1 else 0
theorem cmpCompare_eq (k : Nat) (a b : Int) : cmp_Compare.f k a b = some (csgn a b) := by
  unfold cmp_Compare.f cmp_isNaN.f csgn
  by_cases h1 : a < b
  · simp [h1]
  · by_cases h2 : b < a
    · simp [h1, h2]
    · simp [h1, h2]
theorem cmpOr_eq (k : Nat) (hk : 3 ≤ k) (a b : Int) : cmp_Or.f k [a, b] = some (if a ≠ 0 then a else b) := by
  obtain ⟨m, rfl⟩ : ∃ m, k = m + 3 := ⟨k - 3, by omega⟩
  unfold cmp_Or.f
  have e1 : w64 (0 + 1) = 1 := by decide
  have e2 : w64 1 = 1 := by decide
  have e3 : w64 2 = 2 := by decide
  by_cases h1 : a = 0
  · subst h1
    by_cases h2 : b = 0
    · subst h2; simp [cmp_Or.l0, atL, e1, e2, e3]
    · have h3 : (b != 0) = true := by simpa using h2
      simp [cmp_Or.l0, atL, e1, e2, e3, h2, h3]
  · have h3 : (a != 0) = true := by simpa using h1
    simp [cmp_Or.l0, atL, e1, e2, e3, h1, h3]
theorem itemCompare_eq (k : Nat) (hk : 3 ≤ k) (a b : TItem) : item_Compare.f k a b = some (isgn a b) := by
  unfold item_Compare.f
  simp only [cmpCompare_eq, Option.bind_some, cmpOr_eq k hk]
  congr 1
  unfold csgn isgn ilt
  by_cases h1 : a.key < b.key
  · simp [h1]
  · by_cases h2 : b.key < a.key
    · have h3 : ¬ a.key = b.key := by omega
      have h4 : ¬ b.key = a.key := by omega
      simp [h1, h2, h3, h4]
    · have h3 : a.key = b.key := by omega
      simp [h3]
end Go.Proofs.YtpeoalmhccmdiaaGreat
namespace Go.Proofs.YtpeoalmhccmdiaaGreat
open Go Go.Proofs.YtpeoalmhccmdiaaGreat.Sx
def IsMax (xs : List TItem) (t : TTook) : Prop := (xs = [] ∧ t = zTTook) ∨ (t.found = true ∧ t.item ∈ xs ∧ ∀ y ∈ xs, ile y t.item)
def IsMin (xs : List TItem) (t : TTook) : Prop := (xs = [] ∧ t = zTTook) ∨ (t.found = true ∧ t.item ∈ xs ∧ ∀ y ∈ xs, ile t.item y)
theorem IsMax.nil : IsMax [] zTTook := .inl ⟨rfl, rfl⟩
theorem IsMin.nil : IsMin [] zTTook := .inl ⟨rfl, rfl⟩
theorem IsMax.one (x : TItem) : IsMax [x] ⟨true, x⟩ := .inr ⟨rfl, by simp, fun y hy => by simp at hy; subst hy; exact ile_refl _⟩
theorem IsMin.one (x : TItem) : IsMin [x] ⟨true, x⟩ := .inr ⟨rfl, by simp, fun y hy => by simp at hy; subst hy; exact ile_refl _⟩
theorem isgn_lt {a b : TItem} : isgn a b < 0 ↔ ilt a b := by
  unfold isgn
  by_cases h1 : ilt a b
  · simp [h1]
  · by_cases h2 : ilt b a <;> simp [h1, h2]
theorem isgn_gt {a b : TItem} : isgn a b > 0 ↔ ilt b a := by
  unfold isgn
  by_cases h1 : ilt a b
  · have : ¬ ilt b a := fun h => ilt_irrefl a (ilt_trans_le h1 (ilt_ile h))
    simp [h1, this]
  · by_cases h2 : ilt b a <;> simp [h1, h2]
theorem isgn_cases (a b : TItem) : isgn a b = -1 ∨ isgn a b = 0 ∨ isgn a b = 1 := by
  unfold isgn; split
  · exact .inl rfl
  · split
    · exact .inr (.inr rfl)
    · exact .inr (.inl rfl)
theorem betterMax (k : Nat) (hk : 3 ≤ k) {xs ys : List TItem} {a b : TTook} (ha : IsMax xs a) (hb : IsMax ys b) : ∃ c, wave_better.f k (-1) a b = some c ∧ IsMax (xs ++ ys) c := by
  unfold wave_better.f
  rcases ha with ⟨rfl, rfl⟩ | ⟨h1, h2, h3⟩
  · exact ⟨b, rfl, hb⟩
  · simp only [h1, Bool.not_true, cond_false]
    rcases hb with ⟨rfl, rfl⟩ | ⟨g1, g2, g3⟩
    · exact ⟨a, rfl, .inr ⟨h1, by simpa using h2, by simpa using h3⟩⟩
    · simp only [g1, cond_true, itemCompare_eq k hk, Option.bind_some]
      have e : w64 (-1 * isgn b.item a.item) = -1 * isgn b.item a.item := by rcases isgn_cases b.item a.item with h | h | h <;> rw [h] <;> rfl
      rw [e]
      by_cases hc : isgn b.item a.item > 0
      · have : decide (-1 * isgn b.item a.item < 0) = true := by simp; omega
        rw [this]
        have hlt := isgn_gt.1 hc
        refine ⟨b, rfl, .inr ⟨g1, List.mem_append_right _ g2, fun y hy => ?_⟩⟩
        rcases List.mem_append.1 hy with hy | hy
        · exact ile_trans (h3 y hy) (ilt_ile hlt)
        · exact g3 y hy
      · have : decide (-1 * isgn b.item a.item < 0) = false := by simp; omega
        rw [this]
        have hle : ile b.item a.item := not_ilt.1 (fun h => hc (isgn_gt.2 h))
        refine ⟨a, rfl, .inr ⟨h1, List.mem_append_left _ h2, fun y hy => ?_⟩⟩
        rcases List.mem_append.1 hy with hy | hy
        · exact h3 y hy
        · exact ile_trans (g3 y hy) hle
theorem betterMin (k : Nat) (hk : 3 ≤ k) {xs ys : List TItem} {a b : TTook} (ha : IsMin xs a) (hb : IsMin ys b) : ∃ c, wave_better.f k 1 a b = some c ∧ IsMin (xs ++ ys) c := by
  unfold wave_better.f
  rcases ha with ⟨rfl, rfl⟩ | ⟨h1, h2, h3⟩
  · exact ⟨b, rfl, hb⟩
  · simp only [h1, Bool.not_true, cond_false]
    rcases hb with ⟨rfl, rfl⟩ | ⟨g1, g2, g3⟩
    · exact ⟨a, rfl, .inr ⟨h1, by simpa using h2, by simpa using h3⟩⟩
    · simp only [g1, cond_true, itemCompare_eq k hk, Option.bind_some]
      have e : w64 (1 * isgn b.item a.item) = isgn b.item a.item := by rcases isgn_cases b.item a.item with h | h | h <;> rw [h] <;> rfl
      rw [e]
      by_cases hc : isgn b.item a.item < 0
      · have : decide (isgn b.item a.item < 0) = true := by simpa using hc
        rw [this]
        have hlt := isgn_lt.1 hc
        refine ⟨b, rfl, .inr ⟨g1, List.mem_append_right _ g2, fun y hy => ?_⟩⟩
        rcases List.mem_append.1 hy with hy | hy
        · exact ile_trans (ilt_ile hlt) (h3 y hy)
        · exact g3 y hy
      · have : decide (isgn b.item a.item < 0) = false := by simpa using hc
        rw [this]
        have hle : ile a.item b.item := not_ilt.1 (fun h => hc (isgn_lt.2 h))
        refine ⟨a, rfl, .inr ⟨h1, List.mem_append_left _ h2, fun y hy => ?_⟩⟩
        rcases List.mem_append.1 hy with hy | hy
        · exact h3 y hy
        · exact ile_trans hle (g3 y hy)
def mcnt (m : TMark) : Int := if m.op.insert then 1 else -1
def mwt (m : TMark) : Int := if m.op.insert then (if m.here then 0 else 1) else -1
def dels (l : List TMark) : List TMark := l.filter (fun m => !m.op.insert)
def frees (l : List TMark) : List TMark := l.filter (fun m => !m.op.insert && !m.took.found)
def tookI (l : List TMark) : List TItem := (l.filter (fun m => !m.op.insert && m.took.found)).map (·.took.item)
def goneI (l : List TMark) : List TItem := (l.filter (fun m => m.op.insert && !m.here)).map (·.op.item)
def hereI (l : List TMark) : List TItem := (l.filter (fun m => m.op.insert && m.here)).map (·.op.item)
structure IsSwell (s : TSwell) (l : List TMark) : Prop where
  count : s.count = tideF (l.map mcnt)
  weight : s.weight = tideF (l.map mwt)
  deletes : s.deletes = ((dels l).length : Int)
  free : s.free = ((frees l).length : Int)
  most : ∃ t, IsMax (tookI l) t ∧ s.most = t.item
  gone : IsMax (goneI l) s.gone
  least : IsMin (hereI l) s.least
theorem IsSwell.nil : IsSwell zTSwell [] := ⟨rfl, rfl, rfl, rfl, ⟨_, IsMax.nil, rfl⟩, IsMax.nil, IsMin.nil⟩
theorem small_cnt (l : List TMark) : smallN (l.map mcnt) := by
  intro x hx
  obtain ⟨m, _, rfl⟩ := List.mem_map.1 hx
  unfold mcnt; split <;> omega
theorem small_wt (l : List TMark) : smallN (l.map mwt) := by
  intro x hx
  obtain ⟨m, _, rfl⟩ := List.mem_map.1 hx
  unfold mwt
  split
  · split <;> omega
  · omega
theorem dels_len (l : List TMark) : (dels l).length = (frees l).length + (tookI l).length := by
  induction l with
  | nil => rfl
  | cons m l ih =>
    unfold dels frees tookI at *
    cases h1 : m.op.insert <;> cases h2 : m.took.found <;> simp [List.filter_cons, h1, h2] at ih ⊢ <;> omega
theorem taken_max (k : Nat) {s : TSwell} {l : List TMark} (h : IsSwell s l) : ∃ t, wave_Swell_taken.f k s = some t ∧ IsMax (tookI l) t := by
  obtain ⟨a, ha, ha'⟩ := h.most
  have hl := dels_len l
  unfold wave_Swell_taken.f
  rw [h.deletes, h.free]
  by_cases h0 : tookI l = []
  · have : (((dels l).length : Int) == ((frees l).length : Int)) = true := by rw [hl, h0]; simp
    rw [this]; exact ⟨_, rfl, .inl ⟨h0, rfl⟩⟩
  · have hp : (tookI l).length ≠ 0 := fun e => h0 (List.eq_nil_of_length_eq_zero e)
    have : (((dels l).length : Int) == ((frees l).length : Int)) = false := by simp; omega
    rw [this]
    refine ⟨_, rfl, ?_⟩
    rcases ha with ⟨h1, _⟩ | ⟨h1, h2, h3⟩
    · exact absurd h1 h0
    · rw [ha']; exact .inr ⟨rfl, h2, h3⟩
theorem swellPlus (k : Nat) (hk : 3 ≤ k) {s t : TSwell} {l r : List TMark} (h : IsSwell s l) (g : IsSwell t r) (hl : (l ++ r).length < 1000000) : ∃ c, wave_Swell_Plus.f k s t = some c ∧ IsSwell c (l ++ r) := by
  obtain ⟨a, a1, a2⟩ := taken_max k h
  obtain ⟨b, b1, b2⟩ := taken_max k g
  obtain ⟨x5, c1, c2⟩ := betterMax k hk a2 b2
  obtain ⟨x6, d1, d2⟩ := betterMax k hk h.gone g.gone
  obtain ⟨x7, e1, e2⟩ := betterMin k hk h.least g.least
  have q1 : (dels l).length ≤ l.length := List.length_filter_le _ _
  have q2 : (dels r).length ≤ r.length := List.length_filter_le _ _
  have q3 : (frees l).length ≤ l.length := List.length_filter_le _ _
  have q4 : (frees r).length ≤ r.length := List.length_filter_le _ _
  rw [List.length_append] at hl
  unfold wave_Swell_Plus.f
  rw [h.count, g.count, h.weight, g.weight, tidePlus_eq k (by rw [← List.map_append]; exact small_cnt _) (by simp; omega), tidePlus_eq k (by rw [← List.map_append]; exact small_wt _) (by simp; omega), a1, b1]
  simp only [Option.bind_some, c1, d1, e1]
  refine ⟨_, rfl, ?_⟩
  constructor
  · show tideF _ = _; rw [List.map_append]
  · show tideF _ = _; rw [List.map_append]
  · show w64 _ = _; rw [h.deletes, g.deletes, w64_id (by omega) (by omega)]; simp [dels]
  · show w64 _ = _; rw [h.free, g.free, w64_id (by omega) (by omega)]; simp [frees]
  · refine ⟨x5, ?_, rfl⟩; simpa [tookI] using c2
  · simpa [goneI] using d2
  · simpa [hereI] using e2
theorem smallN1 {x : Int} (h : -1099511627776 ≤ x ∧ x ≤ 1099511627776) : smallN [x] := fun y hy => by simp at hy; subst hy; exact h
theorem markSum (k : Nat) (hk : 3 ≤ k) (m : TMark) : ∃ s, wave_Mark_Sum.f k m = some s ∧ IsSwell s [m] := by
  have t1 : tide_Of.f k [1] = some (tideF [1]) := tideOf_eq k (smallN1 (by omega)) (by simp) (by simp; omega)
  have t0 : tide_Of.f k [0] = some (tideF [0]) := tideOf_eq k (smallN1 (by omega)) (by simp) (by simp; omega)
  have tm : tide_Of.f k [-1] = some (tideF [-1]) := tideOf_eq k (smallN1 (by omega)) (by simp) (by simp; omega)
  unfold wave_Mark_Sum.f
  cases h1 : m.op.insert
  · cases h2 : m.took.found
    · simp only [cond_false, Option.bind_some, Sum.elim_inr, tm]
      exact ⟨_, rfl, by simp [mcnt, h1], by simp [mwt, h1], by simp [dels, h1], by simp [frees, h1, h2], ⟨_, by simp [tookI, h1, h2]; exact IsMax.nil, rfl⟩, by simp [goneI, h1]; exact IsMax.nil, by simp [hereI, h1]; exact IsMin.nil⟩
    · simp only [cond_false, cond_true, Option.bind_some, Sum.elim_inr, tm]
      exact ⟨_, rfl, by simp [mcnt, h1], by simp [mwt, h1], by simp [dels, h1], by simp [frees, h1, h2], ⟨⟨true, m.took.item⟩, by simp [tookI, h1, h2]; exact IsMax.one _, rfl⟩, by simp [goneI, h1]; exact IsMax.nil, by simp [hereI, h1]; exact IsMin.nil⟩
  · cases h2 : m.here
    · simp only [cond_false, cond_true, Option.bind_some, Sum.elim_inl, t1]
      exact ⟨_, rfl, by simp [mcnt, h1], by simp [mwt, h1, h2], by simp [dels, h1], by simp [frees, h1], ⟨_, by simp [tookI, h1]; exact IsMax.nil, rfl⟩, by simp [goneI, h1, h2]; exact IsMax.one _, by simp [hereI, h1, h2]; exact IsMin.nil⟩
    · simp only [cond_true, Option.bind_some, Sum.elim_inl, t1, t0]
      exact ⟨_, rfl, by simp [mcnt, h1], by simp [mwt, h1, h2], by simp [dels, h1], by simp [frees, h1], ⟨_, by simp [tookI, h1]; exact IsMax.nil, rfl⟩, by simp [goneI, h1, h2]; exact IsMax.nil, by simp [hereI, h1, h2]; exact IsMin.one _⟩
end Go.Proofs.YtpeoalmhccmdiaaGreat
namespace Go.Proofs.YtpeoalmhccmdiaaGreat
open Go Go.Proofs.YtpeoalmhccmdiaaGreat.Sx
theorem item_eq {a b : TItem} (h1 : ¬ ilt a b) (h2 : ¬ ilt b a) : a = b := by
  unfold ilt at *; exact item_ext (by omega) (by omega)
instance : DecidableEq TItem := fun a b => if h : a.key = b.key ∧ a.id = b.id then .isTrue (item_ext h.1 h.2) else .isFalse (fun e => h (by rw [e]; exact ⟨rfl, rfl⟩))
def wts (m : List TMark) : List Int := m.map mwt
def hgt (m : List TMark) (base : Int) (n : Nat) : Int := base + ((wts m).take n).sum
def isG (x : TMark) : Prop := x.op.insert = true ∧ x.here = false
def isS (x : TMark) : Prop := x.op.insert = true ∧ x.here = true
def atG (m : List TMark) (i : Nat) : Prop := ∃ x, m[i]? = some x ∧ isG x
def atS (m : List TMark) (i : Nat) : Prop := ∃ x, m[i]? = some x ∧ isS x
def ltI (m : List TMark) (i j : Nat) : Prop := ∃ x y, m[i]? = some x ∧ m[j]? = some y ∧ ilt x.op.item y.op.item
def CertM (m : List TMark) (E : Int) : Prop := PQ.Cert m.length (atG m) (atS m) (ltI m) (hgt m E)
def Dist (m : List TMark) : Prop := ∀ (i j : Nat) (x y : TMark), m[i]? = some x → m[j]? = some y → x.op.insert = true → y.op.insert = true → x.op.item = y.op.item → i = j
theorem hgt_succ {m : List TMark} {E : Int} {i : Nat} {x : TMark} (h : m[i]? = some x) : hgt m E (i + 1) = hgt m E i + mwt x := by
  unfold hgt
  have : (wts m)[i]? = some (mwt x) := by simp [wts, h]
  rw [List.take_add_one, this, List.sum_append]; simp [Int.add_assoc]
theorem hereI_app (a b : List TMark) : hereI (a ++ b) = hereI a ++ hereI b := by simp [hereI]
theorem goneI_app (a b : List TMark) : goneI (a ++ b) = goneI a ++ goneI b := by simp [goneI]
theorem mem_hereI {m : List TMark} {x : TItem} : x ∈ hereI m ↔ ∃ (i : Nat) (y : TMark), m[i]? = some y ∧ isS y ∧ y.op.item = x := by
  unfold hereI isS
  simp only [List.mem_map, List.mem_filter, Bool.and_eq_true]
  constructor
  · rintro ⟨y, ⟨h1, h2⟩, h3⟩
    obtain ⟨i, hi⟩ := List.mem_iff_getElem?.1 h1
    exact ⟨i, y, hi, h2, h3⟩
  · rintro ⟨i, y, h1, h2, h3⟩; exact ⟨y, ⟨List.mem_of_getElem? h1, h2⟩, h3⟩
theorem mem_goneI {m : List TMark} {x : TItem} : x ∈ goneI m ↔ ∃ (i : Nat) (y : TMark), m[i]? = some y ∧ isG y ∧ y.op.item = x := by
  unfold goneI isG
  simp only [List.mem_map, List.mem_filter, Bool.and_eq_true, Bool.not_eq_true']
  constructor
  · rintro ⟨y, ⟨h1, h2⟩, h3⟩
    obtain ⟨i, hi⟩ := List.mem_iff_getElem?.1 h1
    exact ⟨i, y, hi, h2, h3⟩
  · rintro ⟨i, y, h1, h2, h3⟩; exact ⟨y, ⟨List.mem_of_getElem? h1, h2⟩, h3⟩
theorem take_get {α : Type} {l : List α} {p i : Nat} {x : α} (h : (l.take p)[i]? = some x) : i < p ∧ l[i]? = some x := by
  rw [List.getElem?_take] at h
  split at h
  · rename_i hi; exact ⟨hi, h⟩
  · cases h
end Go.Proofs.YtpeoalmhccmdiaaGreat

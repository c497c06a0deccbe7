/- My texts that the proof of FuseParts rests on, part 5: a calculus of walks, the walks, and the plain law. -/
import Derived.KernelRfl
import Derived.Test.YtpeoalmhccmdiaaGreatFpd
set_option linter.unusedVariables false
set_option linter.unusedSimpArgs false
namespace Go.Proofs.YtpeoalmhccmdiaaGreat
open Go Go.Proofs.YtpeoalmhccmdiaaGreat.Sx
abbrev Tree_RankS_st (p1 : Pool (TNode TSlot TSize)) (rt0 : TRef) (a1 : TSlot) (r : Int) (m0 : Nat) (m1 : Nat) : Prop := SCon Tryz.prog 151 [SV.p m0 0, .a (.agg ((eTSlot a1).map .v))] [(m0, blk m0 [.p m1 0, .i rt0.index, .i rt0.gen] 131), (m1, plS m1 p1)] (.a (.c (.v (.int .i64 r)))) [(m0, blk m0 [.p m1 0, .i rt0.index, .i rt0.gen] 131), (m1, plS m1 p1)] []
theorem Tree_RankS_con0 {k : Nat}  {p1 : Pool (TNode TSlot TSize)} {rt0 : TRef} {a1 : TSlot} {r : Int}  (H0 : Tree_Rank.f opsS k p1 rt0 a1 = some r) : Tree_RankS_st p1 rt0 a1 r 0 1 := by
 rw [Tree_Rank.f] at H0
 refine spec_of [(0, _), (1, _)] [(0, _), (1, _)] 36 Tryz.func151 R Tryz.ntmps151 R R R R (fun β W F => ?_)
 refine G.seq <| G.rg <| K.box Y 100 _ g0 R R R R R R <| K.as R R <| K.nil <| At.nr <| K.as R R <| K.nil <| At.next ?_
 obtain ⟨x1, H1, H0⟩ := bnd H0
 refine G.sJ (σ := { v : Int // x1 = v }) (fun q => [(5, .a (.c (.v (.int .i64 q.1))))]) (fun q => [(1, plS 1 p1), (0, blk 0 [.p 1 0, .v (.int .i64 rt0.index), .v (.int .i64 rt0.gen)] 131)]) ?_ ?_
 ·
  refine G.seq <| G.rg <| K.mv R R <| K.nilCheck g0 R R <| K.fieldAddr Y g0 R t131 R R <| K.loadS Y _ g0 R R t108 R R R <| K.alloc Y 101 _ g0 t108 R R R R R <| K.store Y _ g0 R R R t108 R R R R R <| K.nil <| At.next <| G.block <| G.lp (σ := { q : Nat × (Int × TRef) // Tree_Rank.l0 opsS k p1 a1 q.1 q.2 = some x1 }) (fun q => [(0, .a (.c (.p 0 0))), (3, .a (.c (.p 106 0))), (5, .a (.c (.v (.int .i64 q.1.2.1)))), (6, .a (.c (.p 107 0)))]) (fun q => [(1, plS 1 p1), (0, blk 0 [.p 1 0, .v (.int .i64 rt0.index), .v (.int .i64 rt0.gen)] 131), (106, blk 106 [.v (.int .i64 a1.item.key), .v (.int .i64 a1.item.id), .v (.bool a1.eaten), .v (.int .i64 a1.time)] 66), (107, blk 107 [.v (.int .i64 q.1.2.2.index), .v (.int .i64 q.1.2.2.gen)] 108)]) (fun q => q.1.1) ⟨(k, (0, rt0)), H1⟩ ?_ ?_
  · exact At.into [(106, 100), (107, 101)] [_, _, _, _] R ⟨R, R, R, R, trivial⟩ ⟨R, (pl_ren R), R, (blk_ren R R), R, (blk_ren R R), R, (blk_ren R R), trivial⟩ R
  ·
   rintro ⟨⟨n0, v1, v2⟩, H1⟩
   show G _ _ [(0, .a (.c (.p 0 0))), (3, .a (.c (.p 106 0))), (5, .a (.c (.v (.int .i64 v1)))), (6, .a (.c (.p 107 0)))] [(1, some (plS 1 p1)), (0, some (blk 0 [.p 1 0, .v (.int .i64 rt0.index), .v (.int .i64 rt0.gen)] 131)), (106, some (blk 106 [.v (.int .i64 a1.item.key), .v (.int .i64 a1.item.id), .v (.bool a1.eaten), .v (.int .i64 a1.time)] 66)), (107, some (blk 107 [.v (.int .i64 v2.index), .v (.int .i64 v2.gen)] 108))] _ _
   cases n0 with
   | zero => exact absurd H1 (by simp [Tree_Rank.l0])
   | succ n0 =>
    have HL0 := H1
    rw [Tree_Rank.l0] at H1
    refine G.seq <| G.seq <| G.rg <| K.fieldAddr Y g0 R t108 R R <| K.load1 Y g0 R R t3 R R <| K.bin (V := .bool (v2.gen != 0)) g0 R R (fun _ => R) R <| K.nil <| At.next <| G.cond R (fun h1 => ?_) (fun h1 => ?_)
    ·
     replace H1 := bif_t H1 h1
     refine G.skip <| At.ns <| G.block <| G.seq ?_
     obtain ⟨x2, hx2, H1⟩ := bnd H1
     refine G.rg <| K.mv R R <| K.loadS Y _ g0 R R t108 R R R <| K.cR (cf 79 R) (Tree_getS_con hx2 0 1) g0 R R R R <| K.alloc Y 108 _ g0 t127 R R R R R <| K.store Y _ g0 R R R t127 R R R R R <| K.nil <| At.ns <| G.seq ?_
     obtain ⟨x3, hx3, H1⟩ := bnd H1
     refine G.rg <| K.loadS Y _ g0 R R t66 R R R <| K.mkIface Y g0 R (mkI Tryz.underlying66 R) R <| K.fieldAddr Y g0 R t127 R R <| K.loadS Y _ g0 R R t66 R R R <| K.callR [((.tmp 19), _), ((.tmp 21), _)] (shelf_Slot_Compare_con (k := k) hx3) (toFn_invoke (cf 212 R) (me66_212) R) g0 ⟨R, R, trivial⟩ trivial R R R <| K.bin (V := .bool (decide (x3 ≤ 0))) g0 R R (fun _ => R) R <| K.nil <| At.next <| G.cond R (fun h2 => ?_) (fun h2 => ?_)
     ·
      replace H1 := bif_t H1 h2
      exact G.seq <| G.rg <| K.fieldAddr Y g0 R t127 R R <| K.loadS Y _ g0 R R t108 R R R <| K.store Y _ g0 R R R t108 R R R R R <| K.nil <| At.next <| G.exit <| At.over_exit <| At.block_hit <| At.nr <| K.loadS Y _ g0 R R t108 R R R <| K.nil <| At.next <| G.rg <| K.alloc Y 109 _ g0 t108 R R R R R <| K.store Y _ g0 R R R t108 R R R R R <| K.nil <| At.ag ⟨(n0, (v1, x2.left)), H1⟩ [(107, 109)] [_, _, _, _] (Nat.lt_succ_self _) R ⟨R, R, R, R, trivial⟩ ⟨R, (pl_ren R), R, (blk_ren R R), R, (blk_ren R R), R, (blk_ren R R), trivial⟩ R
     ·
      replace H1 := bif_f H1 h2
      refine G.skip <| At.ns ?_
      obtain ⟨x4, hx4, H1⟩ := bnd H1
      exact G.rg <| K.mv R R <| K.mv R R <| K.fieldAddr Y g0 R t127 R R <| K.loadS Y _ g0 R R t108 R R R <| K.cR (cf 144 R) (Tree_weightS_con hx4 0 1) g0 R R R R <| K.bin (V := .int .i64 (w64 (v1 + x4))) g0 R R (fun _ => R) R <| K.as R R <| K.nil <| At.next <| G.rg <| K.fieldAddr Y g0 R t127 R R <| K.loadS Y _ g0 R R t108 R R R <| K.store Y _ g0 R R R t108 R R R R R <| K.nil <| At.block_normal <| At.nr <| K.loadS Y _ g0 R R t108 R R R <| K.nil <| At.next <| G.rg <| K.alloc Y 110 _ g0 t108 R R R R R <| K.store Y _ g0 R R R t108 R R R R R <| K.nil <| At.ag ⟨(n0, ((w64 (v1 + x4)), x2.right)), H1⟩ [(107, 110)] [_, _, _, _] (Nat.lt_succ_self _) R ⟨R, R, R, R, trivial⟩ ⟨R, (pl_ren R), R, (blk_ren R R), R, (blk_ren R R), R, (blk_ren R R), trivial⟩ R
    ·
     replace H1 := bif_f H1 h1
     exact G.exit <| At.over_exit <| At.over_exit <| At.block_hit <| At.jd ⟨v1, oi H1⟩ [] [_, _] R ⟨R, trivial⟩ ⟨R, (pl_ren R), R, (blk_ren R R), trivial⟩ R
 ·
  rintro ⟨_, rfl⟩
  show G _ _ [(5, .a (.c (.v (.int .i64 x1))))] [(1, some (plS 1 p1)), (0, some (blk 0 [.p 1 0, .v (.int .i64 rt0.index), .v (.int .i64 rt0.gen)] 131))] _ _
  exact G.seq <| G.rg <| K.mv R R <| K.as R R <| K.nil <| At.next <| G.ret <| At.dr Y [4] R R (by cases H0; rfl) (by cases H0; rfl) R R R
theorem Tree_RankS_con {k : Nat}  {p1 : Pool (TNode TSlot TSize)} {rt0 : TRef} {a1 : TSlot} {r : Int}  (H0 : Tree_Rank.f opsS k p1 rt0 a1 = some r) (m0 m1 : Nat) : Tree_RankS_st p1 rt0 a1 r m0 m1 :=
 SCon.ren (rn [(0, m0), (1, m1)]) (Tree_RankS_con0 (k := k)   H0) ⟨(blk_ren R R), (pl_ren R), trivial⟩ ⟨(blk_ren R R), (pl_ren R), trivial⟩ (by simp) (by simp)
abbrev shelf_Above_st (p1 : Pool (TNode TSlot TSize)) (rt0 : TRef) (a1 : TItem) (r : Int) (m0 : Nat) (m1 : Nat) : Prop := SCon Tryz.prog 137 [SV.p m0 0, .a (.agg ((eTItem a1).map .v))] [(m0, blk m0 [.p m1 0, .i rt0.index, .i rt0.gen] 131), (m1, plS m1 p1)] (.a (.c (.v (.int .i64 r)))) [(m0, blk m0 [.p m1 0, .i rt0.index, .i rt0.gen] 131), (m1, plS m1 p1)] []
theorem shelf_Above_con0 {k : Nat}  {p1 : Pool (TNode TSlot TSize)} {rt0 : TRef} {a1 : TItem} {r : Int}  (H0 : shelf_Above.f k p1 rt0 a1 = some r) : shelf_Above_st p1 rt0 a1 r 0 1 := by
 rw [shelf_Above.f] at H0
 refine spec_of [(0, _), (1, _)] [(0, _), (1, _)] 28 Tryz.func137 R Tryz.ntmps137 R R R R (fun β W F => ?_)
 refine G.seq <| G.rg <| K.box Y 100 _ g0 R R R R R R <| K.as R R <| K.nil <| At.ns <| G.seq <| G.rg <| K.mv R R <| K.eqnil (V := false) g0 R R (pn_eql_some Tryz.underlying63) R <| K.nil <| At.next <| G.cond R (fun h1 => ?_) (fun h1 => ?_)
 · cases h1
 ·
  refine G.skip <| At.ns ?_
  obtain ⟨x1, hx1, H0⟩ := bnd H0
  obtain ⟨x2, hx2, H0⟩ := bnd H0
  obtain ⟨x3, hx3, H0⟩ := bnd H0
  refine G.rd mixed <| K.mv R R <| K.cR (cf 31 R) (Tree_LenS_con hx1 0 1) g0 R R R R <| K.mv R R <| K.loadS Y _ g0 R R t30 R R R <| K.cR (cf 65 R) (shelf_Of_con hx2) g0 R R R R <| K.cR (cf 151 R) (Tree_RankS_con hx3 0 1) g0 R R R R <| K.bin (V := .int .i64 (w64 (x1 - x3))) g0 R R (fun _ => R) R <| K.as R R <| K.nil <| And.intro (by kernel_rfl) <| At.ns <| G.seq ?_
  obtain ⟨x4, hx4, H0⟩ := bnd H0
  obtain ⟨x5, hx5, H0⟩ := bnd H0
  refine G.rg <| K.mv R R <| K.loadS Y _ g0 R R t30 R R R <| K.cR (cf 65 R) (shelf_Of_con hx4) g0 R R R R <| K.cR (cf 64 R) (Tree_FindS_con hx5 0 1) g0 R R R R <| K.mv R R <| K.extract g0 R R R <| K.extract g0 R R R <| K.alloc Y 101 _ g0 t66 R R R R R <| K.store Y _ g0 R R R t66 R R R R R <| K.as R R <| K.nil <| At.nr <| K.mv R R <| K.nil <| At.next <| G.cond R (fun h2 => ?_) (fun h2 => ?_)
  ·
   replace H0 := bif_t H0 h2
   exact G.rg <| K.mv R R <| K.bin (V := .int .i64 (w64 ((w64 (x1 - x3)) - 1))) g0 R R (fun _ => R) R <| K.as R R <| K.nil <| At.nr <| K.mv R R <| K.as R R <| K.nil <| At.next <| G.ret <| At.dr Y [4] R R (by cases H0; rfl) (by cases H0; rfl) R R R
  ·
   replace H0 := bif_f H0 h2
   exact G.skip <| At.nr <| K.mv R R <| K.as R R <| K.nil <| At.next <| G.ret <| At.dr Y [4] R R (by cases H0; rfl) (by cases H0; rfl) R R R
theorem shelf_Above_con {k : Nat}  {p1 : Pool (TNode TSlot TSize)} {rt0 : TRef} {a1 : TItem} {r : Int}  (H0 : shelf_Above.f k p1 rt0 a1 = some r) (m0 m1 : Nat) : shelf_Above_st p1 rt0 a1 r m0 m1 :=
 SCon.ren (rn [(0, m0), (1, m1)]) (shelf_Above_con0 (k := k)   H0) ⟨(blk_ren R R), (pl_ren R), trivial⟩ ⟨(blk_ren R R), (pl_ren R), trivial⟩ (by simp) (by simp)
abbrev fuse_part_ahead_st (A : List (Nat → Nat)) (Q : List TQueue) (a0 : TPart) (r : Int) (m0 : Nat) : Prop := SCon Tryz.prog 110 [.a (.agg (((eTPart A) a0).map .v))] [(m0, hp m0 tq A Q)] (.a (.c (.v (.int .i64 r)))) [(m0, hp m0 tq A Q)] []
theorem fuse_part_ahead_con0 {k : Nat} {A : List (Nat → Nat)} {Q : List TQueue} {a0 : TPart} {r : Int}  (hL_9 : A.length = Q.length) (H0 : fuse_part_ahead.f k Q a0 = some r) : fuse_part_ahead_st A Q a0 r 0 := by
 rw [fuse_part_ahead.f] at H0
 refine spec_of [(0, _)] [(0, _)] 17 Tryz.func110 R Tryz.ntmps110 R R R R (fun β W F => ?_)
 refine G.seq <| G.rg <| K.box Y 100 _ g0 R R R R R R <| K.as R R <| K.nil <| At.ns <| G.seq <| G.rg <| K.fieldAddr Y g0 R t140 R R <| K.fieldAddr Y g0 R t44 R R <| K.load1 Y g0 R R t4 R R <| K.un (V := .bool (!a0.floor.found)) g0 R (fun _ => R) R <| K.nil <| At.next <| G.cond R (fun h1 => ?_) (fun h1 => ?_)
 ·
  replace H0 := bif_t H0 h1
  exact G.seq <| G.rg <| K.as R R <| K.nil <| At.next <| G.ret <| At.over_ret <| At.dr Y [2] R R (by cases H0; rfl) (by cases H0; rfl) R R R
 ·
  replace H0 := bif_f H0 h1
  refine G.skip <| At.ns ?_
  obtain ⟨x1, hx1, H0⟩ := bnd H0
  obtain ⟨x2, hx2, H0⟩ := bnd H0
  obtain ⟨x3, hx3, H0⟩ := bnd H0
  obtain ⟨x4, hx4, H0⟩ := bnd H0
  exact G.rd mixed <| K.fieldAddr Y g0 R t140 R R <| K.load1 Y g0 R R t63 R R <| K.cR (cf 31 R) (onTree 0 hL_9 hx1 (Tree_LenS_con hx2 4 5) (Tree_LenS_con hx2 6 7) R R R R) g0 R R R R <| K.fieldAddr Y g0 R t140 R R <| K.load1 Y g0 R R t63 R R <| K.fieldAddr Y g0 R t140 R R <| K.fieldAddr Y g0 R t44 R R <| K.loadS Y _ g0 R R t30 R R R <| K.cR (cf 137 R) (onTree 0 hL_9 hx3 (shelf_Above_con hx4 4 5) (shelf_Above_con hx4 6 7) R R R R) g0 R R R R <| K.bin (V := .int .i64 (w64 (x2 - x4))) g0 R R (fun _ => R) R <| K.as R R <| K.nil <| And.intro (by kernel_rfl) <| At.next <| G.ret <| At.dr Y [2] R R (by cases H0; rfl) (by cases H0; rfl) R R R
theorem fuse_part_ahead_con {k : Nat} {A : List (Nat → Nat)} {Q : List TQueue} {a0 : TPart} {r : Int}  (hL_9 : A.length = Q.length) (H0 : fuse_part_ahead.f k Q a0 = some r) (m0 : Nat) : fuse_part_ahead_st A Q a0 r m0 :=
 SCon.ren (rn [(0, m0)]) (fuse_part_ahead_con0 (k := k)  hL_9 H0) ⟨(fun _ => R), trivial⟩ ⟨(fun _ => R), trivial⟩ (by simp) (by simp)
abbrev fuse_part_size_st (A : List (Nat → Nat)) (Q : List TQueue) (a0 : TPart) (r : Int) (m0 : Nat) : Prop := SCon Tryz.prog 83 [.a (.agg (((eTPart A) a0).map .v))] [(m0, hp m0 tq A Q)] (.a (.c (.v (.int .i64 r)))) [(m0, hp m0 tq A Q)] []
theorem fuse_part_size_con0 {k : Nat} {A : List (Nat → Nat)} {Q : List TQueue} {a0 : TPart} {r : Int}  (hL_9 : A.length = Q.length) (H0 : fuse_part_size.f k Q a0 = some r) : fuse_part_size_st A Q a0 r 0 := by
 rw [fuse_part_size.f] at H0
 refine spec_of [(0, _)] [(0, _)] 9 Tryz.func83 R Tryz.ntmps83 R R R R (fun β W F => ?_)
 refine G.seq <| G.rg <| K.box Y 100 _ g0 R R R R R R <| K.as R R <| K.nil <| At.ns ?_
 obtain ⟨x1, hx1, H0⟩ := bnd H0
 obtain ⟨x2, hx2, H0⟩ := bnd H0
 obtain ⟨x3, hx3, H0⟩ := bnd H0
 exact G.rd mixed <| K.fieldAddr Y g0 R t140 R R <| K.load1 Y g0 R R t63 R R <| K.cR (cf 31 R) (onTree 0 hL_9 hx1 (Tree_LenS_con hx2 4 5) (Tree_LenS_con hx2 6 7) R R R R) g0 R R R R <| K.loadS Y _ g0 R R t140 R R R <| K.cR (cf 110 R) (fuse_part_ahead_con hL_9 hx3 0) g0 R R R R <| K.bin (V := .int .i64 (w64 (x2 - x3))) g0 R R (fun _ => R) R <| K.as R R <| K.nil <| And.intro (by kernel_rfl) <| At.next <| G.ret <| At.dr Y [2] R R (by cases H0; rfl) (by cases H0; rfl) R R R
theorem fuse_part_size_con {k : Nat} {A : List (Nat → Nat)} {Q : List TQueue} {a0 : TPart} {r : Int}  (hL_9 : A.length = Q.length) (H0 : fuse_part_size.f k Q a0 = some r) (m0 : Nat) : fuse_part_size_st A Q a0 r m0 :=
 SCon.ren (rn [(0, m0)]) (fuse_part_size_con0 (k := k)  hL_9 H0) ⟨(fun _ => R), trivial⟩ ⟨(fun _ => R), trivial⟩ (by simp) (by simp)
abbrev fuse_part_rank_st (A : List (Nat → Nat)) (Q : List TQueue) (a0 : TPart) (a1 : TItem) (r : Int) (m0 : Nat) : Prop := SCon Tryz.prog 152 [.a (.agg (((eTPart A) a0).map .v)), .a (.agg ((eTItem a1).map .v))] [(m0, hp m0 tq A Q)] (.a (.c (.v (.int .i64 r)))) [(m0, hp m0 tq A Q)] []
theorem fuse_part_rank_con0 {k : Nat} {A : List (Nat → Nat)} {Q : List TQueue} {a0 : TPart} {a1 : TItem} {r : Int}  (hL_9 : A.length = Q.length) (H0 : fuse_part_rank.f k Q a0 a1 = some r) : fuse_part_rank_st A Q a0 a1 r 0 := by
 rw [fuse_part_rank.f] at H0
 refine spec_of [(0, _), (1, _)] [(0, _)] 14 Tryz.func152 R Tryz.ntmps152 R R R R (fun β W F => ?_)
 refine G.seq <| G.rg <| K.box Y 100 _ g0 R R R R R R <| K.box Y 101 _ g0 R R R R R R <| K.as R R <| K.nil <| At.ns ?_
 obtain ⟨x1, hx1, H0⟩ := bnd H0
 obtain ⟨x2, hx2, H0⟩ := bnd H0
 obtain ⟨x3, hx3, H0⟩ := bnd H0
 obtain ⟨x4, hx4, H0⟩ := bnd H0
 exact G.rd mixed <| K.fieldAddr Y g0 R t140 R R <| K.load1 Y g0 R R t63 R R <| K.loadS Y _ g0 R R t30 R R R <| K.cR (cf 65 R) (shelf_Of_con hx1) g0 R R R R <| K.cR (cf 151 R) (onTree 0 hL_9 hx2 (Tree_RankS_con hx3 4 5) (Tree_RankS_con hx3 6 7) R R R R) g0 R R R R <| K.loadS Y _ g0 R R t140 R R R <| K.cR (cf 110 R) (fuse_part_ahead_con hL_9 hx4 0) g0 R R R R <| K.bin (V := .int .i64 (w64 (x3 - x4))) g0 R R (fun _ => R) R <| K.bi2 (V := .int .i64 (gmax 0 (w64 (x3 - x4)))) g0 R R (fun _ _ => R) R <| K.as R R <| K.nil <| And.intro (by kernel_rfl) <| At.next <| G.ret <| At.dr Y [4] R R (by cases H0; rfl) (by cases H0; rfl) R R R
theorem fuse_part_rank_con {k : Nat} {A : List (Nat → Nat)} {Q : List TQueue} {a0 : TPart} {a1 : TItem} {r : Int}  (hL_9 : A.length = Q.length) (H0 : fuse_part_rank.f k Q a0 a1 = some r) (m0 : Nat) : fuse_part_rank_st A Q a0 a1 r m0 :=
 SCon.ren (rn [(0, m0)]) (fuse_part_rank_con0 (k := k)  hL_9 H0) ⟨(fun _ => R), trivial⟩ ⟨(fun _ => R), trivial⟩ (by simp) (by simp)
abbrev fuse_Views_Len_st (S : Foot) (W0 : World) (A : List (Nat → Nat)) (s0_0 : Value) (Q : List TQueue) (r : Int) (m1 : Nat) : Prop := SCon Tryz.prog 46 [.a (.agg [.v s0_0])] [(0, rd S W0), (m1, hp m1 tq A Q)] (.a (.c (.v (.int .i64 r)))) [(0, rd S W0), (m1, hp m1 tq A Q)] []
theorem fuse_Views_Len_con0 {k : Nat} {S : Foot} {W0 : World} {A : List (Nat → Nat)} {s0_0 : Value} {Q : List TQueue} {a0 : TViews} {r : Int}  (hL_9 : A.length = Q.length) (hL0_0 : LArg S W0 s0_0 (eTPart A) 4 a0.parts) (H0 : fuse_Views_Len.f k Q a0 = some r) : fuse_Views_Len_st S W0 A s0_0 Q r 1 := by
 rw [fuse_Views_Len.f] at H0
 obtain ⟨b0_0, o0_0, hI0_0⟩ := hL0_0
 obtain ⟨ao0_0, cap0_0, hE0_0, _⟩ := hI0_0.sl
 subst hE0_0
 refine spec_of [(0, _)] [(0, _), (1, _)] 19 Tryz.func46 R Tryz.ntmps46 R R R R (fun β W F => ?_)
 refine G.seq <| G.rg <| K.box Y 100 _ g0 R R R R R R <| K.as R R <| K.nil <| At.nr <| K.as R R <| K.nil <| At.next ?_
 obtain ⟨x1, H1, H0⟩ := bnd H0
 refine G.sJ (σ := { v : Int // x1 = v }) (fun q => [(3, .a (.c (.v (.int .i64 q.1))))]) (fun q => [(0, rd S W0), (1, hp 1 tq A Q)]) ?_ ?_
 ·
  refine G.seq <| G.rg <| K.fieldAddr Y g0 R t81 R R <| K.load1 Y g0 R R t79 R R <| K.lenL (rV 0 S W0 (Value.slice ao0_0 a0.parts.length cap0_0) b0_0 o0_0 (eTPart A) 4 a0.parts) (hI0_0.is 0) g0 R R Tryz.underlying79 R <| K.mv R R <| K.nil <| At.next <| G.block <| G.lp (σ := { q : Nat × (Int × Int) // fuse_Views_Len.l0 k Q a0 q.1 q.2 = some x1 }) (fun q => [(3, .a (.c (.v (.int .i64 q.1.2.1)))), (7, SV.raw (Value.slice ao0_0 a0.parts.length cap0_0)), (8, .a (.c (.v (.int .i64 (a0.parts.length : Int))))), (9, .a (.c (.v (.int .i64 q.1.2.2))))]) (fun q => [(0, rd S W0), (1, hp 1 tq A Q)]) (fun q => q.1.1) ⟨(k, (0, 0)), H1⟩ ?_ ?_
  · exact At.into [] [_, _] R ⟨R, R, R, R, trivial⟩ ⟨R, (fun _ => R), R, (fun _ => R), trivial⟩ R
  ·
   rintro ⟨⟨n0, v1, v2⟩, H1⟩
   show G _ _ [(3, .a (.c (.v (.int .i64 v1)))), (7, SV.raw (Value.slice ao0_0 a0.parts.length cap0_0)), (8, .a (.c (.v (.int .i64 (a0.parts.length : Int))))), (9, .a (.c (.v (.int .i64 v2))))] [(0, some (rd S W0)), (1, some (hp 1 tq A Q))] _ _
   cases n0 with
   | zero => exact absurd H1 (by simp [fuse_Views_Len.l0])
   | succ n0 =>
    have HL0 := H1
    rw [fuse_Views_Len.l0] at H1
    refine G.seq <| G.rg <| K.bin (V := .bool (decide (v2 < (a0.parts.length : Int)))) g0 R R (fun _ => R) R <| K.nil <| At.ns <| G.cond R (fun h1 => ?_) (fun h1 => ?_)
    ·
     replace H1 := bif_t H1 h1
     refine G.skip <| At.ns <| G.block <| G.seq ?_
     obtain ⟨x2, hx2, H1⟩ := bnd H1
     refine G.rg <| K.idxL (rV 0 S W0 (Value.slice ao0_0 a0.parts.length cap0_0) b0_0 o0_0 (eTPart A) 4 a0.parts) ((v2).toNat) (hI0_0.is 0) (atL_get hx2) (atL_nn hx2) g0 R R R Tryz.underlying79 el79.size_run R <| K.loadSL Y (rV 0 S W0 (Value.slice ao0_0 a0.parts.length cap0_0) b0_0 o0_0 (eTPart A) 4 a0.parts) ((v2).toNat) 0 [_, _, _, _] [_, _, _, _] (hI0_0.is 0) (atL_get hx2) g0 R R t140 R R R R R <| K.alloc Y 101 _ g0 t140 R R R R R <| K.store Y _ g0 R R R t140 R R R R R <| K.nil <| At.next ?_
     obtain ⟨x3, hx3, H1⟩ := bnd H1
     exact G.rg <| K.mv R R <| K.loadS Y _ g0 R R t140 R R R <| K.cR (cf 83 R) (fuse_part_size_con hL_9 hx3 1) g0 R R R R <| K.bin (V := .int .i64 (w64 (v1 + x3))) g0 R R (fun _ => R) R <| K.as R R <| K.nil <| At.block_normal <| At.next <| G.rg <| K.bin (V := .int .i64 (w64 (v2 + 1))) g0 R R (fun _ => R) R <| K.mv R R <| K.nil <| At.ag ⟨(n0, ((w64 (v1 + x3)), (w64 (v2 + 1)))), H1⟩ [] [_, _] (Nat.lt_succ_self _) R ⟨R, R, R, R, trivial⟩ ⟨R, (fun _ => R), R, (fun _ => R), trivial⟩ R
    ·
     replace H1 := bif_f H1 h1
     exact G.exit <| At.over_exit <| At.over_exit <| At.block_hit <| At.jd ⟨v1, oi H1⟩ [] [_, _] R ⟨R, trivial⟩ ⟨R, (fun _ => R), R, (fun _ => R), trivial⟩ R
 ·
  rintro ⟨_, rfl⟩
  show G _ _ [(3, .a (.c (.v (.int .i64 x1))))] [(0, some (rd S W0)), (1, some (hp 1 tq A Q))] _ _
  exact G.seq <| G.rg <| K.mv R R <| K.as R R <| K.nil <| At.next <| G.ret <| At.dr Y [2] R R (by cases H0; rfl) (by cases H0; rfl) R R R
theorem fuse_Views_Len_con {k : Nat} {S : Foot} {W0 : World} {A : List (Nat → Nat)} {s0_0 : Value} {Q : List TQueue} {a0 : TViews} {r : Int}  (hL_9 : A.length = Q.length) (hL0_0 : LArg S W0 s0_0 (eTPart A) 4 a0.parts) (H0 : fuse_Views_Len.f k Q a0 = some r) (m1 : Nat) : fuse_Views_Len_st S W0 A s0_0 Q r m1 :=
 SCon.ren (rn [(1, m1)]) (fuse_Views_Len_con0 (k := k)  hL_9 hL0_0 H0) ⟨(fun _ => R), (fun _ => R), trivial⟩ ⟨(fun _ => R), (fun _ => R), trivial⟩ (by simp) (by simp)
abbrev fuse_Views_rank_st (S : Foot) (W0 : World) (A : List (Nat → Nat)) (s0_0 : Value) (Q : List TQueue) (a1 : TItem) (r : Int) (m1 : Nat) : Prop := SCon Tryz.prog 139 [.a (.agg [.v s0_0]), .a (.agg ((eTItem a1).map .v))] [(0, rd S W0), (m1, hp m1 tq A Q)] (.a (.c (.v (.int .i64 r)))) [(0, rd S W0), (m1, hp m1 tq A Q)] []
theorem fuse_Views_rank_con0 {k : Nat} {S : Foot} {W0 : World} {A : List (Nat → Nat)} {s0_0 : Value} {Q : List TQueue} {a0 : TViews} {a1 : TItem} {r : Int}  (hL_9 : A.length = Q.length) (hL0_0 : LArg S W0 s0_0 (eTPart A) 4 a0.parts) (H0 : fuse_Views_rank.f k Q a0 a1 = some r) : fuse_Views_rank_st S W0 A s0_0 Q a1 r 1 := by
 rw [fuse_Views_rank.f] at H0
 obtain ⟨b0_0, o0_0, hI0_0⟩ := hL0_0
 obtain ⟨ao0_0, cap0_0, hE0_0, _⟩ := hI0_0.sl
 subst hE0_0
 refine spec_of [(0, _), (1, _)] [(0, _), (1, _)] 22 Tryz.func139 R Tryz.ntmps139 R R R R (fun β W F => ?_)
 refine G.seq <| G.rg <| K.box Y 100 _ g0 R R R R R R <| K.box Y 101 _ g0 R R R R R R <| K.as R R <| K.nil <| At.nr <| K.as R R <| K.nil <| At.next ?_
 obtain ⟨x1, H1, H0⟩ := bnd H0
 refine G.sJ (σ := { v : Int // x1 = v }) (fun q => [(5, .a (.c (.v (.int .i64 q.1))))]) (fun q => [(0, rd S W0), (1, hp 1 tq A Q)]) ?_ ?_
 ·
  refine G.seq <| G.rg <| K.fieldAddr Y g0 R t81 R R <| K.load1 Y g0 R R t79 R R <| K.lenL (rV 0 S W0 (Value.slice ao0_0 a0.parts.length cap0_0) b0_0 o0_0 (eTPart A) 4 a0.parts) (hI0_0.is 0) g0 R R Tryz.underlying79 R <| K.mv R R <| K.nil <| At.next <| G.block <| G.lp (σ := { q : Nat × (Int × Int) // fuse_Views_rank.l0 k Q a0 a1 q.1 q.2 = some x1 }) (fun q => [(3, .a (.c (.p 104 0))), (5, .a (.c (.v (.int .i64 q.1.2.1)))), (9, SV.raw (Value.slice ao0_0 a0.parts.length cap0_0)), (10, .a (.c (.v (.int .i64 (a0.parts.length : Int))))), (11, .a (.c (.v (.int .i64 q.1.2.2))))]) (fun q => [(0, rd S W0), (104, blk 104 [.v (.int .i64 a1.key), .v (.int .i64 a1.id)] 30), (1, hp 1 tq A Q)]) (fun q => q.1.1) ⟨(k, (0, 0)), H1⟩ ?_ ?_
  · exact At.into [(104, 101)] [_, _, _] R ⟨R, R, R, R, R, trivial⟩ ⟨R, (fun _ => R), R, (blk_ren R R), R, (fun _ => R), trivial⟩ R
  ·
   rintro ⟨⟨n0, v1, v2⟩, H1⟩
   show G _ _ [(3, .a (.c (.p 104 0))), (5, .a (.c (.v (.int .i64 v1)))), (9, SV.raw (Value.slice ao0_0 a0.parts.length cap0_0)), (10, .a (.c (.v (.int .i64 (a0.parts.length : Int))))), (11, .a (.c (.v (.int .i64 v2))))] [(0, some (rd S W0)), (104, some (blk 104 [.v (.int .i64 a1.key), .v (.int .i64 a1.id)] 30)), (1, some (hp 1 tq A Q))] _ _
   cases n0 with
   | zero => exact absurd H1 (by simp [fuse_Views_rank.l0])
   | succ n0 =>
    have HL0 := H1
    rw [fuse_Views_rank.l0] at H1
    refine G.seq <| G.rg <| K.bin (V := .bool (decide (v2 < (a0.parts.length : Int)))) g0 R R (fun _ => R) R <| K.nil <| At.ns <| G.cond R (fun h1 => ?_) (fun h1 => ?_)
    ·
     replace H1 := bif_t H1 h1
     refine G.skip <| At.ns <| G.block <| G.seq ?_
     obtain ⟨x2, hx2, H1⟩ := bnd H1
     refine G.rg <| K.idxL (rV 0 S W0 (Value.slice ao0_0 a0.parts.length cap0_0) b0_0 o0_0 (eTPart A) 4 a0.parts) ((v2).toNat) (hI0_0.is 0) (atL_get hx2) (atL_nn hx2) g0 R R R Tryz.underlying79 el79.size_run R <| K.loadSL Y (rV 0 S W0 (Value.slice ao0_0 a0.parts.length cap0_0) b0_0 o0_0 (eTPart A) 4 a0.parts) ((v2).toNat) 0 [_, _, _, _] [_, _, _, _] (hI0_0.is 0) (atL_get hx2) g0 R R t140 R R R R R <| K.alloc Y 105 _ g0 t140 R R R R R <| K.store Y _ g0 R R R t140 R R R R R <| K.nil <| At.next ?_
     obtain ⟨x3, hx3, H1⟩ := bnd H1
     exact G.rg <| K.mv R R <| K.loadS Y _ g0 R R t140 R R R <| K.loadS Y _ g0 R R t30 R R R <| K.cR (cf 152 R) (fuse_part_rank_con hL_9 hx3 1) g0 R R R R <| K.bin (V := .int .i64 (w64 (v1 + x3))) g0 R R (fun _ => R) R <| K.as R R <| K.nil <| At.block_normal <| At.next <| G.rg <| K.bin (V := .int .i64 (w64 (v2 + 1))) g0 R R (fun _ => R) R <| K.mv R R <| K.nil <| At.ag ⟨(n0, ((w64 (v1 + x3)), (w64 (v2 + 1)))), H1⟩ [] [_, _, _] (Nat.lt_succ_self _) R ⟨R, R, R, R, R, trivial⟩ ⟨R, (fun _ => R), R, (blk_ren R R), R, (fun _ => R), trivial⟩ R
    ·
     replace H1 := bif_f H1 h1
     exact G.exit <| At.over_exit <| At.over_exit <| At.block_hit <| At.jd ⟨v1, oi H1⟩ [] [_, _] R ⟨R, trivial⟩ ⟨R, (fun _ => R), R, (fun _ => R), trivial⟩ R
 ·
  rintro ⟨_, rfl⟩
  show G _ _ [(5, .a (.c (.v (.int .i64 x1))))] [(0, some (rd S W0)), (1, some (hp 1 tq A Q))] _ _
  exact G.seq <| G.rg <| K.mv R R <| K.as R R <| K.nil <| At.next <| G.ret <| At.dr Y [4] R R (by cases H0; rfl) (by cases H0; rfl) R R R
theorem fuse_Views_rank_con {k : Nat} {S : Foot} {W0 : World} {A : List (Nat → Nat)} {s0_0 : Value} {Q : List TQueue} {a0 : TViews} {a1 : TItem} {r : Int}  (hL_9 : A.length = Q.length) (hL0_0 : LArg S W0 s0_0 (eTPart A) 4 a0.parts) (H0 : fuse_Views_rank.f k Q a0 a1 = some r) (m1 : Nat) : fuse_Views_rank_st S W0 A s0_0 Q a1 r m1 :=
 SCon.ren (rn [(1, m1)]) (fuse_Views_rank_con0 (k := k)  hL_9 hL0_0 H0) ⟨(fun _ => R), (fun _ => R), trivial⟩ ⟨(fun _ => R), (fun _ => R), trivial⟩ (by simp) (by simp)
abbrev Tree_AtS_st (p1 : Pool (TNode TSlot TSize)) (rt0 : TRef) (a1 : Int) (r : TSlot × Bool) (m0 : Nat) (m1 : Nat) : Prop := SCon Tryz.prog 138 [SV.p m0 0, .a (.c (.v (.int .i64 a1)))] [(m0, blk m0 [.p m1 0, .i rt0.index, .i rt0.gen] 131), (m1, plS m1 p1)] (.tup [.agg ((eTSlot r.1).map .v), .c (.v (.bool r.2))]) [(m0, blk m0 [.p m1 0, .i rt0.index, .i rt0.gen] 131), (m1, plS m1 p1)] []
theorem Tree_AtS_con0 {k : Nat}  {p1 : Pool (TNode TSlot TSize)} {rt0 : TRef} {a1 : Int} {r : TSlot × Bool}  (H0 : Tree_At.f opsS k p1 rt0 a1 = some r) : Tree_AtS_st p1 rt0 a1 r 0 1 := by
 rw [Tree_At.f] at H0
 refine spec_of [(0, _), (1, _)] [(0, _), (1, _)] 48 Tryz.func138 R Tryz.ntmps138 R R R R (fun β W F => ?_)
 refine G.seq <| G.rg <| K.alloc Y 100 _ g0 t66 R R R R R <| K.as R R <| K.nil <| At.nr <| K.alloc Y 101 _ g0 t66 R R R R R <| K.nil <| At.ns <| G.seq <| G.rg <| K.mv R R <| K.bin (V := .bool (decide (a1 < 0))) g0 R R (fun _ => R) R <| K.nil <| At.next <| G.cond R (fun h1 => ?_) (fun h1 => ?_)
 ·
  replace H0 := bif_t H0 h1
  refine G.seq <| G.rg <| K.loadS Y _ g0 R R t66 R R R <| K.store Y _ g0 R R R t66 R R R R R <| K.as R R <| K.nil <| At.next <| G.ret <| At.over_ret <| At.done Y [(.cell 4 66, .agg [_, _, _, _]), (.tmp 5, .c _)] R ⟨.st R R t66 R R, .tmp R, trivial⟩ (to' := [(0, _), (1, _)]) ⟨R, R, trivial⟩ ?_ ?_ R R R (.inl R)
  · cases H0; rfl
  · cases H0; rfl
 ·
  replace H0 := bif_f H0 h1
  refine G.skip <| At.next ?_
  obtain ⟨x1, H1, H0⟩ := bnd H0
  refine G.sJ (σ := { v : Unit // x1 = Sum.inr v }) (fun q => [(4, .a (.c (.p 102 0))), (6, .a (.c (.p 103 0)))]) (fun q => [(102, blk 102 [.v (.int .i64 0), .v (.int .i64 0), .v (.bool false), .v (.int .i64 0)] 66), (103, blk 103 [.v (.int .i64 0), .v (.int .i64 0), .v (.bool false), .v (.int .i64 0)] 66), (1, plS 1 p1), (0, blk 0 [.p 1 0, .v (.int .i64 rt0.index), .v (.int .i64 rt0.gen)] 131)]) ?_ ?_
  ·
   refine G.seq <| G.rg <| K.mv R R <| K.nilCheck g0 R R <| K.fieldAddr Y g0 R t131 R R <| K.loadS Y _ g0 R R t108 R R R <| K.alloc Y 104 _ g0 t108 R R R R R <| K.store Y _ g0 R R R t108 R R R R R <| K.nil <| At.next <| G.block <| G.lp (σ := { q : Nat × (Int × TRef) // Tree_At.l0 opsS k p1 q.1 q.2 = some x1 }) (fun q => [(0, .a (.c (.p 0 0))), (1, .a (.c (.v (.int .i64 q.1.2.1)))), (4, .a (.c (.p 111 0))), (6, .a (.c (.p 112 0))), (7, .a (.c (.p 113 0)))]) (fun q => [(1, plS 1 p1), (0, blk 0 [.p 1 0, .v (.int .i64 rt0.index), .v (.int .i64 rt0.gen)] 131), (111, blk 111 [.v (.int .i64 0), .v (.int .i64 0), .v (.bool false), .v (.int .i64 0)] 66), (112, blk 112 [.v (.int .i64 0), .v (.int .i64 0), .v (.bool false), .v (.int .i64 0)] 66), (113, blk 113 [.v (.int .i64 q.1.2.2.index), .v (.int .i64 q.1.2.2.gen)] 108)]) (fun q => q.1.1) ⟨(k, (a1, rt0)), H1⟩ ?_ ?_
   · exact At.into [(111, 100), (112, 101), (113, 104)] [_, _, _, _, _] R ⟨R, R, R, R, R, trivial⟩ ⟨R, (pl_ren R), R, (blk_ren R R), R, (blk_ren R R), R, (blk_ren R R), R, (blk_ren R R), trivial⟩ R
   ·
    rintro ⟨⟨n0, v1, v2⟩, H1⟩
    show G _ _ [(0, .a (.c (.p 0 0))), (1, .a (.c (.v (.int .i64 v1)))), (4, .a (.c (.p 111 0))), (6, .a (.c (.p 112 0))), (7, .a (.c (.p 113 0)))] [(1, some (plS 1 p1)), (0, some (blk 0 [.p 1 0, .v (.int .i64 rt0.index), .v (.int .i64 rt0.gen)] 131)), (111, some (blk 111 [.v (.int .i64 0), .v (.int .i64 0), .v (.bool false), .v (.int .i64 0)] 66)), (112, some (blk 112 [.v (.int .i64 0), .v (.int .i64 0), .v (.bool false), .v (.int .i64 0)] 66)), (113, some (blk 113 [.v (.int .i64 v2.index), .v (.int .i64 v2.gen)] 108))] _ _
    cases n0 with
    | zero => exact absurd H1 (by simp [Tree_At.l0])
    | succ n0 =>
     have HL0 := H1
     rw [Tree_At.l0] at H1
     refine G.seq <| G.seq <| G.rg <| K.fieldAddr Y g0 R t108 R R <| K.load1 Y g0 R R t3 R R <| K.bin (V := .bool (v2.gen != 0)) g0 R R (fun _ => R) R <| K.nil <| At.next <| G.cond R (fun h2 => ?_) (fun h2 => ?_)
     ·
      replace H1 := bif_t H1 h2
      refine G.skip <| At.ns <| G.block <| G.seq ?_
      obtain ⟨x2, hx2, H1⟩ := bnd H1
      refine G.rg <| K.mv R R <| K.loadS Y _ g0 R R t108 R R R <| K.cR (cf 79 R) (Tree_getS_con hx2 0 1) g0 R R R R <| K.alloc Y 114 _ g0 t127 R R R R R <| K.store Y _ g0 R R R t127 R R R R R <| K.nil <| At.ns ?_
      obtain ⟨x3, hx3, H1⟩ := bnd H1
      refine G.rg <| K.mv R R <| K.fieldAddr Y g0 R t127 R R <| K.loadS Y _ g0 R R t108 R R R <| K.cR (cf 79 R) (Tree_getS_con hx3 0 1) g0 R R R R <| K.field1 Y g0 R t127 R t3 R R <| K.as R R <| K.nil <| At.next <| G.block <| G.seq <| G.rg <| K.mv R R <| K.mv R R <| K.bin (V := .bool (v1 == x3.size)) g0 R R (fun _ => R) R <| K.as R R <| K.nil <| At.next <| G.cond R (fun h3 => ?_) (fun h3 => ?_)
      ·
       replace H1 := bif_t H1 h3
       refine G.seq <| G.rg <| K.fieldAddr Y g0 R t127 R R <| K.loadS Y _ g0 R R t66 R R R <| K.store Y _ g0 R R R t66 R R R R R <| K.as R R <| K.nil <| At.next <| G.ret <| At.block_ret <| At.block_ret <| At.over_ret <| At.over_ret <| At.block_ret <| At.over_ret ?_
       cases H1
       replace H0 := sum_l H0
       refine At.done Y [(.cell 4 66, .agg [_, _, _, _]), (.tmp 5, .c _)] R ⟨.st R R t66 R R, .tmp R, trivial⟩ (to' := [(0, _), (1, _)]) ⟨R, R, trivial⟩ ?_ ?_ R R R (.inl R)
       · cases H0; rfl
       · cases H0; rfl
      ·
       replace H1 := bif_f H1 h3
       refine G.seq <| G.rg <| K.mv R R <| K.mv R R <| K.bin (V := .bool (decide (v1 < x3.size))) g0 R R (fun _ => R) R <| K.as R R <| K.nil <| At.next <| G.cond R (fun h4 => ?_) (fun h4 => ?_)
       ·
        replace H1 := bif_t H1 h4
        exact G.rg <| K.fieldAddr Y g0 R t127 R R <| K.loadS Y _ g0 R R t108 R R R <| K.store Y _ g0 R R R t108 R R R R R <| K.nil <| At.block_normal <| At.block_normal <| At.nr <| K.loadS Y _ g0 R R t108 R R R <| K.nil <| At.next <| G.rg <| K.alloc Y 115 _ g0 t108 R R R R R <| K.store Y _ g0 R R R t108 R R R R R <| K.nil <| At.ag ⟨(n0, (v1, x2.left)), H1⟩ [(113, 115)] [_, _, _, _, _] (Nat.lt_succ_self _) R ⟨R, R, R, R, R, trivial⟩ ⟨R, (pl_ren R), R, (blk_ren R R), R, (blk_ren R R), R, (blk_ren R R), R, (blk_ren R R), trivial⟩ R
       ·
        replace H1 := bif_f H1 h4
        exact G.seq <| G.rg <| K.mv R R <| K.mv R R <| K.bin (V := .int .i64 (w64 (x3.size + 1))) g0 R R (fun _ => R) R <| K.bin (V := .int .i64 (w64 (v1 - (w64 (x3.size + 1))))) g0 R R (fun _ => R) R <| K.as R R <| K.nil <| At.next <| G.rg <| K.fieldAddr Y g0 R t127 R R <| K.loadS Y _ g0 R R t108 R R R <| K.store Y _ g0 R R R t108 R R R R R <| K.nil <| At.block_normal <| At.block_normal <| At.nr <| K.loadS Y _ g0 R R t108 R R R <| K.nil <| At.next <| G.rg <| K.alloc Y 116 _ g0 t108 R R R R R <| K.store Y _ g0 R R R t108 R R R R R <| K.nil <| At.ag ⟨(n0, ((w64 (v1 - (w64 (x3.size + 1)))), x2.right)), H1⟩ [(113, 116)] [_, _, _, _, _] (Nat.lt_succ_self _) R ⟨R, R, R, R, R, trivial⟩ ⟨R, (pl_ren R), R, (blk_ren R R), R, (blk_ren R R), R, (blk_ren R R), R, (blk_ren R R), trivial⟩ R
     ·
      replace H1 := bif_f H1 h2
      exact G.exit <| At.over_exit <| At.over_exit <| At.block_hit <| At.jd ⟨(), oi H1⟩ [(102, 111), (103, 112)] [_, _, _, _] R ⟨R, R, trivial⟩ ⟨R, (blk_ren R R), R, (blk_ren R R), R, (pl_ren R), R, (blk_ren R R), trivial⟩ R
  ·
   rintro ⟨w1, rfl⟩
   replace H0 := sum_r H0
   show G _ _ [(4, .a (.c (.p 102 0))), (6, .a (.c (.p 103 0)))] [(102, some (blk 102 [.v (.int .i64 0), .v (.int .i64 0), .v (.bool false), .v (.int .i64 0)] 66)), (103, some (blk 103 [.v (.int .i64 0), .v (.int .i64 0), .v (.bool false), .v (.int .i64 0)] 66)), (1, some (plS 1 p1)), (0, some (blk 0 [.p 1 0, .v (.int .i64 rt0.index), .v (.int .i64 rt0.gen)] 131))] _ _
   refine G.seq <| G.rg <| K.loadS Y _ g0 R R t66 R R R <| K.store Y _ g0 R R R t66 R R R R R <| K.as R R <| K.nil <| At.next <| G.ret <| At.done Y [(.cell 4 66, .agg [_, _, _, _]), (.tmp 5, .c _)] R ⟨.st R R t66 R R, .tmp R, trivial⟩ (to' := [(0, _), (1, _)]) ⟨R, R, trivial⟩ ?_ ?_ R R R (.inl R)
   · cases H0; rfl
   · cases H0; rfl
theorem Tree_AtS_con {k : Nat}  {p1 : Pool (TNode TSlot TSize)} {rt0 : TRef} {a1 : Int} {r : TSlot × Bool}  (H0 : Tree_At.f opsS k p1 rt0 a1 = some r) (m0 m1 : Nat) : Tree_AtS_st p1 rt0 a1 r m0 m1 :=
 SCon.ren (rn [(0, m0), (1, m1)]) (Tree_AtS_con0 (k := k)   H0) ⟨(blk_ren R R), (pl_ren R), trivial⟩ ⟨(blk_ren R R), (pl_ren R), trivial⟩ (by simp) (by simp)
abbrev fuse_Views_within_st (S : Foot) (W0 : World) (A : List (Nat → Nat)) (s0_0 : Value) (Q : List TQueue) (a1 : TPart) (a2 : Int) (r : TItem × Bool) (m1 : Nat) : Prop := SCon Tryz.prog 111 [.a (.agg [.v s0_0]), .a (.agg (((eTPart A) a1).map .v)), .a (.c (.v (.int .i64 a2)))] [(0, rd S W0), (m1, hp m1 tq A Q)] (.tup [.agg ((eTItem r.1).map .v), .c (.v (.bool r.2))]) [(0, rd S W0), (m1, hp m1 tq A Q)] []
theorem fuse_Views_within_con0 {k : Nat} {S : Foot} {W0 : World} {A : List (Nat → Nat)} {s0_0 : Value} {Q : List TQueue} {a0 : TViews} {a1 : TPart} {a2 : Int} {r : TItem × Bool}  (hL_9 : A.length = Q.length) (hL0_0 : LArg S W0 s0_0 (eTPart A) 4 a0.parts) (H0 : fuse_Views_within.f k Q a0 a1 a2 = some r) : fuse_Views_within_st S W0 A s0_0 Q a1 a2 r 1 := by
 rw [fuse_Views_within.f] at H0
 obtain ⟨b0_0, o0_0, hI0_0⟩ := hL0_0
 obtain ⟨ao0_0, cap0_0, hE0_0, _⟩ := hI0_0.sl
 subst hE0_0
 refine spec_of [(0, _), (1, _), (2, _)] [(0, _), (1, _)] 51 Tryz.func111 R Tryz.ntmps111 R R R R (fun β W F => ?_)
 refine G.seq <| G.rg <| K.box Y 100 _ g0 R R R R R R <| K.box Y 101 _ g0 R R R R R R <| K.alloc Y 102 _ g0 t30 R R R R R <| K.as R R <| K.nil <| At.ns ?_
 obtain ⟨x1, hx1, H0⟩ := bnd H0
 obtain ⟨x2, hx2, H0⟩ := bnd H0
 obtain ⟨x3, hx3, H0⟩ := bnd H0
 refine G.rd mixed <| K.loadS Y _ g0 R R t140 R R R <| K.cR (cf 110 R) (fuse_part_ahead_con hL_9 hx1 1) g0 R R R R <| K.fieldAddr Y g0 R t140 R R <| K.load1 Y g0 R R t63 R R <| K.cR (cf 31 R) (onTree 1 hL_9 hx2 (Tree_LenS_con hx3 4 5) (Tree_LenS_con hx3 6 7) R R R R) g0 R R R R <| K.as R R <| K.as R R <| K.nil <| And.intro (by kernel_rfl) <| At.next ?_
 obtain ⟨x4, H1, H0⟩ := bnd H0
 refine G.sJ (σ := { v : Unit // x4 = Sum.inr v }) (fun q => [(6, .a (.c (.p 103 0)))]) (fun q => [(0, rd S W0), (103, blk 103 [.v (.int .i64 0), .v (.int .i64 0)] 30), (1, hp 1 tq A Q)]) ?_ ?_
 ·
  refine G.block <| G.lp (σ := { q : Nat × (Int × Int) // fuse_Views_within.l0 k Q a0 a1 a2 q.1 q.2 = some x4 }) (fun q => [(2, .a (.c (.v (.int .i64 a2)))), (3, .a (.c (.p 110 0))), (4, .a (.c (.p 111 0))), (6, .a (.c (.p 112 0))), (8, .a (.c (.v (.int .i64 q.1.2.1)))), (9, .a (.c (.v (.int .i64 q.1.2.2))))]) (fun q => [(0, rd S W0), (110, blk 110 [.v (Value.slice ao0_0 a0.parts.length cap0_0)] 81), (111, blk 111 [.v (ptr (hA A a1.shelf) 0), .v (.bool a1.floor.found), .v (.int .i64 a1.floor.item.key), .v (.int .i64 a1.floor.item.id)] 140), (112, blk 112 [.v (.int .i64 0), .v (.int .i64 0)] 30), (1, hp 1 tq A Q)]) (fun q => q.1.1) ⟨(k, (x1, x3)), H1⟩ ?_ ?_
  · exact At.into [(110, 100), (111, 101), (112, 102)] [_, _, _, _, _] R ⟨R, R, R, R, R, R, trivial⟩ ⟨R, (fun _ => R), R, (blk_ren R R), R, (blk_ren R R), R, (blk_ren R R), R, (fun _ => R), trivial⟩ R
  ·
   rintro ⟨⟨n0, v1, v2⟩, H1⟩
   show G _ _ [(2, .a (.c (.v (.int .i64 a2)))), (3, .a (.c (.p 110 0))), (4, .a (.c (.p 111 0))), (6, .a (.c (.p 112 0))), (8, .a (.c (.v (.int .i64 v1)))), (9, .a (.c (.v (.int .i64 v2))))] [(0, some (rd S W0)), (110, some (blk 110 [.v (Value.slice ao0_0 a0.parts.length cap0_0)] 81)), (111, some (blk 111 [.v (ptr (hA A a1.shelf) 0), .v (.bool a1.floor.found), .v (.int .i64 a1.floor.item.key), .v (.int .i64 a1.floor.item.id)] 140)), (112, some (blk 112 [.v (.int .i64 0), .v (.int .i64 0)] 30)), (1, some (hp 1 tq A Q))] _ _
   cases n0 with
   | zero => exact absurd H1 (by simp [fuse_Views_within.l0])
   | succ n0 =>
    have HL0 := H1
    rw [fuse_Views_within.l0] at H1
    refine G.seq <| G.seq <| G.rg <| K.mv R R <| K.mv R R <| K.bin (V := .bool (decide (v1 < v2))) g0 R R (fun _ => R) R <| K.nil <| At.next <| G.cond R (fun h1 => ?_) (fun h1 => ?_)
    ·
     replace H1 := bif_t H1 h1
     refine G.skip <| At.next <| G.block <| G.seq <| G.rg <| K.mv R R <| K.mv R R <| K.bin (V := .int .i64 (w64 (v1 + v2))) g0 R R (fun _ => R) R <| K.bin (V := .int .i64 (w64 ((w64 (v1 + v2)).tdiv 2))) g0 R R (quo_run (by decide)) R <| K.as R R <| K.nil <| At.ns ?_
     obtain ⟨x5, hx5, H1⟩ := bnd H1
     obtain ⟨x6, hx6, H1⟩ := bnd H1
     refine G.rg <| K.fieldAddr Y g0 R t140 R R <| K.load1 Y g0 R R t63 R R <| K.mv R R <| K.cR (cf 138 R) (onTree 1 hL_9 hx5 (Tree_AtS_con hx6 4 5) (Tree_AtS_con hx6 6 7) R R R R) g0 R R R R <| K.mv R R <| K.extract g0 R R R <| K.extract g0 R R R <| K.alloc Y 113 _ g0 t66 R R R R R <| K.store Y _ g0 R R R t66 R R R R R <| K.as R R <| K.nil <| At.ns ?_
     obtain ⟨x7, hx7, H1⟩ := bnd H1
     refine G.rg <| K.loadS Y _ g0 R R t81 R R R <| K.fieldAddr Y g0 R t66 R R <| K.loadS Y _ g0 R R t30 R R R <| K.cV (cf 139 R) [0] (fun β w S2 h => fuse_Views_rank_con (a0 := a0) hL_9 ((hI0_0.isC 0).larg ⟨_, List.mem_cons_self⟩ h) hx7 1) g0 (fun _ => R) R R R <| K.as R R <| K.nil <| At.next <| G.block <| G.seq <| G.rg <| K.mv R R <| K.mv R R <| K.bin (V := .bool (x7 == a2)) g0 R R (fun _ => R) R <| K.as R R <| K.nil <| At.next <| G.cond R (fun h2 => ?_) (fun h2 => ?_)
     ·
      replace H1 := bif_t H1 h2
      refine G.seq <| G.rg <| K.fieldAddr Y g0 R t66 R R <| K.loadS Y _ g0 R R t30 R R R <| K.store Y _ g0 R R R t30 R R R R R <| K.as R R <| K.nil <| At.next <| G.ret <| At.block_ret <| At.block_ret <| At.over_ret <| At.block_ret <| At.over_ret ?_
      cases H1
      replace H0 := sum_l H0
      refine At.done Y [(.cell 6 30, .agg [_, _]), (.tmp 7, .c _)] R ⟨.st R R t30 R R, .tmp R, trivial⟩ (to' := [(0, _), (1, _)]) ⟨R, R, trivial⟩ ?_ ?_ R R R (.inl R)
      · cases H0; rfl
      · cases H0; rfl
     ·
      replace H1 := bif_f H1 h2
      refine G.seq <| G.rg <| K.mv R R <| K.mv R R <| K.bin (V := .bool (decide (x7 < a2))) g0 R R (fun _ => R) R <| K.as R R <| K.nil <| At.next <| G.cond R (fun h3 => ?_) (fun h3 => ?_)
      ·
       replace H1 := bif_t H1 h3
       exact G.rg <| K.mv R R <| K.bin (V := .int .i64 (w64 ((w64 ((w64 (v1 + v2)).tdiv 2)) + 1))) g0 R R (fun _ => R) R <| K.as R R <| K.nil <| At.block_normal <| At.block_normal <| At.ag ⟨(n0, ((w64 ((w64 ((w64 (v1 + v2)).tdiv 2)) + 1)), v2)), H1⟩ [] [_, _, _, _, _] (Nat.lt_succ_self _) R ⟨R, R, R, R, R, R, trivial⟩ ⟨R, (fun _ => R), R, (blk_ren R R), R, (blk_ren R R), R, (blk_ren R R), R, (fun _ => R), trivial⟩ R
      ·
       replace H1 := bif_f H1 h3
       exact G.rg <| K.mv R R <| K.as R R <| K.nil <| At.block_normal <| At.block_normal <| At.ag ⟨(n0, (v1, (w64 ((w64 (v1 + v2)).tdiv 2)))), H1⟩ [] [_, _, _, _, _] (Nat.lt_succ_self _) R ⟨R, R, R, R, R, R, trivial⟩ ⟨R, (fun _ => R), R, (blk_ren R R), R, (blk_ren R R), R, (blk_ren R R), R, (fun _ => R), trivial⟩ R
    ·
     replace H1 := bif_f H1 h1
     exact G.exit <| At.over_exit <| At.over_exit <| At.block_hit <| At.jd ⟨(), oi H1⟩ [(103, 112)] [_, _, _] R ⟨R, trivial⟩ ⟨R, (fun _ => R), R, (blk_ren R R), R, (fun _ => R), trivial⟩ R
 ·
  rintro ⟨w4, rfl⟩
  replace H0 := sum_r H0
  show G _ _ [(6, .a (.c (.p 103 0)))] [(0, some (rd S W0)), (103, some (blk 103 [.v (.int .i64 0), .v (.int .i64 0)] 30)), (1, some (hp 1 tq A Q))] _ _
  refine G.seq <| G.rg <| K.build Y [] [_, _] [] g0 (AllE.spec trivial) R R t30 R R <| K.store Y _ g0 R R R t30 R R R R R <| K.as R R <| K.nil <| At.next <| G.ret <| At.done Y [(.cell 6 30, .agg [_, _]), (.tmp 7, .c _)] R ⟨.st R R t30 R R, .tmp R, trivial⟩ (to' := [(0, _), (1, _)]) ⟨R, R, trivial⟩ ?_ ?_ R R R (.inl R)
  · cases H0; rfl
  · cases H0; rfl
theorem fuse_Views_within_con {k : Nat} {S : Foot} {W0 : World} {A : List (Nat → Nat)} {s0_0 : Value} {Q : List TQueue} {a0 : TViews} {a1 : TPart} {a2 : Int} {r : TItem × Bool}  (hL_9 : A.length = Q.length) (hL0_0 : LArg S W0 s0_0 (eTPart A) 4 a0.parts) (H0 : fuse_Views_within.f k Q a0 a1 a2 = some r) (m1 : Nat) : fuse_Views_within_st S W0 A s0_0 Q a1 a2 r m1 :=
 SCon.ren (rn [(1, m1)]) (fuse_Views_within_con0 (k := k)  hL_9 hL0_0 H0) ⟨(fun _ => R), (fun _ => R), trivial⟩ ⟨(fun _ => R), (fun _ => R), trivial⟩ (by simp) (by simp)
abbrev fuse_Views_At_st (S : Foot) (W0 : World) (A : List (Nat → Nat)) (s0_0 : Value) (Q : List TQueue) (a1 : Int) (r : TItem × Bool) (m1 : Nat) : Prop := SCon Tryz.prog 85 [.a (.agg [.v s0_0]), .a (.c (.v (.int .i64 a1)))] [(0, rd S W0), (m1, hp m1 tq A Q)] (.tup [.agg ((eTItem r.1).map .v), .c (.v (.bool r.2))]) [(0, rd S W0), (m1, hp m1 tq A Q)] []
theorem fuse_Views_At_con0 {k : Nat} {S : Foot} {W0 : World} {A : List (Nat → Nat)} {s0_0 : Value} {Q : List TQueue} {a0 : TViews} {a1 : Int} {r : TItem × Bool}  (hL_9 : A.length = Q.length) (hL0_0 : LArg S W0 s0_0 (eTPart A) 4 a0.parts) (H0 : fuse_Views_At.f k Q a0 a1 = some r) : fuse_Views_At_st S W0 A s0_0 Q a1 r 1 := by
 rw [fuse_Views_At.f] at H0
 obtain ⟨b0_0, o0_0, hI0_0⟩ := hL0_0
 obtain ⟨ao0_0, cap0_0, hE0_0, _⟩ := hI0_0.sl
 subst hE0_0
 refine spec_of [(0, _), (1, _)] [(0, _), (1, _)] 28 Tryz.func85 R Tryz.ntmps85 R R R R (fun β W F => ?_)
 refine G.seq <| G.rg <| K.box Y 100 _ g0 R R R R R R <| K.alloc Y 101 _ g0 t30 R R R R R <| K.as R R <| K.nil <| At.next ?_
 obtain ⟨x1, H1, H0⟩ := bnd H0
 refine G.sJ (σ := { v : Unit // x1 = Sum.inr v }) (fun q => [(4, .a (.c (.p 102 0)))]) (fun q => [(0, rd S W0), (102, blk 102 [.v (.int .i64 0), .v (.int .i64 0)] 30), (1, hp 1 tq A Q)]) ?_ ?_
 ·
  refine G.seq <| G.rg <| K.fieldAddr Y g0 R t81 R R <| K.load1 Y g0 R R t79 R R <| K.lenL (rV 0 S W0 (Value.slice ao0_0 a0.parts.length cap0_0) b0_0 o0_0 (eTPart A) 4 a0.parts) (hI0_0.is 0) g0 R R Tryz.underlying79 R <| K.mv R R <| K.nil <| At.next <| G.block <| G.lp (σ := { q : Nat × (Int) // fuse_Views_At.l0 k Q a0 a1 q.1 q.2 = some x1 }) (fun q => [(1, .a (.c (.v (.int .i64 a1)))), (2, .a (.c (.p 107 0))), (4, .a (.c (.p 108 0))), (11, SV.raw (Value.slice ao0_0 a0.parts.length cap0_0)), (12, .a (.c (.v (.int .i64 (a0.parts.length : Int))))), (13, .a (.c (.v (.int .i64 q.1.2))))]) (fun q => [(0, rd S W0), (107, blk 107 [.v (Value.slice ao0_0 a0.parts.length cap0_0)] 81), (108, blk 108 [.v (.int .i64 0), .v (.int .i64 0)] 30), (1, hp 1 tq A Q)]) (fun q => q.1.1) ⟨(k, 0), H1⟩ ?_ ?_
  · exact At.into [(107, 100), (108, 101)] [_, _, _, _] R ⟨R, R, R, R, R, R, trivial⟩ ⟨R, (fun _ => R), R, (blk_ren R R), R, (blk_ren R R), R, (fun _ => R), trivial⟩ R
  ·
   rintro ⟨⟨n0, v1⟩, H1⟩
   show G _ _ [(1, .a (.c (.v (.int .i64 a1)))), (2, .a (.c (.p 107 0))), (4, .a (.c (.p 108 0))), (11, SV.raw (Value.slice ao0_0 a0.parts.length cap0_0)), (12, .a (.c (.v (.int .i64 (a0.parts.length : Int))))), (13, .a (.c (.v (.int .i64 v1))))] [(0, some (rd S W0)), (107, some (blk 107 [.v (Value.slice ao0_0 a0.parts.length cap0_0)] 81)), (108, some (blk 108 [.v (.int .i64 0), .v (.int .i64 0)] 30)), (1, some (hp 1 tq A Q))] _ _
   cases n0 with
   | zero => exact absurd H1 (by simp [fuse_Views_At.l0])
   | succ n0 =>
    have HL0 := H1
    rw [fuse_Views_At.l0] at H1
    refine G.seq <| G.rg <| K.bin (V := .bool (decide (v1 < (a0.parts.length : Int)))) g0 R R (fun _ => R) R <| K.nil <| At.ns <| G.cond R (fun h1 => ?_) (fun h1 => ?_)
    ·
     replace H1 := bif_t H1 h1
     refine G.skip <| At.ns <| G.block <| G.seq ?_
     obtain ⟨x2, hx2, H1⟩ := bnd H1
     refine G.rg <| K.idxL (rV 0 S W0 (Value.slice ao0_0 a0.parts.length cap0_0) b0_0 o0_0 (eTPart A) 4 a0.parts) ((v1).toNat) (hI0_0.is 0) (atL_get hx2) (atL_nn hx2) g0 R R R Tryz.underlying79 el79.size_run R <| K.loadSL Y (rV 0 S W0 (Value.slice ao0_0 a0.parts.length cap0_0) b0_0 o0_0 (eTPart A) 4 a0.parts) ((v1).toNat) 0 [_, _, _, _] [_, _, _, _] (hI0_0.is 0) (atL_get hx2) g0 R R t140 R R R R R <| K.alloc Y 109 _ g0 t140 R R R R R <| K.store Y _ g0 R R R t140 R R R R R <| K.nil <| At.ns ?_
     obtain ⟨x3, hx3, H1⟩ := bnd H1
     refine G.rg <| K.loadS Y _ g0 R R t81 R R R <| K.loadS Y _ g0 R R t140 R R R <| K.mv R R <| K.cV (cf 111 R) [0] (fun β w S2 h => fuse_Views_within_con (a0 := a0) hL_9 ((hI0_0.isC 0).larg ⟨_, List.mem_cons_self⟩ h) hx3 1) g0 (fun _ => R) R R R <| K.mv R R <| K.extract g0 R R R <| K.extract g0 R R R <| K.alloc Y 110 _ g0 t30 R R R R R <| K.store Y _ g0 R R R t30 R R R R R <| K.as R R <| K.nil <| At.nr <| K.mv R R <| K.nil <| At.next <| G.cond R (fun h2 => ?_) (fun h2 => ?_)
     ·
      replace H1 := bif_t H1 h2
      refine G.seq <| G.rg <| K.loadS Y _ g0 R R t30 R R R <| K.store Y _ g0 R R R t30 R R R R R <| K.as R R <| K.nil <| At.next <| G.ret <| At.block_ret <| At.over_ret <| At.over_ret <| At.block_ret <| At.over_ret ?_
      cases H1
      replace H0 := sum_l H0
      refine At.done Y [(.cell 4 30, .agg [_, _]), (.tmp 5, .c _)] R ⟨.st R R t30 R R, .tmp R, trivial⟩ (to' := [(0, _), (1, _)]) ⟨R, R, trivial⟩ ?_ ?_ R R R (.inl R)
      · cases H0; rfl
      · cases H0; rfl
     ·
      replace H1 := bif_f H1 h2
      exact G.skip <| At.block_normal <| At.next <| G.rg <| K.bin (V := .int .i64 (w64 (v1 + 1))) g0 R R (fun _ => R) R <| K.mv R R <| K.nil <| At.ag ⟨(n0, (w64 (v1 + 1))), H1⟩ [] [_, _, _, _] (Nat.lt_succ_self _) R ⟨R, R, R, R, R, R, trivial⟩ ⟨R, (fun _ => R), R, (blk_ren R R), R, (blk_ren R R), R, (fun _ => R), trivial⟩ R
    ·
     replace H1 := bif_f H1 h1
     exact G.exit <| At.over_exit <| At.over_exit <| At.block_hit <| At.jd ⟨(), oi H1⟩ [(102, 108)] [_, _, _] R ⟨R, trivial⟩ ⟨R, (fun _ => R), R, (blk_ren R R), R, (fun _ => R), trivial⟩ R
 ·
  rintro ⟨w1, rfl⟩
  replace H0 := sum_r H0
  show G _ _ [(4, .a (.c (.p 102 0)))] [(0, some (rd S W0)), (102, some (blk 102 [.v (.int .i64 0), .v (.int .i64 0)] 30)), (1, some (hp 1 tq A Q))] _ _
  refine G.seq <| G.rg <| K.build Y [] [_, _] [] g0 (AllE.spec trivial) R R t30 R R <| K.store Y _ g0 R R R t30 R R R R R <| K.as R R <| K.nil <| At.next <| G.ret <| At.done Y [(.cell 4 30, .agg [_, _]), (.tmp 5, .c _)] R ⟨.st R R t30 R R, .tmp R, trivial⟩ (to' := [(0, _), (1, _)]) ⟨R, R, trivial⟩ ?_ ?_ R R R (.inl R)
  · cases H0; rfl
  · cases H0; rfl
theorem fuse_Views_At_con {k : Nat} {S : Foot} {W0 : World} {A : List (Nat → Nat)} {s0_0 : Value} {Q : List TQueue} {a0 : TViews} {a1 : Int} {r : TItem × Bool}  (hL_9 : A.length = Q.length) (hL0_0 : LArg S W0 s0_0 (eTPart A) 4 a0.parts) (H0 : fuse_Views_At.f k Q a0 a1 = some r) (m1 : Nat) : fuse_Views_At_st S W0 A s0_0 Q a1 r m1 :=
 SCon.ren (rn [(1, m1)]) (fuse_Views_At_con0 (k := k)  hL_9 hL0_0 H0) ⟨(fun _ => R), (fun _ => R), trivial⟩ ⟨(fun _ => R), (fun _ => R), trivial⟩ (by simp) (by simp)
abbrev fuse_part_raised_st (A : List (Nat → Nat)) (Q : List TQueue) (a0 : TPart) (a1 : TItem) (r : TPart) (m0 : Nat) : Prop := SCon Tryz.prog 86 [.a (.agg (((eTPart A) a0).map .v)), .a (.agg ((eTItem a1).map .v))] [(m0, hp m0 tq A Q)] (.a (.agg (((eTPart A) r).map .v))) [(m0, hp m0 tq A Q)] []
theorem fuse_part_raised_con0 {k : Nat} {A : List (Nat → Nat)} {Q : List TQueue} {a0 : TPart} {a1 : TItem} {r : TPart}  (hL_9 : A.length = Q.length) (H0 : fuse_part_raised.f k Q a0 a1 = some r) : fuse_part_raised_st A Q a0 a1 r 0 := by
 rw [fuse_part_raised.f] at H0
 refine spec_of [(0, _), (1, _)] [(0, _)] 21 Tryz.func86 R Tryz.ntmps86 R R R R (fun β W F => ?_)
 refine G.seq <| G.rg <| K.box Y 100 _ g0 R R R R R R <| K.box Y 101 _ g0 R R R R R R <| K.alloc Y 102 _ g0 t140 R R R R R <| K.nil <| At.ns <| G.seq ?_
 rcases Bool.eq_false_or_eq_true (!a0.floor.found) with h1 | h1
 ·
  replace H0 := bif_t H0 h1
  refine G.rg <| K.fieldAddr Y g0 R t140 R R <| K.fieldAddr Y g0 R t44 R R <| K.load1 Y g0 R R t4 R R <| K.un (V := .bool (!a0.floor.found)) g0 R (fun _ => R) R <| K.mv R R <| K.sk R R h1 R <| K.sk R R h1 R <| K.sk R R h1 R <| K.sk R R h1 R <| K.sk R R h1 R <| K.sk R R h1 R <| K.pickT g0 R (h1) R R <| K.nil <| At.next <| G.cond R (fun h2 => ?_) (fun h2 => ?_)
  ·
   refine G.rg <| K.loadS Y _ g0 R R t30 R R R <| K.build Y [(0, _), (1, _)] [_, _, _] [(_, _), ((.tmp 17), _)] g0 (AllE.spec ⟨R, R, trivial⟩) R R t44 R R <| K.fieldAddr Y g0 R t140 R R <| K.store Y _ g0 R R R t44 R R R R R <| K.nil <| At.nr <| K.loadS Y _ g0 R R t140 R R R <| K.store Y _ g0 R R R t140 R R R R R <| K.nil <| At.next <| G.ret <| At.done Y [(.cell 4 140, .agg [_, _, _, _])] R ⟨.st R R t140 R R, trivial⟩ (to' := [(0, _)]) ⟨R, trivial⟩ ?_ ?_ R R R (.inl R)
   · cases H0; rfl
   · cases H0; rfl
  · cases h2
 ·
  replace H0 := bif_f H0 h1
  obtain ⟨x1, hx1, H0⟩ := bnd H0
  refine G.rg <| K.fieldAddr Y g0 R t140 R R <| K.fieldAddr Y g0 R t44 R R <| K.load1 Y g0 R R t4 R R <| K.un (V := .bool (!a0.floor.found)) g0 R (fun _ => R) R <| K.mv R R <| K.fieldAddr Y (g1 R R h1) R t140 R R <| K.fieldAddr Y (g1 R R h1) R t44 R R <| K.loadS Y _ (g1 R R h1) R R t30 R R R <| K.loadS Y _ (g1 R R h1) R R t30 R R R <| K.cR (cf 89 R) (item_Compare_con hx1) (g1 R R h1) R R R R <| K.bin (V := .bool (decide (x1 < 0))) (g1 R R h1) R R (fun _ => R) R <| K.pickF g0 R (h1) R R <| K.nil <| At.next <| G.cond R (fun h3 => ?_) (fun h3 => ?_)
  ·
   replace H0 := bif_t H0 h3
   refine G.rg <| K.loadS Y _ g0 R R t30 R R R <| K.build Y [(0, _), (1, _)] [_, _, _] [(_, _), ((.tmp 17), _)] g0 (AllE.spec ⟨R, R, trivial⟩) R R t44 R R <| K.fieldAddr Y g0 R t140 R R <| K.store Y _ g0 R R R t44 R R R R R <| K.nil <| At.nr <| K.loadS Y _ g0 R R t140 R R R <| K.store Y _ g0 R R R t140 R R R R R <| K.nil <| At.next <| G.ret <| At.done Y [(.cell 4 140, .agg [_, _, _, _])] R ⟨.st R R t140 R R, trivial⟩ (to' := [(0, _)]) ⟨R, trivial⟩ ?_ ?_ R R R (.inl R)
   · cases H0; rfl
   · cases H0; rfl
  ·
   replace H0 := bif_f H0 h3
   refine G.skip <| At.nr <| K.loadS Y _ g0 R R t140 R R R <| K.store Y _ g0 R R R t140 R R R R R <| K.nil <| At.next <| G.ret <| At.done Y [(.cell 4 140, .agg [_, _, _, _])] R ⟨.st R R t140 R R, trivial⟩ (to' := [(0, _)]) ⟨R, trivial⟩ ?_ ?_ R R R (.inl R)
   · cases H0; rfl
   · cases H0; rfl
theorem fuse_part_raised_con {k : Nat} {A : List (Nat → Nat)} {Q : List TQueue} {a0 : TPart} {a1 : TItem} {r : TPart}  (hL_9 : A.length = Q.length) (H0 : fuse_part_raised.f k Q a0 a1 = some r) (m0 : Nat) : fuse_part_raised_st A Q a0 a1 r m0 :=
 SCon.ren (rn [(0, m0)]) (fuse_part_raised_con0 (k := k)  hL_9 H0) ⟨(fun _ => R), trivial⟩ ⟨(fun _ => R), trivial⟩ (by simp) (by simp)
abbrev slices_Clone_st (S : Foot) (W0 : World) (A : List (Nat → Nat)) (s0 : Value) (Q : List TQueue) (r : List TPart) (m1 : Nat) (m30 : Nat) : Prop := SCon Tryz.prog 84 [SV.raw s0] [(0, rd S W0), (m1, hp m1 tq A Q)] (.a (.c (.nv m30))) [(0, rd S W0), (m1, hp m1 tq A Q), (m30, lrow m30 140 (eTPart A) 4 r)] [m30]
theorem slices_Clone_con0 {k : Nat} {S : Foot} {W0 : World} {A : List (Nat → Nat)} {s0 : Value} {Q : List TQueue} {l0 : List TPart} {r : List TPart}  (hL_9 : A.length = Q.length) (hL0 : LArg S W0 s0 (eTPart A) 4 l0) (H0 : slices_Clone.f k Q l0 = some r) : slices_Clone_st S W0 A s0 Q r 1 30 := by
 rw [slices_Clone.f] at H0
 obtain ⟨b0, o0, hI0⟩ := hL0
 refine spec_of [(0, _)] [(0, _), (1, _)] 8 Tryz.func84 R Tryz.ntmps84 R R R R (fun β W F => ?_)
 obtain ⟨ao0, cap0, hE0, hc0, hp0⟩ := hI0.sl
 subst hE0
 cases ao0 with
 | none =>
  have hl0 : l0 = [] := by
   cases l0 with
   | nil => rfl
   | cons x l => exact absurd (hp0 (by simp)) (by simp)
  replace H0 : some ([] : List TPart) = some r := by rw [hl0] at H0; simpa using H0
  refine G.seq <| G.rg <| K.nilRow 100 140 (eTPart A) 4 (.inl R) g0 R R R <| K.nil <| At.ns <| G.seq <| G.rg <| K.mv R R <| K.bin (V := .bool true) g0 R R (sn_eql Tryz.underlying79 none _ _) R <| K.nil <| At.next <| G.cond R (fun h1 => ?_) (fun h1 => ?_)
  ·
   exact G.seq <| G.rg <| K.nilRow 101 140 (eTPart A) 4 (.inl R) g0 R R R <| K.nil <| At.next <| G.ret <| At.over_ret <| At.ren (fs' := [(2, .a (.c (.nv 30)))]) (tl := [(0, rd S W0), (1, hp 1 tq A Q), (30, lrow 30 140 (eTPart A) 4 ([] : List TPart))]) [(30, 101)] [_, _, _] R ⟨R, trivial⟩ ⟨R, (fun _ => R), R, (fun _ => R), R, (lrow_ren R), trivial⟩ R <| At.dr Y [2] R R (by cases H0; rfl) (by cases H0; rfl) R R R
  · cases h1
 | some a0 =>
  refine G.seq <| G.rg <| K.nilRow 100 140 (eTPart A) 4 (.inl R) g0 R R R <| K.nil <| At.ns <| G.seq <| G.rg <| K.mv R R <| K.bin (V := .bool false) g0 R R (sn_eql Tryz.underlying79 (some a0) _ _) R <| K.nil <| At.next <| G.cond R (fun h1 => ?_) (fun h1 => ?_)
  · cases h1
  ·
   refine G.skip <| At.ns ?_
   obtain ⟨h2, H0⟩ := grd H0
   exact G.rg <| K.buildL Y 101 ([] : List TPart) [] [] (eTPart_len A) g0 (AllE.spec trivial) R R Tryz.underlying79 t140 R R R R R R R R <| K.mv R R <| K.appendL 102 (rV 0 S W0 (Value.slice (some a0) l0.length cap0) b0 o0 (eTPart A) 4 l0) _ el79 (hI0.is 0) (eTPart_one A) g0 R R R R R (ap_m h2) (ap_b h2 (by decide)) R R R R R R <| K.as R R <| K.nil <| At.next <| G.ret <| At.ren (fs' := [(2, .a (.c (.nv 30)))]) (tl := [(0, rd S W0), (1, hp 1 tq A Q), (30, lrow 30 140 (eTPart A) 4 (([] : List TPart) ++ l0))]) [(30, 102)] [_, _, _] R ⟨R, trivial⟩ ⟨R, (fun _ => R), R, (fun _ => R), R, (lrow_ren R), trivial⟩ R <| At.dr Y [2] R R (by cases H0; rfl) (by cases H0; rfl) R R R
theorem slices_Clone_con {k : Nat} {S : Foot} {W0 : World} {A : List (Nat → Nat)} {s0 : Value} {Q : List TQueue} {l0 : List TPart} {r : List TPart}  (hL_9 : A.length = Q.length) (hL0 : LArg S W0 s0 (eTPart A) 4 l0) (H0 : slices_Clone.f k Q l0 = some r) (m1 m30 : Nat) (hd : ndB [m1, m30] = true) : slices_Clone_st S W0 A s0 Q r m1 m30 :=
 SCon.ren (rn [(1, m1), (30, m30)]) (slices_Clone_con0 (k := k)  hL_9 hL0 H0) ⟨(fun _ => R), (fun _ => R), trivial⟩ ⟨(fun _ => R), (fun _ => R), (lrow_ren R), trivial⟩ (rn_nd hd R R) (rn_ks hd R R R)
abbrev fuse_Views_Then_st (S : Foot) (W0 : World) (A : List (Nat → Nat)) (s0_0 : Value) (Q : List TQueue) (a1 : THp) (r : TViews) (m1 : Nat) (m60 : Nat) : Prop := SCon Tryz.prog 47 [.a (.agg [.v s0_0]), .a (.c (.v (ptr (hA A a1) 0)))] [(0, rd S W0), (m1, hp m1 tq A Q)] (.a (.agg [.nv m60])) [(0, rd S W0), (m1, hp m1 tq A Q), (m60, lrow m60 140 (eTPart A) 4 (r.parts))] [m60]
theorem fuse_Views_Then_con0 {k : Nat} {S : Foot} {W0 : World} {A : List (Nat → Nat)} {s0_0 : Value} {Q : List TQueue} {a0 : TViews} {a1 : THp} {r : TViews}  (hL_9 : A.length = Q.length) (hL0_0 : LArg S W0 s0_0 (eTPart A) 4 a0.parts) (H0 : fuse_Views_Then.f k Q a0 a1 = some r) : fuse_Views_Then_st S W0 A s0_0 Q a1 r 1 60 := by
 rw [fuse_Views_Then.f] at H0
 obtain ⟨b0_0, o0_0, hI0_0⟩ := hL0_0
 obtain ⟨ao0_0, cap0_0, hE0_0, _⟩ := hI0_0.sl
 subst hE0_0
 refine spec_of [(0, _), (1, _)] [(0, _), (1, _)] 66 Tryz.func47 R Tryz.ntmps47 R R R R (fun β W F => ?_)
 refine G.seq <| G.rg <| K.box Y 100 _ g0 R R R R R R <| K.alloc Y 101 _ g0 t81 R R R R R <| K.nil <| At.nilBlk (n := 101) (l' := [_]) 0 102 140 (eTPart A) 4 R R R R R <| At.ns <| G.seq <| G.rg <| K.mv R R <| K.bin (V := .bool false) g0 R R (pn_eql_some Tryz.underlying24 _) R <| K.nil <| At.next <| G.cond R (fun h1 => ?_) (fun h1 => ?_)
 · cases h1
 ·
  refine G.skip <| At.ns ?_
  obtain ⟨x1, hx1, H0⟩ := bnd H0
  obtain ⟨x2, hx2, H0⟩ := bnd H0
  refine G.rg <| K.mv R R <| K.cR (cf 33 R) (onQueueP 1 4 (by decide) hL_9 hx1 (partial_Queue_Present_con hx2 1 2 3 4 5 6 7 8 9) R) g0 R R R R <| K.build Y [(0, _)] [_, _, _, _] [((.tmp 16), _)] g0 (AllE.spec ⟨R, trivial⟩) R R t140 R R <| K.alloc Y 103 _ g0 t140 R R R R R <| K.store Y _ g0 R R R t140 R R R R R <| K.nil <| At.ns ?_
  obtain ⟨x3, hx3, H0⟩ := bnd H0
  obtain ⟨x4, hx4, H0⟩ := bnd H0
  obtain ⟨x5, hx5, H0⟩ := bnd H0
  obtain ⟨h2, H0⟩ := grd H0
  refine G.rg <| K.fieldAddr Y g0 R t81 R R <| K.load1 Y g0 R R t79 R R <| K.cV (cf 84 R) [0] (fun β w S2 h => slices_Clone_con hL_9 ((hI0_0.isC 0).larg ⟨_, List.mem_cons_self⟩ h) hx3 1 104 R) g0 (fun _ => R) R R R <| K.mv R R <| K.cR (cf 30 R) (onQueueP 1 6 (by decide) hL_9 hx4 (partial_Queue_Gone_con hx5 1 2 3 4 5 6 7 8 9) R) g0 R R R R <| K.build Y [(0, _)] [_, _, _, _] [((.tmp 22), _)] g0 (AllE.spec ⟨R, trivial⟩) R R t140 R R <| K.buildL Y 105 ([(TPart.mk (THp.mk a1.q 6) zTTook)] : List TPart) [(0, _)] [((.tmp 23), _)] (eTPart_len A) g0 (AllE.spec ⟨R, trivial⟩) R R Tryz.underlying79 t140 R R R R R R R R <| K.appendL 106 (lrowV 105 140 (eTPart A) 4 ([(TPart.mk (THp.mk a1.q 6) zTTook)] : List TPart)) _ el79 (lrowV_is (eTPart_len A) (by decide)) (eTPart_one A) g0 R R R R R (ap_m h2) (ap_b h2 (by decide)) R R R R R R <| K.build Y [(0, _)] [_] [((.tmp 25), _)] g0 (AllE.spec ⟨R, trivial⟩) R R t81 R R <| K.alloc Y 107 _ g0 t81 R R R R R <| K.store Y _ g0 R R R t81 R R R R R <| K.nil <| At.ns ?_
  obtain ⟨x6, hx6, H0⟩ := bnd H0
  obtain ⟨x7, hx7, H0⟩ := bnd H0
  refine G.rg <| K.mv R R <| K.cR (cf 29 R) (onQueue 1 hL_9 hx6 (partial_Queue_Deletes_con hx7 1 2 3 4 5 6 7 8 9) R R) g0 R R R R <| K.as R R <| K.nil <| At.ns <| G.seq ?_
  obtain ⟨x8, hx8, H0⟩ := bnd H0
  refine G.rg <| K.mv R R <| K.loadS Y _ g0 R R t81 R R R <| K.cV (cf 46 R) [106] (fun β w S2 h => fuse_Views_Len_con (a0 := (TViews.mk (x3 ++ ([(TPart.mk (THp.mk a1.q 6) zTTook)] : List TPart)))) hL_9 (la 0 R (eTPart_len A) R h) hx8 1) g0 (fun _ => R) R R R <| K.bin (V := .bool (decide (x7 ≥ x8))) g0 R R (fun _ => R) R <| K.nil <| At.next <| G.cond R (fun h3 => ?_) (fun h3 => ?_)
  ·
   replace H0 := bif_t H0 h3
   refine G.seq <| G.rg <| K.loadS Y _ g0 R R t140 R R R <| K.buildL Y 108 ([(TPart.mk (THp.mk a1.q 4) zTTook)] : List TPart) [(0, _)] [((.tmp 33), _)] (eTPart_len A) g0 (AllE.spec ⟨R, trivial⟩) R R Tryz.underlying79 t140 R R R R R R R R <| K.build Y [(0, _)] [_] [((.tmp 34), _)] g0 (AllE.spec ⟨R, trivial⟩) R R t81 R R <| K.store Y _ g0 R R R t81 R R R R R <| K.nil <| At.next <| G.ret <| At.over_ret <| At.ren (fs' := [(4, .a (.c (.p 101 0)))]) (tl := [(0, rd S W0), (1, hp 1 tq A Q), (60, lrow 60 140 (eTPart A) 4 ([(TPart.mk (THp.mk a1.q 4) zTTook)] : List TPart)), (101, blk 101 [.nv 60] 81)]) [(60, 108)] [_, _, _, _] R ⟨R, trivial⟩ ⟨R, (fun _ => R), R, (fun _ => R), R, (lrow_ren R), R, (blk_ren R R), trivial⟩ R <| At.done Y [(.cell 4 81, .agg [_])] R ⟨.st R R t81 R R, trivial⟩ (to' := [(0, _), (1, _), (60, _)]) ⟨R, R, R, trivial⟩ ?_ ?_ R R R (.inl R)
   · cases H0; rfl
   · cases H0; rfl
  ·
   replace H0 := bif_f H0 h3
   refine G.skip <| At.next ?_
   obtain ⟨x9, H1, H0⟩ := bnd H0
   refine G.sJ (σ := { v : List TPart // x9 = v }) (fun q => [(4, .a (.c (.p 109 0))), (5, .a (.c (.p 111 0))), (6, .a (.c (.p 112 0)))]) (fun q => [(0, rd S W0), (110, lrow 110 140 (eTPart A) 4 ([] : List TPart)), (109, blk 109 [.nv 110] 81), (111, blk 111 [.v (ptr (hA A (THp.mk a1.q 4)) 0), .v (.bool false), .v (.int .i64 0), .v (.int .i64 0)] 140), (113, lrow 113 140 (eTPart A) 4 q.1), (112, blk 112 [.nv 113] 81), (1, hp 1 tq A Q)]) ?_ ?_
   ·
    refine G.seq ?_
    obtain ⟨x10, hx10, H1⟩ := bnd H1
    refine G.rg <| K.loadS Y _ g0 R R t81 R R R <| K.mv R R <| K.bin (V := .int .i64 (w64 (x7 - 1))) g0 R R (fun _ => R) R <| K.cV (cf 85 R) [106] (fun β w S2 h => fuse_Views_At_con (a0 := (TViews.mk (x3 ++ ([(TPart.mk (THp.mk a1.q 6) zTTook)] : List TPart)))) hL_9 (la 0 R (eTPart_len A) R h) hx10 1) g0 (fun _ => R) R R R <| K.mv R R <| K.extract g0 R R R <| K.extract g0 R R R <| K.alloc Y 114 _ g0 t30 R R R R R <| K.store Y _ g0 R R R t30 R R R R R <| K.as R R <| K.nil <| At.nr <| K.mv R R <| K.nil <| At.next <| G.cond R (fun h4 => ?_) (fun h4 => ?_)
    ·
     replace H1 := bif_t H1 h4
     refine G.seq <| G.rg <| K.fieldAddr Y g0 R t81 R R <| K.load1 Y g0 R R t79 R R <| K.lenL (lrowV 106 140 (eTPart A) 4 (x3 ++ ([(TPart.mk (THp.mk a1.q 6) zTTook)] : List TPart))) (lrowV_is (eTPart_len A) (by decide)) g0 R R Tryz.underlying79 R <| K.mv R R <| K.nil <| At.next <| G.block <| G.lp (σ := { q : Nat × (List TPart × Int) // fuse_Views_Then.l0 k Q a1 x3 x10 q.1 q.2 = some x9 }) (fun q => [(4, .a (.c (.p 127 0))), (5, .a (.c (.p 129 0))), (6, .a (.c (.p 130 0))), (8, .a (.c (.p 132 0))), (45, .a (.c (.nv 131))), (46, .a (.c (.v (.int .i64 ((x3 ++ ([(TPart.mk (THp.mk a1.q 6) zTTook)] : List TPart)).length : Int))))), (47, .a (.c (.v (.int .i64 q.1.2.2))))]) (fun q => [(0, rd S W0), (128, lrow 128 140 (eTPart A) 4 ([] : List TPart)), (127, blk 127 [.nv 128] 81), (129, blk 129 [.v (ptr (hA A (THp.mk a1.q 4)) 0), .v (.bool false), .v (.int .i64 0), .v (.int .i64 0)] 140), (131, lrow 131 140 (eTPart A) 4 q.1.2.1), (130, blk 130 [.nv 131] 81), (132, blk 132 [.v (.int .i64 x10.1.key), .v (.int .i64 x10.1.id)] 30), (1, hp 1 tq A Q)]) (fun q => q.1.1) ⟨(k, ((x3 ++ ([(TPart.mk (THp.mk a1.q 6) zTTook)] : List TPart)), 0)), H1⟩ ?_ ?_
     · exact At.into [(127, 101), (128, 102), (129, 103), (130, 107), (131, 106), (132, 114)] [_, _, _, _, _, _, _, _] R ⟨R, R, R, R, R, R, R, trivial⟩ ⟨R, (fun _ => R), R, (lrow_ren R), R, (blk_ren R R), R, (blk_ren R R), R, (lrow_ren R), R, (blk_ren R R), R, (blk_ren R R), R, (fun _ => R), trivial⟩ R
     ·
      rintro ⟨⟨n0, v1, v2⟩, H1⟩
      show G _ _ [(4, .a (.c (.p 127 0))), (5, .a (.c (.p 129 0))), (6, .a (.c (.p 130 0))), (8, .a (.c (.p 132 0))), (45, .a (.c (.nv 131))), (46, .a (.c (.v (.int .i64 ((x3 ++ ([(TPart.mk (THp.mk a1.q 6) zTTook)] : List TPart)).length : Int))))), (47, .a (.c (.v (.int .i64 v2))))] [(0, some (rd S W0)), (128, some (lrow 128 140 (eTPart A) 4 ([] : List TPart))), (127, some (blk 127 [.nv 128] 81)), (129, some (blk 129 [.v (ptr (hA A (THp.mk a1.q 4)) 0), .v (.bool false), .v (.int .i64 0), .v (.int .i64 0)] 140)), (131, some (lrow 131 140 (eTPart A) 4 v1)), (130, some (blk 130 [.nv 131] 81)), (132, some (blk 132 [.v (.int .i64 x10.1.key), .v (.int .i64 x10.1.id)] 30)), (1, some (hp 1 tq A Q))] _ _
      cases n0 with
      | zero => exact absurd H1 (by simp [fuse_Views_Then.l0])
      | succ n0 =>
       have HL0 := H1
       rw [fuse_Views_Then.l0] at H1
       refine G.seq <| G.rg <| K.bin (V := .bool (decide (v2 < ((x3 ++ ([(TPart.mk (THp.mk a1.q 6) zTTook)] : List TPart)).length : Int)))) g0 R R (fun _ => R) R <| K.nil <| At.ns <| G.cond R (fun h5 => ?_) (fun h5 => ?_)
       ·
        replace H1 := bif_t H1 h5
        refine G.skip <| At.ns <| G.block <| G.seq ?_
        obtain ⟨x11, hx11, H1⟩ := bnd H1
        refine G.rg <| K.mv R R <| K.idxL (lrowV 131 140 (eTPart A) 4 v1) ((v2).toNat) (lrowV_is (eTPart_len A) (by decide)) (atL_get hx11) (atL_nn hx11) g0 R R R Tryz.underlying79 el79.size_run R <| K.loadSL Y (lrowV 131 140 (eTPart A) 4 v1) ((v2).toNat) 0 [_, _, _, _] [_, _, _, _] (lrowV_is (eTPart_len A) (by decide)) (atL_get hx11) g0 R R t140 R R R R R <| K.alloc Y 133 _ g0 t140 R R R R R <| K.as R R <| K.store Y _ g0 R R R t140 R R R R R <| K.nil <| At.next ?_
        obtain ⟨x12, hx12, H1⟩ := bnd H1
        exact G.rd mixed <| K.fieldAddr Y g0 R t81 R R <| K.load1 Y g0 R R t79 R R <| K.mv R R <| K.loadS Y _ g0 R R t140 R R R <| K.loadS Y _ g0 R R t30 R R R <| K.cR (cf 86 R) (fuse_part_raised_con hL_9 hx12 1) g0 R R R R <| K.idxL (lrowV 131 140 (eTPart A) 4 v1) ((v2).toNat) (lrowV_is (eTPart_len A) (by decide)) (atL_get hx11) (atL_nn hx11) g0 R R R Tryz.underlying79 el79.size_run R <| K.storeL Y ((v2).toNat) 0 [_, _, _, _] x12 (eTPart_len A) (by decide) (atL_get hx11) g0 R R R t140 R R R R R R <| K.nil <| And.intro (by kernel_rfl) <| At.block_normal <| At.next <| G.rg <| K.bin (V := .int .i64 (w64 (v2 + 1))) g0 R R (fun _ => R) R <| K.mv R R <| K.nil <| At.ag ⟨(n0, ((v1.set ((v2).toNat) x12), (w64 (v2 + 1)))), H1⟩ [] [_, _, _, _, _, _, _, _] (Nat.lt_succ_self _) R ⟨R, R, R, R, R, R, R, trivial⟩ ⟨R, (fun _ => R), R, (lrow_ren R), R, (blk_ren R R), R, (blk_ren R R), R, (lrow_ren R), R, (blk_ren R R), R, (blk_ren R R), R, (fun _ => R), trivial⟩ R
       ·
        replace H1 := bif_f H1 h5
        exact G.exit <| At.over_exit <| At.over_exit <| At.block_hit <| At.jd ⟨v1, oi H1⟩ [(109, 127), (110, 128), (111, 129), (112, 130), (113, 131)] [_, _, _, _, _, _, _] R ⟨R, R, R, trivial⟩ ⟨R, (fun _ => R), R, (lrow_ren R), R, (blk_ren R R), R, (blk_ren R R), R, (lrow_ren R), R, (blk_ren R R), R, (fun _ => R), trivial⟩ R
    ·
     replace H1 := bif_f H1 h4
     exact G.skip <| At.jd ⟨(x3 ++ ([(TPart.mk (THp.mk a1.q 6) zTTook)] : List TPart)), oi H1⟩ [(109, 101), (110, 102), (111, 103), (112, 107), (113, 106)] [_, _, _, _, _, _, _] R ⟨R, R, R, trivial⟩ ⟨R, (fun _ => R), R, (lrow_ren R), R, (blk_ren R R), R, (blk_ren R R), R, (lrow_ren R), R, (blk_ren R R), R, (fun _ => R), trivial⟩ R
   ·
    rintro ⟨_, rfl⟩
    show G _ _ [(4, .a (.c (.p 109 0))), (5, .a (.c (.p 111 0))), (6, .a (.c (.p 112 0)))] [(0, some (rd S W0)), (110, some (lrow 110 140 (eTPart A) 4 ([] : List TPart))), (109, some (blk 109 [.nv 110] 81)), (111, some (blk 111 [.v (ptr (hA A (THp.mk a1.q 4)) 0), .v (.bool false), .v (.int .i64 0), .v (.int .i64 0)] 140)), (113, some (lrow 113 140 (eTPart A) 4 x9)), (112, some (blk 112 [.nv 113] 81)), (1, some (hp 1 tq A Q))] _ _
    refine G.seq ?_
    obtain ⟨h6, H0⟩ := grd H0
    refine G.rg <| K.fieldAddr Y g0 R t81 R R <| K.load1 Y g0 R R t79 R R <| K.loadS Y _ g0 R R t140 R R R <| K.buildL Y 134 ([(TPart.mk (THp.mk a1.q 4) zTTook)] : List TPart) [(0, _)] [((.tmp 62), _)] (eTPart_len A) g0 (AllE.spec ⟨R, trivial⟩) R R Tryz.underlying79 t140 R R R R R R R R <| K.appendL 135 (lrowV 134 140 (eTPart A) 4 ([(TPart.mk (THp.mk a1.q 4) zTTook)] : List TPart)) _ el79 (lrowV_is (eTPart_len A) (by decide)) (eTPart_one A) g0 R R R R R (ap_m h6) (ap_b h6 (by decide)) R R R R R R <| K.build Y [(0, _)] [_] [((.tmp 64), _)] g0 (AllE.spec ⟨R, trivial⟩) R R t81 R R <| K.store Y _ g0 R R R t81 R R R R R <| K.nil <| At.next <| G.ret <| At.ren (fs' := [(4, .a (.c (.p 109 0)))]) (tl := [(0, rd S W0), (1, hp 1 tq A Q), (60, lrow 60 140 (eTPart A) 4 (x9 ++ ([(TPart.mk (THp.mk a1.q 4) zTTook)] : List TPart))), (109, blk 109 [.nv 60] 81)]) [(60, 135)] [_, _, _, _] R ⟨R, trivial⟩ ⟨R, (fun _ => R), R, (fun _ => R), R, (lrow_ren R), R, (blk_ren R R), trivial⟩ R <| At.done Y [(.cell 4 81, .agg [_])] R ⟨.st R R t81 R R, trivial⟩ (to' := [(0, _), (1, _), (60, _)]) ⟨R, R, R, trivial⟩ ?_ ?_ R R R (.inl R)
    · cases H0; rfl
    · cases H0; rfl
theorem fuse_Views_Then_con {k : Nat} {S : Foot} {W0 : World} {A : List (Nat → Nat)} {s0_0 : Value} {Q : List TQueue} {a0 : TViews} {a1 : THp} {r : TViews}  (hL_9 : A.length = Q.length) (hL0_0 : LArg S W0 s0_0 (eTPart A) 4 a0.parts) (H0 : fuse_Views_Then.f k Q a0 a1 = some r) (m1 m60 : Nat) (hd : ndB [m1, m60] = true) : fuse_Views_Then_st S W0 A s0_0 Q a1 r m1 m60 :=
 SCon.ren (rn [(1, m1), (60, m60)]) (fuse_Views_Then_con0 (k := k)  hL_9 hL0_0 H0) ⟨(fun _ => R), (fun _ => R), trivial⟩ ⟨(fun _ => R), (fun _ => R), (lrow_ren R), trivial⟩ (rn_nd hd R R) (rn_ks hd R R R)
abbrev fuse_Views_Min_st (S : Foot) (W0 : World) (A : List (Nat → Nat)) (s0_0 : Value) (Q : List TQueue) (r : TItem × Bool) (m1 : Nat) : Prop := SCon Tryz.prog 82 [.a (.agg [.v s0_0])] [(0, rd S W0), (m1, hp m1 tq A Q)] (.tup [.agg ((eTItem r.1).map .v), .c (.v (.bool r.2))]) [(0, rd S W0), (m1, hp m1 tq A Q)] []
theorem fuse_Views_Min_con0 {k : Nat} {S : Foot} {W0 : World} {A : List (Nat → Nat)} {s0_0 : Value} {Q : List TQueue} {a0 : TViews} {r : TItem × Bool}  (hL_9 : A.length = Q.length) (hL0_0 : LArg S W0 s0_0 (eTPart A) 4 a0.parts) (H0 : fuse_Views_Min.f k Q a0 = some r) : fuse_Views_Min_st S W0 A s0_0 Q r 1 := by
 rw [fuse_Views_Min.f] at H0
 obtain ⟨b0_0, o0_0, hI0_0⟩ := hL0_0
 obtain ⟨ao0_0, cap0_0, hE0_0, _⟩ := hI0_0.sl
 subst hE0_0
 refine spec_of [(0, _)] [(0, _), (1, _)] 8 Tryz.func82 R Tryz.ntmps82 R R R R (fun β W F => ?_)
 refine G.seq <| G.rg <| K.box Y 100 _ g0 R R R R R R <| K.alloc Y 101 _ g0 t30 R R R R R <| K.as R R <| K.nil <| At.ns ?_
 obtain ⟨x1, hx1, H0⟩ := bnd H0
 refine G.rg <| K.loadS Y _ g0 R R t81 R R R <| K.cV (cf 85 R) [0] (fun β w S2 h => fuse_Views_At_con (a0 := a0) hL_9 ((hI0_0.isC 0).larg ⟨_, List.mem_cons_self⟩ h) hx1 1) g0 (fun _ => R) R R R <| K.extract g0 R R R <| K.extract g0 R R R <| K.store Y _ g0 R R R t30 R R R R R <| K.as R R <| K.nil <| At.next <| G.ret <| At.done Y [(.cell 2 30, .agg [_, _]), (.tmp 3, .c _)] R ⟨.st R R t30 R R, .tmp R, trivial⟩ (to' := [(0, _), (1, _)]) ⟨R, R, trivial⟩ ?_ ?_ R R R (.inl R)
 · cases H0; rfl
 · cases H0; rfl
theorem fuse_Views_Min_con {k : Nat} {S : Foot} {W0 : World} {A : List (Nat → Nat)} {s0_0 : Value} {Q : List TQueue} {a0 : TViews} {r : TItem × Bool}  (hL_9 : A.length = Q.length) (hL0_0 : LArg S W0 s0_0 (eTPart A) 4 a0.parts) (H0 : fuse_Views_Min.f k Q a0 = some r) (m1 : Nat) : fuse_Views_Min_st S W0 A s0_0 Q r m1 :=
 SCon.ren (rn [(1, m1)]) (fuse_Views_Min_con0 (k := k)  hL_9 hL0_0 H0) ⟨(fun _ => R), (fun _ => R), trivial⟩ ⟨(fun _ => R), (fun _ => R), trivial⟩ (by simp) (by simp)
abbrev fuse_Views_Items_st (S : Foot) (W0 : World) (A : List (Nat → Nat)) (s0_0 : Value) (Q : List TQueue) (r : List TItem) (m1 : Nat) (m30 : Nat) : Prop := SCon Tryz.prog 90 [.a (.agg [.v s0_0])] [(0, rd S W0), (m1, hp m1 tq A Q)] (.a (.c (.nv m30))) [(0, rd S W0), (m1, hp m1 tq A Q), (m30, lrow m30 30 eTItem 2 r)] [m30]
theorem fuse_Views_Items_con0 {k : Nat} {S : Foot} {W0 : World} {A : List (Nat → Nat)} {s0_0 : Value} {Q : List TQueue} {a0 : TViews} {r : List TItem}  (hL_9 : A.length = Q.length) (hL0_0 : LArg S W0 s0_0 (eTPart A) 4 a0.parts) (H0 : fuse_Views_Items.f k Q a0 = some r) : fuse_Views_Items_st S W0 A s0_0 Q r 1 30 := by
 rw [fuse_Views_Items.f] at H0
 obtain ⟨b0_0, o0_0, hI0_0⟩ := hL0_0
 obtain ⟨ao0_0, cap0_0, hE0_0, _⟩ := hI0_0.sl
 subst hE0_0
 refine spec_of [(0, _)] [(0, _), (1, _)] 24 Tryz.func90 R Tryz.ntmps90 R R R R (fun β W F => ?_)
 refine G.seq <| G.rg <| K.box Y 100 _ g0 R R R R R R <| K.nilRow 101 30 eTItem 2 (.inl R) g0 R R R <| K.nil <| At.nr <| K.nilRow 102 30 eTItem 2 (.inl R) g0 R R R <| K.nil <| At.next ?_
 obtain ⟨x1, H1, H0⟩ := bnd H0
 refine G.sJ (σ := { v : List TItem // x1 = v }) (fun q => [(3, .a (.c (.nv 103)))]) (fun q => [(0, rd S W0), (103, lrow 103 30 eTItem 2 q.1), (1, hp 1 tq A Q)]) ?_ ?_
 ·
  refine G.seq <| G.rg <| K.fieldAddr Y g0 R t81 R R <| K.load1 Y g0 R R t79 R R <| K.lenL (rV 0 S W0 (Value.slice ao0_0 a0.parts.length cap0_0) b0_0 o0_0 (eTPart A) 4 a0.parts) (hI0_0.is 0) g0 R R Tryz.underlying79 R <| K.mv R R <| K.nil <| At.next <| G.block <| G.lp (σ := { q : Nat × (List TItem × Int) // fuse_Views_Items.l0 k Q a0 q.1 q.2 = some x1 }) (fun q => [(3, .a (.c (.nv 106))), (7, SV.raw (Value.slice ao0_0 a0.parts.length cap0_0)), (8, .a (.c (.v (.int .i64 (a0.parts.length : Int))))), (9, .a (.c (.v (.int .i64 q.1.2.2))))]) (fun q => [(0, rd S W0), (106, lrow 106 30 eTItem 2 q.1.2.1), (1, hp 1 tq A Q)]) (fun q => q.1.1) ⟨(k, (([] : List TItem), 0)), H1⟩ ?_ ?_
  · exact At.into [(106, 102)] [_, _, _] R ⟨R, R, R, R, trivial⟩ ⟨R, (fun _ => R), R, (lrow_ren R), R, (fun _ => R), trivial⟩ R
  ·
   rintro ⟨⟨n0, v1, v2⟩, H1⟩
   show G _ _ [(3, .a (.c (.nv 106))), (7, SV.raw (Value.slice ao0_0 a0.parts.length cap0_0)), (8, .a (.c (.v (.int .i64 (a0.parts.length : Int))))), (9, .a (.c (.v (.int .i64 v2))))] [(0, some (rd S W0)), (106, some (lrow 106 30 eTItem 2 v1)), (1, some (hp 1 tq A Q))] _ _
   cases n0 with
   | zero => exact absurd H1 (by simp [fuse_Views_Items.l0])
   | succ n0 =>
    have HL0 := H1
    rw [fuse_Views_Items.l0] at H1
    refine G.seq <| G.rg <| K.bin (V := .bool (decide (v2 < (a0.parts.length : Int)))) g0 R R (fun _ => R) R <| K.nil <| At.ns <| G.cond R (fun h1 => ?_) (fun h1 => ?_)
    ·
     replace H1 := bif_t H1 h1
     refine G.skip <| At.ns <| G.block <| G.seq ?_
     obtain ⟨x2, hx2, H1⟩ := bnd H1
     refine G.rg <| K.idxL (rV 0 S W0 (Value.slice ao0_0 a0.parts.length cap0_0) b0_0 o0_0 (eTPart A) 4 a0.parts) ((v2).toNat) (hI0_0.is 0) (atL_get hx2) (atL_nn hx2) g0 R R R Tryz.underlying79 el79.size_run R <| K.loadSL Y (rV 0 S W0 (Value.slice ao0_0 a0.parts.length cap0_0) b0_0 o0_0 (eTPart A) 4 a0.parts) ((v2).toNat) 0 [_, _, _, _] [_, _, _, _] (hI0_0.is 0) (atL_get hx2) g0 R R t140 R R R R R <| K.alloc Y 107 _ g0 t140 R R R R R <| K.store Y _ g0 R R R t140 R R R R R <| K.nil <| At.next ?_
     obtain ⟨x3, hx3, H1⟩ := bnd H1
     obtain ⟨x4, hx4, H1⟩ := bnd H1
     obtain ⟨x5, hx5, H1⟩ := bnd H1
     obtain ⟨h2, H1⟩ := grd H1
     obtain ⟨h4, H1⟩ := grd H1
     exact G.rd mixed <| K.mv R R <| K.fieldAddr Y g0 R t140 R R <| K.load1 Y g0 R R t63 R R <| K.c0 (cf 35 R) (onTree 1 hL_9 hx3 (shelf_Items_con hx4 4 5 108 R) (shelf_Items_con hx4 6 7 108 R) R R R R) g0 R R R R <| K.loadS Y _ g0 R R t140 R R R <| K.cR (cf 110 R) (fuse_part_ahead_con hL_9 hx5 1) g0 R R R R <| K.partL ((x5).toNat) x4.length g0 R (.at_ R h2.1 R) .no R Tryz.underlying33 el33.size_run (tn_len h2.2) (Nat.le_refl _) R <| K.appendL 109 (lsubV 108 30 eTItem 2 x4 ((x5).toNat) x4.length) _ el33 (lsubV_is eTItem_len (by decide) (tn_len h2.2) (Nat.le_refl _)) eTItem_one g0 R R R R R (ap_m h4) (ap_b h4 (by decide)) R R R R R R <| K.as R R <| K.nil <| And.intro (by kernel_rfl) <| At.block_normal <| At.next <| G.rg <| K.bin (V := .int .i64 (w64 (v2 + 1))) g0 R R (fun _ => R) R <| K.mv R R <| K.nil <| At.ag ⟨(n0, ((v1 ++ ((x4.drop ((x5).toNat)).take (x4.length - ((x5).toNat)))), (w64 (v2 + 1)))), H1⟩ [(106, 109)] [_, _, _] (Nat.lt_succ_self _) R ⟨R, R, R, R, trivial⟩ ⟨R, (fun _ => R), R, (lrow_ren R), R, (fun _ => R), trivial⟩ R
    ·
     replace H1 := bif_f H1 h1
     exact G.exit <| At.over_exit <| At.over_exit <| At.block_hit <| At.jd ⟨v1, oi H1⟩ [(103, 106)] [_, _, _] R ⟨R, trivial⟩ ⟨R, (fun _ => R), R, (lrow_ren R), R, (fun _ => R), trivial⟩ R
 ·
  rintro ⟨_, rfl⟩
  show G _ _ [(3, .a (.c (.nv 103)))] [(0, some (rd S W0)), (103, some (lrow 103 30 eTItem 2 x1)), (1, some (hp 1 tq A Q))] _ _
  refine G.seq ?_
  obtain ⟨x6, hx6, H0⟩ := bnd H0
  exact G.rg <| K.mv R R <| K.cV (cf 115 R) [103] (fun β w S2 h => item_Sorted_con (la 0 R eTItem_len R h) hx6 110 R) g0 (fun _ => R) R R R <| K.as R R <| K.nil <| At.next <| G.ret <| At.ren (fs' := [(2, .a (.c (.nv 30)))]) (tl := [(0, rd S W0), (1, hp 1 tq A Q), (30, lrow 30 30 eTItem 2 x6)]) [(30, 110)] [_, _, _] R ⟨R, trivial⟩ ⟨R, (fun _ => R), R, (fun _ => R), R, (lrow_ren R), trivial⟩ R <| At.dr Y [2] R R (by cases H0; rfl) (by cases H0; rfl) R R R
theorem fuse_Views_Items_con {k : Nat} {S : Foot} {W0 : World} {A : List (Nat → Nat)} {s0_0 : Value} {Q : List TQueue} {a0 : TViews} {r : List TItem}  (hL_9 : A.length = Q.length) (hL0_0 : LArg S W0 s0_0 (eTPart A) 4 a0.parts) (H0 : fuse_Views_Items.f k Q a0 = some r) (m1 m30 : Nat) (hd : ndB [m1, m30] = true) : fuse_Views_Items_st S W0 A s0_0 Q r m1 m30 :=
 SCon.ren (rn [(1, m1), (30, m30)]) (fuse_Views_Items_con0 (k := k)  hL_9 hL0_0 H0) ⟨(fun _ => R), (fun _ => R), trivial⟩ ⟨(fun _ => R), (fun _ => R), (lrow_ren R), trivial⟩ (rn_nd hd R R) (rn_ks hd R R R)
abbrev Lw13_Same_st (S : Foot) (W0 : World) (A : List (Nat → Nat)) (s0_0 : Value) (s1 : Value) (Q : List TQueue) (r : Bool) (m1 : Nat) : Prop := SCon Tryz.prog 51 [.a (.agg [.v s0_0]), SV.raw s1] [(0, rd S W0), (m1, hp m1 tq A Q)] (.a (.c (.v (.bool r)))) [(0, rd S W0), (m1, hp m1 tq A Q)] []
set_option maxHeartbeats 4000000 in
theorem Lw13_Same_con0 {k : Nat} {S : Foot} {W0 : World} {A : List (Nat → Nat)} {s0_0 : Value} {s1 : Value} {Q : List TQueue} {a0 : TViews} {l1 : List TItem} {r : Bool}  (hL_9 : A.length = Q.length) (hL0_0 : LArg S W0 s0_0 (eTPart A) 4 a0.parts) (hL1 : LArg S W0 s1 eTItem 2 l1) (H0 : Lw13_Same.f k Q a0 l1 = some r) : Lw13_Same_st S W0 A s0_0 s1 Q r 1 := by
 rw [Lw13_Same.f] at H0
 obtain ⟨b1, o1, hI1⟩ := hL1
 obtain ⟨b0_0, o0_0, hI0_0⟩ := hL0_0
 obtain ⟨ao0_0, cap0_0, hE0_0, _⟩ := hI0_0.sl
 subst hE0_0
 refine spec_of [(0, _), (1, _)] [(0, _), (1, _)] 87 Tryz.func51 R Tryz.ntmps51 R R R R (fun β W F => ?_)
 refine G.seq <| G.rg <| K.box Y 100 _ g0 R R R R R R <| K.as R R <| K.nil <| At.next ?_
 obtain ⟨x1, H1, H0⟩ := bnd H0
 refine G.sJ (σ := { v : Unit // x1 = Sum.inr v }) (fun q => [(1, SV.raw s1), (2, .a (.c (.p 101 0)))]) (fun q => [(0, rd S W0), (101, blk 101 [.v (Value.slice ao0_0 a0.parts.length cap0_0)] 81), (1, hp 1 tq A Q)]) ?_ ?_
 ·
  refine G.seq ?_
  obtain ⟨x2, hx2, H1⟩ := bnd H1
  rcases Bool.eq_false_or_eq_true (x2 != (l1.length : Int)) with h1 | h1
  ·
   replace H1 := bif_t H1 h1
   refine G.rg <| K.loadS Y _ g0 R R t81 R R R <| K.cV (cf 46 R) [0] (fun β w S2 h => fuse_Views_Len_con (a0 := a0) hL_9 ((hI0_0.isC 0).larg ⟨_, List.mem_cons_self⟩ h) hx2 1) g0 (fun _ => R) R R R <| K.mv R R <| K.lenL (rV 0 S W0 s1 b1 o1 eTItem 2 l1) (hI1.is 0) g0 R R Tryz.underlying33 R <| K.bin (V := .bool (x2 != (l1.length : Int))) g0 R R (fun _ => R) R <| K.mv R R <| K.sk R R h1 R <| K.sk R R h1 R <| K.sk R R h1 R <| K.sk R R h1 R <| K.sk R R h1 R <| K.pickT g0 R (h1) R R <| K.nil <| At.next <| G.cond R (fun h2 => ?_) (fun h2 => ?_)
   ·
    refine G.seq <| G.rg <| K.as R R <| K.nil <| At.next <| G.ret <| At.over_ret ?_
    cases H1
    replace H0 := sum_l H0
    exact At.dr Y [4] R R (by cases H0; rfl) (by cases H0; rfl) R R R
   · cases h2
  ·
   replace H1 := bif_f H1 h1
   obtain ⟨x3, hx3, H1⟩ := bnd H1
   obtain ⟨x4, hx4, H1⟩ := bnd H1
   refine G.rg <| K.loadS Y _ g0 R R t81 R R R <| K.cV (cf 46 R) [0] (fun β w S2 h => fuse_Views_Len_con (a0 := a0) hL_9 ((hI0_0.isC 0).larg ⟨_, List.mem_cons_self⟩ h) hx2 1) g0 (fun _ => R) R R R <| K.mv R R <| K.lenL (rV 0 S W0 s1 b1 o1 eTItem 2 l1) (hI1.is 0) g0 R R Tryz.underlying33 R <| K.bin (V := .bool (x2 != (l1.length : Int))) g0 R R (fun _ => R) R <| K.mv R R <| K.loadS Y _ (g1 R R h1) R R t81 R R R <| K.cV (cf 90 R) [0] (fun β w S2 h => fuse_Views_Items_con (a0 := a0) hL_9 ((hI0_0.isC 0).larg ⟨_, List.mem_cons_self⟩ h) hx3 1 102 R) (g1 R R h1) (fun _ => R) R R R <| K.move (.inl R) (g1 R R h1) R R <| K.cV (cf 36 R) [102, 0] (fun β w S2 h => R02_Same_con (la 0 R eTItem_len R h) ((hI1.isC 0).larg ⟨_, (List.mem_cons_of_mem _ List.mem_cons_self)⟩ h) hx4) (g1 R R h1) (fun _ => R) R R R <| K.un (V := .bool (!x4)) (g1 R R h1) R (fun _ => R) R <| K.pickF g0 R (h1) R R <| K.nil <| At.next <| G.cond R (fun h3 => ?_) (fun h3 => ?_)
   ·
    replace H1 := bif_t H1 h3
    refine G.seq <| G.rg <| K.as R R <| K.nil <| At.next <| G.ret <| At.over_ret ?_
    cases H1
    replace H0 := sum_l H0
    exact At.dr Y [4] R R (by cases H0; rfl) (by cases H0; rfl) R R R
   ·
    replace H1 := bif_f H1 h3
    exact G.skip <| At.jd ⟨(), oi H1⟩ [(101, 100)] [_, _, _] R ⟨R, R, trivial⟩ ⟨R, (fun _ => R), R, (blk_ren R R), R, (fun _ => R), trivial⟩ R
 ·
  rintro ⟨w1, rfl⟩
  replace H0 := sum_r H0
  show G _ _ [(1, SV.raw s1), (2, .a (.c (.p 101 0)))] [(0, some (rd S W0)), (101, some (blk 101 [.v (Value.slice ao0_0 a0.parts.length cap0_0)] 81)), (1, some (hp 1 tq A Q))] _ _
  obtain ⟨x5, H1, H0⟩ := bnd H0
  refine G.sJ (σ := { v : Unit // x5 = Sum.inr v }) (fun q => [(1, SV.raw s1), (2, .a (.c (.p 103 0)))]) (fun q => [(0, rd S W0), (103, blk 103 [.v (Value.slice ao0_0 a0.parts.length cap0_0)] 81), (1, hp 1 tq A Q)]) ?_ ?_
  ·
   refine G.seq <| G.rg <| K.as R R <| K.nil <| At.next <| G.block <| G.lp (σ := { q : Nat × (Int) // Lw13_Same.l0 k Q a0 l1 q.1 q.2 = some x5 }) (fun q => [(1, SV.raw s1), (2, .a (.c (.p 106 0))), (5, .a (.c (.v (.int .i64 q.1.2))))]) (fun q => [(0, rd S W0), (106, blk 106 [.v (Value.slice ao0_0 a0.parts.length cap0_0)] 81), (1, hp 1 tq A Q)]) (fun q => q.1.1) ⟨(k, (-1)), H1⟩ ?_ ?_
   · exact At.into [(106, 101)] [_, _, _] R ⟨R, R, R, trivial⟩ ⟨R, (fun _ => R), R, (blk_ren R R), R, (fun _ => R), trivial⟩ R
   ·
    rintro ⟨⟨n0, v1⟩, H1⟩
    show G _ _ [(1, SV.raw s1), (2, .a (.c (.p 106 0))), (5, .a (.c (.v (.int .i64 v1))))] [(0, some (rd S W0)), (106, some (blk 106 [.v (Value.slice ao0_0 a0.parts.length cap0_0)] 81)), (1, some (hp 1 tq A Q))] _ _
    cases n0 with
    | zero => exact absurd H1 (by simp [Lw13_Same.l0])
    | succ n0 =>
     have HL0 := H1
     rw [Lw13_Same.l0] at H1
     refine G.seq <| G.seq <| G.rg <| K.mv R R <| K.mv R R <| K.lenL (rV 0 S W0 s1 b1 o1 eTItem 2 l1) (hI1.is 0) g0 R R Tryz.underlying33 R <| K.bin (V := .bool (decide (v1 ≤ (l1.length : Int)))) g0 R R (fun _ => R) R <| K.nil <| At.next <| G.cond R (fun h4 => ?_) (fun h4 => ?_)
     ·
      replace H1 := bif_t H1 h4
      refine G.skip <| At.ns <| G.block <| G.seq ?_
      obtain ⟨x6, hx6, H1⟩ := bnd H1
      refine G.rg <| K.loadS Y _ g0 R R t81 R R R <| K.mv R R <| K.cV (cf 85 R) [0] (fun β w S2 h => fuse_Views_At_con (a0 := a0) hL_9 ((hI0_0.isC 0).larg ⟨_, List.mem_cons_self⟩ h) hx6 1) g0 (fun _ => R) R R R <| K.mv R R <| K.extract g0 R R R <| K.extract g0 R R R <| K.alloc Y 107 _ g0 t30 R R R R R <| K.store Y _ g0 R R R t30 R R R R R <| K.as R R <| K.nil <| At.next ?_
      obtain ⟨x7, H2, H1⟩ := bnd H1
      refine G.sJ (σ := { v : Bool // x7 = v }) (fun q => [(1, SV.raw s1), (2, .a (.c (.p 108 0))), (5, .a (.c (.v (.int .i64 v1)))), (6, .a (.c (.p 109 0))), (7, .a (.c (.v (.bool x6.2)))), (8, .a (.c (.v (.bool q.1))))]) (fun q => [(0, rd S W0), (108, blk 108 [.v (Value.slice ao0_0 a0.parts.length cap0_0)] 81), (109, blk 109 [.v (.int .i64 x6.1.key), .v (.int .i64 x6.1.id)] 30), (1, hp 1 tq A Q)]) ?_ ?_
      ·
       rcases Bool.eq_false_or_eq_true (decide (v1 ≥ 0)) with h5 | h5
       ·
        replace H2 := bif_t H2 h5
        exact G.rg <| K.mv R R <| K.bin (V := .bool (decide (v1 ≥ 0))) g0 R R (fun _ => R) R <| K.mv R R <| K.move (.inl R) (g1 R R h5) R R <| K.move (.inl R) (g1 R R h5) R R <| K.lenL (rV 0 S W0 s1 b1 o1 eTItem 2 l1) (hI1.is 0) (g1 R R h5) R R Tryz.underlying33 R <| K.bin (V := .bool (decide (v1 < (l1.length : Int)))) (g1 R R h5) R R (fun _ => R) R <| K.pickT g0 R (h5) R R <| K.as R R <| K.nil <| At.jd ⟨(decide (v1 < (l1.length : Int))), oi H2⟩ [(108, 106), (109, 107)] [_, _, _, _] R ⟨R, R, R, R, R, R, trivial⟩ ⟨R, (fun _ => R), R, (blk_ren R R), R, (blk_ren R R), R, (fun _ => R), trivial⟩ R
       ·
        replace H2 := bif_f H2 h5
        exact G.rg <| K.mv R R <| K.bin (V := .bool (decide (v1 ≥ 0))) g0 R R (fun _ => R) R <| K.mv R R <| K.sk R R h5 R <| K.sk R R h5 R <| K.sk R R h5 R <| K.sk R R h5 R <| K.pickF g0 R (h5) R R <| K.as R R <| K.nil <| At.jd ⟨false, oi H2⟩ [(108, 106), (109, 107)] [_, _, _, _] R ⟨R, R, R, R, R, R, trivial⟩ ⟨R, (fun _ => R), R, (blk_ren R R), R, (blk_ren R R), R, (fun _ => R), trivial⟩ R
      ·
       rintro ⟨_, rfl⟩
       show G _ _ [(1, SV.raw s1), (2, .a (.c (.p 108 0))), (5, .a (.c (.v (.int .i64 v1)))), (6, .a (.c (.p 109 0))), (7, .a (.c (.v (.bool x6.2)))), (8, .a (.c (.v (.bool x7))))] [(0, some (rd S W0)), (108, some (blk 108 [.v (Value.slice ao0_0 a0.parts.length cap0_0)] 81)), (109, some (blk 109 [.v (.int .i64 x6.1.key), .v (.int .i64 x6.1.id)] 30)), (1, some (hp 1 tq A Q))] _ _
       refine G.seq ?_
       rcases Bool.eq_false_or_eq_true (!(x6.2 == x7)) with h6 | h6
       ·
        replace H1 := bif_t H1 h6
        refine G.rd mixed <| K.mv R R <| K.mv R R <| K.bin (V := .bool (!(x6.2 == x7))) g0 R R (bq_neq Tryz.underlying4 _ _) R <| K.mv R R <| K.sk R R h6 R <| K.sk R R h6 R <| K.skipU R R R R R <| K.skipU R R R R R <| K.skipU R R R R R <| K.skipU R R R R R <| K.skipU R R R R R <| K.skipU R R R R R <| K.sk R R h6 R <| K.pickT g0 R (h6) R R <| K.mv R R <| K.sk R R R R <| K.sk R R R R <| K.sk R R R R <| K.skipU R R R R R <| K.skipU R R R R R <| K.skipU R R R R R <| K.sk R R R R <| K.pickT g0 R (R) R R <| K.nil <| And.intro (by kernel_rfl) <| At.next <| G.cond R (fun h7 => ?_) (fun h7 => ?_)
        ·
         refine G.seq <| G.rg <| K.as R R <| K.nil <| At.next <| G.ret <| At.block_ret <| At.over_ret <| At.over_ret <| At.block_ret <| At.over_ret ?_
         cases H1
         replace H0 := sum_l H0
         exact At.dr Y [4] R R (by cases H0; rfl) (by cases H0; rfl) R R R
        · cases h7
       ·
        replace H1 := bif_f H1 h6
        rcases Bool.eq_false_or_eq_true x7 with h8 | h8
        ·
         replace H1 := bif_t H1 h8
         obtain ⟨x8, hx8, H1⟩ := bnd H1
         rcases Bool.eq_false_or_eq_true (!((x6.1.key == x8.key) && ((x6.1.id == x8.id) && true))) with h9 | h9
         ·
          replace H1 := bif_t H1 h9
          refine G.rd mixed <| K.mv R R <| K.mv R R <| K.bin (V := .bool (!(x6.2 == x7))) g0 R R (bq_neq Tryz.underlying4 _ _) R <| K.mv R R <| K.move (.inl R) (g1 R R h6) R R <| K.move (.inl R) (g1 R R h6) R R <| K.loadS Y _ (g1 R R h8) R R t30 R R R <| K.move (.inl R) (g1 R R h8) R R <| K.move (.inl R) (g1 R R h8) R R <| K.idxL (rV 0 S W0 s1 b1 o1 eTItem 2 l1) ((v1).toNat) (hI1.is 0) (atL_get hx8) (atL_nn hx8) (g1 R R h8) R R R Tryz.underlying33 el33.size_run R <| K.loadSL Y (rV 0 S W0 s1 b1 o1 eTItem 2 l1) ((v1).toNat) 0 [_, _] [_, _] (hI1.is 0) (atL_get hx8) (g1 R R h8) R R t30 R R R R R <| K.eqS [_, _] [_, _] (g1 R R h8) R R cmp30 R (.inr R) (!((x6.1.key == x8.key) && ((x6.1.id == x8.id) && true))) R R <| K.pickT (g1 R R h6) R (h8) R R <| K.pickF g0 R (h6) R R <| K.mv R R <| K.sk R R h9 R <| K.sk R R h9 R <| K.sk R R h9 R <| K.skipU R R R R R <| K.skipU R R R R R <| K.skipU R R R R R <| K.sk R R h9 R <| K.pickT g0 R (h9) R R <| K.nil <| And.intro (by kernel_rfl) <| At.next <| G.cond R (fun h10 => ?_) (fun h10 => ?_)
          ·
           refine G.seq <| G.rg <| K.as R R <| K.nil <| At.next <| G.ret <| At.block_ret <| At.over_ret <| At.over_ret <| At.block_ret <| At.over_ret ?_
           cases H1
           replace H0 := sum_l H0
           exact At.dr Y [4] R R (by cases H0; rfl) (by cases H0; rfl) R R R
          · cases h10
         ·
          replace H1 := bif_f H1 h9
          rcases Bool.eq_false_or_eq_true (!x7) with h11 | h11
          ·
           replace H1 := bif_t H1 h11
           refine G.rd mixed <| K.mv R R <| K.mv R R <| K.bin (V := .bool (!(x6.2 == x7))) g0 R R (bq_neq Tryz.underlying4 _ _) R <| K.mv R R <| K.move (.inl R) (g1 R R h6) R R <| K.move (.inl R) (g1 R R h6) R R <| K.loadS Y _ (g1 R R h8) R R t30 R R R <| K.move (.inl R) (g1 R R h8) R R <| K.move (.inl R) (g1 R R h8) R R <| K.idxL (rV 0 S W0 s1 b1 o1 eTItem 2 l1) ((v1).toNat) (hI1.is 0) (atL_get hx8) (atL_nn hx8) (g1 R R h8) R R R Tryz.underlying33 el33.size_run R <| K.loadSL Y (rV 0 S W0 s1 b1 o1 eTItem 2 l1) ((v1).toNat) 0 [_, _] [_, _] (hI1.is 0) (atL_get hx8) (g1 R R h8) R R t30 R R R R R <| K.eqS [_, _] [_, _] (g1 R R h8) R R cmp30 R (.inr R) (!((x6.1.key == x8.key) && ((x6.1.id == x8.id) && true))) R R <| K.pickT (g1 R R h6) R (h8) R R <| K.pickF g0 R (h6) R R <| K.mv R R <| K.move (.inl R) (g1 R R h9) R R <| K.un (V := .bool (!x7)) (g1 R R h9) R (fun _ => R) R <| K.move (.inl R) (g1 R R h9) R R <| K.loadS Y _ (g1 R R h11) R R t30 R R R <| K.build Y [] [_, _] [] (g1 R R h11) (AllE.spec trivial) R R t30 R R <| K.eqS [_, _] [_, _] (g1 R R h11) R R cmp30 R (.inr R) (!((x6.1.key == 0) && ((x6.1.id == 0) && true))) R R <| K.pickT (g1 R R h9) R (h11) R R <| K.pickF g0 R (h9) R R <| K.nil <| And.intro (by kernel_rfl) <| At.next <| G.cond R (fun h12 => ?_) (fun h12 => ?_)
           ·
            replace H1 := bif_t H1 h12
            refine G.seq <| G.rg <| K.as R R <| K.nil <| At.next <| G.ret <| At.block_ret <| At.over_ret <| At.over_ret <| At.block_ret <| At.over_ret ?_
            cases H1
            replace H0 := sum_l H0
            exact At.dr Y [4] R R (by cases H0; rfl) (by cases H0; rfl) R R R
           ·
            replace H1 := bif_f H1 h12
            exact G.skip <| At.block_normal <| At.next <| G.rg <| K.mv R R <| K.bin (V := .int .i64 (w64 (v1 + 1))) g0 R R (fun _ => R) R <| K.as R R <| K.nil <| At.ag ⟨(n0, (w64 (v1 + 1))), H1⟩ [(106, 108)] [_, _, _] (Nat.lt_succ_self _) R ⟨R, R, R, trivial⟩ ⟨R, (fun _ => R), R, (blk_ren R R), R, (fun _ => R), trivial⟩ R
          ·
           replace H1 := bif_f H1 h11
           refine G.rd mixed <| K.mv R R <| K.mv R R <| K.bin (V := .bool (!(x6.2 == x7))) g0 R R (bq_neq Tryz.underlying4 _ _) R <| K.mv R R <| K.move (.inl R) (g1 R R h6) R R <| K.move (.inl R) (g1 R R h6) R R <| K.loadS Y _ (g1 R R h8) R R t30 R R R <| K.move (.inl R) (g1 R R h8) R R <| K.move (.inl R) (g1 R R h8) R R <| K.idxL (rV 0 S W0 s1 b1 o1 eTItem 2 l1) ((v1).toNat) (hI1.is 0) (atL_get hx8) (atL_nn hx8) (g1 R R h8) R R R Tryz.underlying33 el33.size_run R <| K.loadSL Y (rV 0 S W0 s1 b1 o1 eTItem 2 l1) ((v1).toNat) 0 [_, _] [_, _] (hI1.is 0) (atL_get hx8) (g1 R R h8) R R t30 R R R R R <| K.eqS [_, _] [_, _] (g1 R R h8) R R cmp30 R (.inr R) (!((x6.1.key == x8.key) && ((x6.1.id == x8.id) && true))) R R <| K.pickT (g1 R R h6) R (h8) R R <| K.pickF g0 R (h6) R R <| K.mv R R <| K.move (.inl R) (g1 R R h9) R R <| K.un (V := .bool (!x7)) (g1 R R h9) R (fun _ => R) R <| K.move (.inl R) (g1 R R h9) R R <| K.sk R R h11 R <| K.sk R R h11 R <| K.sk R R h11 R <| K.pickF (g1 R R h9) R (h11) R R <| K.pickF g0 R (h9) R R <| K.nil <| And.intro (by kernel_rfl) <| At.next <| G.cond R (fun h13 => ?_) (fun h13 => ?_)
           · cases h13
           ·
            exact G.skip <| At.block_normal <| At.next <| G.rg <| K.mv R R <| K.bin (V := .int .i64 (w64 (v1 + 1))) g0 R R (fun _ => R) R <| K.as R R <| K.nil <| At.ag ⟨(n0, (w64 (v1 + 1))), H1⟩ [(106, 108)] [_, _, _] (Nat.lt_succ_self _) R ⟨R, R, R, trivial⟩ ⟨R, (fun _ => R), R, (blk_ren R R), R, (fun _ => R), trivial⟩ R
        ·
         replace H1 := bif_f H1 h8
         rcases Bool.eq_false_or_eq_true (!x7) with h14 | h14
         ·
          replace H1 := bif_t H1 h14
          refine G.rd mixed <| K.mv R R <| K.mv R R <| K.bin (V := .bool (!(x6.2 == x7))) g0 R R (bq_neq Tryz.underlying4 _ _) R <| K.mv R R <| K.move (.inl R) (g1 R R h6) R R <| K.move (.inl R) (g1 R R h6) R R <| K.sk R R h8 R <| K.sk R R h8 R <| K.sk R R h8 R <| K.sk R R h8 R <| K.sk R R h8 R <| K.sk R R h8 R <| K.pickF (g1 R R h6) R (h8) R R <| K.pickF g0 R (h6) R R <| K.mv R R <| K.move (.inl R) (g1 R R R) R R <| K.un (V := .bool (!x7)) (g1 R R R) R (fun _ => R) R <| K.move (.inl R) (g1 R R R) R R <| K.loadS Y _ (g1 R R h14) R R t30 R R R <| K.build Y [] [_, _] [] (g1 R R h14) (AllE.spec trivial) R R t30 R R <| K.eqS [_, _] [_, _] (g1 R R h14) R R cmp30 R (.inr R) (!((x6.1.key == 0) && ((x6.1.id == 0) && true))) R R <| K.pickT (g1 R R R) R (h14) R R <| K.pickF g0 R (R) R R <| K.nil <| And.intro (by kernel_rfl) <| At.next <| G.cond R (fun h15 => ?_) (fun h15 => ?_)
          ·
           replace H1 := bif_t H1 h15
           refine G.seq <| G.rg <| K.as R R <| K.nil <| At.next <| G.ret <| At.block_ret <| At.over_ret <| At.over_ret <| At.block_ret <| At.over_ret ?_
           cases H1
           replace H0 := sum_l H0
           exact At.dr Y [4] R R (by cases H0; rfl) (by cases H0; rfl) R R R
          ·
           replace H1 := bif_f H1 h15
           exact G.skip <| At.block_normal <| At.next <| G.rg <| K.mv R R <| K.bin (V := .int .i64 (w64 (v1 + 1))) g0 R R (fun _ => R) R <| K.as R R <| K.nil <| At.ag ⟨(n0, (w64 (v1 + 1))), H1⟩ [(106, 108)] [_, _, _] (Nat.lt_succ_self _) R ⟨R, R, R, trivial⟩ ⟨R, (fun _ => R), R, (blk_ren R R), R, (fun _ => R), trivial⟩ R
         ·
          replace H1 := bif_f H1 h14
          refine G.rd mixed <| K.mv R R <| K.mv R R <| K.bin (V := .bool (!(x6.2 == x7))) g0 R R (bq_neq Tryz.underlying4 _ _) R <| K.mv R R <| K.move (.inl R) (g1 R R h6) R R <| K.move (.inl R) (g1 R R h6) R R <| K.sk R R h8 R <| K.sk R R h8 R <| K.sk R R h8 R <| K.sk R R h8 R <| K.sk R R h8 R <| K.sk R R h8 R <| K.pickF (g1 R R h6) R (h8) R R <| K.pickF g0 R (h6) R R <| K.mv R R <| K.move (.inl R) (g1 R R R) R R <| K.un (V := .bool (!x7)) (g1 R R R) R (fun _ => R) R <| K.move (.inl R) (g1 R R R) R R <| K.sk R R h14 R <| K.sk R R h14 R <| K.sk R R h14 R <| K.pickF (g1 R R R) R (h14) R R <| K.pickF g0 R (R) R R <| K.nil <| And.intro (by kernel_rfl) <| At.next <| G.cond R (fun h16 => ?_) (fun h16 => ?_)
          · cases h16
          ·
           exact G.skip <| At.block_normal <| At.next <| G.rg <| K.mv R R <| K.bin (V := .int .i64 (w64 (v1 + 1))) g0 R R (fun _ => R) R <| K.as R R <| K.nil <| At.ag ⟨(n0, (w64 (v1 + 1))), H1⟩ [(106, 108)] [_, _, _] (Nat.lt_succ_self _) R ⟨R, R, R, trivial⟩ ⟨R, (fun _ => R), R, (blk_ren R R), R, (fun _ => R), trivial⟩ R
     ·
      replace H1 := bif_f H1 h4
      exact G.exit <| At.over_exit <| At.over_exit <| At.block_hit <| At.jd ⟨(), oi H1⟩ [(103, 106)] [_, _, _] R ⟨R, R, trivial⟩ ⟨R, (fun _ => R), R, (blk_ren R R), R, (fun _ => R), trivial⟩ R
  ·
   rintro ⟨w5, rfl⟩
   replace H0 := sum_r H0
   show G _ _ [(1, SV.raw s1), (2, .a (.c (.p 103 0)))] [(0, some (rd S W0)), (103, some (blk 103 [.v (Value.slice ao0_0 a0.parts.length cap0_0)] 81)), (1, some (hp 1 tq A Q))] _ _
   refine G.seq ?_
   obtain ⟨x9, hx9, H0⟩ := bnd H0
   refine G.rg <| K.loadS Y _ g0 R R t81 R R R <| K.cV (cf 82 R) [0] (fun β w S2 h => fuse_Views_Min_con (a0 := a0) hL_9 ((hI0_0.isC 0).larg ⟨_, List.mem_cons_self⟩ h) hx9 1) g0 (fun _ => R) R R R <| K.mv R R <| K.extract g0 R R R <| K.extract g0 R R R <| K.alloc Y 110 _ g0 t30 R R R R R <| K.store Y _ g0 R R R t30 R R R R R <| K.as R R <| K.nil <| At.ns ?_
   rcases Bool.eq_false_or_eq_true (x9.2 == (decide ((l1.length : Int) > 0))) with h17 | h17
   ·
    replace H0 := bif_t H0 h17
    rcases Bool.eq_false_or_eq_true (!x9.2) with h18 | h18
    ·
     replace H0 := bif_t H0 h18
     exact G.rd mixed <| K.mv R R <| K.mv R R <| K.lenL (rV 0 S W0 s1 b1 o1 eTItem 2 l1) (hI1.is 0) g0 R R Tryz.underlying33 R <| K.bin (V := .bool (decide ((l1.length : Int) > 0))) g0 R R (fun _ => R) R <| K.bin (V := .bool (x9.2 == (decide ((l1.length : Int) > 0)))) g0 R R (bq_eql Tryz.underlying4 _ _) R <| K.mv R R <| K.move (.inl R) (g1 R R h17) R R <| K.un (V := .bool (!x9.2)) (g1 R R h17) R (fun _ => R) R <| K.move (.inl R) (g1 R R h17) R R <| K.sk R R h18 R <| K.sk R R h18 R <| K.sk R R h18 R <| K.sk R R h18 R <| K.sk R R h18 R <| K.pickT (g1 R R h17) R (h18) R R <| K.pickT g0 R (h17) R R <| K.as R R <| K.nil <| And.intro (by kernel_rfl) <| At.next <| G.ret <| At.dr Y [4] R R (by cases H0; rfl) (by cases H0; rfl) R R R
    ·
     replace H0 := bif_f H0 h18
     obtain ⟨x10, hx10, H0⟩ := bnd H0
     exact G.rd mixed <| K.mv R R <| K.mv R R <| K.lenL (rV 0 S W0 s1 b1 o1 eTItem 2 l1) (hI1.is 0) g0 R R Tryz.underlying33 R <| K.bin (V := .bool (decide ((l1.length : Int) > 0))) g0 R R (fun _ => R) R <| K.bin (V := .bool (x9.2 == (decide ((l1.length : Int) > 0)))) g0 R R (bq_eql Tryz.underlying4 _ _) R <| K.mv R R <| K.move (.inl R) (g1 R R h17) R R <| K.un (V := .bool (!x9.2)) (g1 R R h17) R (fun _ => R) R <| K.move (.inl R) (g1 R R h17) R R <| K.loadS Y _ (g1 R R h18) R R t30 R R R <| K.move (.inl R) (g1 R R h18) R R <| K.idxL (rV 0 S W0 s1 b1 o1 eTItem 2 l1) ((0 : Int).toNat) (hI1.is 0) (atL_get hx10) (atL_nn hx10) (g1 R R h18) R R R Tryz.underlying33 el33.size_run R <| K.loadSL Y (rV 0 S W0 s1 b1 o1 eTItem 2 l1) ((0 : Int).toNat) 0 [_, _] [_, _] (hI1.is 0) (atL_get hx10) (g1 R R h18) R R t30 R R R R R <| K.eqS [_, _] [_, _] (g1 R R h18) R R cmp30 R (.inl R) ((x9.1.key == x10.key) && ((x9.1.id == x10.id) && true)) R R <| K.pickF (g1 R R h17) R (h18) R R <| K.pickT g0 R (h17) R R <| K.as R R <| K.nil <| And.intro (by kernel_rfl) <| At.next <| G.ret <| At.dr Y [4] R R (by cases H0; rfl) (by cases H0; rfl) R R R
   ·
    replace H0 := bif_f H0 h17
    exact G.rd mixed <| K.mv R R <| K.mv R R <| K.lenL (rV 0 S W0 s1 b1 o1 eTItem 2 l1) (hI1.is 0) g0 R R Tryz.underlying33 R <| K.bin (V := .bool (decide ((l1.length : Int) > 0))) g0 R R (fun _ => R) R <| K.bin (V := .bool (x9.2 == (decide ((l1.length : Int) > 0)))) g0 R R (bq_eql Tryz.underlying4 _ _) R <| K.mv R R <| K.sk R R h17 R <| K.sk R R h17 R <| K.sk R R h17 R <| K.skipU R R R R R <| K.skipU R R R R R <| K.skipU R R R R R <| K.skipU R R R R R <| K.skipU R R R R R <| K.sk R R h17 R <| K.pickF g0 R (h17) R R <| K.as R R <| K.nil <| And.intro (by kernel_rfl) <| At.next <| G.ret <| At.dr Y [4] R R (by cases H0; rfl) (by cases H0; rfl) R R R
theorem Lw13_Same_con {k : Nat} {S : Foot} {W0 : World} {A : List (Nat → Nat)} {s0_0 : Value} {s1 : Value} {Q : List TQueue} {a0 : TViews} {l1 : List TItem} {r : Bool}  (hL_9 : A.length = Q.length) (hL0_0 : LArg S W0 s0_0 (eTPart A) 4 a0.parts) (hL1 : LArg S W0 s1 eTItem 2 l1) (H0 : Lw13_Same.f k Q a0 l1 = some r) (m1 : Nat) : Lw13_Same_st S W0 A s0_0 s1 Q r m1 :=
 SCon.ren (rn [(1, m1)]) (Lw13_Same_con0 (k := k)  hL_9 hL0_0 hL1 H0) ⟨(fun _ => R), (fun _ => R), trivial⟩ ⟨(fun _ => R), (fun _ => R), trivial⟩ (by simp) (by simp)
abbrev Lw13_Queue_st (S : Foot) (W0 : World) (s0 : Value) (r : TQueue) (m80 : Nat) (m81 : Nat) (m82 : Nat) (m83 : Nat) (m84 : Nat) (m85 : Nat) (m86 : Nat) (m87 : Nat) (m88 : Nat) : Prop := SCon Tryz.prog 44 [SV.raw s0] [(0, rd S W0)] (.a (.c (.p m80 0))) ((0, rd S W0) :: (tkQueue m80 m81 m82 m83 m84 m85 m86 m87 m88 r [])) [m80, m81, m82, m83, m84, m85, m86, m87, m88]
theorem Lw13_Queue_con0 {k : Nat}  {S : Foot} {W0 : World} {s0 : Value} {l0 : List TOp} {r : TQueue} (hL0 : LArg S W0 s0 eTOp 4 l0) (H0 : Lw13_Queue.f k l0 = some r) : Lw13_Queue_st S W0 s0 r 80 81 82 83 84 85 86 87 88 := by
 rw [Lw13_Queue.f] at H0
 obtain ⟨b0, o0, hI0⟩ := hL0
 refine spec_of [(0, _)] [(0, _)] 48 Tryz.func44 R Tryz.ntmps44 R R R R (fun β W F => ?_)
 refine G.seq <| G.rg <| K.as R R <| K.nil <| At.ns ?_
 obtain ⟨x1, hx1, H0⟩ := bnd H0
 refine G.rg <| K.mv R R <| K.lenL (rV 0 S W0 s0 b0 o0 eTOp 4 l0) (hI0.is 0) g0 R R Tryz.underlying26 R <| K.c0 (cf 15 R) (partial_New_con hx1 100 101 102 103 104 105 106 107 108 R) g0 R R R R <| K.as R R <| K.nil <| At.next ?_
 obtain ⟨x2, H1, H0⟩ := bnd H0
 refine G.sJ (σ := { v : TQueue // x2 = Sum.inr v }) (fun q => [(3, .a (.c (.p 109 0)))]) (fun q => ((0, rd S W0) :: (tkQueue 109 110 111 112 113 114 115 116 117 q.1 []))) ?_ ?_
 ·
  refine G.seq <| G.rg <| K.as R R <| K.nil <| At.next <| G.block <| G.lp (σ := { q : Nat × (TQueue × Int) // Lw13_Queue.l0 k l0 q.1 q.2 = some x2 }) (fun q => [(0, SV.raw s0), (3, .a (.c (.p 136 0))), (4, .a (.c (.v (.int .i64 q.1.2.2))))]) (fun q => ((0, rd S W0) :: (tkQueue 136 137 138 139 140 141 142 143 144 q.1.2.1 []))) (fun q => q.1.1) ⟨(k, (x1, 0)), H1⟩ ?_ ?_
  · exact At.into [(136, 100), (137, 101), (138, 102), (139, 103), (140, 104), (141, 105), (142, 106), (143, 107), (144, 108)] [_, _, _, _, _, _, _, _, _, _] R ⟨R, R, R, trivial⟩ ⟨R, (fun _ => R), R, (blk_ren R R), R, (blk_ren R R), R, (pl_ren R), R, (blk_ren R R), R, (pl_ren R), R, (blk_ren R R), R, (pl_ren R), R, (blk_ren R R), R, (pl_ren R), trivial⟩ R
  ·
   rintro ⟨⟨n0, v1, v2⟩, H1⟩
   show G _ _ [(0, SV.raw s0), (3, .a (.c (.p 136 0))), (4, .a (.c (.v (.int .i64 v2))))] (sm ((0, rd S W0) :: (tkQueue 136 137 138 139 140 141 142 143 144 v1 []))) _ _
   cases n0 with
   | zero => exact absurd H1 (by simp [Lw13_Queue.l0])
   | succ n0 =>
    have HL0 := H1
    rw [Lw13_Queue.l0] at H1
    refine G.seq <| G.seq <| G.rg <| K.mv R R <| K.mv R R <| K.lenL (rV 0 S W0 s0 b0 o0 eTOp 4 l0) (hI0.is 0) g0 R R Tryz.underlying26 R <| K.bin (V := .bool (decide (v2 < (l0.length : Int)))) g0 R R (fun _ => R) R <| K.nil <| At.next <| G.cond R (fun h1 => ?_) (fun h1 => ?_)
    ·
     replace H1 := bif_t H1 h1
     refine G.skip <| At.ns <| G.block <| G.seq <| G.rg <| K.as R R <| K.nil <| At.ns <| G.seq ?_
     obtain ⟨x3, hx3, H1⟩ := bnd H1
     refine G.rg <| K.mv R R <| K.mv R R <| K.idxL (rV 0 S W0 s0 b0 o0 eTOp 4 l0) ((v2).toNat) (hI0.is 0) (atL_get hx3) (atL_nn hx3) g0 R R R Tryz.underlying26 el26.size_run R <| K.fieldL Y (rV 0 S W0 s0 b0 o0 eTOp 4 l0) ((v2).toNat) 0 1 (hI0.is 0) (atL_get hx3) g0 R R t42 R R R R <| K.load1L Y (rV 0 S W0 s0 b0 o0 eTOp 4 l0) ((v2).toNat) 1 (hI0.is 0) (atL_get hx3) g0 R R t4 R R <| K.nil <| At.next <| G.cond R (fun h2 => ?_) (fun h2 => ?_)
     ·
      replace H1 := bif_t H1 h2
      obtain ⟨x4, hx4, H1⟩ := bnd H1
      refine G.rd mixed <| K.mv R R <| K.mv R R <| K.mv R R <| K.idxL (rV 0 S W0 s0 b0 o0 eTOp 4 l0) ((v2).toNat) (hI0.is 0) (atL_get hx3) (atL_nn hx3) g0 R R R Tryz.underlying26 el26.size_run R <| K.fieldL Y (rV 0 S W0 s0 b0 o0 eTOp 4 l0) ((v2).toNat) 0 0 (hI0.is 0) (atL_get hx3) g0 R R t42 R R R R <| K.load1L Y (rV 0 S W0 s0 b0 o0 eTOp 4 l0) ((v2).toNat) 0 (hI0.is 0) (atL_get hx3) g0 R R t3 R R <| K.mv R R <| K.mv R R <| K.idxL (rV 0 S W0 s0 b0 o0 eTOp 4 l0) ((v2).toNat) (hI0.is 0) (atL_get hx3) (atL_nn hx3) g0 R R R Tryz.underlying26 el26.size_run R <| K.fieldL Y (rV 0 S W0 s0 b0 o0 eTOp 4 l0) ((v2).toNat) 0 2 (hI0.is 0) (atL_get hx3) g0 R R t42 R R R R <| K.loadSL Y (rV 0 S W0 s0 b0 o0 eTOp 4 l0) ((v2).toNat) 2 [_, _] [_, _] (hI0.is 0) (atL_get hx3) g0 R R t30 R R R R R <| K.c0 (cf 23 R) (partial_Queue_Insert_con hx4 136 137 138 139 140 141 142 143 144 145 146 R) g0 R R R R <| K.mv R R <| K.extract g0 R R R <| K.extract g0 R R R <| K.as R R <| K.nil <| And.intro (by kernel_rfl) <| At.nr <| K.mv R R <| K.bin (V := .bool (x4.2.1 != 0)) g0 R R (fun _ => R) R <| K.nil <| At.next <| G.cond R (fun h3 => ?_) (fun h3 => ?_)
      ·
       replace H1 := bif_t H1 h3
       refine G.seq <| G.rg <| K.as R R <| K.nil <| At.next <| G.ret <| At.block_ret <| At.over_ret <| At.over_ret <| At.block_ret <| At.over_ret ?_
       cases H1
      ·
       replace H1 := bif_f H1 h3
       exact G.skip <| At.block_normal <| At.next <| G.rg <| K.mv R R <| K.bin (V := .int .i64 (w64 (v2 + 1))) g0 R R (fun _ => R) R <| K.as R R <| K.nil <| At.ag ⟨(n0, (x4.2.2, (w64 (v2 + 1)))), H1⟩ [] [_, _, _, _, _, _, _, _, _, _] (Nat.lt_succ_self _) R ⟨R, R, R, trivial⟩ ⟨R, (fun _ => R), R, (blk_ren R R), R, (blk_ren R R), R, (pl_ren R), R, (blk_ren R R), R, (pl_ren R), R, (blk_ren R R), R, (pl_ren R), R, (blk_ren R R), R, (pl_ren R), trivial⟩ R
     ·
      replace H1 := bif_f H1 h2
      obtain ⟨x5, hx5, H1⟩ := bnd H1
      refine G.rg <| K.mv R R <| K.mv R R <| K.mv R R <| K.idxL (rV 0 S W0 s0 b0 o0 eTOp 4 l0) ((v2).toNat) (hI0.is 0) (atL_get hx3) (atL_nn hx3) g0 R R R Tryz.underlying26 el26.size_run R <| K.fieldL Y (rV 0 S W0 s0 b0 o0 eTOp 4 l0) ((v2).toNat) 0 0 (hI0.is 0) (atL_get hx3) g0 R R t42 R R R R <| K.load1L Y (rV 0 S W0 s0 b0 o0 eTOp 4 l0) ((v2).toNat) 0 (hI0.is 0) (atL_get hx3) g0 R R t3 R R <| K.c0 (cf 24 R) (partial_Queue_Delete_con hx5 136 137 138 139 140 141 142 143 144 147 148 R) g0 R R R R <| K.mv R R <| K.extract g0 R R R <| K.extract g0 R R R <| K.as R R <| K.nil <| At.nr <| K.mv R R <| K.bin (V := .bool (x5.2.1 != 0)) g0 R R (fun _ => R) R <| K.nil <| At.next <| G.cond R (fun h4 => ?_) (fun h4 => ?_)
      ·
       replace H1 := bif_t H1 h4
       refine G.seq <| G.rg <| K.as R R <| K.nil <| At.next <| G.ret <| At.block_ret <| At.over_ret <| At.over_ret <| At.block_ret <| At.over_ret ?_
       cases H1
      ·
       replace H1 := bif_f H1 h4
       exact G.skip <| At.block_normal <| At.next <| G.rg <| K.mv R R <| K.bin (V := .int .i64 (w64 (v2 + 1))) g0 R R (fun _ => R) R <| K.as R R <| K.nil <| At.ag ⟨(n0, (x5.2.2, (w64 (v2 + 1)))), H1⟩ [] [_, _, _, _, _, _, _, _, _, _] (Nat.lt_succ_self _) R ⟨R, R, R, trivial⟩ ⟨R, (fun _ => R), R, (blk_ren R R), R, (blk_ren R R), R, (pl_ren R), R, (blk_ren R R), R, (pl_ren R), R, (blk_ren R R), R, (pl_ren R), R, (blk_ren R R), R, (pl_ren R), trivial⟩ R
    ·
     replace H1 := bif_f H1 h1
     exact G.exit <| At.over_exit <| At.over_exit <| At.block_hit <| At.jd ⟨v1, oi H1⟩ [(109, 136), (110, 137), (111, 138), (112, 139), (113, 140), (114, 141), (115, 142), (116, 143), (117, 144)] [_, _, _, _, _, _, _, _, _, _] R ⟨R, trivial⟩ ⟨R, (fun _ => R), R, (blk_ren R R), R, (blk_ren R R), R, (pl_ren R), R, (blk_ren R R), R, (pl_ren R), R, (blk_ren R R), R, (pl_ren R), R, (blk_ren R R), R, (pl_ren R), trivial⟩ R
 ·
  rintro ⟨w2, rfl⟩
  replace H0 := sum_r H0
  show G _ _ [(3, .a (.c (.p 109 0)))] (sm ((0, rd S W0) :: (tkQueue 109 110 111 112 113 114 115 116 117 w2 []))) _ _
  exact G.seq <| G.rg <| K.mv R R <| K.as R R <| K.nil <| At.next <| G.ret <| At.ren (fs' := [(2, .a (.c (.p 80 0)))]) (tl := ((0, rd S W0) :: (tkQueue 80 81 82 83 84 85 86 87 88 w2 []))) [(80, 109), (81, 110), (82, 111), (83, 112), (84, 113), (85, 114), (86, 115), (87, 116), (88, 117)] [_, _, _, _, _, _, _, _, _, _] R ⟨R, trivial⟩ ⟨R, (fun _ => R), R, (blk_ren R R), R, (blk_ren R R), R, (pl_ren R), R, (blk_ren R R), R, (pl_ren R), R, (blk_ren R R), R, (pl_ren R), R, (blk_ren R R), R, (pl_ren R), trivial⟩ R <| At.dr Y [2] R R (by cases H0; rfl) (by cases H0; rfl) R R R
theorem Lw13_Queue_con {k : Nat}  {S : Foot} {W0 : World} {s0 : Value} {l0 : List TOp} {r : TQueue} (hL0 : LArg S W0 s0 eTOp 4 l0) (H0 : Lw13_Queue.f k l0 = some r) (m80 m81 m82 m83 m84 m85 m86 m87 m88 : Nat) (hd : ndB [m80, m81, m82, m83, m84, m85, m86, m87, m88] = true) : Lw13_Queue_st S W0 s0 r m80 m81 m82 m83 m84 m85 m86 m87 m88 :=
 SCon.ren (rn [(80, m80), (81, m81), (82, m82), (83, m83), (84, m84), (85, m85), (86, m86), (87, m87), (88, m88)]) (Lw13_Queue_con0 (k := k)  hL0 H0) ⟨(fun _ => R), trivial⟩ ⟨(fun _ => R), (blk_ren R R), (blk_ren R R), (pl_ren R), (blk_ren R R), (pl_ren R), (blk_ren R R), (pl_ren R), (blk_ren R R), (pl_ren R), trivial⟩ (rn_nd hd R R) (rn_ks hd R R R)
abbrev R13_Queue_st (S : Foot) (W0 : World) (s0 : Value) (a1 : Int) (r : List TOp) (m30 : Nat) : Prop := SCon Tryz.prog 45 [SV.raw s0, .a (.c (.v (.int .i64 a1)))] [(0, rd S W0)] (.a (.c (.nv m30))) [(0, rd S W0), (m30, lrow m30 42 eTOp 4 r)] [m30]
theorem R13_Queue_con0 {k : Nat}  {S : Foot} {W0 : World} {s0 : Value} {l0 : List Int} {a1 : Int} {r : List TOp} (hL0 : LArg S W0 s0 intE 1 l0) (H0 : R13_Queue.f k l0 a1 = some r) : R13_Queue_st S W0 s0 a1 r 30 := by
 rw [R13_Queue.f] at H0
 obtain ⟨b0, o0, hI0⟩ := hL0
 refine spec_of [(0, _), (1, _)] [(0, _)] 37 Tryz.func45 R Tryz.ntmps45 R R R R (fun β W F => ?_)
 refine G.seq <| G.rg <| K.nilRow 100 42 eTOp 4 (.inl R) g0 R R R <| K.nil <| At.nr <| K.nilRow 101 42 eTOp 4 (.inl R) g0 R R R <| K.nil <| At.next ?_
 obtain ⟨x1, H1, H0⟩ := bnd H0
 refine G.sJ (σ := { v : List TOp // x1 = v }) (fun q => [(5, .a (.c (.nv 102)))]) (fun q => [(0, rd S W0), (102, lrow 102 42 eTOp 4 q.1)]) ?_ ?_
 ·
  refine G.seq <| G.rg <| K.as R R <| K.nil <| At.next <| G.block <| G.lp (σ := { q : Nat × (List TOp × Int) // R13_Queue.l0 k l0 a1 q.1 q.2 = some x1 }) (fun q => [(0, SV.raw s0), (1, .a (.c (.v (.int .i64 a1)))), (5, .a (.c (.nv 105))), (6, .a (.c (.v (.int .i64 q.1.2.2))))]) (fun q => [(0, rd S W0), (105, lrow 105 42 eTOp 4 q.1.2.1)]) (fun q => q.1.1) ⟨(k, (([] : List TOp), 0)), H1⟩ ?_ ?_
  · exact At.into [(105, 101)] [_, _] R ⟨R, R, R, R, trivial⟩ ⟨R, (fun _ => R), R, (lrow_ren R), trivial⟩ R
  ·
   rintro ⟨⟨n0, v1, v2⟩, H1⟩
   show G _ _ [(0, SV.raw s0), (1, .a (.c (.v (.int .i64 a1)))), (5, .a (.c (.nv 105))), (6, .a (.c (.v (.int .i64 v2))))] [(0, some (rd S W0)), (105, some (lrow 105 42 eTOp 4 v1))] _ _
   cases n0 with
   | zero => exact absurd H1 (by simp [R13_Queue.l0])
   | succ n0 =>
    have HL0 := H1
    rw [R13_Queue.l0] at H1
    refine G.seq <| G.seq <| G.rg <| K.mv R R <| K.mv R R <| K.lenL (rV 0 S W0 s0 b0 o0 intE 1 l0) (hI0.is 0) g0 R R Tryz.underlying85 R <| K.bin (V := .bool (decide (v2 < (l0.length : Int)))) g0 R R (fun _ => R) R <| K.nil <| At.next <| G.cond R (fun h1 => ?_) (fun h1 => ?_)
    ·
     replace H1 := bif_t H1 h1
     refine G.skip <| At.ns <| G.block <| G.seq ?_
     obtain ⟨x2, hx2, H1⟩ := bnd H1
     refine G.rg <| K.mv R R <| K.mv R R <| K.idxL (rV 0 S W0 s0 b0 o0 intE 1 l0) ((v2).toNat) (hI0.is 0) (atL_get hx2) (atL_nn hx2) g0 R R R Tryz.underlying85 el85.size_run R <| K.load1L Y (rV 0 S W0 s0 b0 o0 intE 1 l0) ((v2).toNat) 0 (hI0.is 0) (atL_get hx2) g0 R R t3 R R <| K.bin (V := .bool (decide (x2 < 0))) g0 R R (fun _ => R) R <| K.nil <| At.next <| G.cond R (fun h2 => ?_) (fun h2 => ?_)
     ·
      replace H1 := bif_t H1 h2
      obtain ⟨h3, H1⟩ := grd H1
      exact G.rg <| K.mv R R <| K.mv R R <| K.build Y [(0, _)] [_, _, _, _] [((.tmp 19), _)] g0 (AllE.spec ⟨R, trivial⟩) R R t42 R R <| K.buildL Y 106 ([(TOp.mk v2 false zTItem)] : List TOp) [(0, _)] [((.tmp 20), _)] eTOp_len g0 (AllE.spec ⟨R, trivial⟩) R R Tryz.underlying26 t42 R R R R R R R R <| K.appendL 107 (lrowV 106 42 eTOp 4 ([(TOp.mk v2 false zTItem)] : List TOp)) _ el26 (lrowV_is eTOp_len (by decide)) eTOp_one g0 R R R R R (ap_m h3) (ap_b h3 (by decide)) R R R R R R <| K.as R R <| K.nil <| At.block_normal <| At.next <| G.rg <| K.mv R R <| K.bin (V := .int .i64 (w64 (v2 + 1))) g0 R R (fun _ => R) R <| K.as R R <| K.nil <| At.ag ⟨(n0, ((v1 ++ ([(TOp.mk v2 false zTItem)] : List TOp)), (w64 (v2 + 1)))), H1⟩ [(105, 107)] [_, _] (Nat.lt_succ_self _) R ⟨R, R, R, R, trivial⟩ ⟨R, (fun _ => R), R, (lrow_ren R), trivial⟩ R
     ·
      replace H1 := bif_f H1 h2
      obtain ⟨h4, H1⟩ := grd H1
      exact G.rg <| K.mv R R <| K.mv R R <| K.mv R R <| K.mv R R <| K.idxL (rV 0 S W0 s0 b0 o0 intE 1 l0) ((v2).toNat) (hI0.is 0) (atL_get hx2) (atL_nn hx2) g0 R R R Tryz.underlying85 el85.size_run R <| K.load1L Y (rV 0 S W0 s0 b0 o0 intE 1 l0) ((v2).toNat) 0 (hI0.is 0) (atL_get hx2) g0 R R t3 R R <| K.mv R R <| K.mv R R <| K.bin (V := .int .i64 (w64 (a1 + v2))) g0 R R (fun _ => R) R <| K.build Y [(0, _), (1, _)] [_, _] [((.tmp 28), _), ((.tmp 31), _)] g0 (AllE.spec ⟨R, R, trivial⟩) R R t30 R R <| K.build Y [(0, _), (1, _), (2, _)] [_, _, _, _] [((.tmp 24), _), (_, _), ((.tmp 32), _)] g0 (AllE.spec ⟨R, R, R, trivial⟩) R R t42 R R <| K.buildL Y 108 ([(TOp.mk v2 true (TItem.mk x2 (w64 (a1 + v2))))] : List TOp) [(0, _)] [((.tmp 33), _)] eTOp_len g0 (AllE.spec ⟨R, trivial⟩) R R Tryz.underlying26 t42 R R R R R R R R <| K.appendL 109 (lrowV 108 42 eTOp 4 ([(TOp.mk v2 true (TItem.mk x2 (w64 (a1 + v2))))] : List TOp)) _ el26 (lrowV_is eTOp_len (by decide)) eTOp_one g0 R R R R R (ap_m h4) (ap_b h4 (by decide)) R R R R R R <| K.as R R <| K.nil <| At.block_normal <| At.next <| G.rg <| K.mv R R <| K.bin (V := .int .i64 (w64 (v2 + 1))) g0 R R (fun _ => R) R <| K.as R R <| K.nil <| At.ag ⟨(n0, ((v1 ++ ([(TOp.mk v2 true (TItem.mk x2 (w64 (a1 + v2))))] : List TOp)), (w64 (v2 + 1)))), H1⟩ [(105, 109)] [_, _] (Nat.lt_succ_self _) R ⟨R, R, R, R, trivial⟩ ⟨R, (fun _ => R), R, (lrow_ren R), trivial⟩ R
    ·
     replace H1 := bif_f H1 h1
     exact G.exit <| At.over_exit <| At.over_exit <| At.block_hit <| At.jd ⟨v1, oi H1⟩ [(102, 105)] [_, _] R ⟨R, trivial⟩ ⟨R, (fun _ => R), R, (lrow_ren R), trivial⟩ R
 ·
  rintro ⟨_, rfl⟩
  show G _ _ [(5, .a (.c (.nv 102)))] [(0, some (rd S W0)), (102, some (lrow 102 42 eTOp 4 x1))] _ _
  exact G.seq <| G.rg <| K.mv R R <| K.as R R <| K.nil <| At.next <| G.ret <| At.ren (fs' := [(4, .a (.c (.nv 30)))]) (tl := [(0, rd S W0), (30, lrow 30 42 eTOp 4 x1)]) [(30, 102)] [_, _] R ⟨R, trivial⟩ ⟨R, (fun _ => R), R, (lrow_ren R), trivial⟩ R <| At.dr Y [4] R R (by cases H0; rfl) (by cases H0; rfl) R R R
theorem R13_Queue_con {k : Nat}  {S : Foot} {W0 : World} {s0 : Value} {l0 : List Int} {a1 : Int} {r : List TOp} (hL0 : LArg S W0 s0 intE 1 l0) (H0 : R13_Queue.f k l0 a1 = some r) (m30 : Nat) (hd : ndB [m30] = true) : R13_Queue_st S W0 s0 a1 r m30 :=
 SCon.ren (rn [(30, m30)]) (R13_Queue_con0 (k := k)  hL0 H0) ⟨(fun _ => R), trivial⟩ ⟨(fun _ => R), (lrow_ren R), trivial⟩ (rn_nd hd R R) (rn_ks hd R R R)
abbrev fuse_None_st (A : List (Nat → Nat)) (r : TViews) (m60 : Nat) : Prop := SCon Tryz.prog 43 [] [] (.a (.agg [.nv m60])) [(m60, lrow m60 140 (eTPart A) 4 (r.parts))] [m60]
theorem fuse_None_con0 {k : Nat}  {A : List (Nat → Nat)} {r : TViews}  (H0 : fuse_None.f k = some r) : fuse_None_st A r 60 := by
 rw [fuse_None.f] at H0
 refine spec_of [] [] 2 Tryz.func43 R Tryz.ntmps43 R R R R (fun β W F => ?_)
 refine G.seq <| G.rg <| K.alloc Y 100 _ g0 t81 R R R R R <| K.nil <| At.nilBlk (n := 100) (l' := [_]) 0 101 140 (eTPart A) 4 R R R R R <| At.nr <| K.build Y [] [_] [] g0 (AllE.spec trivial) R R t81 R R <| K.store Y _ g0 R R R t81 R R R R R <| K.nil <| At.nilAgg (t := 1) (l' := [_]) 0 102 140 (eTPart A) 4 R R R R R <| At.nilBlk (n := 100) (l' := [_]) 0 103 140 (eTPart A) 4 R R R R R <| At.next <| G.ret <| At.ren (fs' := [(0, .a (.c (.p 100 0)))]) (tl := [(60, lrow 60 140 (eTPart A) 4 ([] : List TPart)), (100, blk 100 [.nv 60] 81)]) [(60, 103)] [_, _] R ⟨R, trivial⟩ ⟨R, (lrow_ren R), R, (blk_ren R R), trivial⟩ R <| At.done Y [(.cell 0 81, .agg [_])] R ⟨.st R R t81 R R, trivial⟩ (to' := [(60, _)]) ⟨R, trivial⟩ ?_ ?_ R R R (.inl R)
 · cases H0; rfl
 · cases H0; rfl
theorem fuse_None_con {k : Nat}  {A : List (Nat → Nat)} {r : TViews}  (H0 : fuse_None.f k = some r) (m60 : Nat) (hd : ndB [m60] = true) : fuse_None_st A r m60 :=
 SCon.ren (rn [(60, m60)]) (fuse_None_con0 (k := k)   H0) trivial ⟨(lrow_ren R), trivial⟩ (rn_nd hd R R) (rn_ks hd R R R)
abbrev Lw13_awake_st (r : Bool) : Prop := SCon Tryz.prog 41 [] [] (.a (.c (.v (.bool r)))) [] []
theorem Lw13_awake_con0 {k : Nat}  {r : Bool}  (H0 : Lw13_awake.f k = some r) : Lw13_awake_st r := by
 rw [Lw13_awake.f] at H0
 refine spec_of [] [] 39 Tryz.func41 R Tryz.ntmps41 R R R R (fun β W F => ?_)
 refine G.seq <| G.rg <| K.as R R <| K.nil ?_
 obtain ⟨A, hA_⟩ : ∃ A : List (Nat → Nat), A = [] := ⟨_, rfl⟩
 have hL_9 : A.length = ([] : List TQueue).length := by rw [hA_]; rfl
 refine At.ent [] [(19, hp 19 tq A [])] [] (by rw [hA_]; exact hp_nil tq 19) trivial R R R R <| At.ns ?_
 obtain ⟨x1, hx1, H0⟩ := bnd H0
 obtain ⟨x2, hx2, H0⟩ := bnd H0
 obtain ⟨x3, hx3, H0⟩ := bnd H0
 obtain ⟨x4, hx4, H0⟩ := bnd H0
 refine G.rg <| K.buildL Y 100 ([4, 5] : List Int) [(0, _), (1, _)] [(_, _), (_, _)] intE_len g0 (AllE.spec ⟨R, R, trivial⟩) R R Tryz.underlying85 t3 R R R R R R R R <| K.cV (cf 45 R) [100] (fun β w S2 h => R13_Queue_con (la 0 R intE_len R h) hx1 101 R) g0 (fun _ => R) R R R <| K.cV (cf 44 R) [101] (fun β w S2 h => Lw13_Queue_con (la 0 R eTOp_len R h) hx2 102 103 104 105 106 107 108 109 110 R) g0 (fun _ => R) R R R <| K.buildL Y 111 ([(-1), 3, (-1)] : List Int) [(0, _), (1, _), (2, _)] [(_, _), (_, _), (_, _)] intE_len g0 (AllE.spec ⟨R, R, R, trivial⟩) R R Tryz.underlying85 t3 R R R R R R R R <| K.cV (cf 45 R) [111] (fun β w S2 h => R13_Queue_con (la 0 R intE_len R h) hx3 112 R) g0 (fun _ => R) R R R <| K.cV (cf 44 R) [112] (fun β w S2 h => Lw13_Queue_con (la 0 R eTOp_len R h) hx4 113 114 115 116 117 118 119 120 121 R) g0 (fun _ => R) R R R <| K.as R R <| K.as R R <| K.nil <| At.ent ((19, hp 19 tq A ([] : List TQueue)) :: tkQueue 102 103 104 105 106 107 108 109 110 x2 []) _ [] (tq_add 19 102 103 104 105 106 107 108 109 110 x2 hL_9) ⟨R, R, R, R, R, R, R, R, R, R, trivial⟩ R R R R <| At.fix (j0 := 1) (t := 1) 19 R R (by decide) (fun a_ => ?_)
 rw [hA_new a_ hL_9]
 have hL_9 := len_grow hL_9 a_ x2
 obtain ⟨A, hA_⟩ : ∃ B, B = A ++ [a_] := ⟨_, rfl⟩
 rw [← hA_] at hL_9 ⊢
 obtain ⟨h1, H0⟩ := grd H0
 refine At.ent ((19, hp 19 tq A (([] : List TQueue) ++ [x2])) :: tkQueue 113 114 115 116 117 118 119 120 121 x4 []) _ [] (tq_add 19 113 114 115 116 117 118 119 120 121 x4 hL_9) ⟨R, R, R, R, R, R, R, R, R, R, trivial⟩ R R R R <| At.fix (j0 := 1) (t := 2) 19 R R (by decide) (fun a_ => ?_)
 rw [show hA A (THp.mk ([] : List TQueue).length 1) = hA (A ++ [a_]) (THp.mk ([] : List TQueue).length 1) from (hA_grow a_ (by rw [hL_9]; exact h1)).symm]
 rw [hA_new a_ hL_9]
 have hL_9 := len_grow hL_9 a_ x4
 obtain ⟨A, hA_⟩ : ∃ B, B = A ++ [a_] := ⟨_, rfl⟩
 rw [← hA_] at hL_9 ⊢
 refine At.ns <| G.seq <| G.rg <| K.mv R R <| K.bin (V := .bool false) g0 R R (pn_eql_some Tryz.underlying24 _) R <| K.mv R R <| K.move (.inl R) (g1 R R R) R R <| K.bin (V := .bool false) (g1 R R R) R R (pn_eql_some Tryz.underlying24 _) R <| K.pickF g0 R (R) R R <| K.nil <| At.next <| G.cond R (fun h2 => ?_) (fun h2 => ?_)
 · cases h2
 ·
  refine G.skip <| At.ns ?_
  obtain ⟨x5, hx5, H0⟩ := bnd H0
  obtain ⟨x6, hx6, H0⟩ := bnd H0
  obtain ⟨x7, hx7, H0⟩ := bnd H0
  refine G.rg <| K.c0 (cf 43 R) (fuse_None_con (A := A) (k := k) hx5 122 R) g0 R R R R <| K.mv R R <| K.cV (cf 47 R) [122] (fun β w S2 h => fuse_Views_Then_con (a0 := x5) hL_9 (la 0 R (eTPart_len A) R h) hx6 19 123 R) g0 (fun _ => R) R R R <| K.mv R R <| K.cV (cf 47 R) [123] (fun β w S2 h => fuse_Views_Then_con (a0 := x6) hL_9 (la 0 R (eTPart_len A) R h) hx7 19 124 R) g0 (fun _ => R) R R R <| K.alloc Y 125 _ g0 t81 R R R R R <| K.store Y _ g0 R R R t81 R R R R R <| K.nil <| At.ns ?_
  obtain ⟨x8, hx8, H0⟩ := bnd H0
  refine G.rg <| K.loadS Y _ g0 R R t81 R R R <| K.cV (cf 82 R) [124] (fun β w S2 h => fuse_Views_Min_con (a0 := x7) hL_9 (la 0 R (eTPart_len A) R h) hx8 19) g0 (fun _ => R) R R R <| K.mv R R <| K.extract g0 R R R <| K.extract g0 R R R <| K.alloc Y 126 _ g0 t30 R R R R R <| K.store Y _ g0 R R R t30 R R R R R <| K.as R R <| K.nil <| At.ns ?_
  rcases Bool.eq_false_or_eq_true x8.2 with h3 | h3
  ·
   replace H0 := bif_t H0 h3
   rcases Bool.eq_false_or_eq_true (x8.1.key == 5) with h4 | h4
   ·
    replace H0 := bif_t H0 h4
    obtain ⟨x9, hx9, H0⟩ := bnd H0
    exact G.rg <| K.mv R R <| K.mv R R <| K.fieldAddr Y (g1 R R h3) R t30 R R <| K.load1 Y (g1 R R h3) R R t3 R R <| K.bin (V := .bool (x8.1.key == 5)) (g1 R R h3) R R (fun _ => R) R <| K.pickT g0 R (h3) R R <| K.mv R R <| K.loadS Y _ (g1 R R h4) R R t81 R R R <| K.cV (cf 46 R) [124] (fun β w S2 h => fuse_Views_Len_con (a0 := x7) hL_9 (la 0 R (eTPart_len A) R h) hx9 19) (g1 R R h4) (fun _ => R) R R R <| K.bin (V := .bool (x9 == 1)) (g1 R R h4) R R (fun _ => R) R <| K.pickT g0 R (h4) R R <| K.as R R <| K.nil <| At.next <| G.ret <| At.dr Y [0] R R (by cases H0; rfl) (by cases H0; rfl) R R R
   ·
    replace H0 := bif_f H0 h4
    exact G.rg <| K.mv R R <| K.mv R R <| K.fieldAddr Y (g1 R R h3) R t30 R R <| K.load1 Y (g1 R R h3) R R t3 R R <| K.bin (V := .bool (x8.1.key == 5)) (g1 R R h3) R R (fun _ => R) R <| K.pickT g0 R (h3) R R <| K.mv R R <| K.sk R R h4 R <| K.sk R R h4 R <| K.sk R R h4 R <| K.pickF g0 R (h4) R R <| K.as R R <| K.nil <| At.next <| G.ret <| At.dr Y [0] R R (by cases H0; rfl) (by cases H0; rfl) R R R
  ·
   replace H0 := bif_f H0 h3
   exact G.rg <| K.mv R R <| K.mv R R <| K.sk R R h3 R <| K.sk R R h3 R <| K.sk R R h3 R <| K.pickF g0 R (h3) R R <| K.mv R R <| K.sk R R R R <| K.sk R R R R <| K.sk R R R R <| K.pickF g0 R (R) R R <| K.as R R <| K.nil <| At.next <| G.ret <| At.dr Y [0] R R (by cases H0; rfl) (by cases H0; rfl) R R R
theorem Lw13_awake_con {k : Nat}  {r : Bool}  (H0 : Lw13_awake.f k = some r) : Lw13_awake_st r :=
 SCon.ren (rn []) (Lw13_awake_con0 (k := k)   H0) trivial trivial (by simp) (by simp)
abbrev R13_Left_st (S : Foot) (W0 : World) (s0 : Value) (r : List TItem) (m30 : Nat) : Prop := SCon Tryz.prog 48 [SV.raw s0] [(0, rd S W0)] (.a (.c (.nv m30))) [(0, rd S W0), (m30, lrow m30 30 eTItem 2 r)] [m30]
theorem R13_Left_con0 {k : Nat}  {S : Foot} {W0 : World} {s0 : Value} {l0 : List (List TOp)} {r : List TItem} (hL0 : LL S W0 s0 eTOp 4 l0) (H0 : R13_Left.f k l0 = some r) : R13_Left_st S W0 s0 r 30 := by
 rw [R13_Left.f] at H0
 obtain ⟨vs0, ⟨b0, o0, hI0⟩, hin0⟩ := hL0
 refine spec_of [(0, _)] [(0, _)] 29 Tryz.func48 R Tryz.ntmps48 R R R R (fun β W F => ?_)
 refine G.seq <| G.rg <| K.nilRow 100 30 eTItem 2 (.inl R) g0 R R R <| K.nil <| At.nr <| K.nilRow 101 42 eTOp 4 (.inl R) g0 R R R <| K.nil <| At.next ?_
 obtain ⟨x1, H1, H0⟩ := bnd H0
 refine G.sJ (σ := { v : List TOp // x1 = v }) (fun q => [(3, .a (.c (.nv 102)))]) (fun q => [(0, rd S W0), (102, lrow 102 42 eTOp 4 q.1)]) ?_ ?_
 ·
  refine G.seq <| G.rg <| K.as R R <| K.nil <| At.next <| G.block <| G.lp (σ := { q : Nat × (List TOp × Int) // R13_Left.l0 k l0 q.1 q.2 = some x1 }) (fun q => [(0, SV.raw s0), (3, .a (.c (.nv 105))), (4, .a (.c (.v (.int .i64 q.1.2.2))))]) (fun q => [(0, rd S W0), (105, lrow 105 42 eTOp 4 q.1.2.1)]) (fun q => q.1.1) ⟨(k, (([] : List TOp), 0)), H1⟩ ?_ ?_
  · exact At.into [(105, 101)] [_, _] R ⟨R, R, R, trivial⟩ ⟨R, (fun _ => R), R, (lrow_ren R), trivial⟩ R
  ·
   rintro ⟨⟨n0, v1, v2⟩, H1⟩
   show G _ _ [(0, SV.raw s0), (3, .a (.c (.nv 105))), (4, .a (.c (.v (.int .i64 v2))))] [(0, some (rd S W0)), (105, some (lrow 105 42 eTOp 4 v1))] _ _
   cases n0 with
   | zero => exact absurd H1 (by simp [R13_Left.l0])
   | succ n0 =>
    have HL0 := H1
    rw [R13_Left.l0] at H1
    refine G.seq <| G.seq <| G.rg <| K.mv R R <| K.mv R R <| K.lenE (rV 0 S W0 s0 b0 o0 vE 1 vs0) (l0.length : Int) (hI0.is 0) hin0.len g0 R R Tryz.underlying87 R <| K.bin (V := .bool (decide (v2 < (l0.length : Int)))) g0 R R (fun _ => R) R <| K.nil <| At.next <| G.cond R (fun h1 => ?_) (fun h1 => ?_)
    ·
     replace H1 := bif_t H1 h1
     refine G.skip <| At.ns <| G.block ?_
     obtain ⟨x2, hx2, H1⟩ := bnd H1
     obtain ⟨ao_h2, cap_h2, b_h2, o_h2, hw_h2, hI_h2⟩ := hin0.at hx2
     obtain ⟨h4, H1⟩ := grd H1
     exact G.rg <| K.mv R R <| K.mv R R <| K.mv R R <| K.idxL (rV 0 S W0 s0 b0 o0 vE 1 vs0) ((v2).toNat) (hI0.is 0) hw_h2 (atL_nn hx2) g0 R R R Tryz.underlying87 el87.size_run R <| K.load1L Y (rV 0 S W0 s0 b0 o0 vE 1 vs0) ((v2).toNat) 0 (hI0.is 0) hw_h2 g0 R R t26 R R <| K.appendL 106 (rV 0 S W0 (Value.slice ao_h2 x2.length cap_h2) b_h2 o_h2 eTOp 4 x2) _ el26 (hI_h2.is 0) eTOp_one g0 R R R R R (ap_m h4) (ap_b h4 (by decide)) R R R R R R <| K.as R R <| K.nil <| At.block_normal <| At.next <| G.rg <| K.mv R R <| K.bin (V := .int .i64 (w64 (v2 + 1))) g0 R R (fun _ => R) R <| K.as R R <| K.nil <| At.ag ⟨(n0, ((v1 ++ x2), (w64 (v2 + 1)))), H1⟩ [(105, 106)] [_, _] (Nat.lt_succ_self _) R ⟨R, R, R, trivial⟩ ⟨R, (fun _ => R), R, (lrow_ren R), trivial⟩ R
    ·
     replace H1 := bif_f H1 h1
     exact G.exit <| At.over_exit <| At.over_exit <| At.block_hit <| At.jd ⟨v1, oi H1⟩ [(102, 105)] [_, _] R ⟨R, trivial⟩ ⟨R, (fun _ => R), R, (lrow_ren R), trivial⟩ R
 ·
  rintro ⟨_, rfl⟩
  show G _ _ [(3, .a (.c (.nv 102)))] [(0, some (rd S W0)), (102, some (lrow 102 42 eTOp 4 x1))] _ _
  refine G.seq ?_
  obtain ⟨x3, hx3, H0⟩ := bnd H0
  exact G.rg <| K.mv R R <| K.cV (cf 17 R) [102] (fun β w S2 h => R12_Run_con (la 0 R eTOp_len R h) hx3 107 108 109 R) g0 (fun _ => R) R R R <| K.mv R R <| K.extract g0 R R R <| K.extract g0 R R R <| K.extract g0 R R R <| K.extract g0 R R R <| K.as R R <| K.as R R <| K.as R R <| K.as R R <| K.nil <| At.nr <| K.mv R R <| K.as R R <| K.nil <| At.next <| G.ret <| At.ren (fs' := [(2, .a (.c (.nv 30)))]) (tl := [(0, rd S W0), (30, lrow 30 30 eTItem 2 x3.1)]) [(30, 107)] [_, _] R ⟨R, trivial⟩ ⟨R, (fun _ => R), R, (lrow_ren R), trivial⟩ R <| At.dr Y [2] R R (by cases H0; rfl) (by cases H0; rfl) R R R
theorem R13_Left_con {k : Nat}  {S : Foot} {W0 : World} {s0 : Value} {l0 : List (List TOp)} {r : List TItem} (hL0 : LL S W0 s0 eTOp 4 l0) (H0 : R13_Left.f k l0 = some r) (m30 : Nat) (hd : ndB [m30] = true) : R13_Left_st S W0 s0 r m30 :=
 SCon.ren (rn [(30, m30)]) (R13_Left_con0 (k := k)  hL0 H0) ⟨(fun _ => R), trivial⟩ ⟨(fun _ => R), (lrow_ren R), trivial⟩ (rn_nd hd R R) (rn_ks hd R R R)
abbrev Lw13_FuseParts_st (S : Foot) (W0 : World) (s0 : Value) (a1 : Int) (a2 : Int) (r : Bool) : Prop := SCon Tryz.prog 12 [SV.raw s0, .a (.c (.v (.int .u8 a1))), .a (.c (.v (.int .u8 a2)))] [(0, rd S W0)] (.a (.c (.v (.bool r)))) [(0, rd S W0)] []
set_option maxHeartbeats 4000000 in
theorem Lw13_FuseParts_con0 {k : Nat}  {S : Foot} {W0 : World} {s0 : Value} {l0 : List Int} {a1 : Int} {a2 : Int} {r : Bool} (hL0 : LArg S W0 s0 intE 1 l0) (H0 : Lw13_FuseParts.f k l0 a1 a2 = some r) : Lw13_FuseParts_st S W0 s0 a1 a2 r := by
 rw [Lw13_FuseParts.f] at H0
 obtain ⟨b0, o0, hI0⟩ := hL0
 refine spec_of [(0, _), (1, _), (2, _)] [(0, _)] 83 Tryz.func12 R Tryz.ntmps12 R R R R (fun β W F => ?_)
 refine G.seq <| G.rg <| K.as R R <| K.nil ?_
 obtain ⟨A, hA_⟩ : ∃ A : List (Nat → Nat), A = [] := ⟨_, rfl⟩
 have hL_9 : A.length = ([] : List TQueue).length := by rw [hA_]; rfl
 refine At.ent [] [(19, hp 19 tq A [])] [] (by rw [hA_]; exact hp_nil tq 19) trivial R R R R <| At.rdE 18 R (fun S8 W8 => ?_)
 refine At.ns <| G.seq ?_
 obtain ⟨x1, hx1, H0⟩ := bnd H0
 rcases Bool.eq_false_or_eq_true (!x1) with h1 | h1
 ·
  replace H0 := bif_t H0 h1
  refine G.rg <| K.cR (cf 41 R) (Lw13_awake_con hx1) g0 R R R R <| K.un (V := .bool (!x1)) g0 R (fun _ => R) R <| K.mv R R <| K.sk R R h1 R <| K.sk R R h1 R <| K.sk R R h1 R <| K.pickT g0 R (h1) R R <| K.nil <| At.next <| G.cond R (fun h2 => ?_) (fun h2 => ?_)
  ·
   refine G.seq ?_
   obtain ⟨x2, hx2, H0⟩ := bnd H0
   exact G.rg <| K.cR (cf 41 R) (Lw13_awake_con hx2) g0 R R R R <| K.as R R <| K.nil <| At.next <| G.ret <| At.over_ret <| At.dr Y [6] R R (by cases H0; rfl) (by cases H0; rfl) R R R
  · cases h2
 ·
  replace H0 := bif_f H0 h1
  refine G.rg <| K.cR (cf 41 R) (Lw13_awake_con hx1) g0 R R R R <| K.un (V := .bool (!x1)) g0 R (fun _ => R) R <| K.mv R R <| K.move (.inl R) (g1 R R h1) R R <| K.lenL (rV 0 S W0 s0 b0 o0 intE 1 l0) (hI0.is 0) (g1 R R h1) R R Tryz.underlying85 R <| K.bin (V := .bool (decide ((l0.length : Int) > 40))) (g1 R R h1) R R (fun _ => R) R <| K.pickF g0 R (h1) R R <| K.nil <| At.next <| G.cond R (fun h3 => ?_) (fun h3 => ?_)
  ·
   replace H0 := bif_t H0 h3
   refine G.seq ?_
   obtain ⟨x3, hx3, H0⟩ := bnd H0
   exact G.rg <| K.cR (cf 41 R) (Lw13_awake_con hx3) g0 R R R R <| K.as R R <| K.nil <| At.next <| G.ret <| At.over_ret <| At.dr Y [6] R R (by cases H0; rfl) (by cases H0; rfl) R R R
  ·
   replace H0 := bif_f H0 h3
   refine G.skip <| At.ns ?_
   obtain ⟨h4, H0⟩ := grd H0
   obtain ⟨h5, H0⟩ := grd H0
   refine G.rd mixed <| K.mv R R <| K.conv (V := .int .i64 (w64 a1)) g0 R (cv_int (by rw [Tryz.underlying5]; rfl) Tryz.underlying3) R <| K.mv R R <| K.lenL (rV 0 S W0 s0 b0 o0 intE 1 l0) (hI0.is 0) g0 R R Tryz.underlying85 R <| K.bin (V := .int .i64 (w64 ((l0.length : Int) + 1))) g0 R R (fun _ => R) R <| K.bin (V := .int .i64 ((w64 a1).tmod (w64 ((l0.length : Int) + 1)))) g0 R R (rem_run h4) R <| K.mv R R <| K.conv (V := .int .i64 (w64 a2)) g0 R (cv_int (by rw [Tryz.underlying5]; rfl) Tryz.underlying3) R <| K.mv R R <| K.lenL (rV 0 S W0 s0 b0 o0 intE 1 l0) (hI0.is 0) g0 R R Tryz.underlying85 R <| K.bin (V := .int .i64 (w64 ((l0.length : Int) + 1))) g0 R R (fun _ => R) R <| K.bin (V := .int .i64 ((w64 a2).tmod (w64 ((l0.length : Int) + 1)))) g0 R R (rem_run h5) R <| K.as R R <| K.as R R <| K.nil <| And.intro (by kernel_rfl) <| At.nr <| K.mv R R <| K.mv R R <| K.bi2 (V := .int .i64 (gmin ((w64 a1).tmod (w64 ((l0.length : Int) + 1))) ((w64 a2).tmod (w64 ((l0.length : Int) + 1))))) g0 R R (fun _ _ => R) R <| K.mv R R <| K.mv R R <| K.bi2 (V := .int .i64 (gmax ((w64 a1).tmod (w64 ((l0.length : Int) + 1))) ((w64 a2).tmod (w64 ((l0.length : Int) + 1))))) g0 R R (fun _ _ => R) R <| K.as R R <| K.as R R <| K.nil <| At.ns ?_
   obtain ⟨x4, hx4, H0⟩ := bnd H0
   refine G.rg <| K.mv R R <| K.cV (cf 45 R) [0] (fun β w S2 h => R13_Queue_con ((hI0.isC 0).larg ⟨_, List.mem_cons_self⟩ h) hx4 100 R) g0 (fun _ => R) R R R <| K.as R R <| K.nil <| At.freeze 9 100 R R eTOp_len R (fun S9 W9 v_h6 hf_h6 => ?_)
   refine At.melt 18 100 R R R (fun S8 W8 m1_ m2_ => ?_)
   replace hf_h6 := m2_ hf_h6
   obtain ⟨b_h6, o_h6, hf_h6⟩ := hf_h6
   obtain ⟨ao_h6, cap_h6, hq_h6, _⟩ := hf_h6.sl
   subst hq_h6
   refine At.ns ?_
   obtain ⟨x5, hx5, H0⟩ := bnd H0
   refine G.rg <| K.c0 (cf 43 R) (fuse_None_con (A := A) (k := k) hx5 101 R) g0 R R R R <| K.alloc Y 102 _ g0 t81 R R R R R <| K.store Y _ g0 R R R t81 R R R R R <| K.nil <| At.ns ?_
   obtain ⟨h7, H0⟩ := grd H0
   obtain ⟨h9, H0⟩ := grd H0
   obtain ⟨h11, H0⟩ := grd H0
   refine G.rd mixed <| K.mv R R <| K.mv R R <| K.partR 0 (((gmin ((w64 a1).tmod (w64 ((l0.length : Int) + 1))) ((w64 a2).tmod (w64 ((l0.length : Int) + 1))))).toNat) hf_h6 g0 R .no (.at_ R h7.1 R) Tryz.underlying26 el26.size_run (Nat.zero_le _) (tn_len h7.2) R <| K.mv R R <| K.mv R R <| K.mv R R <| K.partR (((gmin ((w64 a1).tmod (w64 ((l0.length : Int) + 1))) ((w64 a2).tmod (w64 ((l0.length : Int) + 1))))).toNat) (((gmax ((w64 a1).tmod (w64 ((l0.length : Int) + 1))) ((w64 a2).tmod (w64 ((l0.length : Int) + 1))))).toNat) hf_h6 g0 R (.at_ R h9.1 R) (.at_ R (Int.le_trans h9.1 h9.2.1) R) Tryz.underlying26 el26.size_run (tn_le h9.2.1) (tn_len h9.2.2) R <| K.mv R R <| K.mv R R <| K.partR (((gmax ((w64 a1).tmod (w64 ((l0.length : Int) + 1))) ((w64 a2).tmod (w64 ((l0.length : Int) + 1))))).toNat) x4.length hf_h6 g0 R (.at_ R h11.1 R) .no Tryz.underlying26 el26.size_run (tn_len h11.2) (Nat.le_refl _) R <| K.buildVs Y 103 ([(partOf 0 (((gmin ((w64 a1).tmod (w64 ((l0.length : Int) + 1))) ((w64 a2).tmod (w64 ((l0.length : Int) + 1))))).toNat) 4 (Value.slice ao_h6 x4.length cap_h6)), (partOf (((gmin ((w64 a1).tmod (w64 ((l0.length : Int) + 1))) ((w64 a2).tmod (w64 ((l0.length : Int) + 1))))).toNat) (((gmax ((w64 a1).tmod (w64 ((l0.length : Int) + 1))) ((w64 a2).tmod (w64 ((l0.length : Int) + 1))))).toNat) 4 (Value.slice ao_h6 x4.length cap_h6)), (partOf (((gmax ((w64 a1).tmod (w64 ((l0.length : Int) + 1))) ((w64 a2).tmod (w64 ((l0.length : Int) + 1))))).toNat) x4.length 4 (Value.slice ao_h6 x4.length cap_h6))] : List Value) [(0, _), (1, _), (2, _)] [((.tmp 45), _), ((.tmp 49), _), ((.tmp 52), _)] g0 (AllE.spec ⟨R, R, R, trivial⟩) R R Tryz.underlying87 t26 R R R R R R R <| K.as R R <| K.nil <| And.intro (by kernel_rfl) <| At.next ?_
   obtain ⟨x6, H1, H0⟩ := bnd H0
   refine G.sJ (σ := { q : (List TPart × List TQueue) × (List (Nat → Nat)) // x6 = Sum.inr q.1 ∧ q.2.length = q.1.2.length }) (fun q => [(9, SV.raw (Value.slice ao_h6 x4.length cap_h6)), (10, .a (.c (.p 104 0)))]) (fun q => [(0, rd S W0), (105, lrow 105 140 (eTPart q.1.2) 4 q.1.1.1), (104, blk 104 [.nv 105] 81), (19, hp 19 tq q.1.2 q.1.1.2), (18, rd S8 W8)]) ?_ ?_
   ·
    refine G.seq <| G.rg <| K.as R R <| K.nil <| At.next <| G.block <| G.lp (σ := { q : Nat × (List TPart × Int × List TQueue) × (List (Nat → Nat)) // Lw13_FuseParts.l0 k l0 a1 a2 x4 q.1 q.2.1 = some x6 ∧ q.2.2.length = q.2.1.2.2.length }) (fun q => [(9, SV.raw (Value.slice ao_h6 x4.length cap_h6)), (10, .a (.c (.p 112 0))), (11, .a (.c (.nv 114))), (12, .a (.c (.v (.int .i64 q.1.2.1.2.1))))]) (fun q => [(0, rd S W0), (113, lrow 113 140 (eTPart q.1.2.2) 4 q.1.2.1.1), (112, blk 112 [.nv 113] 81), (114, lrow 114 26 vE 1 ([(partOf 0 (((gmin ((w64 a1).tmod (w64 ((l0.length : Int) + 1))) ((w64 a2).tmod (w64 ((l0.length : Int) + 1))))).toNat) 4 (Value.slice ao_h6 x4.length cap_h6)), (partOf (((gmin ((w64 a1).tmod (w64 ((l0.length : Int) + 1))) ((w64 a2).tmod (w64 ((l0.length : Int) + 1))))).toNat) (((gmax ((w64 a1).tmod (w64 ((l0.length : Int) + 1))) ((w64 a2).tmod (w64 ((l0.length : Int) + 1))))).toNat) 4 (Value.slice ao_h6 x4.length cap_h6)), (partOf (((gmax ((w64 a1).tmod (w64 ((l0.length : Int) + 1))) ((w64 a2).tmod (w64 ((l0.length : Int) + 1))))).toNat) x4.length 4 (Value.slice ao_h6 x4.length cap_h6))] : List Value)), (19, hp 19 tq q.1.2.2 q.1.2.1.2.2), (18, rd S8 W8)]) (fun q => q.1.1) ⟨(k, (x5.parts, 0, ([] : List TQueue)), A), H1, hL_9⟩ ?_ ?_
    · exact At.into [(112, 102), (113, 101), (114, 103)] [_, _, _, _, _, _] R ⟨R, R, R, R, trivial⟩ ⟨R, (fun _ => R), R, (lrow_ren R), R, (blk_ren R R), R, (lrow_ren R), R, (fun _ => R), R, (fun _ => R), trivial⟩ R
    ·
     rintro ⟨⟨n0, ⟨v1, v2, v3⟩, A⟩, H1, hL_9⟩
     show G _ _ [(9, SV.raw (Value.slice ao_h6 x4.length cap_h6)), (10, .a (.c (.p 112 0))), (11, .a (.c (.nv 114))), (12, .a (.c (.v (.int .i64 v2))))] [(0, some (rd S W0)), (113, some (lrow 113 140 (eTPart A) 4 v1)), (112, some (blk 112 [.nv 113] 81)), (114, some (lrow 114 26 vE 1 ([(partOf 0 (((gmin ((w64 a1).tmod (w64 ((l0.length : Int) + 1))) ((w64 a2).tmod (w64 ((l0.length : Int) + 1))))).toNat) 4 (Value.slice ao_h6 x4.length cap_h6)), (partOf (((gmin ((w64 a1).tmod (w64 ((l0.length : Int) + 1))) ((w64 a2).tmod (w64 ((l0.length : Int) + 1))))).toNat) (((gmax ((w64 a1).tmod (w64 ((l0.length : Int) + 1))) ((w64 a2).tmod (w64 ((l0.length : Int) + 1))))).toNat) 4 (Value.slice ao_h6 x4.length cap_h6)), (partOf (((gmax ((w64 a1).tmod (w64 ((l0.length : Int) + 1))) ((w64 a2).tmod (w64 ((l0.length : Int) + 1))))).toNat) x4.length 4 (Value.slice ao_h6 x4.length cap_h6))] : List Value))), (19, some (hp 19 tq A v3)), (18, some (rd S8 W8))] _ _
     cases n0 with
     | zero => exact absurd H1 (by simp [Lw13_FuseParts.l0])
     | succ n0 =>
      have HL0 := H1
      rw [Lw13_FuseParts.l0] at H1
      refine G.seq <| G.seq <| G.rg <| K.mv R R <| K.bin (V := .bool (decide (v2 < 3))) g0 R R (fun _ => R) R <| K.nil <| At.next <| G.cond R (fun h13 => ?_) (fun h13 => ?_)
      ·
       replace H1 := bif_t H1 h13
       refine G.skip <| At.ns <| G.block <| G.seq ?_
       obtain ⟨x7, hx7, H1⟩ := bnd H1
       obtain ⟨ao_h14, cap_h14, b_h14, o_h14, hw_h14, hI_h14⟩ := (LLI.cons ⟨_, _, (hf_h6.part (Nat.zero_le _) (tn_len h7.2))⟩ (LLI.cons ⟨_, _, (hf_h6.part (tn_le h9.2.1) (tn_len h9.2.2))⟩ (LLI.cons ⟨_, _, (hf_h6.part (tn_len h11.2) (Nat.le_refl _))⟩ LLI.nil))).at hx7
       obtain ⟨x8, hx8, H1⟩ := bnd H1
       refine G.rg <| K.mv R R <| K.mv R R <| K.idxL (lrowV 114 26 vE 1 ([(partOf 0 (((gmin ((w64 a1).tmod (w64 ((l0.length : Int) + 1))) ((w64 a2).tmod (w64 ((l0.length : Int) + 1))))).toNat) 4 (Value.slice ao_h6 x4.length cap_h6)), (partOf (((gmin ((w64 a1).tmod (w64 ((l0.length : Int) + 1))) ((w64 a2).tmod (w64 ((l0.length : Int) + 1))))).toNat) (((gmax ((w64 a1).tmod (w64 ((l0.length : Int) + 1))) ((w64 a2).tmod (w64 ((l0.length : Int) + 1))))).toNat) 4 (Value.slice ao_h6 x4.length cap_h6)), (partOf (((gmax ((w64 a1).tmod (w64 ((l0.length : Int) + 1))) ((w64 a2).tmod (w64 ((l0.length : Int) + 1))))).toNat) x4.length 4 (Value.slice ao_h6 x4.length cap_h6))] : List Value)) ((v2).toNat) (lrowV_is vE_len (by decide)) hw_h14 (atL_nn hx7) g0 R R R Tryz.underlying87 el87.size_run R <| K.load1L Y (lrowV 114 26 vE 1 ([(partOf 0 (((gmin ((w64 a1).tmod (w64 ((l0.length : Int) + 1))) ((w64 a2).tmod (w64 ((l0.length : Int) + 1))))).toNat) 4 (Value.slice ao_h6 x4.length cap_h6)), (partOf (((gmin ((w64 a1).tmod (w64 ((l0.length : Int) + 1))) ((w64 a2).tmod (w64 ((l0.length : Int) + 1))))).toNat) (((gmax ((w64 a1).tmod (w64 ((l0.length : Int) + 1))) ((w64 a2).tmod (w64 ((l0.length : Int) + 1))))).toNat) 4 (Value.slice ao_h6 x4.length cap_h6)), (partOf (((gmax ((w64 a1).tmod (w64 ((l0.length : Int) + 1))) ((w64 a2).tmod (w64 ((l0.length : Int) + 1))))).toNat) x4.length 4 (Value.slice ao_h6 x4.length cap_h6))] : List Value)) ((v2).toNat) 0 (lrowV_is vE_len (by decide)) hw_h14 g0 R R t26 R R <| K.cV (cf 44 R) [18] (fun β w S2 h => Lw13_Queue_con ((hI_h14.isC 18).larg ⟨_, List.mem_cons_self⟩ h) hx8 115 116 117 118 119 120 121 122 123 R) g0 (fun _ => R) R R R <| K.as R R <| K.nil ?_
       obtain ⟨h16, H1⟩ := grd H1
       refine At.ent ((19, hp 19 tq A v3) :: tkQueue 115 116 117 118 119 120 121 122 123 x8 []) _ [] (tq_add 19 115 116 117 118 119 120 121 122 123 x8 hL_9) ⟨R, R, R, R, R, R, R, R, R, R, trivial⟩ R R R R <| At.fix (j0 := 1) (t := 13) 19 R R (by decide) (fun a_ => ?_)
       rw [parts_grow (k := 113) (l := v1) a_ hL_9 h16]
       rw [hA_new a_ hL_9]
       have hL_9 := len_grow hL_9 a_ x8
       obtain ⟨A, hA_⟩ : ∃ B, B = A ++ [a_] := ⟨_, rfl⟩
       rw [← hA_] at hL_9 ⊢
       refine At.ns <| G.seq <| G.rg <| K.mv R R <| K.bin (V := .bool false) g0 R R (pn_eql_some Tryz.underlying24 _) R <| K.nil <| At.next <| G.cond R (fun h17 => ?_) (fun h17 => ?_)
       · cases h17
       ·
        refine G.skip <| At.next ?_
        obtain ⟨x9, hx9, H1⟩ := bnd H1
        exact G.rg <| K.loadS Y _ g0 R R t81 R R R <| K.mv R R <| K.cV (cf 47 R) [113] (fun β w S2 h => fuse_Views_Then_con (a0 := (TViews.mk v1)) hL_9 (la 0 R (eTPart_len A) R h) hx9 19 124 R) g0 (fun _ => R) R R R <| K.store Y _ g0 R R R t81 R R R R R <| K.nil <| At.block_normal <| At.next <| G.rg <| K.mv R R <| K.bin (V := .int .i64 (w64 (v2 + 1))) g0 R R (fun _ => R) R <| K.as R R <| K.nil <| At.ag ⟨(n0, (x9.parts, (w64 (v2 + 1)), (v3 ++ [x8])), A), H1, hL_9⟩ [(113, 124)] [_, _, _, _, _, _] (Nat.lt_succ_self _) R ⟨R, R, R, R, trivial⟩ ⟨R, (fun _ => R), R, (lrow_ren R), R, (blk_ren R R), R, (lrow_ren R), R, (fun _ => R), R, (fun _ => R), trivial⟩ R
      ·
       replace H1 := bif_f H1 h13
       exact G.exit <| At.over_exit <| At.over_exit <| At.block_hit <| At.jd ⟨((v1, v3), A), oi H1, hL_9⟩ [(104, 112), (105, 113)] [_, _, _, _, _] R ⟨R, R, trivial⟩ ⟨R, (fun _ => R), R, (lrow_ren R), R, (blk_ren R R), R, (fun _ => R), R, (fun _ => R), trivial⟩ R
   ·
    rintro ⟨⟨w6, A⟩, rfl, hL_9⟩
    replace H0 := sum_r H0
    show G _ _ [(9, SV.raw (Value.slice ao_h6 x4.length cap_h6)), (10, .a (.c (.p 104 0)))] [(0, some (rd S W0)), (105, some (lrow 105 140 (eTPart A) 4 w6.1)), (104, some (blk 104 [.nv 105] 81)), (19, some (hp 19 tq A w6.2)), (18, some (rd S8 W8))] _ _
    refine G.seq ?_
    obtain ⟨x10, hx10, H0⟩ := bnd H0
    obtain ⟨x11, hx11, H0⟩ := bnd H0
    rcases Bool.eq_false_or_eq_true x11 with h18 | h18
    ·
     replace H0 := bif_t H0 h18
     obtain ⟨x12, hx12, H0⟩ := bnd H0
     obtain ⟨x13, hx13, H0⟩ := bnd H0
     obtain ⟨h19, H0⟩ := grd H0
     obtain ⟨x14, hx14, H0⟩ := bnd H0
     obtain ⟨x15, hx15, H0⟩ := bnd H0
     obtain ⟨x16, hx16, H0⟩ := bnd H0
     refine G.rd mixed <| K.loadS Y _ g0 R R t81 R R R <| K.mv R R <| K.buildVs Y 125 ([(Value.slice ao_h6 x4.length cap_h6)] : List Value) [(0, _)] [((.tmp 69), _)] g0 (AllE.spec ⟨R, trivial⟩) R R Tryz.underlying87 t26 R R R R R R R <| K.cV (cf 48 R) [125, 18] (fun β w S2 h => R13_Left_con ⟨_, la 0 R vE_len R h, rd_lli 1 R h (LLI.cons ⟨_, _, hf_h6⟩ LLI.nil)⟩ hx10 126 R) g0 (fun _ => R) R R R <| K.cV (cf 51 R) [105, 126] (fun β w S2 h => Lw13_Same_con (a0 := (TViews.mk w6.1)) hL_9 (la 0 R (eTPart_len A) R h) (la 1 R eTItem_len R h) hx11 19) g0 (fun _ => R) R R R <| K.mv R R <| K.c0 (cf 43 R) (fuse_None_con (A := A) (k := k) hx12 127 R) (g1 R R h18) R R R R <| K.move (.inl R) (g1 R R h18) R R <| K.cV (cf 44 R) [18] (fun β w S2 h => tq_late 19 hL_9 (Lw13_Queue_con ((hf_h6.isC 18).larg ⟨_, List.mem_cons_self⟩ h) hx13 128 129 130 131 132 133 134 135 136 R)) (g1 R R h18) (fun _ => R) R R R <| K.cA (ti := [(19, hpN 19 tq A w6.2 qks (gN [128, 129, 130, 131, 132, 133, 134, 135, 136]) x13)]) (to := [(19, hpN 19 tq A w6.2 qks (gN [128, 129, 130, 131, 132, 133, 134, 135, 136]) x13), (137, lrowA 137 140 qks (gN [128, 129, 130, 131, 132, 133, 134, 135, 136]) (fun a => eTPart (A ++ [a])) 4 x14.parts)]) (cf 47 R) [127] (fun β w S2 h => SCon.late qks (gN [128, 129, 130, 131, 132, 133, 134, 135, 136]) (fuse_Views_Then_con (A := A ++ [adr qks (gN [128, 129, 130, 131, 132, 133, 134, 135, 136]) β]) (k := k) (a0 := x12) (len_grow hL_9 _ x13) (larg_grow _ hL_9 h19 (la 0 R (eTPart_len A) R h)) hx14 19 137 R) (mc R (mc (hq_late hL_9 β) R)) R (fun β' e_ => by simp only [List.map_cons, List.map_nil, hpN_r, lrowA_r, e_]) (by decide)) (g1 R R h18) R R R <| K.move (.inl R) (g1 R R h18) R R <| K.buildVs Y 138 ([(Value.slice ao_h6 x4.length cap_h6)] : List Value) [(0, _)] [((.tmp 78), _)] (g1 R R h18) (AllE.spec ⟨R, trivial⟩) R R Tryz.underlying87 t26 R R R R R R R <| K.cV (cf 48 R) [138, 18] (fun β w S2 h => R13_Left_con ⟨_, la 0 R vE_len R h, rd_lli 1 R h (LLI.cons ⟨_, _, hf_h6⟩ LLI.nil)⟩ hx15 139 R) (g1 R R h18) (fun _ => R) R R R <| K.cA (ti := [(19, hpN 19 tq A w6.2 qks (gN [128, 129, 130, 131, 132, 133, 134, 135, 136]) x13)]) (to := [(19, hpN 19 tq A w6.2 qks (gN [128, 129, 130, 131, 132, 133, 134, 135, 136]) x13)]) (cf 51 R) [137, 139] (fun β w S2 h => SCon.late qks (gN [128, 129, 130, 131, 132, 133, 134, 135, 136]) (Lw13_Same_con (A := A ++ [adr qks (gN [128, 129, 130, 131, 132, 133, 134, 135, 136]) β]) (k := k) (a0 := x14) (len_grow hL_9 _ x13) (laA (ks := qks) (g := gN [128, 129, 130, 131, 132, 133, 134, 135, 136]) (e := fun a => eTPart (A ++ [a])) 0 R (eTPart_len _) R h) (la 1 R eTItem_len R h) hx16 19) (mc R (mc R R)) R (fun β' e_ => by simp only [List.map_cons, List.map_nil, hpN_r, lrowA_r, e_]) (by decide)) (g1 R R h18) R R R <| K.pickT g0 R (h18) R R <| K.as R R <| K.nil <| And.intro (by kernel_rfl) ?_
     obtain ⟨h20, H0⟩ := grd H0
     refine At.fixA (e := fun a => eTPart (A ++ [a])) (j0 := 1) (t := 76) 19 137 R R R (by decide) (fun a_ => ?_)
     rw [parts_grow (k := 105) (l := w6.1) a_ hL_9 h20]
     rw [parts_grow (k := 127) (l := x12.parts) a_ hL_9 h19]
     rw [hA_new a_ hL_9]
     have hL_9 := len_grow hL_9 a_ x13
     obtain ⟨A, hA_⟩ : ∃ B, B = A ++ [a_] := ⟨_, rfl⟩
     rw [← hA_] at hL_9 ⊢
     exact At.next <| G.ret <| At.dr Y [6] R R (by cases H0; rfl) (by cases H0; rfl) R R R
    ·
     replace H0 := bif_f H0 h18
     exact G.rd mixed <| K.loadS Y _ g0 R R t81 R R R <| K.mv R R <| K.buildVs Y 125 ([(Value.slice ao_h6 x4.length cap_h6)] : List Value) [(0, _)] [((.tmp 69), _)] g0 (AllE.spec ⟨R, trivial⟩) R R Tryz.underlying87 t26 R R R R R R R <| K.cV (cf 48 R) [125, 18] (fun β w S2 h => R13_Left_con ⟨_, la 0 R vE_len R h, rd_lli 1 R h (LLI.cons ⟨_, _, hf_h6⟩ LLI.nil)⟩ hx10 126 R) g0 (fun _ => R) R R R <| K.cV (cf 51 R) [105, 126] (fun β w S2 h => Lw13_Same_con (a0 := (TViews.mk w6.1)) hL_9 (la 0 R (eTPart_len A) R h) (la 1 R eTItem_len R h) hx11 19) g0 (fun _ => R) R R R <| K.mv R R <| K.sk R R h18 R <| K.sk R R h18 R <| K.sk R R h18 R <| K.sk R R h18 R <| K.sk R R h18 R <| K.sk R R h18 R <| K.sk R R h18 R <| K.sk R R h18 R <| K.pickF g0 R (h18) R R <| K.as R R <| K.nil <| And.intro (by kernel_rfl) <| At.next <| G.ret <| At.dr Y [6] R R (by cases H0; rfl) (by cases H0; rfl) R R R
end Go.Proofs.YtpeoalmhccmdiaaGreat
namespace Go.Proofs.YtpeoalmhccmdiaaGreat.PQ
structure Cert (n : Nat) (G S : Nat → Prop) (lt : Nat → Nat → Prop) (H : Nat → Int) : Prop where
  low : ∀ p, p ≤ n → 0 ≤ H p
  fin : H n = 0
  two : ∀ i j, i < n → j < n → G i → S j → lt j i → ∃ b, i < b ∧ b ≤ j ∧ H b = 0
  free : 0 < H 0 → ∀ j, j < n → S j → ∃ b, b ≤ j ∧ H b = 0
structure More (n t : Nat) (G S : Nat → Prop) (lt : Nat → Nat → Prop) (H : Nat → Int) : Prop where
  le : t ≤ n
  low : ∀ p, p ≤ n → (if p < t then 0 else 1) ≤ H p
  fin : H n = 1
  two : ∀ i j, i < n → j < n → i + 1 ≠ t → G i → S j → lt j i → ∃ b, i < b ∧ b ≤ j ∧ H b = if b < t then 0 else 1
  free : 0 < H 0 → ∀ j, j < n → S j → ∃ b, b ≤ j ∧ H b = if b < t then 0 else 1
theorem More.none {n t : Nat} {G S : Nat → Prop} {lt : Nat → Nat → Prop} {H : Nat → Int} (h : More n t G S lt H) (hb : ∀ b, b < t → H b ≠ 0) : Cert n G S lt (fun p => H p - 1) := by
  have pos : ∀ p, p ≤ n → 1 ≤ H p := fun p hp => by
    have := h.low p hp
    by_cases e : p < t
    · rw [if_pos e] at this; have := hb p e; omega
    · rw [if_neg e] at this; exact this
  have lv : ∀ b, (H b = if b < t then 0 else 1) → H b - 1 = 0 ∧ t ≤ b := fun b hb' => by
    by_cases e : b < t
    · rw [if_pos e] at hb'; exact absurd hb' (hb b e)
    · rw [if_neg e] at hb'; omega
  refine ⟨fun p hp => by have := pos p hp; show 0 ≤ H p - 1; omega, by show H n - 1 = 0; rw [h.fin]; rfl, fun i j hi hj hg hs hl => ?_, fun _ j hj hs => ?_⟩
  · by_cases e : i + 1 = t
    · obtain ⟨b, h1, h2⟩ := h.free (by have := pos 0 (Nat.zero_le _); omega) j hj hs
      have := lv b h2
      exact ⟨b, by omega, h1, this.1⟩
    · obtain ⟨b, h1, h2, h3⟩ := h.two i j hi hj e hg hs hl
      exact ⟨b, h1, h2, (lv b h3).1⟩
  · obtain ⟨b, h1, h2⟩ := h.free (by have := pos 0 (Nat.zero_le _); omega) j hj hs
    exact ⟨b, h1, (lv b h2).1⟩
theorem More.some {n t : Nat} {G S : Nat → Prop} {lt : Nat → Nat → Prop} {H : Nat → Int} (tr : ∀ a b c, lt a b → lt b c → lt a c) (ir : ∀ a, ¬ lt a a) (h : More n t G S lt H) {b z : Nat} (hb : b < t) (hb0 : H b = 0) (hb1 : ∀ q, b < q → q < t → H q ≠ 0)
    (hz : b ≤ z) (hzn : z < n) (hzG : G z) (hzm : ∀ i, i < n → b ≤ i → G i → i = z ∨ lt i z) (hGS : ∀ i, G i → ¬ S i) :
    Cert n (fun i => G i ∧ i ≠ z) (fun i => S i ∨ i = z) lt (fun p => H p - if z < p then 1 else 0) := by
  have last : ∀ q, q < t → H q = 0 → q ≤ b := fun q h1 h2 => Classical.byContradiction fun hn => hb1 q (by omega) h1 h2
  refine ⟨fun p hp => ?_, ?_, fun i j hi hj hg hs hl => ?_, fun h0 j hj hs => ?_⟩
  · have h1 := h.low p hp
    show 0 ≤ H p - _
    by_cases e : z < p
    · rw [if_pos e]
      by_cases e' : p < t
      · have := hb1 p (by omega) e'; rw [if_pos e'] at h1; omega
      · rw [if_neg e'] at h1; omega
    · rw [if_neg e]; split at h1 <;> omega
  · show H n - _ = 0
    rw [if_pos hzn, h.fin]; rfl
  · show ∃ c, i < c ∧ c ≤ j ∧ H c - (if z < c then 1 else 0) = 0
    have hbr : ∀ c, z < c → (H c = if c < t then 0 else 1) → H c - (if z < c then 1 else 0) = 0 ∧ t ≤ c := fun c h1 h2 => by
      by_cases e : c < t
      · rw [if_pos e] at h2; have := last c e h2; omega
      · rw [if_neg e] at h2; rw [if_pos h1]; omega
    have b0 : H b - (if z < b then 1 else 0) = 0 := by rw [if_neg (by omega)]; omega
    have zj : z + 1 ≠ t → ∀ j, j < n → S j → lt j z → ∃ c, z < c ∧ c ≤ j ∧ t ≤ c ∧ H c - (if z < c then 1 else 0) = 0 := fun e j hj hs hl => by
      obtain ⟨c, h1, h2, h3⟩ := h.two z j hzn hj e hzG hs hl
      have := hbr c h1 h3; exact ⟨c, h1, h2, this.2, this.1⟩
    rcases hs with hs | rfl
    · by_cases e : i + 1 = t
      · have hiz : lt i z := (hzm i hi (by omega) hg.1).resolve_left hg.2
        obtain ⟨c, h1, h2, h3, h4⟩ := zj (fun e' => hg.2 (by omega)) j hj hs (tr _ _ _ hl hiz)
        exact ⟨c, by omega, h2, h4⟩
      · obtain ⟨c, h1, h2, h3⟩ := h.two i j hi hj e hg.1 hs hl
        by_cases e1 : z < c
        · exact ⟨c, h1, h2, (hbr c e1 h3).1⟩
        · by_cases e2 : c < t
          · rw [if_pos e2] at h3; exact ⟨c, h1, h2, by rw [if_neg e1]; omega⟩
          · by_cases e3 : b ≤ i
            · have hiz : lt i z := (hzm i hi e3 hg.1).resolve_left hg.2
              obtain ⟨c', h1', h2', h3', h4'⟩ := zj (by omega) j hj hs (tr _ _ _ hl hiz)
              exact ⟨c', by omega, h2', h4'⟩
            · exact ⟨b, by omega, by omega, b0⟩
    · by_cases e : b ≤ i
      · exact absurd (tr _ _ _ hl ((hzm i hi e hg.1).resolve_left hg.2)) (ir _)
      · exact ⟨b, by omega, hz, b0⟩
  · show ∃ c, c ≤ j ∧ H c - (if z < c then 1 else 0) = 0
    have b0 : H b - (if z < b then 1 else 0) = 0 := by rw [if_neg (by omega)]; omega
    have h0' : 0 < H 0 := by have h0 : 0 < H 0 - (if z < 0 then 1 else 0) := h0; rw [if_neg (by omega)] at h0; omega
    rcases hs with hs | rfl
    · obtain ⟨c, h1, h2⟩ := h.free h0' j hj hs
      by_cases e1 : z < c
      · by_cases e : c < t
        · rw [if_pos e] at h2; have := last c e h2; omega
        · rw [if_neg e] at h2; exact ⟨c, h1, by rw [if_pos e1]; omega⟩
      · by_cases e2 : c < t
        · rw [if_pos e2] at h2; exact ⟨c, h1, by rw [if_neg e1]; omega⟩
        · exact ⟨b, by omega, b0⟩
    · exact ⟨b, hz, b0⟩
structure Less (n t : Nat) (G S : Nat → Prop) (lt : Nat → Nat → Prop) (H : Nat → Int) : Prop where
  le : t ≤ n
  low : ∀ p, p ≤ n → (if p < t then 0 else -1) ≤ H p
  fin : H n = -1
  two : ∀ i j, i < n → j < n → G i → S j → lt j i → ∃ b, i < b ∧ b ≤ j ∧ H b = if b < t then 0 else -1
  free : 0 < H 0 → ∀ j, j < n → S j → ∃ b, b ≤ j ∧ H b = if b < t then 0 else -1
theorem Less.none {n t : Nat} {G S : Nat → Prop} {lt : Nat → Nat → Prop} {H : Nat → Int} (h : Less n t G S lt H) {b : Nat} (hb : t ≤ b) (hbn : b ≤ n) (hb0 : H b = -1) (hb1 : ∀ q, t ≤ q → q < b → H q ≠ -1)
    (hS : ∀ j, j < b → ¬ S j) : Cert n G S lt (fun p => H p + 1) := by
  have lv : ∀ c j, S j → c ≤ j → (H c = if c < t then 0 else -1) → ∃ c', c ≤ c' ∧ c' ≤ j ∧ H c' + 1 = 0 := fun c j hs h1 h2 => by
    by_cases e : c < t
    · have : b ≤ j := Classical.byContradiction fun hn => hS j (by omega) hs
      exact ⟨b, by omega, this, by omega⟩
    · rw [if_neg e] at h2; exact ⟨c, Nat.le_refl _, h1, by omega⟩
  refine ⟨fun p hp => ?_, by show H n + 1 = 0; rw [h.fin]; rfl, fun i j hi hj hg hs hl => ?_, fun _ j hj hs => ?_⟩
  · have := h.low p hp; show 0 ≤ H p + 1; split at this <;> omega
  · obtain ⟨c, h1, h2, h3⟩ := h.two i j hi hj hg hs hl
    obtain ⟨c', h4, h5, h6⟩ := lv c j hs h2 h3
    exact ⟨c', by omega, h5, h6⟩
  · have : b ≤ j := Classical.byContradiction fun hn => hS j (by omega) hs
    exact ⟨b, this, by show H b + 1 = 0; omega⟩
theorem Less.some {n t : Nat} {G S : Nat → Prop} {lt : Nat → Nat → Prop} {H : Nat → Int} (tr : ∀ a b c, lt a b → lt b c → lt a c) (ir : ∀ a, ¬ lt a a) (h : Less n t G S lt H) {b z : Nat} (hb : t ≤ b) (hbn : b ≤ n) (hb0 : H b = -1) (hb1 : ∀ q, t ≤ q → q < b → H q ≠ -1)
    (hzb : z < b) (hzS : S z) (hzm : ∀ j, j < b → S j → j = z ∨ lt z j) :
    Cert n (fun i => G i ∨ i = z) (fun i => S i ∧ i ≠ z) lt (fun p => H p + if z < p then 1 else 0) := by
  have low' : ∀ c, t ≤ c → H c = -1 → H c + (if z < c then 1 else 0) = 0 := fun c h1 h2 => by
    have : b ≤ c := Classical.byContradiction fun hn => hb1 c h1 (by omega) h2
    rw [if_pos (by omega)]; omega
  have b0 := low' b hb hb0
  refine ⟨fun p hp => ?_, ?_, fun i j hi hj hg hs hl => ?_, fun h0 j hj hs => ?_⟩
  · have h1 := h.low p hp
    show 0 ≤ H p + _
    by_cases e : p < t
    · rw [if_pos e] at h1; split <;> omega
    · rw [if_neg e] at h1
      by_cases e' : z < p
      · rw [if_pos e']; omega
      · have := hb1 p (by omega) (by omega); rw [if_neg e']; omega
  · show H n + _ = 0
    rw [if_pos (by omega), h.fin]; rfl
  · show ∃ c, i < c ∧ c ≤ j ∧ H c + (if z < c then 1 else 0) = 0
    by_cases ei : i = z
    · subst ei
      have : b ≤ j := Classical.byContradiction fun hn => by
        rcases hzm j (by omega) hs.1 with e | e
        · exact hs.2 e
        · exact ir _ (tr _ _ _ hl e)
      exact ⟨b, hzb, this, b0⟩
    · have hg := hg.resolve_right ei
      obtain ⟨c, h1, h2, h3⟩ := h.two i j hi hj hg hs.1 hl
      by_cases e : c < t
      · rw [if_pos e] at h3
        by_cases e1 : z < c
        · by_cases e2 : b ≤ j
          · exact ⟨b, by omega, e2, b0⟩
          · have hzj := (hzm j (by omega) hs.1).resolve_left hs.2
            obtain ⟨c2, h4, h5, h6⟩ := h.two i z hi (by omega) hg hzS (tr _ _ _ hzj hl)
            rw [if_pos (by omega)] at h6
            exact ⟨c2, h4, by omega, by rw [if_neg (by omega)]; omega⟩
        · exact ⟨c, h1, h2, by rw [if_neg e1]; omega⟩
      · rw [if_neg e] at h3
        exact ⟨c, h1, h2, low' c (by omega) h3⟩
  · show ∃ c, c ≤ j ∧ H c + (if z < c then 1 else 0) = 0
    have h0' : 0 < H 0 := by have h0 : 0 < H 0 + (if z < 0 then 1 else 0) := h0; rw [if_neg (by omega)] at h0; omega
    obtain ⟨c, h2, h3⟩ := h.free h0' j hj hs.1
    by_cases e : c < t
    · rw [if_pos e] at h3
      by_cases e1 : z < c
      · by_cases e2 : b ≤ j
        · exact ⟨b, e2, b0⟩
        · obtain ⟨c2, h5, h6⟩ := h.free h0' z (by omega) hzS
          rw [if_pos (by omega)] at h6
          exact ⟨c2, by omega, by rw [if_neg (by omega)]; omega⟩
      · exact ⟨c, h2, by rw [if_neg e1]; omega⟩
    · rw [if_neg e] at h3
      exact ⟨c, h2, low' c (by omega) h3⟩
def sh (a i : Nat) : Nat := if i < a then i else i + 1
theorem sh_lt {a i : Nat} (h : i < a) : sh a i = i := if_pos h
theorem sh_ge {a i : Nat} (h : a ≤ i) : sh a i = i + 1 := if_neg (by omega)
theorem sh_cases (a i : Nat) : (i < a ∧ sh a i = i) ∨ (a ≤ i ∧ sh a i = i + 1) := by
  by_cases h : i < a
  · exact .inl ⟨h, sh_lt h⟩
  · exact .inr ⟨by omega, sh_ge (by omega)⟩
theorem sh_ex {a i : Nat} (h : i ≠ a) : ∃ q, i = sh a q := by
  by_cases e : i < a
  · exact ⟨i, (sh_lt e).symm⟩
  · exact ⟨i - 1, by rw [sh_ge (by omega)]; omega⟩
structure Ins (n a : Nat) (w : Int) (G1 S1 : Nat → Prop) (lt1 : Nat → Nat → Prop) (H1 : Nat → Int) (G2 S2 : Nat → Prop) (lt2 : Nat → Nat → Prop) (H2 : Nat → Int) : Prop where
  le : a ≤ n
  g : ∀ i, G2 (sh a i) ↔ G1 i
  s : ∀ i, S2 (sh a i) ↔ S1 i
  l : ∀ i j, lt2 (sh a i) (sh a j) ↔ lt1 i j
  lo : ∀ p, p ≤ a → H2 p = H1 p
  hi : ∀ p, a ≤ p → H2 (p + 1) = H1 p + w
section
variable {n a : Nat} {w : Int} {G1 S1 : Nat → Prop} {lt1 : Nat → Nat → Prop} {H1 : Nat → Int} {G2 S2 : Nat → Prop} {lt2 : Nat → Nat → Prop} {H2 : Nat → Int}
theorem Ins.up (h : Ins n a w G1 S1 lt1 H1 G2 S2 lt2 H2) {i j b : Nat} (h1 : i < b) (h2 : b ≤ j) (hb : H1 b = 0) : ∃ c, sh a i < c ∧ c ≤ sh a j ∧ H2 c = if c < a + 1 then 0 else w := by
  have hi := sh_cases a i
  have hj := sh_cases a j
  by_cases e : b ≤ a
  · exact ⟨b, by omega, by omega, by rw [if_pos (by omega), h.lo b e, hb]⟩
  · exact ⟨b + 1, by omega, by omega, by rw [if_neg (by omega), h.hi b (by omega), hb]; omega⟩
theorem Ins.up0 (h : Ins n a w G1 S1 lt1 H1 G2 S2 lt2 H2) {j b : Nat} (h2 : b ≤ j) (hb : H1 b = 0) : ∃ c, c ≤ sh a j ∧ H2 c = if c < a + 1 then 0 else w := by
  have hj := sh_cases a j
  by_cases e : b ≤ a
  · exact ⟨b, by omega, by rw [if_pos (by omega), h.lo b e, hb]⟩
  · exact ⟨b + 1, by omega, by rw [if_neg (by omega), h.hi b (by omega), hb]; omega⟩
theorem sh_bd {n a i : Nat} (ha : a ≤ n) : sh a i < n + 1 ↔ i < n := by
  have := sh_cases a i; omega
theorem Ins.more (h : Ins n a 1 G1 S1 lt1 H1 G2 S2 lt2 H2) (hS : ¬ S2 a) (c : Cert n G1 S1 lt1 H1) : More (n + 1) (a + 1) G2 S2 lt2 H2 := by
  have hle := h.le
  have h0 := h.lo 0 (Nat.zero_le _)
  refine ⟨by omega, fun p hp => ?_, ?_, fun i j hi hj hia hg hs hl => ?_, fun hf j hj hs => ?_⟩
  · by_cases e : p ≤ a
    · rw [if_pos (by omega), h.lo p e]; exact c.low p (by omega)
    · rw [if_neg (by omega)]
      have := h.hi (p - 1) (by omega); rw [show p - 1 + 1 = p by omega] at this
      have := c.low (p - 1) (by omega); omega
  · rw [h.hi n hle, c.fin]; rfl
  · obtain ⟨i', rfl⟩ := sh_ex (a := a) (i := i) (by omega)
    obtain ⟨j', rfl⟩ := sh_ex (a := a) (i := j) (by rintro rfl; exact hS hs)
    obtain ⟨b, h1, h2, h3⟩ := c.two i' j' ((sh_bd hle).1 hi) ((sh_bd hle).1 hj) ((h.g _).1 hg) ((h.s _).1 hs) ((h.l _ _).1 hl)
    exact h.up h1 h2 h3
  · obtain ⟨j', rfl⟩ := sh_ex (a := a) (i := j) (by rintro rfl; exact hS hs)
    obtain ⟨b, h1, h2⟩ := c.free (by omega) j' ((sh_bd hle).1 hj) ((h.s _).1 hs)
    exact h.up0 h1 h2
theorem Ins.less (h : Ins n a (-1) G1 S1 lt1 H1 G2 S2 lt2 H2) (hG : ¬ G2 a) (hS : ¬ S2 a) (c : Cert n G1 S1 lt1 H1) : Less (n + 1) (a + 1) G2 S2 lt2 H2 := by
  have hle := h.le
  have h0 := h.lo 0 (Nat.zero_le _)
  refine ⟨by omega, fun p hp => ?_, ?_, fun i j hi hj hg hs hl => ?_, fun hf j hj hs => ?_⟩
  · by_cases e : p ≤ a
    · rw [if_pos (by omega), h.lo p e]; exact c.low p (by omega)
    · rw [if_neg (by omega)]
      have := h.hi (p - 1) (by omega); rw [show p - 1 + 1 = p by omega] at this
      have := c.low (p - 1) (by omega); omega
  · rw [h.hi n hle, c.fin]; rfl
  · obtain ⟨i', rfl⟩ := sh_ex (a := a) (i := i) (by rintro rfl; exact hG hg)
    obtain ⟨j', rfl⟩ := sh_ex (a := a) (i := j) (by rintro rfl; exact hS hs)
    obtain ⟨b, h1, h2, h3⟩ := c.two i' j' ((sh_bd hle).1 hi) ((sh_bd hle).1 hj) ((h.g _).1 hg) ((h.s _).1 hs) ((h.l _ _).1 hl)
    exact h.up h1 h2 h3
  · obtain ⟨j', rfl⟩ := sh_ex (a := a) (i := j) (by rintro rfl; exact hS hs)
    obtain ⟨b, h1, h2⟩ := c.free (by omega) j' ((sh_bd hle).1 hj) ((h.s _).1 hs)
    exact h.up0 h1 h2
end
end Go.Proofs.YtpeoalmhccmdiaaGreat.PQ
namespace Go.Proofs.YtpeoalmhccmdiaaGreat
open Go Go.Proofs.YtpeoalmhccmdiaaGreat.Sx
def lowF : List Int → Int
  | [] => 0
  | [x] => x
  | x :: y :: l => min x (x + lowF (y :: l))
def tideF (ns : List Int) : TTide := ⟨ns.length, ns.sum, lowF ns⟩
theorem lowF_append : ∀ (a b : List Int), a ≠ [] → b ≠ [] → lowF (a ++ b) = min (lowF a) (a.sum + lowF b)
  | [x], b, _, hb => by
    cases b with
    | nil => exact absurd rfl hb
    | cons y l => simp [lowF]
  | x :: y :: l, b, _, hb => by
    have ih := lowF_append (y :: l) b (by simp) hb
    have e : lowF (x :: y :: l ++ b) = min x (x + lowF (y :: l ++ b)) := by simp [lowF]
    rw [e, ih]
    have e2 : lowF (x :: y :: l) = min x (x + lowF (y :: l)) := rfl
    have e3 : (x :: y :: l).sum = x + (y :: l).sum := by simp
    rw [e2, e3]
    omega
  | [], _, h, _ => absurd rfl h
def smallN (ns : List Int) : Prop := ∀ x ∈ ns, -1099511627776 ≤ x ∧ x ≤ 1099511627776
theorem smallN.append {a b : List Int} (ha : smallN a) (hb : smallN b) : smallN (a ++ b) := fun x hx => (List.mem_append.1 hx).elim (ha x) (hb x)
theorem smallN.left {a b : List Int} (h : smallN (a ++ b)) : smallN a := fun x hx => h x (List.mem_append_left _ hx)
theorem smallN.right {a b : List Int} (h : smallN (a ++ b)) : smallN b := fun x hx => h x (List.mem_append_right _ hx)
theorem smallN.take {a : List Int} (h : smallN a) (i : Nat) : smallN (a.take i) := fun x hx => h x (List.mem_of_mem_take hx)
theorem sum_bound : ∀ {ns : List Int}, smallN ns → -1099511627776 * (ns.length : Int) ≤ ns.sum ∧ ns.sum ≤ 1099511627776 * (ns.length : Int)
  | [], _ => by simp
  | x :: l, h => by
    have h1 := h x List.mem_cons_self
    have h2 := sum_bound (ns := l) (fun y hy => h y (List.mem_cons_of_mem _ hy))
    simp only [List.sum_cons, List.length_cons]
    omega
theorem low_bound : ∀ {ns : List Int}, smallN ns → -1099511627776 * (ns.length : Int) ≤ lowF ns ∧ lowF ns ≤ 1099511627776 * (ns.length : Int)
  | [], _ => by simp [lowF]
  | [x], h => by have := h x List.mem_cons_self; simp [lowF]; omega
  | x :: y :: l, h => by
    have h1 := h x List.mem_cons_self
    have h2 := low_bound (ns := y :: l) (fun z hz => h z (List.mem_cons_of_mem _ hz))
    have e : lowF (x :: y :: l) = min x (x + lowF (y :: l)) := rfl
    simp only [List.length_cons] at h2 ⊢
    rw [e]
    omega
theorem tidePlus_eq (k : Nat) {a b : List Int} (h : smallN (a ++ b)) (hl : (a ++ b).length < 1000000) : tide_Tide_Plus.f k (tideF a) (tideF b) = some (tideF (a ++ b)) := by
  have ha := sum_bound h.left
  have hb := sum_bound h.right
  have la := low_bound h.left
  have lb := low_bound h.right
  simp only [List.length_append] at hl
  unfold tide_Tide_Plus.f
  by_cases h1 : a = []
  · subst h1; simp [tideF]
  · have p1 : a.length ≠ 0 := fun e => h1 (List.eq_nil_of_length_eq_zero e)
    by_cases h2 : b = []
    · subst h2
      have : ((tideF a).n == 0) = false := by simp [tideF]; exact h1
      simp only [this, cond_false]; simp [tideF]
    · have p2 : b.length ≠ 0 := fun e => h2 (List.eq_nil_of_length_eq_zero e)
      have e1 : ((a.length : Int) == 0) = false := by simp; exact h1
      have e2 : ((b.length : Int) == 0) = false := by simp; exact h2
      simp only [tideF, e1, e2, cond_false]
      rw [w64_id (by omega) (by omega), w64_id (by omega) (by omega), w64_id (by omega) (by omega), lowF_append a b h1 h2, List.sum_append, List.length_append]
      have e : gmin (lowF a) (a.sum + lowF b) = min (lowF a) (a.sum + lowF b) := by unfold gmin; split <;> omega
      rw [e, Int.natCast_add]
theorem tideOf_loop (k : Nat) (l : List Int) (hs : smallN l) (hl : l.length < 1000000) : ∀ (d i n : Nat), i + d = l.length → d < n → tide_Of.l0 k l n (tideF (l.take i), (i : Int)) = some (tideF l)
  | d, i, 0, _, h => by omega
  | 0, i, n + 1, hi, _ => by
    simp only [tide_Of.l0]
    rw [dec_nlt (by omega), List.take_of_length_le (by omega)]; rfl
  | d + 1, i, n + 1, hi, hn => by
    obtain ⟨x, hx, hdr⟩ := drop_cons (l := l) (i := i) (by omega)
    have ht : l.take (i + 1) = l.take i ++ [x] := by rw [List.take_add_one, hx]; rfl
    have e1 : (⟨1, x, x⟩ : TTide) = tideF [x] := by simp [tideF, lowF]
    simp only [tide_Of.l0]
    rw [dec_lt (by omega)]
    simp only [cond_true, atL_nat hx, Option.bind_some, e1]
    rw [tidePlus_eq k (by rw [← ht]; exact hs.take _) (by rw [← ht]; simp; omega)]
    simp only [Option.bind_some, w64_succ (i := i) (by omega), ← ht]
    exact tideOf_loop k l hs hl d (i + 1) n (by omega) (by omega)
theorem tideOf_eq (k : Nat) {l : List Int} (hs : smallN l) (hl : l.length < 1000000) (hk : l.length < k) : tide_Of.f k l = some (tideF l) := by
  have := tideOf_loop k l hs hl l.length 0 k (by omega) hk
  have e : tide_Of.l0 k l k (zTTide, 0) = some (tideF l) := this
  unfold tide_Of.f; rw [e]; rfl
end Go.Proofs.YtpeoalmhccmdiaaGreat
namespace Go.Proofs.YtpeoalmhccmdiaaGreat
open Go Go.Proofs.YtpeoalmhccmdiaaGreat.Sx
def IsMax (xs : List TItem) (t : TTook) : Prop := (xs = [] ∧ t = zTTook) ∨ (t.found = true ∧ t.item ∈ xs ∧ ∀ y ∈ xs, ile y t.item)
def IsMin (xs : List TItem) (t : TTook) : Prop := (xs = [] ∧ t = zTTook) ∨ (t.found = true ∧ t.item ∈ xs ∧ ∀ y ∈ xs, ile t.item y)
theorem IsMax.nil : IsMax [] zTTook := .inl ⟨rfl, rfl⟩
theorem IsMin.nil : IsMin [] zTTook := .inl ⟨rfl, rfl⟩
theorem IsMax.one (x : TItem) : IsMax [x] ⟨true, x⟩ := .inr ⟨rfl, by simp, fun y hy => by simp at hy; subst hy; exact ile_refl _⟩
theorem IsMin.one (x : TItem) : IsMin [x] ⟨true, x⟩ := .inr ⟨rfl, by simp, fun y hy => by simp at hy; subst hy; exact ile_refl _⟩
theorem isgn_lt {a b : TItem} : isgn a b < 0 ↔ ilt a b := by
  unfold isgn
  by_cases h1 : ilt a b
  · simp [h1]
  · by_cases h2 : ilt b a <;> simp [h1, h2]
theorem isgn_gt {a b : TItem} : isgn a b > 0 ↔ ilt b a := by
  unfold isgn
  by_cases h1 : ilt a b
  · have : ¬ ilt b a := fun h => ilt_irrefl a (ilt_trans_le h1 (ilt_ile h))
    simp [h1, this]
  · by_cases h2 : ilt b a <;> simp [h1, h2]
theorem isgn_cases (a b : TItem) : isgn a b = -1 ∨ isgn a b = 0 ∨ isgn a b = 1 := by
  unfold isgn; split
  · exact .inl rfl
  · split
    · exact .inr (.inr rfl)
    · exact .inr (.inl rfl)
theorem betterMax (k : Nat) (hk : 3 ≤ k) {xs ys : List TItem} {a b : TTook} (ha : IsMax xs a) (hb : IsMax ys b) : ∃ c, wave_better.f k (-1) a b = some c ∧ IsMax (xs ++ ys) c := by
  unfold wave_better.f
  rcases ha with ⟨rfl, rfl⟩ | ⟨h1, h2, h3⟩
  · exact ⟨b, rfl, hb⟩
  · simp only [h1, Bool.not_true, cond_false]
    rcases hb with ⟨rfl, rfl⟩ | ⟨g1, g2, g3⟩
    · exact ⟨a, rfl, .inr ⟨h1, by simpa using h2, by simpa using h3⟩⟩
    · simp only [g1, cond_true, itemCompare_eq k hk, Option.bind_some]
      have e : w64 (-1 * isgn b.item a.item) = -1 * isgn b.item a.item := by rcases isgn_cases b.item a.item with h | h | h <;> rw [h] <;> rfl
      rw [e]
      by_cases hc : isgn b.item a.item > 0
      · have : decide (-1 * isgn b.item a.item < 0) = true := by simp; omega
        rw [this]
        have hlt := isgn_gt.1 hc
        refine ⟨b, rfl, .inr ⟨g1, List.mem_append_right _ g2, fun y hy => ?_⟩⟩
        rcases List.mem_append.1 hy with hy | hy
        · exact ile_trans (h3 y hy) (ilt_ile hlt)
        · exact g3 y hy
      · have : decide (-1 * isgn b.item a.item < 0) = false := by simp; omega
        rw [this]
        have hle : ile b.item a.item := not_ilt.1 (fun h => hc (isgn_gt.2 h))
        refine ⟨a, rfl, .inr ⟨h1, List.mem_append_left _ h2, fun y hy => ?_⟩⟩
        rcases List.mem_append.1 hy with hy | hy
        · exact h3 y hy
        · exact ile_trans (g3 y hy) hle
theorem betterMin (k : Nat) (hk : 3 ≤ k) {xs ys : List TItem} {a b : TTook} (ha : IsMin xs a) (hb : IsMin ys b) : ∃ c, wave_better.f k 1 a b = some c ∧ IsMin (xs ++ ys) c := by
  unfold wave_better.f
  rcases ha with ⟨rfl, rfl⟩ | ⟨h1, h2, h3⟩
  · exact ⟨b, rfl, hb⟩
  · simp only [h1, Bool.not_true, cond_false]
    rcases hb with ⟨rfl, rfl⟩ | ⟨g1, g2, g3⟩
    · exact ⟨a, rfl, .inr ⟨h1, by simpa using h2, by simpa using h3⟩⟩
    · simp only [g1, cond_true, itemCompare_eq k hk, Option.bind_some]
      have e : w64 (1 * isgn b.item a.item) = isgn b.item a.item := by rcases isgn_cases b.item a.item with h | h | h <;> rw [h] <;> rfl
      rw [e]
      by_cases hc : isgn b.item a.item < 0
      · have : decide (isgn b.item a.item < 0) = true := by simpa using hc
        rw [this]
        have hlt := isgn_lt.1 hc
        refine ⟨b, rfl, .inr ⟨g1, List.mem_append_right _ g2, fun y hy => ?_⟩⟩
        rcases List.mem_append.1 hy with hy | hy
        · exact ile_trans (ilt_ile hlt) (h3 y hy)
        · exact g3 y hy
      · have : decide (isgn b.item a.item < 0) = false := by simpa using hc
        rw [this]
        have hle : ile a.item b.item := not_ilt.1 (fun h => hc (isgn_lt.2 h))
        refine ⟨a, rfl, .inr ⟨h1, List.mem_append_left _ h2, fun y hy => ?_⟩⟩
        rcases List.mem_append.1 hy with hy | hy
        · exact h3 y hy
        · exact ile_trans hle (g3 y hy)
def mcnt (m : TMark) : Int := if m.op.insert then 1 else -1
def mwt (m : TMark) : Int := if m.op.insert then (if m.here then 0 else 1) else -1
def dels (l : List TMark) : List TMark := l.filter (fun m => !m.op.insert)
def frees (l : List TMark) : List TMark := l.filter (fun m => !m.op.insert && !m.took.found)
def tookI (l : List TMark) : List TItem := (l.filter (fun m => !m.op.insert && m.took.found)).map (·.took.item)
def goneI (l : List TMark) : List TItem := (l.filter (fun m => m.op.insert && !m.here)).map (·.op.item)
def hereI (l : List TMark) : List TItem := (l.filter (fun m => m.op.insert && m.here)).map (·.op.item)
structure IsSwell (s : TSwell) (l : List TMark) : Prop where
  count : s.count = tideF (l.map mcnt)
  weight : s.weight = tideF (l.map mwt)
  deletes : s.deletes = ((dels l).length : Int)
  free : s.free = ((frees l).length : Int)
  most : ∃ t, IsMax (tookI l) t ∧ s.most = t.item
  gone : IsMax (goneI l) s.gone
  least : IsMin (hereI l) s.least
theorem IsSwell.nil : IsSwell zTSwell [] := ⟨rfl, rfl, rfl, rfl, ⟨_, IsMax.nil, rfl⟩, IsMax.nil, IsMin.nil⟩
theorem small_cnt (l : List TMark) : smallN (l.map mcnt) := by
  intro x hx
  obtain ⟨m, _, rfl⟩ := List.mem_map.1 hx
  unfold mcnt; split <;> omega
theorem small_wt (l : List TMark) : smallN (l.map mwt) := by
  intro x hx
  obtain ⟨m, _, rfl⟩ := List.mem_map.1 hx
  unfold mwt
  split
  · split <;> omega
  · omega
theorem dels_len (l : List TMark) : (dels l).length = (frees l).length + (tookI l).length := by
  induction l with
  | nil => rfl
  | cons m l ih =>
    unfold dels frees tookI at *
    cases h1 : m.op.insert <;> cases h2 : m.took.found <;> simp [List.filter_cons, h1, h2] at ih ⊢ <;> omega
theorem taken_max (k : Nat) {s : TSwell} {l : List TMark} (h : IsSwell s l) : ∃ t, wave_Swell_taken.f k s = some t ∧ IsMax (tookI l) t := by
  obtain ⟨a, ha, ha'⟩ := h.most
  have hl := dels_len l
  unfold wave_Swell_taken.f
  rw [h.deletes, h.free]
  by_cases h0 : tookI l = []
  · have : (((dels l).length : Int) == ((frees l).length : Int)) = true := by rw [hl, h0]; simp
    rw [this]; exact ⟨_, rfl, .inl ⟨h0, rfl⟩⟩
  · have hp : (tookI l).length ≠ 0 := fun e => h0 (List.eq_nil_of_length_eq_zero e)
    have : (((dels l).length : Int) == ((frees l).length : Int)) = false := by simp; omega
    rw [this]
    refine ⟨_, rfl, ?_⟩
    rcases ha with ⟨h1, _⟩ | ⟨h1, h2, h3⟩
    · exact absurd h1 h0
    · rw [ha']; exact .inr ⟨rfl, h2, h3⟩
theorem swellPlus (k : Nat) (hk : 3 ≤ k) {s t : TSwell} {l r : List TMark} (h : IsSwell s l) (g : IsSwell t r) (hl : (l ++ r).length < 1000000) : ∃ c, wave_Swell_Plus.f k s t = some c ∧ IsSwell c (l ++ r) := by
  obtain ⟨a, a1, a2⟩ := taken_max k h
  obtain ⟨b, b1, b2⟩ := taken_max k g
  obtain ⟨x5, c1, c2⟩ := betterMax k hk a2 b2
  obtain ⟨x6, d1, d2⟩ := betterMax k hk h.gone g.gone
  obtain ⟨x7, e1, e2⟩ := betterMin k hk h.least g.least
  have q1 : (dels l).length ≤ l.length := List.length_filter_le _ _
  have q2 : (dels r).length ≤ r.length := List.length_filter_le _ _
  have q3 : (frees l).length ≤ l.length := List.length_filter_le _ _
  have q4 : (frees r).length ≤ r.length := List.length_filter_le _ _
  rw [List.length_append] at hl
  unfold wave_Swell_Plus.f
  rw [h.count, g.count, h.weight, g.weight, tidePlus_eq k (by rw [← List.map_append]; exact small_cnt _) (by simp; omega), tidePlus_eq k (by rw [← List.map_append]; exact small_wt _) (by simp; omega), a1, b1]
  simp only [Option.bind_some, c1, d1, e1]
  refine ⟨_, rfl, ?_⟩
  constructor
  · show tideF _ = _; rw [List.map_append]
  · show tideF _ = _; rw [List.map_append]
  · show w64 _ = _; rw [h.deletes, g.deletes, w64_id (by omega) (by omega)]; simp [dels]
  · show w64 _ = _; rw [h.free, g.free, w64_id (by omega) (by omega)]; simp [frees]
  · refine ⟨x5, ?_, rfl⟩; simpa [tookI] using c2
  · simpa [goneI] using d2
  · simpa [hereI] using e2
theorem smallN1 {x : Int} (h : -1099511627776 ≤ x ∧ x ≤ 1099511627776) : smallN [x] := fun y hy => by simp at hy; subst hy; exact h
theorem markSum (k : Nat) (hk : 3 ≤ k) (m : TMark) : ∃ s, wave_Mark_Sum.f k m = some s ∧ IsSwell s [m] := by
  have t1 : tide_Of.f k [1] = some (tideF [1]) := tideOf_eq k (smallN1 (by omega)) (by simp) (by simp; omega)
  have t0 : tide_Of.f k [0] = some (tideF [0]) := tideOf_eq k (smallN1 (by omega)) (by simp) (by simp; omega)
  have tm : tide_Of.f k [-1] = some (tideF [-1]) := tideOf_eq k (smallN1 (by omega)) (by simp) (by simp; omega)
  unfold wave_Mark_Sum.f
  cases h1 : m.op.insert
  · cases h2 : m.took.found
    · simp only [cond_false, Option.bind_some, Sum.elim_inr, tm]
      exact ⟨_, rfl, by simp [mcnt, h1], by simp [mwt, h1], by simp [dels, h1], by simp [frees, h1, h2], ⟨_, by simp [tookI, h1, h2]; exact IsMax.nil, rfl⟩, by simp [goneI, h1]; exact IsMax.nil, by simp [hereI, h1]; exact IsMin.nil⟩
    · simp only [cond_false, cond_true, Option.bind_some, Sum.elim_inr, tm]
      exact ⟨_, rfl, by simp [mcnt, h1], by simp [mwt, h1], by simp [dels, h1], by simp [frees, h1, h2], ⟨⟨true, m.took.item⟩, by simp [tookI, h1, h2]; exact IsMax.one _, rfl⟩, by simp [goneI, h1]; exact IsMax.nil, by simp [hereI, h1]; exact IsMin.nil⟩
  · cases h2 : m.here
    · simp only [cond_false, cond_true, Option.bind_some, Sum.elim_inl, t1]
      exact ⟨_, rfl, by simp [mcnt, h1], by simp [mwt, h1, h2], by simp [dels, h1], by simp [frees, h1], ⟨_, by simp [tookI, h1]; exact IsMax.nil, rfl⟩, by simp [goneI, h1, h2]; exact IsMax.one _, by simp [hereI, h1, h2]; exact IsMin.nil⟩
    · simp only [cond_true, Option.bind_some, Sum.elim_inl, t1, t0]
      exact ⟨_, rfl, by simp [mcnt, h1], by simp [mwt, h1, h2], by simp [dels, h1], by simp [frees, h1], ⟨_, by simp [tookI, h1]; exact IsMax.nil, rfl⟩, by simp [goneI, h1, h2]; exact IsMax.nil, by simp [hereI, h1, h2]; exact IsMin.one _⟩
end Go.Proofs.YtpeoalmhccmdiaaGreat
namespace Go.Proofs.YtpeoalmhccmdiaaGreat
open Go Go.Proofs.YtpeoalmhccmdiaaGreat.Sx
theorem item_eq {a b : TItem} (h1 : ¬ ilt a b) (h2 : ¬ ilt b a) : a = b := by
  unfold ilt at *; exact item_ext (by omega) (by omega)
instance : DecidableEq TItem := fun a b => if h : a.key = b.key ∧ a.id = b.id then .isTrue (item_ext h.1 h.2) else .isFalse (fun e => h (by rw [e]; exact ⟨rfl, rfl⟩))
def wts (m : List TMark) : List Int := m.map mwt
def hgt (m : List TMark) (base : Int) (n : Nat) : Int := base + ((wts m).take n).sum
def isG (x : TMark) : Prop := x.op.insert = true ∧ x.here = false
def isS (x : TMark) : Prop := x.op.insert = true ∧ x.here = true
def atG (m : List TMark) (i : Nat) : Prop := ∃ x, m[i]? = some x ∧ isG x
def atS (m : List TMark) (i : Nat) : Prop := ∃ x, m[i]? = some x ∧ isS x
def ltI (m : List TMark) (i j : Nat) : Prop := ∃ x y, m[i]? = some x ∧ m[j]? = some y ∧ ilt x.op.item y.op.item
def CertM (m : List TMark) (E : Int) : Prop := PQ.Cert m.length (atG m) (atS m) (ltI m) (hgt m E)
def Dist (m : List TMark) : Prop := ∀ (i j : Nat) (x y : TMark), m[i]? = some x → m[j]? = some y → x.op.insert = true → y.op.insert = true → x.op.item = y.op.item → i = j
def sins (x : TItem) : List TItem → List TItem
  | [] => [x]
  | y :: t => if ilt x y then x :: y :: t else y :: sins x t
theorem sins_perm (x : TItem) : ∀ l, (sins x l).Perm (x :: l)
  | [] => List.Perm.refl _
  | y :: t => by
    unfold sins
    split
    · exact List.Perm.refl _
    · exact ((sins_perm x t).cons y).trans (List.Perm.swap x y t)
theorem sins_sorted (x : TItem) : ∀ l, Sorted l → Sorted (sins x l)
  | [], _ => by simp [sins]
  | y :: t, h => by
    have h' := List.pairwise_cons.1 h
    unfold sins
    split
    · rename_i hx
      refine List.pairwise_cons.2 ⟨fun z hz => ?_, h⟩
      rcases List.mem_cons.1 hz with rfl | hz
      · exact ilt_ile hx
      · exact ile_trans (ilt_ile hx) (h'.1 z hz)
    · rename_i hx
      refine List.pairwise_cons.2 ⟨fun z hz => ?_, sins_sorted x t h'.2⟩
      rcases List.mem_cons.1 ((sins_perm x t).mem_iff.1 hz) with rfl | hz
      · exact not_ilt.1 hx
      · exact h'.1 z hz
structure RS where
  here : List TItem
  gone : List TItem
  free : Int
  took : List TTook
def stepR (s : RS) (o : TOp) : RS := if o.insert then ⟨sins o.item s.here, s.gone, s.free, s.took ++ [zTTook]⟩ else match s.here with
  | x :: t => ⟨t, s.gone ++ [x], s.free, s.took ++ [⟨true, x⟩]⟩
  | [] => ⟨[], s.gone, s.free + 1, s.took ++ [zTTook]⟩
def runR (l : List TOp) : RS := l.foldl stepR ⟨[], [], 0, []⟩
theorem runR_succ {l : List TOp} {i : Nat} {o : TOp} (h : l[i]? = some o) : runR (l.take (i + 1)) = stepR (runR (l.take i)) o := by
  unfold runR
  rw [List.take_add_one, h, List.foldl_append]; rfl
theorem hgt_succ {m : List TMark} {E : Int} {i : Nat} {x : TMark} (h : m[i]? = some x) : hgt m E (i + 1) = hgt m E i + mwt x := by
  unfold hgt
  have : (wts m)[i]? = some (mwt x) := by simp [wts, h]
  rw [List.take_add_one, this, List.sum_append]; simp [Int.add_assoc]
theorem hereI_app (a b : List TMark) : hereI (a ++ b) = hereI a ++ hereI b := by simp [hereI]
theorem goneI_app (a b : List TMark) : goneI (a ++ b) = goneI a ++ goneI b := by simp [goneI]
theorem mem_hereI {m : List TMark} {x : TItem} : x ∈ hereI m ↔ ∃ (i : Nat) (y : TMark), m[i]? = some y ∧ isS y ∧ y.op.item = x := by
  unfold hereI isS
  simp only [List.mem_map, List.mem_filter, Bool.and_eq_true]
  constructor
  · rintro ⟨y, ⟨h1, h2⟩, h3⟩
    obtain ⟨i, hi⟩ := List.mem_iff_getElem?.1 h1
    exact ⟨i, y, hi, h2, h3⟩
  · rintro ⟨i, y, h1, h2, h3⟩; exact ⟨y, ⟨List.mem_of_getElem? h1, h2⟩, h3⟩
theorem mem_goneI {m : List TMark} {x : TItem} : x ∈ goneI m ↔ ∃ (i : Nat) (y : TMark), m[i]? = some y ∧ isG y ∧ y.op.item = x := by
  unfold goneI isG
  simp only [List.mem_map, List.mem_filter, Bool.and_eq_true, Bool.not_eq_true']
  constructor
  · rintro ⟨y, ⟨h1, h2⟩, h3⟩
    obtain ⟨i, hi⟩ := List.mem_iff_getElem?.1 h1
    exact ⟨i, y, hi, h2, h3⟩
  · rintro ⟨i, y, h1, h2, h3⟩; exact ⟨y, ⟨List.mem_of_getElem? h1, h2⟩, h3⟩
theorem take_get {α : Type} {l : List α} {p i : Nat} {x : α} (h : (l.take p)[i]? = some x) : i < p ∧ l[i]? = some x := by
  rw [List.getElem?_take] at h
  split at h
  · rename_i hi; exact ⟨hi, h⟩
  · cases h
abbrev SP (m : List TMark) (p : Nat) : RS := runR ((m.take p).map (·.op))
theorem SP_succ {m : List TMark} {p : Nat} {x : TMark} (h : m[p]? = some x) : SP m (p + 1) = stepR (SP m p) x.op := by
  have : (m.map (·.op))[p]? = some x.op := by simp [h]
  unfold SP; rw [List.map_take, List.map_take, runR_succ this]
theorem stepR_mem {s : RS} {o : TOp} {x : TItem} (h : x ∈ (stepR s o).here) : x ∈ s.here ∨ (o.insert = true ∧ x = o.item) := by
  unfold stepR at h
  split at h
  · rename_i hi
    rcases List.mem_cons.1 ((sins_perm _ _).mem_iff.1 h) with h | h
    · exact .inr ⟨hi, h⟩
    · exact .inl h
  · split at h
    · rename_i hs; rw [hs]; exact .inl (List.mem_cons_of_mem _ h)
    · cases h
theorem stepR_free (s : RS) (o : TOp) : s.free ≤ (stepR s o).free := by
  unfold stepR
  split
  · exact Int.le_refl _
  · split
    · exact Int.le_refl _
    · show s.free ≤ s.free + 1; omega
theorem SP_free {m : List TMark} {b : Nat} : ∀ d, b + d ≤ m.length → (SP m b).free ≤ (SP m (b + d)).free
  | 0, _ => Int.le_refl _
  | d + 1, h => by
    obtain ⟨x, hx⟩ : ∃ x, m[b + d]? = some x := ⟨_, List.getElem?_eq_getElem (by omega)⟩
    have := SP_succ hx
    rw [show b + (d + 1) = b + d + 1 by omega, this]
    exact Int.le_trans (SP_free d (by omega)) (stepR_free _ _)
theorem SP_since {m : List TMark} (hd : Dist m) {i b : Nat} {x : TMark} (hx : m[i]? = some x) (hi : x.op.insert = true) (hb : i < b) : ∀ d, b + d ≤ m.length → x.op.item ∈ (SP m (b + d)).here → x.op.item ∈ (SP m b).here
  | 0, _, h => h
  | d + 1, hl, h => by
    obtain ⟨y, hy⟩ : ∃ y, m[b + d]? = some y := ⟨_, List.getElem?_eq_getElem (by omega)⟩
    rw [show b + (d + 1) = b + d + 1 by omega, SP_succ hy] at h
    rcases stepR_mem h with h | ⟨h1, h2⟩
    · exact SP_since hd hx hi hb d (by omega) h
    · have := hd _ _ _ _ hx hy hi h1 h2; omega
structure RInv (m : List TMark) (E : Int) (p : Nat) (gq : List TItem) : Prop where
  here : (SP m p).here.Perm (hereI (m.take p) ++ gq)
  gone : ((SP m p).gone ++ gq).Perm (goneI (m.take p))
  cnt : (gq.length : Int) + (E - (SP m p).free) = hgt m E p
  free : (SP m p).free ≤ E
  srt : Sorted (SP m p).here
theorem take_succ' {m : List TMark} {p : Nat} {x : TMark} (h : m[p]? = some x) : m.take (p + 1) = m.take p ++ [x] := by rw [List.take_add_one, h]; rfl
theorem inv_all {m : List TMark} {E : Int} (hd : Dist m) (hc : CertM m E) : ∀ p, p ≤ m.length → ∃ gq, RInv m E p gq := by
  intro p
  induction p using Nat.strongRecOn with
  | ind p ih =>
    intro hp
    cases p with
    | zero =>
      have h0 := hc.low 0 (Nat.zero_le _)
      have e : hgt m E 0 = E := by simp [hgt]
      exact ⟨[], by simp [SP, runR, hereI], by simp [SP, runR, goneI], by simp [SP, runR, e], by rw [e] at h0; simpa [SP, runR] using h0, by simp [SP, runR]⟩
    | succ p =>
      obtain ⟨gq, hI⟩ := ih p (Nat.lt_succ_self _) (by omega)
      obtain ⟨x, hx⟩ : ∃ x, m[p]? = some x := ⟨_, List.getElem?_eq_getElem (by omega)⟩
      have hs := SP_succ hx
      have ht := take_succ' hx
      have hh := hgt_succ (E := E) hx
      by_cases hi : x.op.insert = true
      · have e : stepR (SP m p) x.op = ⟨sins x.op.item (SP m p).here, (SP m p).gone, (SP m p).free, (SP m p).took ++ [zTTook]⟩ := by unfold stepR; rw [if_pos hi]
        rw [e] at hs
        by_cases hg : x.here = true
        · refine ⟨gq, ?_, ?_, ?_, ?_, ?_⟩
          · rw [hs, ht, hereI_app]
            have : hereI [x] = [x.op.item] := by simp [hereI, hi, hg]
            rw [this]
            refine (sins_perm _ _).trans ((hI.here.cons x.op.item).trans ?_)
            rw [List.append_assoc]
            exact (List.perm_middle (a := x.op.item) (l₁ := hereI (m.take p)) (l₂ := gq)).symm
          · rw [hs, ht, goneI_app]
            have : goneI [x] = [] := by simp [goneI, hi, hg]
            rw [this, List.append_nil]; exact hI.gone
          · rw [hs, hh]; show _ + (E - (SP m p).free) = _
            rw [hI.cnt]; simp [mwt, hi, hg]
          · rw [hs]; exact hI.free
          · rw [hs]; exact sins_sorted _ _ hI.srt
        · have hg : x.here = false := by simpa using hg
          refine ⟨x.op.item :: gq, ?_, ?_, ?_, ?_, ?_⟩
          · rw [hs, ht, hereI_app]
            have : hereI [x] = [] := by simp [hereI, hi, hg]
            rw [this, List.append_nil]
            refine (sins_perm _ _).trans ((hI.here.cons x.op.item).trans ?_)
            exact (List.perm_middle (a := x.op.item) (l₁ := hereI (m.take p)) (l₂ := gq)).symm
          · rw [hs, ht, goneI_app]
            have : goneI [x] = [x.op.item] := by simp [goneI, hi, hg]
            rw [this]
            refine (List.perm_middle (a := x.op.item)).trans ?_
            exact (hI.gone.cons x.op.item).trans (List.perm_append_comm (l₁ := [x.op.item]))
          · rw [hs, hh]; show _ + (E - (SP m p).free) = _
            have := hI.cnt
            simp [mwt, hi, hg]; omega
          · rw [hs]; exact hI.free
          · rw [hs]; exact sins_sorted _ _ hI.srt
      · have hi : x.op.insert = false := by simpa using hi
        have hw : mwt x = -1 := by simp [mwt, hi]
        have h1 := hc.low (p + 1) hp
        have hpos : 1 ≤ hgt m E p := by rw [hh, hw] at h1; omega
        have eh : hereI [x] = [] := by simp [hereI, hi]
        have eg : goneI [x] = [] := by simp [goneI, hi]
        have en : (gq = [] → (SP m p).free < E) := fun e => by have := hI.cnt; subst e; simp at this; omega
        cases hH : (SP m p).here with
        | nil =>
          have e : stepR (SP m p) x.op = ⟨[], (SP m p).gone, (SP m p).free + 1, (SP m p).took ++ [zTTook]⟩ := by unfold stepR; rw [hi]; simp [hH]
          rw [e] at hs
          have hq := hI.here
          rw [hH] at hq
          have hq2 := List.append_eq_nil_iff.1 (List.nil_perm.1 hq)
          have hgq := hq2.2
          subst hgq
          refine ⟨[], ?_, ?_, ?_, ?_, ?_⟩
          · rw [hs, ht, hereI_app, eh, hq2.1]; exact List.Perm.refl _
          · rw [hs, ht, goneI_app, eg]; simpa using hI.gone
          · rw [hs, hh, hw]; have := hI.cnt; show _ + (E - ((SP m p).free + 1)) = _; simp at this ⊢; omega
          · rw [hs]; show (SP m p).free + 1 ≤ E; have := en rfl; omega
          · rw [hs]; exact List.Pairwise.nil
        | cons y t =>
          have e : stepR (SP m p) x.op = ⟨t, (SP m p).gone ++ [y], (SP m p).free, (SP m p).took ++ [⟨true, y⟩]⟩ := by unfold stepR; rw [hi]; simp [hH]
          rw [e] at hs
          have hq := hI.here
          rw [hH] at hq
          have hsr := hI.srt
          rw [hH] at hsr
          have hmin : ∀ z ∈ y :: t, ile y z := fun z hz => by
            rcases List.mem_cons.1 hz with rfl | hz
            · exact ile_refl _
            · exact (List.pairwise_cons.1 hsr).1 z hz
          have hyg : y ∈ gq := by
            refine (List.mem_append.1 (hq.mem_iff.1 List.mem_cons_self)).elim (fun hy => ?_) id
            exfalso
            obtain ⟨j, my, hj, hjS, hjy⟩ := mem_hereI.1 hy
            obtain ⟨hjp, hj⟩ := take_get hj
            cases hgq : gq with
            | nil =>
              have hfree := en hgq
              have hE0 : 0 < hgt m E 0 := by
                have h0 := SP_free (m := m) (b := 0) p (by omega)
                rw [Nat.zero_add] at h0
                have e0 : (SP m 0).free = 0 := rfl
                have : hgt m E 0 = E := by simp [hgt]
                omega
              obtain ⟨b, hb1, hb2⟩ := hc.free hE0 j (by omega) ⟨my, hj, hjS⟩
              obtain ⟨gb, hB⟩ := ih b (by omega) (by omega)
              have h3 := hB.cnt
              have h4 := hB.free
              have h5 := SP_free (m := m) (b := b) (p - b) (by omega)
              rw [show b + (p - b) = p by omega] at h5
              omega
            | cons g gr =>
              have hgm : g ∈ y :: t := hq.mem_iff.2 (List.mem_append_right _ (by rw [hgq]; exact List.mem_cons_self))
              have hgg : g ∈ goneI (m.take p) := hI.gone.mem_iff.1 (List.mem_append_right _ (by rw [hgq]; exact List.mem_cons_self))
              obtain ⟨i, mg, hig, hiG, rfl⟩ := mem_goneI.1 hgg
              obtain ⟨hip, hig⟩ := take_get hig
              have hne : y ≠ mg.op.item := fun e => by
                have := hd j i my mg hj hig hjS.1 hiG.1 (hjy.trans e)
                subst this
                rw [hig] at hj; cases hj
                exact absurd (hiG.2.symm.trans hjS.2) (by decide)
              have hlt : ilt y mg.op.item := ilt_iff.2 ⟨hmin _ hgm, hne⟩
              obtain ⟨b, hb1, hb2, hb3⟩ := hc.two i j (by omega) (by omega) ⟨mg, hig, hiG⟩ ⟨my, hj, hjS⟩ ⟨my, mg, hj, hig, hjy ▸ hlt⟩
              obtain ⟨gb, hB⟩ := ih b (by omega) (by omega)
              have h3 := hB.cnt
              have h4 := hB.free
              have h5 : gb = [] := List.eq_nil_of_length_eq_zero (by omega)
              subst h5
              have h6 := SP_since hd hig hiG.1 hb1 (p - b) (by omega) (by rw [show b + (p - b) = p by omega, hH]; exact hgm)
              have h7 := hB.here.mem_iff.1 h6
              rw [List.append_nil] at h7
              obtain ⟨k, mk, hk, hkS, hke⟩ := mem_hereI.1 h7
              obtain ⟨_, hk⟩ := take_get hk
              have := hd k i mk mg hk hig hkS.1 hiG.1 hke
              subst this
              rw [hig] at hk; cases hk
              exact absurd (hiG.2.symm.trans hkS.2) (by decide)
          have hpe := List.perm_cons_erase hyg
          refine ⟨gq.erase y, ?_, ?_, ?_, ?_, ?_⟩
          · rw [hs, ht, hereI_app, eh, List.append_nil]
            show t.Perm _
            have : (y :: t).Perm (y :: (hereI (m.take p) ++ gq.erase y)) := hq.trans ((hpe.append_left _).trans (List.perm_middle (a := y)))
            exact this.cons_inv
          · rw [hs, ht, goneI_app, eg, List.append_nil]
            show ((SP m p).gone ++ [y] ++ gq.erase y).Perm _
            rw [List.append_assoc]
            exact (hpe.symm.append_left _).trans hI.gone
          · rw [hs, hh, hw]
            have := hI.cnt
            have hl := hpe.length_eq
            simp only [List.length_cons] at hl
            show ((gq.erase y).length : Int) + (E - (SP m p).free) = _
            omega
          · rw [hs]; exact hI.free
          · rw [hs]; exact (List.pairwise_cons.1 hsr).2
theorem run_cert {m : List TMark} {E : Int} (hd : Dist m) (hc : CertM m E) : let s := runR (m.map (·.op)); s.here.Perm (hereI m) ∧ s.gone.Perm (goneI m) ∧ s.free = E ∧ Sorted s.here := by
  obtain ⟨gq, hI⟩ := inv_all hd hc m.length (Nat.le_refl _)
  have h1 := hI.cnt
  rw [hc.fin] at h1
  have h2 := hI.free
  have h3 : gq = [] := List.eq_nil_of_length_eq_zero (by omega)
  subst h3
  have e : SP m m.length = runR (m.map (·.op)) := by unfold SP; rw [List.take_length]
  have h4 := hI.here; have h5 := hI.gone
  rw [List.take_length, List.append_nil, e] at h4 h5
  rw [e] at h1 h2
  refine ⟨h4, h5, by simp at h1; omega, ?_⟩
  have := hI.srt; rwa [e] at this
end Go.Proofs.YtpeoalmhccmdiaaGreat
namespace Go.Proofs.YtpeoalmhccmdiaaGreat
open Go Go.Proofs.YtpeoalmhccmdiaaGreat.Sx
def IsNext (m : List TMark) (base : Int) (c : Nat) (v : Int) : Prop := (v = -1 ∧ ∀ j, c ≤ j → j ≤ m.length → ¬ hgt m base j ≤ 0) ∨ ∃ j : Nat, v = j ∧ c ≤ j ∧ j ≤ m.length ∧ hgt m base j ≤ 0 ∧ ∀ q, c ≤ q → q < j → ¬ hgt m base q ≤ 0
def IsPrior (m : List TMark) (base : Int) (c : Nat) (v : Int) : Prop := (v = -1 ∧ ∀ j, j ≤ c → ¬ hgt m base j ≤ 0) ∨ ∃ j : Nat, v = j ∧ j ≤ c ∧ hgt m base j ≤ 0 ∧ ∀ q, j < q → q ≤ c → ¬ hgt m base q ≤ 0
def turnF (it : TItem) (h : Bool) (x : TMark) : TMark := if x.op.insert = true ∧ x.op.item = it then ⟨x.op, h, x.took⟩ else x
def turnM (it : TItem) (h : Bool) (m : List TMark) : List TMark := m.map (turnF it h)
theorem turnF_op (it : TItem) (h : Bool) (x : TMark) : (turnF it h x).op = x.op := by unfold turnF; split <;> rfl
theorem turnF_took (it : TItem) (h : Bool) (x : TMark) : (turnF it h x).took = x.took := by unfold turnF; split <;> rfl
theorem turnM_ops (it : TItem) (h : Bool) (m : List TMark) : (turnM it h m).map (·.op) = m.map (·.op) := by
  unfold turnM; rw [List.map_map]; exact List.map_congr_left (fun x _ => turnF_op it h x)
theorem turnM_app (it : TItem) (h : Bool) (a b : List TMark) : turnM it h (a ++ b) = turnM it h a ++ turnM it h b := List.map_append
theorem turnM_cons (it : TItem) (h : Bool) (x : TMark) (b : List TMark) : turnM it h (x :: b) = turnF it h x :: turnM it h b := rfl
theorem turnF_del {it : TItem} {h : Bool} {x : TMark} (hx : x.op.insert = false) : turnF it h x = x := by unfold turnF; rw [if_neg (by simp [hx])]
theorem turnM_len (it : TItem) (h : Bool) (m : List TMark) : (turnM it h m).length = m.length := List.length_map ..
theorem turnM_get (it : TItem) (h : Bool) (m : List TMark) (i : Nat) : (turnM it h m)[i]? = (m[i]?).map (turnF it h) := List.getElem?_map ..
theorem cert_congr {n : Nat} {G S G' S' : Nat → Prop} {lt lt' : Nat → Nat → Prop} {H H' : Nat → Int} (h : PQ.Cert n G S lt H) (hg : ∀ i, i < n → (G' i → G i)) (hs : ∀ i, i < n → (S' i → S i)) (hl : ∀ i j, lt' i j → lt i j) (hH : ∀ p, p ≤ n → H' p = H p) : PQ.Cert n G' S' lt' H' := by
  refine ⟨fun p hp => by rw [hH p hp]; exact h.low p hp, by rw [hH n (Nat.le_refl _)]; exact h.fin, fun i j hi hj h1 h2 h3 => ?_, fun h0 j hj h2 => ?_⟩
  · obtain ⟨b, b1, b2, b3⟩ := h.two i j hi hj (hg i hi h1) (hs j hj h2) (hl _ _ h3)
    exact ⟨b, b1, b2, by rw [hH b (by omega)]; exact b3⟩
  · rw [hH 0 (Nat.zero_le _)] at h0
    obtain ⟨b, b1, b2⟩ := h.free h0 j hj (hs j hj h2)
    exact ⟨b, b1, by rw [hH b (by omega)]; exact b2⟩
theorem ltI_trans (m : List TMark) : ∀ a b c, ltI m a b → ltI m b c → ltI m a c := by
  rintro a b c ⟨x, y, h1, h2, h3⟩ ⟨y', z, h4, h5, h6⟩
  rw [h2] at h4; cases h4
  exact ⟨x, z, h1, h5, ilt_trans_le h3 (ilt_ile h6)⟩
theorem ltI_irrefl (m : List TMark) : ∀ a, ¬ ltI m a a := by
  rintro a ⟨x, y, h1, h2, h3⟩
  rw [h1] at h2; cases h2
  exact ilt_irrefl _ h3
theorem atG_S (m : List TMark) : ∀ i, atG m i → ¬ atS m i := by
  rintro i ⟨x, h1, h2⟩ ⟨y, h3, h4⟩
  rw [h1] at h3; cases h3
  exact absurd (h2.2.symm.trans h4.2) (by decide)
theorem hgt_base (m : List TMark) (E d : Int) (p : Nat) : hgt m (E + d) p = hgt m E p + d := by unfold hgt; omega
theorem hgt_zero (m : List TMark) (E : Int) : hgt m E 0 = E := by simp [hgt]
theorem hgt_turn {m : List TMark} (hd : Dist m) {z : Nat} {x : TMark} (hz : m[z]? = some x) (hi : x.op.insert = true) (E : Int) (h : Bool) : ∀ p, p ≤ m.length → hgt (turnM x.op.item h m) E p = hgt m E p + if z < p then mwt ⟨x.op, h, x.took⟩ - mwt x else 0
  | 0, _ => by rw [hgt_zero, hgt_zero, if_neg (by omega)]; omega
  | p + 1, hp => by
    obtain ⟨y, hy⟩ : ∃ y, m[p]? = some y := ⟨_, List.getElem?_eq_getElem (by omega)⟩
    have h1 : (turnM x.op.item h m)[p]? = some (turnF x.op.item h y) := by rw [turnM_get, hy]; rfl
    rw [hgt_succ h1, hgt_succ hy, hgt_turn hd hz hi E h p (by omega)]
    by_cases e : p = z
    · subst e
      rw [hz] at hy; cases hy
      rw [if_neg (by omega), if_pos (by omega)]
      unfold turnF; rw [if_pos ⟨hi, rfl⟩]; omega
    · have : turnF x.op.item h y = y := by
        unfold turnF; rw [if_neg]
        rintro ⟨h2, h3⟩
        exact e (hd p z y x hy hz h2 hi h3)
      rw [this]
      by_cases e' : z < p
      · rw [if_pos e', if_pos (by omega)]; omega
      · rw [if_neg e', if_neg (by omega)]; omega
theorem turn_at {m : List TMark} (hd : Dist m) {z : Nat} {x : TMark} (hz : m[z]? = some x) (hi : x.op.insert = true) (h : Bool) {i : Nat} {y : TMark} (hy : (turnM x.op.item h m)[i]? = some y) : (i = z ∧ y = ⟨x.op, h, x.took⟩) ∨ (i ≠ z ∧ m[i]? = some y) := by
  rw [turnM_get] at hy
  obtain ⟨y', h1, rfl⟩ := Option.map_eq_some_iff.1 hy
  by_cases e : i = z
  · subst e; rw [hz] at h1; cases h1
    exact .inl ⟨rfl, by unfold turnF; rw [if_pos ⟨hi, rfl⟩]⟩
  · refine .inr ⟨e, ?_⟩
    unfold turnF; rw [if_neg]
    · exact h1
    · rintro ⟨h2, h3⟩; exact e (hd i z y' x h1 hz h2 hi h3)
theorem ltI_turn {m : List TMark} {it : TItem} {h : Bool} {i j : Nat} (hl : ltI (turnM it h m) i j) : ltI m i j := by
  obtain ⟨x, y, h1, h2, h3⟩ := hl
  rw [turnM_get] at h1 h2
  obtain ⟨x', g1, rfl⟩ := Option.map_eq_some_iff.1 h1
  obtain ⟨y', g2, rfl⟩ := Option.map_eq_some_iff.1 h2
  rw [turnF_op, turnF_op] at h3
  exact ⟨x', y', g1, g2, h3⟩
theorem more_none {m : List TMark} {E : Int} {t : Nat} (h : PQ.More m.length t (atG m) (atS m) (ltI m) (hgt m E)) (hb : ∀ b, b < t → hgt m E b ≠ 0) : CertM m (E - 1) := by
  refine cert_congr (h.none hb) (fun _ _ => id) (fun _ _ => id) (fun _ _ => id) (fun p _ => ?_)
  have := hgt_base m E (-1) p
  rw [show E - 1 = E + -1 by omega, this]; show _ = hgt m E p - 1; omega
theorem gone_ex {m : List TMark} {E : Int} {b : Nat} (hb : hgt m E b = 0) : ∀ d, b + d ≤ m.length → 1 ≤ hgt m E (b + d) → ∃ i, b ≤ i ∧ i < b + d ∧ atG m i
  | 0, _, h => by rw [Nat.add_zero, hb] at h; omega
  | d + 1, hl, h => by
    obtain ⟨y, hy⟩ : ∃ y, m[b + d]? = some y := ⟨_, List.getElem?_eq_getElem (by omega)⟩
    rw [show b + (d + 1) = b + d + 1 by omega, hgt_succ hy] at h
    by_cases e : isG y
    · exact ⟨b + d, by omega, by omega, y, hy, e⟩
    · have : mwt y ≤ 0 := by
        unfold mwt
        by_cases h1 : y.op.insert = true
        · by_cases h2 : y.here = true
          · simp [h1, h2]
          · exact absurd ⟨h1, by simpa using h2⟩ e
        · rw [if_neg h1]; omega
      obtain ⟨i, h1, h2, h3⟩ := gone_ex hb d (by omega) (by omega)
      exact ⟨i, h1, by omega, h3⟩
theorem mem_drop_goneI {m : List TMark} {b : Nat} {x : TItem} : x ∈ goneI (m.drop b) ↔ ∃ (i : Nat) (y : TMark), b ≤ i ∧ m[i]? = some y ∧ isG y ∧ y.op.item = x := by
  rw [mem_goneI]
  constructor
  · rintro ⟨i, y, h1, h2⟩
    rw [List.getElem?_drop] at h1
    exact ⟨b + i, y, by omega, h1, h2⟩
  · rintro ⟨i, y, h0, h1, h2⟩
    exact ⟨i - b, y, by rw [List.getElem?_drop, show b + (i - b) = i by omega]; exact h1, h2⟩
theorem mem_take_hereI {m : List TMark} {b : Nat} {x : TItem} : x ∈ hereI (m.take b) ↔ ∃ (i : Nat) (y : TMark), i < b ∧ m[i]? = some y ∧ isS y ∧ y.op.item = x := by
  rw [mem_hereI]
  constructor
  · rintro ⟨i, y, h1, h2⟩
    obtain ⟨h3, h4⟩ := take_get h1
    exact ⟨i, y, h3, h4, h2⟩
  · rintro ⟨i, y, h0, h1, h2⟩
    exact ⟨i, y, by rw [List.getElem?_take, if_pos h0]; exact h1, h2⟩
theorem more_some {m : List TMark} {E : Int} {t b : Nat} (hd : Dist m) (h : PQ.More m.length t (atG m) (atS m) (ltI m) (hgt m E)) (hbt : b < t) (hb0 : hgt m E b = 0) (hb1 : ∀ q, b < q → q < t → hgt m E q ≠ 0) {best : TTook} (hm : IsMax (goneI (m.drop b)) best) :
    best.found = true ∧ CertM (turnM best.item true m) E ∧ ∃ (z : Nat) (x : TMark), m[z]? = some x ∧ isG x ∧ x.op.item = best.item ∧ b ≤ z := by
  have hle := h.le
  obtain ⟨i, h1, h2, y, h3, h4⟩ := gone_ex hb0 (m.length - b) (by omega) (by rw [show b + (m.length - b) = m.length by omega, h.fin]; omega)
  rcases hm with ⟨hn, _⟩ | ⟨g1, g2, g3⟩
  · have : y.op.item ∈ goneI (m.drop b) := mem_drop_goneI.2 ⟨i, y, h1, h3, h4, rfl⟩
    rw [hn] at this; cases this
  · obtain ⟨z, x, hz1, hz2, hz3, hz4⟩ := mem_drop_goneI.1 g2
    have hzn : z < m.length := (List.getElem?_eq_some_iff.1 hz2).1
    refine ⟨g1, ?_, z, x, hz2, hz3, hz4, hz1⟩
    have hC := h.some (z := z) (ltI_trans m) (ltI_irrefl m) hbt hb0 hb1 hz1 hzn ⟨x, hz2, hz3⟩ (fun j hj hbj hG => by
      obtain ⟨w, w1, w2⟩ := hG
      have := g3 _ (mem_drop_goneI.2 ⟨j, w, hbj, w1, w2, rfl⟩)
      rw [← hz4] at this
      by_cases e : j = z
      · exact .inl e
      · exact .inr ⟨w, x, w1, hz2, ilt_iff.2 ⟨this, fun e' => e (hd j z w x w1 hz2 w2.1 hz3.1 e')⟩⟩) (atG_S m)
    rw [← hz4]
    have hlen : (turnM x.op.item true m).length = m.length := turnM_len _ _ _
    unfold CertM; rw [hlen]
    refine cert_congr hC (fun j _ => ?_) (fun j _ => ?_) (fun _ _ => ltI_turn) (fun p hp => ?_)
    · rintro ⟨w, w1, w2⟩
      rcases turn_at hd hz2 hz3.1 true w1 with ⟨rfl, rfl⟩ | ⟨e, w3⟩
      · cases w2.2
      · exact ⟨⟨w, w3, w2⟩, e⟩
    · rintro ⟨w, w1, w2⟩
      rcases turn_at hd hz2 hz3.1 true w1 with ⟨rfl, rfl⟩ | ⟨e, w3⟩
      · exact .inr rfl
      · exact .inl ⟨w, w3, w2⟩
    · rw [hgt_turn hd hz2 hz3.1 E true p hp]
      have e1 : mwt x = 1 := by simp [mwt, hz3.1, hz3.2]
      have e2 : mwt ⟨x.op, true, x.took⟩ = 0 := by simp [mwt, hz3.1]
      rw [e1, e2]; show _ = hgt m E p - _
      split <;> omega
theorem less_all {m : List TMark} {E : Int} {t b : Nat} (hd : Dist m) (h : PQ.Less m.length t (atG m) (atS m) (ltI m) (hgt m E)) (hbt : t ≤ b) (hbn : b ≤ m.length) (hb0 : hgt m E b = -1) (hb1 : ∀ q, t ≤ q → q < b → hgt m E q ≠ -1) {least : TTook} (hm : IsMin (hereI (m.take b)) least) :
    (least.found = false ∧ CertM m (E + 1)) ∨ (least.found = true ∧ CertM (turnM least.item false m) E ∧ ∃ (z : Nat) (x : TMark), m[z]? = some x ∧ isS x ∧ x.op.item = least.item) := by
  rcases hm with ⟨hn, rfl⟩ | ⟨g1, g2, g3⟩
  · refine .inl ⟨rfl, ?_⟩
    refine cert_congr (h.none hbt hbn hb0 hb1 (fun j hj hS => ?_)) (fun _ _ => id) (fun _ _ => id) (fun _ _ => id) (fun p _ => hgt_base m E 1 p)
    obtain ⟨w, w1, w2⟩ := hS
    have : w.op.item ∈ hereI (m.take b) := mem_take_hereI.2 ⟨j, w, hj, w1, w2, rfl⟩
    rw [hn] at this; cases this
  · obtain ⟨z, x, hz1, hz2, hz3, hz4⟩ := mem_take_hereI.1 g2
    refine .inr ⟨g1, ?_, z, x, hz2, hz3, hz4⟩
    have hC := h.some (z := z) (ltI_trans m) (ltI_irrefl m) hbt hbn hb0 hb1 hz1 ⟨x, hz2, hz3⟩ (fun j hj hS => by
      obtain ⟨w, w1, w2⟩ := hS
      have := g3 _ (mem_take_hereI.2 ⟨j, w, hj, w1, w2, rfl⟩)
      rw [← hz4] at this
      by_cases e : j = z
      · exact .inl e
      · exact .inr ⟨x, w, hz2, w1, ilt_iff.2 ⟨this, fun e' => e (hd j z w x w1 hz2 w2.1 hz3.1 e'.symm)⟩⟩)
    rw [← hz4]
    have hlen : (turnM x.op.item false m).length = m.length := turnM_len _ _ _
    unfold CertM; rw [hlen]
    refine cert_congr hC (fun j _ => ?_) (fun j _ => ?_) (fun _ _ => ltI_turn) (fun p hp => ?_)
    · rintro ⟨w, w1, w2⟩
      rcases turn_at hd hz2 hz3.1 false w1 with ⟨rfl, rfl⟩ | ⟨e, w3⟩
      · exact .inr rfl
      · exact .inl ⟨w, w3, w2⟩
    · rintro ⟨w, w1, w2⟩
      rcases turn_at hd hz2 hz3.1 false w1 with ⟨rfl, rfl⟩ | ⟨e, w3⟩
      · cases w2.2
      · exact ⟨⟨w, w3, w2⟩, e⟩
    · rw [hgt_turn hd hz2 hz3.1 E false p hp]
      have e1 : mwt x = 0 := by simp [mwt, hz3.1, hz3.2]
      have e2 : mwt ⟨x.op, false, x.took⟩ = 1 := by simp [mwt, hz3.1]
      rw [e1, e2]; rfl
theorem take_app {α : Type} (A B : List α) (d : Nat) : (A ++ B).take (A.length + d) = A ++ B.take d := by
  rw [List.take_append, List.take_of_length_le (l := A) (by omega), show A.length + d - A.length = d by omega]
theorem get_sh (A B : List TMark) (x : TMark) (i : Nat) : (A ++ x :: B)[PQ.sh A.length i]? = (A ++ B)[i]? := by
  rcases PQ.sh_cases A.length i with ⟨h1, h2⟩ | ⟨h1, h2⟩
  · rw [h2, List.getElem?_append_left h1, List.getElem?_append_left h1]
  · rw [h2, List.getElem?_append_right (by omega), List.getElem?_append_right h1, show i + 1 - A.length = (i - A.length) + 1 by omega, List.getElem?_cons_succ]
theorem get_mid (A B : List TMark) (x : TMark) : (A ++ x :: B)[A.length]? = some x := by
  rw [List.getElem?_append_right (Nat.le_refl _), Nat.sub_self]; rfl
theorem hgt_lo (A B : List TMark) (E : Int) {p : Nat} (h : p ≤ A.length) : hgt (A ++ B) E p = hgt A E p := by
  unfold hgt wts; rw [List.map_append, List.take_append_of_le_length (by simpa using h)]
theorem ins_of (A B : List TMark) (x : TMark) (E : Int) : PQ.Ins (A ++ B).length A.length (mwt x) (atG (A ++ B)) (atS (A ++ B)) (ltI (A ++ B)) (hgt (A ++ B) E) (atG (A ++ x :: B)) (atS (A ++ x :: B)) (ltI (A ++ x :: B)) (hgt (A ++ x :: B) E) := by
  refine ⟨by simp, fun i => ?_, fun i => ?_, fun i j => ?_, fun p hp => ?_, fun p hp => ?_⟩
  · unfold atG; rw [get_sh]
  · unfold atS; rw [get_sh]
  · unfold ltI; rw [get_sh, get_sh]
  · rw [hgt_lo _ _ _ hp, hgt_lo _ _ _ hp]
  · unfold hgt wts
    obtain ⟨d, rfl⟩ : ∃ d, p = A.length + d := ⟨p - A.length, by omega⟩
    have e1 := take_app (A.map mwt) (mwt x :: B.map mwt) (d + 1)
    have e2 := take_app (A.map mwt) (B.map mwt) d
    rw [List.length_map] at e1 e2
    rw [List.map_append, List.map_append, List.map_cons, e2, show A.length + d + 1 = A.length + (d + 1) by omega, e1, List.take_succ_cons]
    simp only [List.sum_append, List.sum_cons]; omega
theorem edit_insert {A B : List TMark} {x : TMark} {E : Int} (hx : isG x) (hd : Dist (A ++ x :: B)) (hc : CertM (A ++ B) E) {v : Int} (hv : IsPrior (A ++ B) E A.length v) :
    (v = -1 ∧ CertM (A ++ x :: B) (E - 1)) ∨ ∃ b : Nat, v = b ∧ b ≤ A.length ∧ ∀ best, IsMax (goneI ((A ++ x :: B).drop b)) best →
      best.found = true ∧ CertM (turnM best.item true (A ++ x :: B)) E ∧ ∃ (z : Nat) (y : TMark), (A ++ x :: B)[z]? = some y ∧ isG y ∧ y.op.item = best.item := by
  have hw : mwt x = 1 := by simp [mwt, hx.1, hx.2]
  have hi := ins_of A B x E
  rw [hw] at hi
  have hm := hi.more (fun ⟨y, h1, h2⟩ => by rw [get_mid] at h1; cases h1; exact absurd (hx.2.symm.trans h2.2) (by decide)) hc
  have hlen : (A ++ x :: B).length = (A ++ B).length + 1 := by simp; omega
  rw [← hlen] at hm
  rcases hv with ⟨h1, h2⟩ | ⟨b, h1, h2, h3, h4⟩
  · refine .inl ⟨h1, more_none hm (fun b hb => ?_)⟩
    rw [hi.lo b (by omega)]
    intro e; exact h2 b (by omega) (by omega)
  · refine .inr ⟨b, h1, h2, fun best hb => ?_⟩
    have hA : A.length ≤ (A ++ B).length := by simp
    have hb0 : hgt (A ++ x :: B) E b = 0 := by rw [hi.lo b h2]; have := hc.low b (by omega); omega
    obtain ⟨g1, g2, z, y, g3, g4, g5, _⟩ := more_some hd hm (by omega) hb0 (fun q q1 q2 e => h4 q q1 (by omega) (by rw [← hi.lo q (by omega)]; omega)) hb
    exact ⟨g1, g2, z, y, g3, g4, g5⟩
theorem edit_delete {A B : List TMark} {x : TMark} {E : Int} (hx : x.op.insert = false) (hd : Dist (A ++ x :: B)) (hc : CertM (A ++ B) E) {v : Int} (hv : IsNext (A ++ B) E A.length v) :
    ∃ b : Nat, v = b ∧ b ≤ (A ++ B).length ∧ ∀ least, IsMin (hereI ((A ++ B).take b)) least → (least.found = false ∧ CertM (A ++ x :: B) (E + 1)) ∨
      (least.found = true ∧ CertM (turnM least.item false (A ++ x :: B)) E ∧ ∃ (z : Nat) (y : TMark), (A ++ B)[z]? = some y ∧ isS y ∧ y.op.item = least.item) := by
  have hw : mwt x = -1 := by simp [mwt, hx]
  have hi := ins_of A B x E
  rw [hw] at hi
  have hne : ∀ y, (A ++ x :: B)[A.length]? = some y → ¬ y.op.insert = true := fun y h1 h2 => by
    rw [get_mid] at h1; cases h1; rw [hx] at h2; cases h2
  have hm := hi.less (fun ⟨y, h1, h2⟩ => hne y h1 h2.1) (fun ⟨y, h1, h2⟩ => hne y h1 h2.1) hc
  have hlen : (A ++ x :: B).length = (A ++ B).length + 1 := by simp; omega
  rw [← hlen] at hm
  have hA : A.length ≤ (A ++ B).length := by simp
  rcases hv with ⟨h1, h2⟩ | ⟨b, h1, h2, h5, h3, h4⟩
  · exact absurd (by rw [hc.fin]; omega) (h2 (A ++ B).length hA (Nat.le_refl _))
  · refine ⟨b, h1, h5, fun least hl => ?_⟩
    have hb0 : hgt (A ++ B) E b = 0 := by have := hc.low b h5; omega
    have ht : hereI ((A ++ x :: B).take (b + 1)) = hereI ((A ++ B).take b) := by
      obtain ⟨d, rfl⟩ : ∃ d, b = A.length + d := ⟨b - A.length, by omega⟩
      rw [show A.length + d + 1 = A.length + (d + 1) by omega, take_app, take_app, List.take_succ_cons, hereI_app, hereI_app]
      congr 1
      simp [hereI, hx]
    rw [← ht] at hl
    rcases less_all hd hm (b := b + 1) (by omega) (by omega) (by rw [hi.hi b h2, hb0]; rfl) (fun q q1 q2 e => by
      have := hi.hi (q - 1) (by omega)
      rw [show q - 1 + 1 = q by omega] at this
      exact h4 (q - 1) (by omega) (by omega) (by omega)) hl with g | ⟨g1, g2, z, y, g3, g4, g5⟩
    · exact .inl g
    · refine .inr ⟨g1, g2, ?_⟩
      have hz : z ≠ A.length := by rintro rfl; exact hne y g3 g4.1
      obtain ⟨q, rfl⟩ := PQ.sh_ex hz
      rw [get_sh] at g3
      exact ⟨q, y, g3, g4, g5⟩
end Go.Proofs.YtpeoalmhccmdiaaGreat
namespace Go.Proofs.YtpeoalmhccmdiaaGreat
open Go Go.Proofs.YtpeoalmhccmdiaaGreat.Sx
theorem ref_ext {a b : TRef} (h1 : a.index = b.index) (h2 : a.gen = b.gen) : a = b := by cases a; cases b; simp_all
instance : DecidableEq TRef := fun a b => if h : a.index = b.index ∧ a.gen = b.gen then .isTrue (ref_ext h.1 h.2) else .isFalse (fun e => h (by rw [e]; exact ⟨rfl, rfl⟩))
section
variable {α : Type} {z : α}
def look (p : Pool α) (r : TRef) : Option α := (lookC p.cells r.index r.gen).map (·.v)
structure PW (p : Pool α) (L : List TRef) (B : Nat) : Prop where
  len : p.cells.length ≤ B
  small : B < 4294967295
  room : p.free.length + L.length ≤ p.cells.length
  nodup : p.free.Nodup
  free : ∀ i ∈ p.free, 0 ≤ i ∧ ∃ c, p.cells[i.toNat]? = some c ∧ c.live = false ∧ c.gen < 4294967295
  gen : ∀ c ∈ p.cells, 0 ≤ c.gen ∧ c.gen ≤ 4294967295 ∧ (c.live = true → 1 ≤ c.gen)
  live : ∀ r, (look p r).isSome = true ↔ r ∈ L
  ld : L.Nodup
  held : p.held = (L.length : Int)
theorem PW.ok {p : Pool α} {L : List TRef} {B : Nat} (h : PW p L B) : pOk p := by
  refine ⟨Nat.lt_of_le_of_lt h.len h.small, ?_, fun i hi => ?_⟩
  · have := h.room; have := h.len; have := h.small; omega
  · obtain ⟨h0, c, hc, _⟩ := h.free i hi
    exact ⟨h0, (List.getElem?_eq_some_iff.1 hc).1⟩
theorem PW.dok {p : Pool α} {L : List TRef} {B : Nat} (h : PW p L B) : decide (pOk p) = true := decide_eq_true h.ok
theorem PW.mono {p : Pool α} {L : List TRef} {B B' : Nat} (h : PW p L B) (hB : B ≤ B') (hs : B' < 4294967295) : PW p L B' := ⟨Nat.le_trans h.len hB, hs, h.room, h.nodup, h.free, h.gen, h.live, h.ld, h.held⟩
theorem PW.perm {p : Pool α} {L L' : List TRef} {B : Nat} (h : PW p L B) (hp : L.Perm L') : PW p L' B :=
  ⟨h.len, h.small, by rw [← hp.length_eq]; exact h.room, h.nodup, h.free, h.gen, fun r => (h.live r).trans hp.mem_iff, hp.nodup_iff.1 h.ld, by rw [← hp.length_eq]; exact h.held⟩
theorem PW.new (c : Int) (B : Nat) (hB : B < 4294967295) : PW (⟨[], [], c, 0, 0⟩ : Pool α) [] B :=
  ⟨Nat.zero_le _, hB, Nat.le_refl _, List.Pairwise.nil, fun i hi => (by cases hi), fun c hc => (by cases hc), fun r => by simp [look, lookC], List.Pairwise.nil, rfl⟩
theorem look_cell {p : Pool α} {r : TRef} {v : α} (h : look p r = some v) : ∃ (n : Nat) (c : Cell α), r.index = n ∧ p.cells[n]? = some c ∧ c.live = true ∧ c.gen = r.gen ∧ c.v = v ∧ lookC p.cells r.index r.gen = some c := by
  unfold look at h
  cases hc : lookC p.cells r.index r.gen with
  | none => rw [hc] at h; cases h
  | some c =>
    rw [hc] at h
    obtain ⟨n, h1, h2, h3, h4⟩ := lookC_some hc
    exact ⟨n, c, h1, h2, h3, h4, by simpa using h, rfl⟩
theorem lookC_at {cells : List (Cell α)} {n : Nat} {g : Int} : lookC cells (n : Int) g = match cells[n]? with | some c => if c.live = true ∧ c.gen = g then some c else none | none => none := by
  unfold lookC
  rw [if_neg (by omega), Int.toNat_natCast]
  cases cells[n]? <;> rfl
theorem PW.get {p : Pool α} {L : List TRef} {B : Nat} (h : PW p L B) {r : TRef} {v : α} (hl : look p r = some v) : pGet z p r.index r.gen = some (v, true) := by
  obtain ⟨n, c, h1, h2, h3, h4, h5, h6⟩ := look_cell hl
  unfold pGet Pool.get
  rw [h.dok, h6]
  simp [h5]
theorem PW.mem {p : Pool α} {L : List TRef} {B : Nat} (h : PW p L B) {r : TRef} {v : α} (hl : look p r = some v) : r ∈ L := (h.live r).1 (by rw [hl]; rfl)
theorem PW.ex {p : Pool α} {L : List TRef} {B : Nat} (h : PW p L B) {r : TRef} (hr : r ∈ L) : ∃ v, look p r = some v := Option.isSome_iff_exists.1 ((h.live r).2 hr)
theorem PW.gen_ne {p : Pool α} {L : List TRef} {B : Nat} (h : PW p L B) {r : TRef} (hr : r ∈ L) : r.gen ≠ 0 := by
  obtain ⟨v, hv⟩ := h.ex hr
  obtain ⟨n, c, h1, h2, h3, h4, h5, h6⟩ := look_cell hv
  have := (h.gen c (List.mem_of_getElem? h2)).2.2 h3
  omega
theorem look_set {cells : List (Cell α)} {n : Nat} {c : Cell α} (hc : cells[n]? = some c) (c' : Cell α) (r : TRef) : lookC (cells.set n c') r.index r.gen = if r.index = n then (if c'.live = true ∧ c'.gen = r.gen then some c' else none) else lookC cells r.index r.gen := by
  have hlt := (List.getElem?_eq_some_iff.1 hc).1
  by_cases h : r.index = n
  · rw [if_pos h, h, lookC_at]
    simp [hlt]
  · rw [if_neg h]
    unfold lookC
    by_cases h0 : r.index < 0
    · rw [if_pos h0, if_pos h0]
    · rw [if_neg h0, if_neg h0, List.getElem?_set_ne (by omega)]
theorem PW.set {p : Pool α} {L : List TRef} {B : Nat} (h : PW p L B) {r : TRef} {v : α} (hl : look p r = some v) (v' : α) :
    ∃ p', pSet p r.index r.gen v' = some (true, p') ∧ PW p' L B ∧ look p' r = some v' ∧ (∀ x, x ≠ r → look p' x = look p x) ∧ p'.cap = p.cap := by
  obtain ⟨n, c, h1, h2, h3, h4, h5, h6⟩ := look_cell hl
  have hlt := (List.getElem?_eq_some_iff.1 h2).1
  refine ⟨(p.set r.index r.gen v').2, ?_, ?_, ?_, ?_, ?_⟩
  · unfold pSet
    rw [h.dok]
    simp only [cond_true]
    unfold Pool.set
    rw [h6]
  all_goals (unfold Pool.set; rw [h6]; try simp only [h1, Int.toNat_natCast])
  · have hlook : ∀ x, (look ({ p with cells := p.cells.set n { c with v := v' }, vis := IntKind.i64.wrap (p.vis + 1) } : Pool α) x).isSome = (look p x).isSome := by
      intro x
      unfold look
      simp only [look_set h2]
      by_cases hx : x.index = n
      · rw [if_pos hx, hx, lookC_at, h2]
        simp only
        by_cases hg : c.live = true ∧ c.gen = x.gen
        · rw [if_pos hg, if_pos hg]; rfl
        · rw [if_neg hg, if_neg hg]
      · rw [if_neg hx]
    refine ⟨by simpa using h.len, h.small, by simpa using h.room, h.nodup, fun i hi => ?_, fun d hd => ?_, fun x => by rw [hlook]; exact h.live x, h.ld, h.held⟩
    · obtain ⟨h0, d, hd, hl', hg⟩ := h.free i hi
      refine ⟨h0, d, ?_, hl', hg⟩
      have : n ≠ i.toNat := by rintro rfl; rw [h2] at hd; cases hd; rw [h3] at hl'; cases hl'
      simp only
      rw [List.getElem?_set_ne this]; exact hd
    · rcases List.mem_or_eq_of_mem_set hd with hd | rfl
      · exact h.gen d hd
      · exact h.gen c (List.mem_of_getElem? h2)
  · have := look_set h2 { c with v := v' } r
    rw [if_pos h1, if_pos ⟨h3, h4⟩] at this
    unfold look
    simp only
    rw [this]; rfl
  · intro x hx
    unfold look
    simp only [look_set h2]
    by_cases hi : x.index = n
    · rw [if_pos hi, hi, lookC_at, h2]
      have : ¬ (c.live = true ∧ c.gen = x.gen) := fun hc => hx (ref_ext (hi.trans h1.symm) (hc.2.symm.trans h4))
      simp only
      rw [if_neg this, if_neg this]
    · rw [if_neg hi]
theorem PW.drop {p : Pool α} {L : List TRef} {B : Nat} (h : PW p L B) {r : TRef} {v : α} (hl : look p r = some v) :
    ∃ p', pDrop z p r.index r.gen = some ((v, true), p') ∧ PW p' (L.erase r) B ∧ (∀ x, x ≠ r → look p' x = look p x) ∧ p'.cap = p.cap := by
  obtain ⟨n, c, h1, h2, h3, h4, h5, h6⟩ := look_cell hl
  have hlt := (List.getElem?_eq_some_iff.1 h2).1
  have hm := h.mem hl
  have hlen : (L.erase r).length = L.length - 1 := List.length_erase_of_mem hm
  have hpos : 0 < L.length := List.length_pos_of_mem hm
  have hgc := h.gen c (List.mem_of_getElem? h2)
  refine ⟨(p.drop z r.index r.gen).2, ?_, ?_, ?_, ?_⟩
  · unfold pDrop
    rw [h.dok]
    simp only [cond_true]
    unfold Pool.drop
    rw [h6]
    simp [h5]
  all_goals (unfold Pool.drop; rw [h6]; try simp only [h1, Int.toNat_natCast])
  · have hlook : ∀ x, (look (⟨p.cells.set n ⟨z, c.gen, false⟩, bif decide (c.gen < 4294967295) then p.free ++ [(n : Int)] else p.free, p.cap, IntKind.i64.wrap (p.held - 1), IntKind.i64.wrap (p.vis + 1)⟩ : Pool α) x).isSome = true ↔ x ∈ L.erase r := by
      intro x
      rw [h.ld.mem_erase_iff]
      unfold look
      simp only [look_set h2]
      by_cases hi : x.index = n
      · rw [if_pos hi]
        simp only [Bool.false_eq_true, false_and, if_false, Option.map_none, Option.isSome_none, false_iff, not_and]
        intro hne hx
        obtain ⟨v', hv'⟩ := h.ex hx
        obtain ⟨n', c', g1, g2, g3, g4, g5, g6⟩ := look_cell hv'
        have : n' = n := by omega
        subst this
        rw [h2] at g2; cases g2
        exact hne (ref_ext (hi.trans h1.symm) (g4.symm.trans h4))
      · rw [if_neg hi]
        have := h.live x
        unfold look at this
        rw [this]
        exact ⟨fun hx => ⟨fun e => hi (by rw [e]; exact h1), hx⟩, fun hx => hx.2⟩
    have hnf : (n : Int) ∉ p.free := fun hn => by
      obtain ⟨_, d, hd, hl', _⟩ := h.free _ hn
      rw [Int.toNat_natCast, h2] at hd; cases hd; rw [h3] at hl'; cases hl'
    have hheld : IntKind.i64.wrap (p.held - 1) = ((L.erase r).length : Int) := by
      have e := h.held
      have hB := h.room; have hB2 := h.len; have hB3 := h.small
      have : w64 (p.held - 1) = p.held - 1 := w64_id (by omega) (by omega)
      rw [show IntKind.i64.wrap (p.held - 1) = w64 (p.held - 1) from rfl, this, hlen]; omega
    refine ⟨by simpa using h.len, h.small, ?_, ?_, fun i hi => ?_, fun d hd => ?_, hlook, h.ld.erase r, hheld⟩
    · have := h.room
      cases decide (c.gen < 4294967295) <;> simp <;> omega
    · cases decide (c.gen < 4294967295)
      · exact h.nodup
      · simp only [cond_true]
        refine List.nodup_append.2 ⟨h.nodup, List.pairwise_singleton _ _, fun a ha b hb => ?_⟩
        simp at hb; subst hb; rintro rfl; exact hnf ha
    · have hi' : i ∈ p.free ∨ (i = (n : Int) ∧ c.gen < 4294967295) := by
        revert hi
        by_cases hg : c.gen < 4294967295
        · simp only [hg, decide_true, cond_true, List.mem_append, List.mem_singleton]
          rintro (hi | hi)
          · exact .inl hi
          · exact .inr ⟨hi, trivial⟩
        · simp only [hg, decide_false, cond_false]; exact .inl
      rcases hi' with hi' | ⟨rfl, hg⟩
      · obtain ⟨h0, d, hd, hl', hg⟩ := h.free i hi'
        refine ⟨h0, d, ?_, hl', hg⟩
        have : n ≠ i.toNat := fun e => hnf (by rw [show (n : Int) = i by omega]; exact hi')
        simp only
        rw [List.getElem?_set_ne this]; exact hd
      · refine ⟨by omega, ⟨z, c.gen, false⟩, ?_, rfl, hg⟩
        simp [hlt]
    · rcases List.mem_or_eq_of_mem_set hd with hd | rfl
      · exact h.gen d hd
      · exact ⟨hgc.1, hgc.2.1, fun hh => by cases hh⟩
  · intro x hx
    unfold look
    simp only [look_set h2]
    by_cases hi : x.index = n
    · rw [if_pos hi, hi, lookC_at, h2]
      have : ¬ (c.live = true ∧ c.gen = x.gen) := fun hc => hx (ref_ext (hi.trans h1.symm) (hc.2.symm.trans h4))
      simp only [Bool.false_eq_true, false_and, if_false]
      rw [if_neg this]
    · rw [if_neg hi]
theorem PW.put_full {p : Pool α} {L : List TRef} {B : Nat} (h : PW p L B) (hc : (L.length : Int) = p.cap) (v : α) : pPut z p v = some (((0, 0), false), p) := by
  unfold pPut Pool.put
  rw [h.dok, if_pos (h.held.trans hc)]
  rfl
theorem PW.put {p : Pool α} {L : List TRef} {B : Nat} (h : PW p L B) (hc : (L.length : Int) ≠ p.cap) (hB : B + 1 < 4294967295) (v : α) :
    ∃ (r : TRef) (p' : Pool α), pPut z p v = some (((r.index, r.gen), true), p') ∧ r ∉ L ∧ r.gen ≠ 0 ∧ PW p' (r :: L) (B + 1) ∧ look p' r = some v ∧ (∀ x, x ≠ r → look p' x = look p x) ∧ p'.cap = p.cap := by
  have hh : ¬ p.held = p.cap := fun e => hc (h.held.symm.trans e)
  have hr := h.room
  have hheld : IntKind.i64.wrap (p.held + 1) = ((L.length + 1 : Nat) : Int) := by
    have e := h.held
    have hB2 := h.len
    rw [show IntKind.i64.wrap (p.held + 1) = w64 (p.held + 1) from rfl, w64_id (by omega) (by omega)]; omega
  cases hl : p.free.getLast? with
  | none =>
    have hf : p.free = [] := by simpa using hl
    have hnx : p.next z = ((p.cells.length : Int), { p with cells := p.cells ++ [⟨z, 0, false⟩] }) := by unfold Pool.next; rw [hl]
    have hcc : (p.cells ++ [⟨z, 0, false⟩])[p.cells.length]? = some ⟨z, 0, false⟩ := by simp
    have hput : p.put z v = ((((p.cells.length : Int), 1), true), ⟨p.cells ++ [⟨v, 1, true⟩], p.free, p.cap, IntKind.i64.wrap (p.held + 1), p.vis⟩) := by
      unfold Pool.put
      rw [if_neg hh, hnx]
      simp only [Int.toNat_natCast, hcc, Pool.lay]
      simp
      rfl
    have hlook : ∀ x : TRef, lookC (p.cells ++ [⟨v, 1, true⟩]) x.index x.gen = if x.index = (p.cells.length : Int) then (if (1 : Int) = x.gen then some ⟨v, 1, true⟩ else none) else lookC p.cells x.index x.gen := by
      intro x
      by_cases hi : x.index = (p.cells.length : Int)
      · rw [if_pos hi, hi, lookC_at]; simp
      · rw [if_neg hi]
        unfold lookC
        by_cases h0 : x.index < 0
        · rw [if_pos h0, if_pos h0]
        · rw [if_neg h0, if_neg h0]
          by_cases h1 : x.index.toNat < p.cells.length
          · rw [List.getElem?_append_left h1]
          · rw [List.getElem?_eq_none (by simp; omega), List.getElem?_eq_none (by omega)]
    have hnone : ∀ g : Int, look p ⟨(p.cells.length : Int), g⟩ = none := by intro g; unfold look; simp [lookC_at]
    refine ⟨⟨(p.cells.length : Int), 1⟩, ⟨p.cells ++ [⟨v, 1, true⟩], p.free, p.cap, IntKind.i64.wrap (p.held + 1), p.vis⟩, by unfold pPut; rw [h.dok, hput]; rfl, ?_, by simp, ?_, ?_, ?_, rfl⟩
    · intro hm
      have := (h.live _).2 hm
      rw [hnone] at this; cases this
    · refine ⟨by have := h.len; simp; omega, hB, by simp [hf]; simp [hf] at hr; omega, h.nodup, fun i hi => (by rw [hf] at hi; cases hi), fun d hd => ?_, fun x => ?_, ?_, hheld⟩
      · rcases List.mem_append.1 hd with hd | hd
        · exact h.gen d hd
        · simp at hd; subst hd; simp
      · unfold look
        simp only [hlook]
        by_cases hi : x.index = (p.cells.length : Int)
        · rw [if_pos hi]
          by_cases hg : (1 : Int) = x.gen
          · rw [if_pos hg]
            simp only [Option.map_some, Option.isSome_some, List.mem_cons, true_iff]
            exact .inl (ref_ext hi hg.symm)
          · rw [if_neg hg]
            simp only [Option.map_none, Option.isSome_none, Bool.false_eq_true, List.mem_cons, false_iff, not_or]
            refine ⟨fun e => hg (by rw [e]), fun hm => ?_⟩
            have := (h.live _).2 hm
            rw [show x = ⟨(p.cells.length : Int), x.gen⟩ from ref_ext hi rfl, hnone] at this; cases this
        · rw [if_neg hi]
          have := h.live x
          unfold look at this
          rw [this, List.mem_cons]
          exact ⟨.inr, fun hm => hm.resolve_left (fun e => hi (by rw [e]))⟩
      · refine List.nodup_cons.2 ⟨fun hm => ?_, h.ld⟩
        have := (h.live _).2 hm
        rw [hnone] at this; cases this
    · have := hlook ⟨(p.cells.length : Int), 1⟩
      rw [if_pos rfl, if_pos rfl] at this
      unfold look
      simp only
      rw [this]; rfl
    · intro x hx
      unfold look
      simp only [hlook]
      by_cases hi : x.index = (p.cells.length : Int)
      · rw [if_pos hi]
        have : ¬ ((1 : Int) = x.gen) := fun e => hx (ref_ext hi e.symm)
        rw [if_neg this, hi, lookC_at]; simp
      · rw [if_neg hi]
  | some i =>
    have hm : i ∈ p.free := List.mem_of_getLast? hl
    obtain ⟨h0, c, hcell, hlv, hg⟩ := h.free i hm
    have hlt := (List.getElem?_eq_some_iff.1 hcell).1
    have hsplit : p.free = p.free.dropLast ++ [i] := by
      have hne : p.free ≠ [] := List.ne_nil_of_mem hm
      have := List.dropLast_concat_getLast hne
      rw [List.getLast?_eq_some_getLast hne] at hl
      simp at hl; rw [hl] at this; exact this.symm
    have hgc := h.gen c (List.mem_of_getElem? hcell)
    have hnx : p.next z = (i, { p with free := p.free.dropLast }) := by unfold Pool.next; rw [hl]
    have hgw : IntKind.i64.wrap (c.gen + 1) = c.gen + 1 := by
      rw [show IntKind.i64.wrap (c.gen + 1) = w64 (c.gen + 1) from rfl, w64_id (by omega) (by omega)]
    have hput : p.put z v = (((i, c.gen + 1), true), ⟨p.cells.set i.toNat ⟨v, c.gen + 1, true⟩, p.free.dropLast, p.cap, IntKind.i64.wrap (p.held + 1), p.vis⟩) := by
      unfold Pool.put
      rw [if_neg hh, hnx]
      simp only [hcell, Pool.lay, hgw]
    have hnone : ∀ x : TRef, x.index = i → look p x = none := by
      intro x hx
      unfold look
      have : lookC p.cells x.index x.gen = none := by
        rw [hx, show i = ((i.toNat : Nat) : Int) by omega, lookC_at, hcell]
        simp [hlv]
      rw [this]; rfl
    have hii : ∀ x : TRef, x.index = ((i.toNat : Nat) : Int) ↔ x.index = i := fun x => by omega
    refine ⟨⟨i, c.gen + 1⟩, ⟨p.cells.set i.toNat ⟨v, c.gen + 1, true⟩, p.free.dropLast, p.cap, IntKind.i64.wrap (p.held + 1), p.vis⟩, by unfold pPut; rw [h.dok, hput]; rfl, ?_, by simp; omega, ?_, ?_, ?_, rfl⟩
    · intro hmm
      have := (h.live _).2 hmm
      rw [hnone _ rfl] at this; cases this
    · have hdl : p.free.dropLast.length = p.free.length - 1 := by simp
      have hfp : 0 < p.free.length := List.length_pos_of_mem hm
      refine ⟨by have := h.len; simp; omega, hB, by simp; omega, ?_, fun j hj => ?_, fun d hd => ?_, fun x => ?_, ?_, hheld⟩
      · have := h.nodup
        rw [hsplit] at this
        exact (List.nodup_append.1 this).1
      · have hj' : j ∈ p.free := by rw [hsplit]; exact List.mem_append_left _ hj
        obtain ⟨j0, d, hd, hl', hg'⟩ := h.free j hj'
        refine ⟨j0, d, ?_, hl', hg'⟩
        have hne : i.toNat ≠ j.toNat := by
          intro e
          have : i = j := by omega
          subst this
          have hn := h.nodup
          rw [hsplit] at hn
          exact (List.nodup_append.1 hn).2.2 i hj i (by simp) rfl
        simp only
        rw [List.getElem?_set_ne hne]; exact hd
      · rcases List.mem_or_eq_of_mem_set hd with hd | rfl
        · exact h.gen d hd
        · exact ⟨by simp only; omega, by simp only; omega, fun _ => by simp only; omega⟩
      · unfold look
        simp only [look_set hcell, hii]
        by_cases hi : x.index = i
        · rw [if_pos hi]
          by_cases hgx : c.gen + 1 = x.gen
          · simp only [hgx, and_self, if_true, Option.map_some, Option.isSome_some, List.mem_cons, true_iff]
            exact .inl (ref_ext hi rfl)
          · simp only [hgx, and_false, if_false, Option.map_none, Option.isSome_none, Bool.false_eq_true, List.mem_cons, false_iff, not_or]
            refine ⟨fun e => hgx (by rw [e]), fun hmm => ?_⟩
            have := (h.live _).2 hmm
            rw [hnone _ hi] at this; cases this
        · rw [if_neg hi]
          have := h.live x
          unfold look at this
          rw [this, List.mem_cons]
          exact ⟨.inr, fun hmm => hmm.resolve_left (fun e => hi (by rw [e]))⟩
      · refine List.nodup_cons.2 ⟨fun hmm => ?_, h.ld⟩
        have := (h.live _).2 hmm
        rw [hnone _ rfl] at this; cases this
    · have := look_set hcell ⟨v, c.gen + 1, true⟩ ⟨i, c.gen + 1⟩
      rw [if_pos (by simp only; omega), if_pos ⟨rfl, rfl⟩] at this
      unfold look
      simp only
      rw [this]; rfl
    · intro x hx
      by_cases hi : x.index = i
      · rw [hnone x hi]
        unfold look
        simp only [look_set hcell, hii]
        have : ¬ (c.gen + 1 = x.gen) := fun e => hx (ref_ext hi e.symm)
        rw [if_pos hi]; simp [this]
      · unfold look
        simp only [look_set hcell, hii]
        rw [if_neg hi]
end
end Go.Proofs.YtpeoalmhccmdiaaGreat
namespace Go.Proofs.YtpeoalmhccmdiaaGreat
open Go Go.Proofs.YtpeoalmhccmdiaaGreat.Sx
inductive Tr (E : Type) where
  | nil
  | node (r : TRef) (e : E) (l u : Tr E)
namespace Tr
variable {E : Type}
def size : Tr E → Nat
  | nil => 0
  | node _ _ l u => l.size + 1 + u.size
abbrev w (t : Tr E) : Nat := t.size + 1
def toList : Tr E → List E
  | nil => []
  | node _ e l u => l.toList ++ e :: u.toList
def refs : Tr E → List TRef
  | nil => []
  | node r _ l u => l.refs ++ r :: u.refs
theorem len_toList : ∀ t : Tr E, t.toList.length = t.size
  | nil => rfl
  | node _ _ l u => by simp only [toList, List.length_append, List.length_cons, len_toList l, len_toList u, size]; omega
theorem len_refs : ∀ t : Tr E, t.refs.length = t.size
  | nil => rfl
  | node _ _ l u => by simp only [refs, List.length_append, List.length_cons, len_refs l, len_refs u, size]; omega
def turnL : Tr E → Tr E
  | node r e l (node r2 e2 a b) => node r2 e2 (node r e l a) b
  | t => t
def turnR : Tr E → Tr E
  | node r e (node r2 e2 a b) u => node r2 e2 a (node r e b u)
  | t => t
def bal : Tr E → Tr E
  | nil => nil
  | node r e l u =>
    if u.w > 3 * l.w then (match u with
      | node r2 e2 a b => if a.w ≥ 2 * b.w then turnL (node r e l (turnR (node r2 e2 a b))) else turnL (node r e l (node r2 e2 a b))
      | nil => node r e l u)
    else if l.w > 3 * u.w then (match l with
      | node r2 e2 a b => if b.w ≥ 2 * a.w then turnR (node r e (turnL (node r2 e2 a b)) u) else turnR (node r e (node r2 e2 a b) u)
      | nil => node r e l u)
    else node r e l u
def link : Nat → Tr E → TRef → E → Tr E → Tr E
  | 0, l, r, e, u => node r e l u
  | n + 1, l, r, e, u =>
    if u.w > 3 * l.w then (match u with
      | node r2 e2 a b => bal (node r2 e2 (link n l r e a) b)
      | nil => node r e l u)
    else if l.w > 3 * u.w then (match l with
      | node r2 e2 a b => bal (node r2 e2 a (link n b r e u))
      | nil => node r e l u)
    else node r e l u
theorem bal_node (r : TRef) (e : E) (l u : Tr E) : bal (node r e l u) =
    if u.w > 3 * l.w then (match u with
      | node r2 e2 a b => if a.w ≥ 2 * b.w then turnL (node r e l (turnR (node r2 e2 a b))) else turnL (node r e l (node r2 e2 a b))
      | nil => node r e l u)
    else if l.w > 3 * u.w then (match l with
      | node r2 e2 a b => if b.w ≥ 2 * a.w then turnR (node r e (turnL (node r2 e2 a b)) u) else turnR (node r e (node r2 e2 a b) u)
      | nil => node r e l u)
    else node r e l u := by rw [bal.eq_def]
theorem link_succ (n : Nat) (l : Tr E) (r : TRef) (e : E) (u : Tr E) : link (n + 1) l r e u =
    if u.w > 3 * l.w then (match u with
      | node r2 e2 a b => bal (node r2 e2 (link n l r e a) b)
      | nil => node r e l u)
    else if l.w > 3 * u.w then (match l with
      | node r2 e2 a b => bal (node r2 e2 a (link n b r e u))
      | nil => node r e l u)
    else node r e l u := by rw [link.eq_def]
theorem turnL_list (t : Tr E) : t.turnL.toList = t.toList := by
  unfold turnL; split <;> simp [toList]
theorem turnR_list (t : Tr E) : t.turnR.toList = t.toList := by
  unfold turnR; split <;> simp [toList]
theorem turnL_refs (t : Tr E) : t.turnL.refs = t.refs := by
  unfold turnL; split <;> simp [refs]
theorem turnR_refs (t : Tr E) : t.turnR.refs = t.refs := by
  unfold turnR; split <;> simp [refs]
theorem bal_list (t : Tr E) : t.bal.toList = t.toList := by
  cases t with
  | nil => rfl
  | node r e l u =>
    rw [bal_node]
    split
    · cases u with
      | nil => rfl
      | node r2 e2 a b =>
        simp only
        split
        · rw [turnL_list]; simp only [toList]; rw [turnR_list]; simp [toList]
        · rw [turnL_list]
    · split
      · cases l with
        | nil => rfl
        | node r2 e2 a b =>
          simp only
          split
          · rw [turnR_list]; simp only [toList]; rw [turnL_list]; simp [toList]
          · rw [turnR_list]
      · rfl
theorem bal_refs (t : Tr E) : t.bal.refs = t.refs := by
  cases t with
  | nil => rfl
  | node r e l u =>
    rw [bal_node]
    split
    · cases u with
      | nil => rfl
      | node r2 e2 a b =>
        simp only
        split
        · rw [turnL_refs]; simp only [refs]; rw [turnR_refs]; simp [refs]
        · rw [turnL_refs]
    · split
      · cases l with
        | nil => rfl
        | node r2 e2 a b =>
          simp only
          split
          · rw [turnR_refs]; simp only [refs]; rw [turnL_refs]; simp [refs]
          · rw [turnR_refs]
      · rfl
theorem link_list : ∀ (n : Nat) (l : Tr E) (r : TRef) (e : E) (u : Tr E), (link n l r e u).toList = l.toList ++ e :: u.toList
  | 0, l, r, e, u => rfl
  | n + 1, l, r, e, u => by
    rw [link_succ]
    split
    · cases u with
      | nil => rfl
      | node r2 e2 a b => simp only [bal_list, toList, link_list n l r e a]; simp
    · split
      · cases l with
        | nil => rfl
        | node r2 e2 a b => simp only [bal_list, toList, link_list n b r e u]; simp
      · rfl
theorem link_refs : ∀ (n : Nat) (l : Tr E) (r : TRef) (e : E) (u : Tr E), (link n l r e u).refs = l.refs ++ r :: u.refs
  | 0, l, r, e, u => rfl
  | n + 1, l, r, e, u => by
    rw [link_succ]
    split
    · cases u with
      | nil => rfl
      | node r2 e2 a b => simp only [bal_refs, refs, link_refs n l r e a]; simp
    · split
      · cases l with
        | nil => rfl
        | node r2 e2 a b => simp only [bal_refs, refs, link_refs n b r e u]; simp
      · rfl
theorem link_size (n : Nat) (l : Tr E) (r : TRef) (e : E) (u : Tr E) : (link n l r e u).size = l.size + 1 + u.size := by
  rw [← len_toList, link_list]; simp [len_toList]; omega
def last (k : Nat) : Tr E → Tr E × Option (TRef × E)
  | nil => (nil, none)
  | node r e l u => match u with
    | nil => (l, some (r, e))
    | node r2 e2 a b => (link k l r e (last k (node r2 e2 a b)).1, (last k (node r2 e2 a b)).2)
def merge (k : Nat) (l u : Tr E) : Tr E := match l, u with
  | nil, u => u
  | l, nil => l
  | l, u => match last k l with
    | (rest, some (m, e)) => link k rest m e u
    | (rest, none) => u
theorem last_spec (k : Nat) : ∀ (t : Tr E), t ≠ nil → ∃ m e, (last k t).2 = some (m, e) ∧ t.toList = (last k t).1.toList ++ [e] ∧ t.refs = (last k t).1.refs ++ [m]
  | nil, h => absurd rfl h
  | node r e l nil, _ => ⟨r, e, rfl, by simp [last, toList], by simp [last, refs]⟩
  | node r e l (node r2 e2 a b), _ => by
    obtain ⟨m, x, h1, h2, h3⟩ := last_spec k (node r2 e2 a b) (by simp)
    refine ⟨m, x, ?_, ?_, ?_⟩
    · unfold last; exact h1
    · have : (last k (node r e l (node r2 e2 a b))).1 = link k l r e (last k (node r2 e2 a b)).1 := by rw [last]
      rw [this, link_list]
      have e1 : (node r e l (node r2 e2 a b)).toList = l.toList ++ e :: (node r2 e2 a b).toList := rfl
      rw [e1, h2]; simp
    · have : (last k (node r e l (node r2 e2 a b))).1 = link k l r e (last k (node r2 e2 a b)).1 := by rw [last]
      rw [this, link_refs]
      have e1 : (node r e l (node r2 e2 a b)).refs = l.refs ++ r :: (node r2 e2 a b).refs := rfl
      rw [e1, h3]; simp
theorem merge_spec (k : Nat) (l u : Tr E) : (merge k l u).toList = l.toList ++ u.toList ∧ (merge k l u).refs = l.refs ++ u.refs := by
  cases l with
  | nil => simp [merge, toList, refs]
  | node r e a b =>
    cases u with
    | nil => simp [merge, toList, refs]
    | node r2 e2 c d =>
      obtain ⟨m, x, h1, h2, h3⟩ := last_spec k (node r e a b) (by simp)
      have : merge k (node r e a b) (node r2 e2 c d) = link k (last k (node r e a b)).1 m x (node r2 e2 c d) := by
        unfold merge
        have : last k (node r e a b) = ((last k (node r e a b)).1, some (m, x)) := by rw [← h1]
        simp only
        rw [this]
      rw [this, link_list, link_refs, h2, h3]
      simp
end Tr
structure OpsOk {E A : Type} (O : Ops E A) (k N : Nat) (G : E → Prop) (S : A → List E → Prop) (lt : E → E → Prop) : Prop where
  cmp : ∀ a b, ∃ c, O.cmp k a b = some c ∧ (c < 0 ↔ lt a b) ∧ (c > 0 ↔ lt b a)
  sum : ∀ e, G e → ∃ s, O.sum k e = some s ∧ S s [e]
  plus : ∀ {a b l r}, S a l → S b r → (∀ e ∈ l ++ r, G e) → (l ++ r).length < N → ∃ c, O.plus k a b = some c ∧ S c (l ++ r)
  zero : S O.zA []
  irrefl : ∀ a, ¬ lt a a
  trans : ∀ {a b c}, lt a b → lt b c → lt a c
  left : ∀ {a b c}, ¬ lt a b → ¬ lt b a → lt a c → lt b c
  right : ∀ {a b c}, ¬ lt a b → ¬ lt b a → lt c a → lt c b
  big : N < 4294967296
section
variable {E A : Type} {O : Ops E A} {k N : Nat} {G : E → Prop} {S : A → List E → Prop} {lt : E → E → Prop}
abbrev PN (E A : Type) := Pool (TNode E A)
def Rep (S : A → List E → Prop) (p : PN E A) : TRef → Tr E → Prop
  | r, .nil => r = zTRef
  | r, .node r' e l u => r = r' ∧ r.gen ≠ 0 ∧ ∃ n, look p r = some n ∧ n.e = e ∧ n.size = ((l.size + 1 + u.size : Nat) : Int) ∧ S n.sum (l.toList ++ e :: u.toList) ∧ Rep S p n.left l ∧ Rep S p n.right u
theorem Rep.frame {p p' : PN E A} : ∀ {t : Tr E} {r : TRef}, Rep S p r t → (∀ x ∈ t.refs, look p' x = look p x) → Rep S p' r t
  | .nil, _, h, _ => h
  | .node r' e l u, r, ⟨h1, h2, n, h3, h4, h5, h6, h7, h8⟩, hf => by
    subst h1
    refine ⟨rfl, h2, n, (hf r (by simp [Tr.refs])).trans h3, h4, h5, h6, h7.frame (fun x hx => hf x (by simp [Tr.refs, hx])), h8.frame (fun x hx => hf x (by simp [Tr.refs, hx]))⟩
theorem Rep.sub {p : PN E A} {L : List TRef} {B : Nat} (hP : PW p L B) : ∀ {t : Tr E} {r : TRef}, Rep S p r t → ∀ x ∈ t.refs, x ∈ L
  | .nil, _, _, x, hx => by simp [Tr.refs] at hx
  | .node r' e l u, r, ⟨h1, h2, n, h3, h4, h5, h6, h7, h8⟩, x, hx => by
    subst h1
    simp only [Tr.refs, List.mem_append, List.mem_cons] at hx
    rcases hx with hx | rfl | hx
    · exact h7.sub hP x hx
    · exact hP.mem h3
    · exact h8.sub hP x hx
theorem Rep.nil_iff {p : PN E A} {r : TRef} {t : Tr E} (h : Rep S p r t) : r.gen = 0 ↔ t = .nil := by
  cases t with
  | nil => have : r = zTRef := h; rw [this]; simp
  | node r' e l u => obtain ⟨h1, h2, _⟩ := h; simp [h2]
structure IsN (S : A → List E → Prop) (p : PN E A) (r : TRef) (t : Tr E) (n : TNode E A) : Prop where
  size : n.size = (t.size : Int)
  sum : S n.sum t.toList
  node : ∀ {r' e l u}, t = .node r' e l u → r = r' ∧ n.e = e ∧ Rep S p n.left l ∧ Rep S p n.right u ∧ look p r = some n
theorem get_ok (ok : OpsOk O k N G S lt) {p : PN E A} {L : List TRef} {B : Nat} (hP : PW p L B) {t : Tr E} {r : TRef} (h : Rep S p r t) : ∃ n, Tree_get.f O k p r = some n ∧ IsN S p r t n := by
  unfold Tree_get.f
  cases t with
  | nil =>
    have : r = zTRef := h
    subst this
    exact ⟨zNode O, rfl, rfl, ok.zero, fun e => by cases e⟩
  | node r' e l u =>
    obtain ⟨h1, h2, n, h3, h4, h5, h6, h7, h8⟩ := h
    subst h1
    have e0 : (r.gen == 0) = false := by simpa using h2
    refine ⟨n, ?_, h5, by rw [Tr.toList]; exact h6, fun e => by cases e; exact ⟨rfl, h4, h7, h8, h3⟩⟩
    rw [e0, hP.get h3]; rfl
theorem weight_ok (ok : OpsOk O k N G S lt) {p : PN E A} {L : List TRef} {B : Nat} (hP : PW p L B) {t : Tr E} {r : TRef} (h : Rep S p r t) (hs : t.size < 4294967296) : Tree_weight.f O k p r = some ((t.w : Nat) : Int) := by
  obtain ⟨n, h1, h2⟩ := get_ok ok hP h
  unfold Tree_weight.f
  rw [h1]
  simp only [Option.bind_some, h2.size]
  rw [w64_id (by omega) (by omega)]
  rfl
structure Left (S : A → List E → Prop) (p p' : PN E A) (L : List TRef) (B : Nat) (r : TRef) (t : Tr E) (F : List TRef) : Prop where
  pw : PW p' L B
  rep : Rep S p' r t
  frame : ∀ x, x ∉ F → look p' x = look p x
  cap : p'.cap = p.cap
theorem lay_ok (ok : OpsOk O k N G S lt) {p : PN E A} {L : List TRef} {B : Nat} (hP : PW p L B) {r a b : TRef} {n0 : TNode E A} (hr : look p r = some n0) {l u : Tr E} (hl : Rep S p a l) (hu : Rep S p b u)
    (h1 : r ∉ l.refs) (h2 : r ∉ u.refs) (hG : ∀ e ∈ l.toList ++ n0.e :: u.toList, G e) (hN : l.size + 1 + u.size < N) : ∃ p', Tree_lay.f O k p r a b = some (r, p') ∧ Left S p p' L B r (.node r n0.e l u) [r] := by
  have hg := hP.gen_ne (hP.mem hr)
  have e0 : (r.gen == 0) = false := by simpa using hg
  have hget : Tree_get.f O k p r = some n0 := by unfold Tree_get.f; rw [e0, hP.get hr]; rfl
  obtain ⟨nl, l1, l2⟩ := get_ok ok hP hl
  obtain ⟨nu, u1, u2⟩ := get_ok ok hP hu
  obtain ⟨s, s1, s2⟩ := ok.sum n0.e (hG _ (by simp))
  obtain ⟨c1, c2, c3⟩ := ok.plus l2.sum s2 (fun e he => hG e (by simp at he ⊢; rcases he with he | he; exact .inl he; exact .inr (.inl he))) (by simp [Tr.len_toList]; omega)
  obtain ⟨d1, d2, d3⟩ := ok.plus c3 u2.sum (fun e he => hG e (by simpa [or_assoc] using he)) (by simp [Tr.len_toList]; omega)
  have hb := ok.big
  have hsz : w64 (w64 (nl.size + 1) + nu.size) = ((l.size + 1 + u.size : Nat) : Int) := by
    have e1 : w64 ((l.size : Int) + 1) = (l.size : Int) + 1 := w64_id (by omega) (by omega)
    rw [l2.size, u2.size, e1, w64_id (by omega) (by omega)]; omega
  obtain ⟨p', q1, q2, q3, q4, q5⟩ := hP.set hr (TNode.mk n0.e a b (w64 (w64 (nl.size + 1) + nu.size)) d1)
  refine ⟨p', ?_, q2, ⟨rfl, hg, _, q3, rfl, hsz, by simpa using d3, hl.frame (fun x hx => q4 x (fun e => h1 (e ▸ hx))), hu.frame (fun x hx => q4 x (fun e => h2 (e ▸ hx)))⟩, fun x hx => q4 x (by simpa using hx), q5⟩
  unfold Tree_lay.f
  rw [hget, l1, u1]
  simp only [Option.bind_some, s1, c2, d2, q1]
theorem turnLeft_ok (ok : OpsOk O k N G S lt) {p : PN E A} {L : List TRef} {B : Nat} (hP : PW p L B) {r r' r2 : TRef} {e e2 : E} {l a b : Tr E} (h : Rep S p r (.node r' e l (.node r2 e2 a b))) (hnd : (Tr.node r' e l (.node r2 e2 a b)).refs.Nodup)
    (hG : ∀ x ∈ (Tr.node r' e l (.node r2 e2 a b)).toList, G x) (hN : (Tr.node r' e l (.node r2 e2 a b)).size < N) : ∃ p', Tree_turnLeft.f O k p r = some (r2, p') ∧ Left S p p' L B r2 (.node r2 e2 (.node r' e l a) b) (Tr.node r' e l (.node r2 e2 a b)).refs := by
  obtain ⟨n, g1, g2⟩ := get_ok ok hP h
  obtain ⟨rfl, he, hl, hu, hlk⟩ := g2.node rfl
  obtain ⟨n2, g3, g4⟩ := get_ok ok hP hu
  obtain ⟨hr2, he2, ha, hb, hlk2⟩ := g4.node rfl
  simp only [Tr.refs, List.nodup_append, List.nodup_cons, List.mem_append, List.mem_cons, not_or] at hnd
  obtain ⟨nl, ⟨⟨nr1, nr2, nr3⟩, na, ⟨nb1, nb⟩, nab⟩, nlu⟩ := hnd
  simp only [Tr.toList, List.mem_append, List.mem_cons] at hG
  simp only [Tr.size] at hN
  have hra : r ∉ a.refs := nr1
  obtain ⟨p1, q1, q2⟩ := lay_ok ok hP hlk hl ha (fun hm => nlu _ hm _ (.inl rfl) rfl) nr1 (fun x hx => hG x (by rw [he] at hx; simp at hx ⊢; rcases hx with hx | hx | hx <;> simp [hx])) (by omega)
  have hb1 : Rep S p1 n2.right b := hb.frame (fun x hx => q2.frame x (by simp; rintro rfl; exact nr3 hx))
  have hlk2' : look p1 r2 = some n2 := by rw [q2.frame r2 (by simp; exact fun e => nr2 e.symm), ← hr2]; exact hlk2
  have hrep1 : Rep S p1 r (.node r e l a) := by have := q2.rep; rw [he] at this; exact this
  obtain ⟨p2, q3, q4⟩ := lay_ok ok q2.pw hlk2' hrep1 hb1 (by simp only [Tr.refs, List.mem_append, List.mem_cons, not_or]; exact ⟨fun hm => nlu _ hm _ (.inr (.inr (.inl rfl))) rfl, fun e => nr2 e.symm, fun hm => nab _ hm _ (.inl rfl) rfl⟩) nb1
    (fun x hx => hG x (by rw [he2] at hx; simp [Tr.toList] at hx ⊢; rcases hx with hx | hx | hx | hx | hx <;> simp [hx])) (by simp only [Tr.size]; omega)
  refine ⟨p2, ?_, q4.pw, by have := q4.rep; rw [he2] at this; exact this, fun x hx => ?_, q4.cap.trans q2.cap⟩
  · unfold Tree_turnLeft.f
    rw [g1]
    simp only [Option.bind_some, g3, q1]
    rw [hr2, q3]; rfl
  · simp only [Tr.refs, List.mem_append, List.mem_cons, not_or] at hx
    rw [q4.frame x (by simp; exact hx.2.2.2.1), q2.frame x (by simp; exact hx.2.1)]
theorem turnRight_ok (ok : OpsOk O k N G S lt) {p : PN E A} {L : List TRef} {B : Nat} (hP : PW p L B) {r r' r2 : TRef} {e e2 : E} {u a b : Tr E} (h : Rep S p r (.node r' e (.node r2 e2 a b) u)) (hnd : (Tr.node r' e (.node r2 e2 a b) u).refs.Nodup)
    (hG : ∀ x ∈ (Tr.node r' e (.node r2 e2 a b) u).toList, G x) (hN : (Tr.node r' e (.node r2 e2 a b) u).size < N) : ∃ p', Tree_turnRight.f O k p r = some (r2, p') ∧ Left S p p' L B r2 (.node r2 e2 a (.node r' e b u)) (Tr.node r' e (.node r2 e2 a b) u).refs := by
  obtain ⟨n, g1, g2⟩ := get_ok ok hP h
  obtain ⟨rfl, he, hl, hu, hlk⟩ := g2.node rfl
  obtain ⟨n2, g3, g4⟩ := get_ok ok hP hl
  obtain ⟨hr2, he2, ha, hb, hlk2⟩ := g4.node rfl
  simp only [Tr.refs, List.nodup_append, List.nodup_cons, List.mem_append, List.mem_cons, not_or] at hnd
  obtain ⟨⟨na, ⟨nb1, nb⟩, nab⟩, ⟨nu1, nu⟩, nlu⟩ := hnd
  simp only [Tr.toList, List.mem_append, List.mem_cons] at hG
  simp only [Tr.size] at hN
  have hne : r2 ≠ r := fun e => nlu r2 (.inr (.inl rfl)) r (.inl rfl) e
  obtain ⟨p1, q1, q2⟩ := lay_ok ok hP hlk hb hu (fun hm => nlu r (.inr (.inr hm)) r (.inl rfl) rfl) nu1 (fun x hx => hG x (by rw [he] at hx; simp at hx ⊢; rcases hx with hx | hx | hx <;> simp [hx])) (by omega)
  have ha1 : Rep S p1 n2.left a := ha.frame (fun x hx => q2.frame x (by simp; rintro rfl; exact nlu _ (.inl hx) _ (.inl rfl) rfl))
  have hlk2' : look p1 r2 = some n2 := by rw [q2.frame r2 (by simp; exact hne), ← hr2]; exact hlk2
  have hrep1 : Rep S p1 r (.node r e b u) := by have := q2.rep; rw [he] at this; exact this
  obtain ⟨p2, q3, q4⟩ := lay_ok ok q2.pw hlk2' ha1 hrep1 (fun hm => nab _ hm _ (.inl rfl) rfl) (by simp only [Tr.refs, List.mem_append, List.mem_cons, not_or]; exact ⟨nb1, hne, fun hm => nlu _ (.inr (.inl rfl)) _ (.inr hm) rfl⟩)
    (fun x hx => hG x (by rw [he2] at hx; simp [Tr.toList] at hx ⊢; rcases hx with hx | hx | hx | hx | hx <;> simp [hx])) (by simp only [Tr.size]; omega)
  refine ⟨p2, ?_, q4.pw, by have := q4.rep; rw [he2] at this; exact this, fun x hx => ?_, q4.cap.trans q2.cap⟩
  · unfold Tree_turnRight.f
    rw [g1]
    simp only [Option.bind_some, g3, q1]
    rw [hr2, q3]; rfl
  · simp only [Tr.refs, List.mem_append, List.mem_cons, not_or] at hx
    rw [q4.frame x (by simp; exact hx.1.2.1), q2.frame x (by simp; exact hx.2.1)]
end
end Go.Proofs.YtpeoalmhccmdiaaGreat
namespace Go.Proofs.YtpeoalmhccmdiaaGreat
open Go Go.Proofs.YtpeoalmhccmdiaaGreat.Sx
section
variable {E A : Type} {O : Ops E A} {k N : Nat} {G : E → Prop} {S : A → List E → Prop} {lt : E → E → Prop}
theorem dec_gt3 {a b : Nat} (hb : b < 4294967296) : decide ((a : Int) > w64 (3 * (b : Int))) = decide (a > 3 * b) := by
  rw [w64_id (by omega) (by omega)]
  by_cases h : a > 3 * b
  · simp only [h, decide_true, decide_eq_true_eq]; omega
  · simp only [h, decide_false, decide_eq_false_iff_not]; omega
theorem dec_ge2 {a b : Nat} (hb : b < 4294967296) : decide ((a : Int) ≥ w64 (2 * (b : Int))) = decide (a ≥ 2 * b) := by
  rw [w64_id (by omega) (by omega)]
  by_cases h : a ≥ 2 * b
  · simp only [h, decide_true, decide_eq_true_eq]; omega
  · simp only [h, decide_false, decide_eq_false_iff_not]; omega
theorem nodup_left {l u : List TRef} {r : TRef} (h : (l ++ r :: u).Nodup) : l.Nodup := (List.nodup_append.1 h).1
theorem nodup_right {l u : List TRef} {r : TRef} (h : (l ++ r :: u).Nodup) : u.Nodup := (List.nodup_cons.1 (List.nodup_append.1 h).2.1).2
theorem nodup_l {l u : List TRef} {r : TRef} (h : (l ++ r :: u).Nodup) : r ∉ l := fun hm => (List.nodup_append.1 h).2.2 r hm r List.mem_cons_self rfl
theorem nodup_u {l u : List TRef} {r : TRef} (h : (l ++ r :: u).Nodup) : r ∉ u := (List.nodup_cons.1 (List.nodup_append.1 h).2.1).1
theorem nodup_lu {l u : List TRef} {r : TRef} (h : (l ++ r :: u).Nodup) {x : TRef} (hl : x ∈ l) (hu : x ∈ u) : False := (List.nodup_append.1 h).2.2 x hl x (List.mem_cons_of_mem _ hu) rfl
theorem balance_ok (ok : OpsOk O k N G S lt) {p : PN E A} {L : List TRef} {B : Nat} (hP : PW p L B) {r r0 : TRef} {e : E} {l u : Tr E} (h : Rep S p r (.node r0 e l u)) (hnd : (Tr.node r0 e l u).refs.Nodup)
    (hG : ∀ x ∈ (Tr.node r0 e l u).toList, G x) (hN : (Tr.node r0 e l u).size < N) : ∃ r' p', Tree_balance.f O k p r = some (r', p') ∧ Left S p p' L B r' (Tr.bal (.node r0 e l u)) (Tr.node r0 e l u).refs := by
  have hbig := ok.big
  obtain ⟨n, g1, g2⟩ := get_ok ok hP h
  obtain ⟨rfl, he, hl, hu, hlk⟩ := g2.node rfl
  have hN' := hN
  simp only [Tr.size] at hN'
  have wl := weight_ok ok hP hl (by omega)
  have wu := weight_ok ok hP hu (by omega)
  unfold Tree_balance.f
  rw [g1]
  simp only [Option.bind_some, wl, wu]
  rw [dec_gt3 (by simp only [Tr.w]; omega), dec_gt3 (by simp only [Tr.w]; omega), Tr.bal_node]
  by_cases c1 : u.w > 3 * l.w
  · simp only [c1, decide_true, cond_true, if_true]
    cases u with
    | nil => simp only [Tr.w, Tr.size] at c1; omega
    | node r2 e2 a b =>
      obtain ⟨n2, q1, q2⟩ := get_ok ok hP hu
      obtain ⟨hr2, he2, ha, hb, hlk2⟩ := q2.node rfl
      simp only [Tr.size] at hN'
      have wa := weight_ok ok hP ha (by omega)
      have wb := weight_ok ok hP hb (by omega)
      simp only [q1, Option.bind_some, wa, wb]
      rw [dec_ge2 (by simp only [Tr.w]; omega)]
      by_cases c2 : a.w ≥ 2 * b.w
      · simp only [c2, decide_true, cond_true, if_true]
        cases a with
        | nil => simp only [Tr.w, Tr.size] at c2; omega
        | node r3 e3 c d =>
          have hndu : (Tr.node r2 e2 (.node r3 e3 c d) b).refs.Nodup := nodup_right hnd
          obtain ⟨p1, t1, t2⟩ := turnRight_ok ok hP hu hndu (fun x hx => hG x (by simp [Tr.toList] at hx ⊢; rcases hx with hx | hx | hx | hx | hx <;> simp [hx])) (by simp only [Tr.size] at hN ⊢; omega)
          have hlk1 : look p1 r = some n := by rw [t2.frame r (nodup_u hnd)]; exact hlk
          have hl1 : Rep S p1 n.left l := hl.frame (fun x hx => t2.frame x (fun hm => nodup_lu hnd hx hm))
          have hrf : (Tr.node r3 e3 c (.node r2 e2 d b)).refs = (Tr.node r2 e2 (.node r3 e3 c d) b).refs := by simp [Tr.refs]
          have htl : (Tr.node r3 e3 c (.node r2 e2 d b)).toList = (Tr.node r2 e2 (.node r3 e3 c d) b).toList := by simp [Tr.toList]
          obtain ⟨p2, v1, v2⟩ := lay_ok ok t2.pw hlk1 hl1 t2.rep (nodup_l hnd) (by rw [hrf]; exact nodup_u hnd) (fun x hx => hG x (by rw [he, htl] at hx; exact hx)) (by simp only [Tr.size] at hN ⊢; omega)
          have hrep : Rep S p2 r (.node r e l (.node r3 e3 c (.node r2 e2 d b))) := by have := v2.rep; rw [he] at this; exact this
          obtain ⟨p3, y1, y2⟩ := turnLeft_ok ok v2.pw hrep (by simp only [Tr.refs] at hnd ⊢; simpa using hnd) (fun x hx => hG x (by simp [Tr.toList] at hx ⊢; exact hx)) (by simp only [Tr.size] at hN ⊢; omega)
          refine ⟨r3, p3, ?_, y2.pw, ?_, fun x hx => ?_, y2.cap.trans (v2.cap.trans t2.cap)⟩
          · simp only [t1, Option.bind_some, v1, y1]
          · simp only [Tr.turnR, Tr.turnL]; exact y2.rep
          · have hx2 : x ∉ (Tr.node r e l (.node r3 e3 c (.node r2 e2 d b))).refs := by simpa [Tr.refs] using hx
            simp only [Tr.refs, List.mem_append, List.mem_cons, not_or] at hx
            rw [y2.frame x hx2, v2.frame x (by simp; exact hx.2.1), t2.frame x (by simp only [Tr.refs, List.mem_append, List.mem_cons, not_or]; exact hx.2.2)]
      · simp only [c2, decide_false, cond_false, if_false]
        obtain ⟨p1, t1, t2⟩ := turnLeft_ok ok hP h hnd hG hN
        refine ⟨r2, p1, ?_, t2.pw, by simp only [Tr.turnL]; exact t2.rep, t2.frame, t2.cap⟩
        simp only [t1, Option.bind_some]
  · simp only [c1, decide_false, cond_false, if_false]
    by_cases c3 : l.w > 3 * u.w
    · simp only [c3, decide_true, cond_true, if_true]
      cases l with
      | nil => simp only [Tr.w, Tr.size] at c3; omega
      | node r2 e2 a b =>
        obtain ⟨n2, q1, q2⟩ := get_ok ok hP hl
        obtain ⟨hr2, he2, ha, hb, hlk2⟩ := q2.node rfl
        simp only [Tr.size] at hN'
        have wa := weight_ok ok hP ha (by omega)
        have wb := weight_ok ok hP hb (by omega)
        simp only [q1, Option.bind_some, wa, wb]
        rw [dec_ge2 (by simp only [Tr.w]; omega)]
        by_cases c2 : b.w ≥ 2 * a.w
        · simp only [c2, decide_true, cond_true, if_true]
          cases b with
          | nil => simp only [Tr.w, Tr.size] at c2; omega
          | node r3 e3 c d =>
            have hndl : (Tr.node r2 e2 a (.node r3 e3 c d)).refs.Nodup := nodup_left hnd
            obtain ⟨p1, t1, t2⟩ := turnLeft_ok ok hP hl hndl (fun x hx => hG x (by simp [Tr.toList] at hx ⊢; rcases hx with hx | hx | hx | hx | hx <;> simp [hx])) (by simp only [Tr.size] at hN ⊢; omega)
            have hlk1 : look p1 r = some n := by rw [t2.frame r (nodup_l hnd)]; exact hlk
            have hu1 : Rep S p1 n.right u := hu.frame (fun x hx => t2.frame x (fun hm => nodup_lu hnd hm hx))
            have hrf : (Tr.node r3 e3 (.node r2 e2 a c) d).refs = (Tr.node r2 e2 a (.node r3 e3 c d)).refs := by simp [Tr.refs]
            have htl : (Tr.node r3 e3 (.node r2 e2 a c) d).toList = (Tr.node r2 e2 a (.node r3 e3 c d)).toList := by simp [Tr.toList]
            obtain ⟨p2, v1, v2⟩ := lay_ok ok t2.pw hlk1 t2.rep hu1 (by rw [hrf]; exact nodup_l hnd) (nodup_u hnd) (fun x hx => hG x (by rw [he, htl] at hx; exact hx)) (by simp only [Tr.size] at hN ⊢; omega)
            have hrep : Rep S p2 r (.node r e (.node r3 e3 (.node r2 e2 a c) d) u) := by have := v2.rep; rw [he] at this; exact this
            obtain ⟨p3, y1, y2⟩ := turnRight_ok ok v2.pw hrep (by simp only [Tr.refs] at hnd ⊢; simpa using hnd) (fun x hx => hG x (by simp [Tr.toList] at hx ⊢; exact hx)) (by simp only [Tr.size] at hN ⊢; omega)
            refine ⟨r3, p3, ?_, y2.pw, ?_, fun x hx => ?_, y2.cap.trans (v2.cap.trans t2.cap)⟩
            · simp only [t1, Option.bind_some, v1, y1]
            · simp only [Tr.turnR, Tr.turnL]; exact y2.rep
            · have hx2 : x ∉ (Tr.node r e (.node r3 e3 (.node r2 e2 a c) d) u).refs := by simpa [Tr.refs] using hx
              simp only [Tr.refs, List.mem_append, List.mem_cons, not_or] at hx
              rw [y2.frame x hx2, v2.frame x (by simp; exact hx.2.1), t2.frame x (by simp only [Tr.refs, List.mem_append, List.mem_cons, not_or]; exact hx.1)]
        · simp only [c2, decide_false, cond_false, if_false]
          obtain ⟨p1, t1, t2⟩ := turnRight_ok ok hP h hnd hG hN
          refine ⟨r2, p1, ?_, t2.pw, by simp only [Tr.turnR]; exact t2.rep, t2.frame, t2.cap⟩
          simp only [t1, Option.bind_some]
    · simp only [c3, decide_false, cond_false, if_false]
      exact ⟨r, p, rfl, hP, h, fun x _ => rfl, rfl⟩
theorem link_ok (ok : OpsOk O k N G S lt) : ∀ (n : Nat) {p : PN E A} {L : List TRef} {B : Nat} (hP : PW p L B) {a m b : TRef} {n0 : TNode E A} {l u : Tr E}, l.size + u.size < n → Rep S p a l → look p m = some n0 → Rep S p b u → (l.refs ++ m :: u.refs).Nodup →
    (∀ x ∈ l.toList ++ n0.e :: u.toList, G x) → l.size + 1 + u.size < N → ∃ r' p', Tree_link.r O k n p a m b = some (r', p') ∧ Left S p p' L B r' (Tr.link n l m n0.e u) (l.refs ++ m :: u.refs)
  | 0, _, _, _, _, _, _, _, _, _, _, h, _, _, _, _, _, _ => by omega
  | n + 1, p, L, B, hP, a, m, b, n0, l, u, hn, hl, hm, hu, hnd, hG, hN => by
    have hbig := ok.big
    have wl := weight_ok ok hP hl (by omega)
    have wu := weight_ok ok hP hu (by omega)
    simp only [Tree_link.r, wl, wu, Option.bind_some]
    rw [dec_gt3 (by simp only [Tr.w]; omega), dec_gt3 (by simp only [Tr.w]; omega), Tr.link_succ]
    by_cases c1 : u.w > 3 * l.w
    · simp only [c1, decide_true, cond_true, if_true]
      cases u with
      | nil => simp only [Tr.w, Tr.size] at c1; omega
      | node r2 e2 c d =>
        obtain ⟨n2, q1, q2⟩ := get_ok ok hP hu
        obtain ⟨hr2, he2, hc, hd, hlk2⟩ := q2.node rfl
        subst hr2
        simp only [Tr.size] at hn hN
        have hnd1 : (l.refs ++ m :: c.refs).Nodup := by
          simp only [Tr.refs] at hnd
          refine List.Nodup.sublist ?_ hnd
          exact List.Sublist.append_left (List.Sublist.cons_cons _ (List.sublist_append_left _ _)) _
        have hndu : (Tr.node b e2 c d).refs.Nodup := nodup_right hnd
        have hbL : b ∉ l.refs ++ m :: c.refs := by
          simp only [List.mem_append, List.mem_cons, not_or]
          refine ⟨fun h => nodup_lu hnd h (by simp [Tr.refs]), fun e => nodup_u hnd (by rw [← e]; simp [Tr.refs]), nodup_l hndu⟩
        have hdL : ∀ x ∈ d.refs, x ∉ l.refs ++ m :: c.refs := by
          intro x hx
          simp only [List.mem_append, List.mem_cons, not_or]
          exact ⟨fun h => nodup_lu hnd h (by simp [Tr.refs, hx]), fun e => nodup_u hnd (by rw [← e]; simp [Tr.refs, hx]), fun h => nodup_lu hndu h hx⟩
        obtain ⟨r1, p1, t1, t2⟩ := link_ok ok n hP (by omega) hl hm hc hnd1 (fun x hx => hG x (by simp [Tr.toList] at hx ⊢; rcases hx with hx | hx | hx <;> simp [hx])) (by omega)
        have hlk1 : look p1 b = some n2 := by rw [t2.frame b hbL]; exact hlk2
        have hd1 : Rep S p1 n2.right d := hd.frame (fun x hx => t2.frame x (hdL x hx))
        have hnd2 : (Tr.node b e2 (Tr.link n l m n0.e c) d).refs.Nodup := by simp only [Tr.refs, Tr.link_refs] at hnd ⊢; simpa using hnd
        have hG2 : ∀ x ∈ (Tr.node b e2 (Tr.link n l m n0.e c) d).toList, G x := fun x hx => hG x (by simp [Tr.toList, Tr.link_list] at hx ⊢; exact hx)
        have hsz : (Tr.node b e2 (Tr.link n l m n0.e c) d).size < N := by simp only [Tr.size, Tr.link_size]; omega
        obtain ⟨p2, v1, v2⟩ := lay_ok ok t2.pw hlk1 t2.rep hd1 (nodup_l hnd2) (nodup_u hnd2) (fun x hx => hG2 x (by rw [he2] at hx; exact hx)) (by simpa [Tr.size] using hsz)
        have hrep : Rep S p2 b (.node b e2 (Tr.link n l m n0.e c) d) := by have := v2.rep; rw [he2] at this; exact this
        obtain ⟨r', p3, y1, y2⟩ := balance_ok ok v2.pw hrep hnd2 hG2 hsz
        refine ⟨r', p3, ?_, y2.pw, y2.rep, fun x hx => ?_, y2.cap.trans (v2.cap.trans t2.cap)⟩
        · simp only [q1, Option.bind_some, t1, v1, y1]
        · have hx1 : x ∉ (Tr.node b e2 (Tr.link n l m n0.e c) d).refs := by simp only [Tr.refs, Tr.link_refs] at hx ⊢; simpa using hx
          simp only [Tr.refs, List.mem_append, List.mem_cons, not_or] at hx
          rw [y2.frame x hx1, v2.frame x (by simp; exact hx.2.2.2.1), t2.frame x (by simp only [List.mem_append, List.mem_cons, not_or]; exact ⟨hx.1, hx.2.1, hx.2.2.1⟩)]
    · simp only [c1, decide_false, cond_false, if_false]
      by_cases c3 : l.w > 3 * u.w
      · simp only [c3, decide_true, cond_true, if_true]
        cases l with
        | nil => simp only [Tr.w, Tr.size] at c3; omega
        | node r2 e2 c d =>
          obtain ⟨n2, q1, q2⟩ := get_ok ok hP hl
          obtain ⟨hr2, he2, hc, hd, hlk2⟩ := q2.node rfl
          subst hr2
          simp only [Tr.size] at hn hN
          have hnd' : (c.refs ++ a :: (d.refs ++ m :: u.refs)).Nodup := by simp only [Tr.refs] at hnd; simpa using hnd
          have hnd1 : (d.refs ++ m :: u.refs).Nodup := nodup_right hnd'
          have haL : a ∉ d.refs ++ m :: u.refs := nodup_u hnd'
          have hcL : ∀ x ∈ c.refs, x ∉ d.refs ++ m :: u.refs := fun x hx h => nodup_lu hnd' hx h
          obtain ⟨r1, p1, t1, t2⟩ := link_ok ok n hP (by omega) hd hm hu hnd1 (fun x hx => hG x (by simp [Tr.toList] at hx ⊢; rcases hx with hx | hx | hx <;> simp [hx])) (by omega)
          have hlk1 : look p1 a = some n2 := by rw [t2.frame a haL]; exact hlk2
          have hc1 : Rep S p1 n2.left c := hc.frame (fun x hx => t2.frame x (hcL x hx))
          have hnd2 : (Tr.node a e2 c (Tr.link n d m n0.e u)).refs.Nodup := by simp only [Tr.refs, Tr.link_refs]; exact hnd'
          have hG2 : ∀ x ∈ (Tr.node a e2 c (Tr.link n d m n0.e u)).toList, G x := fun x hx => hG x (by simp [Tr.toList, Tr.link_list] at hx ⊢; exact hx)
          have hsz : (Tr.node a e2 c (Tr.link n d m n0.e u)).size < N := by simp only [Tr.size, Tr.link_size]; omega
          obtain ⟨p2, v1, v2⟩ := lay_ok ok t2.pw hlk1 hc1 t2.rep (nodup_l hnd2) (nodup_u hnd2) (fun x hx => hG2 x (by rw [he2] at hx; exact hx)) (by simpa [Tr.size] using hsz)
          have hrep : Rep S p2 a (.node a e2 c (Tr.link n d m n0.e u)) := by have := v2.rep; rw [he2] at this; exact this
          obtain ⟨r', p3, y1, y2⟩ := balance_ok ok v2.pw hrep hnd2 hG2 hsz
          refine ⟨r', p3, ?_, y2.pw, y2.rep, fun x hx => ?_, y2.cap.trans (v2.cap.trans t2.cap)⟩
          · simp only [q1, Option.bind_some, t1, v1, y1]
          · have hx1 : x ∉ (Tr.node a e2 c (Tr.link n d m n0.e u)).refs := by simp only [Tr.refs, Tr.link_refs] at hx ⊢; simpa using hx
            simp only [Tr.refs, List.mem_append, List.mem_cons, not_or] at hx
            rw [y2.frame x hx1, v2.frame x (by simp; exact hx.1.2.1), t2.frame x (by simp only [List.mem_append, List.mem_cons, not_or]; exact ⟨hx.1.2.2, hx.2⟩)]
      · simp only [c3, decide_false, cond_false, if_false]
        obtain ⟨p1, t1, t2⟩ := lay_ok ok hP hm hl hu (nodup_l hnd) (nodup_u hnd) hG hN
        refine ⟨m, p1, by simp only [t1, Option.bind_some], t2.pw, t2.rep, fun x hx => t2.frame x ?_, t2.cap⟩
        simp only [List.mem_append, List.mem_cons, not_or] at hx
        simp; exact hx.2.1
theorem linkf_ok (ok : OpsOk O k N G S lt) (hk : N ≤ k) {p : PN E A} {L : List TRef} {B : Nat} (hP : PW p L B) {a m b : TRef} {n0 : TNode E A} {l u : Tr E} (hl : Rep S p a l) (hm : look p m = some n0) (hu : Rep S p b u) (hnd : (l.refs ++ m :: u.refs).Nodup)
    (hG : ∀ x ∈ l.toList ++ n0.e :: u.toList, G x) (hN : l.size + 1 + u.size < N) : ∃ r' p', Tree_link.f O k p a m b = some (r', p') ∧ Left S p p' L B r' (Tr.link k l m n0.e u) (l.refs ++ m :: u.refs) :=
  link_ok ok k hP (by omega) hl hm hu hnd hG hN
end
end Go.Proofs.YtpeoalmhccmdiaaGreat
namespace Go.Proofs.YtpeoalmhccmdiaaGreat
open Go Go.Proofs.YtpeoalmhccmdiaaGreat.Sx
structure Cut {E : Type} (lt : E → E → Prop) (e : E) (l a m b : List E) : Prop where
  eq : l = a ++ (m ++ b)
  la : ∀ x ∈ a, lt x e
  lb : ∀ x ∈ b, lt e x
  lm : m = [] ∨ ∃ y, m = [y] ∧ ¬ lt e y ∧ ¬ lt y e
abbrev InOrd {E : Type} (lt : E → E → Prop) (l : List E) : Prop := l.Pairwise lt
section
variable {E A : Type} {O : Ops E A} {k N : Nat} {G : E → Prop} {S : A → List E → Prop} {lt : E → E → Prop}
theorem Cut.nil (e : E) : Cut lt e [] [] [] [] := ⟨rfl, by simp, by simp, .inl rfl⟩
theorem Cut.left (ok : OpsOk O k N G S lt) {e n : E} {l a m b u : List E} (h : Cut lt e l a m b) (hs : InOrd lt (l ++ n :: u)) (hl : lt e n) : Cut lt e (l ++ n :: u) a m (b ++ n :: u) := by
  refine ⟨by rw [h.eq]; simp, h.la, fun x hx => ?_, h.lm⟩
  rcases List.mem_append.1 hx with hx | hx
  · exact h.lb x hx
  · rcases List.mem_cons.1 hx with rfl | hx
    · exact hl
    · exact ok.trans hl ((List.pairwise_cons.1 (List.pairwise_append.1 hs).2.1).1 x hx)
theorem Cut.right (ok : OpsOk O k N G S lt) {e n : E} {l a m b u : List E} (h : Cut lt e u a m b) (hs : InOrd lt (l ++ n :: u)) (hl : lt n e) : Cut lt e (l ++ n :: u) (l ++ n :: a) m b := by
  refine ⟨by rw [h.eq]; simp, fun x hx => ?_, h.lb, h.lm⟩
  rcases List.mem_append.1 hx with hx | hx
  · exact ok.trans ((List.pairwise_append.1 hs).2.2 x hx n List.mem_cons_self) hl
  · rcases List.mem_cons.1 hx with rfl | hx
    · exact hl
    · exact h.la x hx
theorem Cut.mid (ok : OpsOk O k N G S lt) {e n : E} {l u : List E} (hs : InOrd lt (l ++ n :: u)) (h1 : ¬ lt e n) (h2 : ¬ lt n e) : Cut lt e (l ++ n :: u) l [n] u := by
  refine ⟨by simp, fun x hx => ?_, fun x hx => ?_, .inr ⟨n, rfl, h1, h2⟩⟩
  · exact ok.right h2 h1 ((List.pairwise_append.1 hs).2.2 x hx n List.mem_cons_self)
  · exact ok.left h2 h1 ((List.pairwise_cons.1 (List.pairwise_append.1 hs).2.1).1 x hx)
theorem sorted_l {l u : List E} {n : E} (hs : InOrd lt (l ++ n :: u)) : InOrd lt l := (List.pairwise_append.1 hs).1
theorem sorted_u {l u : List E} {n : E} (hs : InOrd lt (l ++ n :: u)) : InOrd lt u := (List.pairwise_cons.1 (List.pairwise_append.1 hs).2.1).2
theorem Cut.put (ok : OpsOk O k N G S lt) {e : E} {l a m b : List E} (h : Cut lt e l a m b) (hs : InOrd lt l) : InOrd lt (a ++ e :: b) := by
  rw [h.eq] at hs
  obtain ⟨h1, h2, h3⟩ := List.pairwise_append.1 hs
  refine List.pairwise_append.2 ⟨h1, List.pairwise_cons.2 ⟨h.lb, (List.pairwise_append.1 h2).2.1⟩, fun x hx y hy => ?_⟩
  rcases List.mem_cons.1 hy with rfl | hy
  · exact h.la x hx
  · exact h3 x hx y (List.mem_append_right _ hy)
theorem Cut.drop {e : E} {l a m b : List E} (h : Cut lt e l a m b) (hs : InOrd lt l) : InOrd lt (a ++ b) := by
  rw [h.eq] at hs
  exact hs.sublist (List.Sublist.append_left (List.sublist_append_right _ _) _)
structure PutL (S : A → List E → Prop) (p p' : PN E A) (L : List TRef) (B : Nat) (t t' : Tr E) (r' : TRef) (F : List TRef) : Prop where
  pw : PW p' (F ++ L) (B + 1)
  rep : Rep S p' r' t'
  refs : t'.refs.Perm (F ++ t.refs)
  frame : ∀ x, x ∉ F → x ∉ t.refs → look p' x = look p x
  cap : p'.cap = p.cap
theorem put_ok (ok : OpsOk O k N G S lt) (hk : N ≤ k) {p : PN E A} {L : List TRef} {B : Nat} (hP : PW p L B) (hB : B + 1 < 4294967295) (e : E) (hGe : G e) : ∀ (n : Nat) {r : TRef} {t : Tr E}, t.size < n → Rep S p r t → t.refs.Nodup → InOrd lt t.toList → (∀ x ∈ t.toList, G x) → t.size + 1 < N →
    ∃ a m b, Cut lt e t.toList a m b ∧
      ((m = [] ∧ (L.length : Int) = p.cap ∧ ∃ rr, Tree_put.r O k n p r e = some (rr, false, p)) ∨
       (∃ r' p' t' F, (m = [] → (L.length : Int) ≠ p.cap) ∧ F.length + m.length = 1 ∧ Tree_put.r O k n p r e = some (r', true, p') ∧ t'.toList = a ++ e :: b ∧ PutL S p p' L B t t' r' F))
  | 0, _, _, h, _, _, _, _, _ => by omega
  | n + 1, r, .nil, hn, hr, hnd, hs, hG, hN => by
    refine ⟨[], [], [], Cut.nil e, ?_⟩
    have e0 : (r.gen == 0) = true := by simpa using hr.nil_iff.2 rfl
    obtain ⟨s, s1, s2⟩ := ok.sum e hGe
    simp only [Tree_put.r, e0, cond_true, s1, Option.bind_some]
    by_cases hc : (L.length : Int) = p.cap
    · exact .inl ⟨trivial, hc, ⟨⟨0, 0⟩, by rw [hP.put_full hc]; rfl⟩⟩
    · right
      obtain ⟨r1, p1, q1, q2, q3, q4, q5, q6, q7⟩ := hP.put (z := zNode O) hc hB (TNode.mk e zTRef zTRef 1 s)
      refine ⟨r1, p1, .node r1 e .nil .nil, [r1], fun _ => hc, rfl, by rw [q1]; rfl, rfl, q4, ⟨rfl, q3, _, q5, rfl, rfl, by simpa [Tr.toList] using s2, rfl, rfl⟩, by simp [Tr.refs], fun x hx _ => q6 x (by simpa using hx), q7⟩
  | n + 1, r, .node r0 e0 l u, hn, hr, hnd, hs, hG, hN => by
    obtain ⟨n1, g1, g2⟩ := get_ok ok hP hr
    obtain ⟨rfl, he, hl, hu, hlk⟩ := g2.node rfl
    have hg : (r.gen == 0) = false := by
      have := hP.gen_ne (hP.mem hlk); simpa using this
    obtain ⟨c, c1, c2, c3⟩ := ok.cmp e n1.e
    have hsz : (Tr.node r e0 l u).size = l.size + 1 + u.size := rfl
    have hln : (Tr.node r e0 l u).toList = l.toList ++ e0 :: u.toList := rfl
    have hrL : r ∈ L := hP.mem hlk
    simp only [Tree_put.r, hg, cond_false, g1, Option.bind_some, c1]
    rw [he] at c2 c3
    rw [hln] at hs hG ⊢
    by_cases h1 : c < 0
    · have hlt := c2.1 h1
      simp only [h1, decide_true, cond_true]
      obtain ⟨a, m, b, hcut, hres⟩ := put_ok ok hk hP hB e hGe n (by omega) hl (nodup_left hnd) (sorted_l hs) (fun x hx => hG x (List.mem_append_left _ hx)) (by omega)
      refine ⟨a, m, b ++ e0 :: u.toList, hcut.left ok hs hlt, ?_⟩
      rcases hres with ⟨h2, h3, rr, h4⟩ | ⟨r', p', t', F, h2, h3, h4, h5, h6⟩
      · exact .inl ⟨h2, h3, r, by simp only [h4, Option.bind_some]; rfl⟩
      · right
        have hF : ∀ x ∈ F, x ∉ L := fun x hx hL => (List.nodup_append.1 h6.pw.ld).2.2 x hx x hL rfl
        have hrF : r ∉ F := fun h => hF r h hrL
        have hlk1 : look p' r = some n1 := by rw [h6.frame r hrF (nodup_l hnd)]; exact hlk
        have hu1 : Rep S p' n1.right u := hu.frame (fun x hx => h6.frame x (fun h => hF x h (hu.sub hP x hx)) (fun h => nodup_lu hnd h hx))
        have hperm : (t'.refs ++ r :: u.refs).Perm (F ++ (Tr.node r e0 l u).refs) := by
          have := h6.refs.append_right (r :: u.refs)
          simpa [Tr.refs] using this
        have hFn : (F ++ (Tr.node r e0 l u).refs).Nodup := List.nodup_append.2 ⟨(List.nodup_append.1 h6.pw.ld).1, hnd, fun x hx y hy hxy => hF x hx (hxy ▸ hr.sub hP y hy)⟩
        have hts : t'.size ≤ l.size + 1 := by
          have := congrArg List.length h5
          have h7 := congrArg List.length hcut.eq
          simp only [Tr.len_toList, List.length_append, List.length_cons] at this h7; omega
        obtain ⟨r2, p2, v1, v2⟩ := linkf_ok ok hk h6.pw h6.rep hlk1 hu1 (hperm.nodup_iff.2 hFn) (fun x hx => by
          rw [h5, he] at hx
          simp only [List.mem_append, List.mem_cons] at hx
          have h8 : ∀ y, y ∈ a ∨ y ∈ b → y ∈ l.toList := fun y hy => by rw [hcut.eq]; rcases hy with hy | hy <;> simp [hy]
          rcases hx with (hx | rfl | hx) | rfl | hx
          · exact hG x (List.mem_append_left _ (h8 x (.inl hx)))
          · exact hGe
          · exact hG x (List.mem_append_left _ (h8 x (.inr hx)))
          · exact hG x (by simp)
          · exact hG x (by simp [hx])) (by omega)
        refine ⟨r2, p2, Tr.link k t' r n1.e u, F, h2, h3, ?_, ?_, v2.pw, v2.rep, ?_, fun x hx1 hx2 => ?_, v2.cap.trans h6.cap⟩
        · simp only [h4, Option.bind_some, v1]; rfl
        · rw [Tr.link_list, h5, he]; simp
        · rw [Tr.link_refs]; exact hperm
        · have hx3 : x ∉ l.refs := fun h => hx2 (by simp [Tr.refs, h])
          rw [v2.frame x (fun h => by
            rcases List.mem_append.1 (hperm.mem_iff.1 h) with h | h
            · exact hx1 h
            · exact hx2 h), h6.frame x hx1 hx3]
    · simp only [h1, decide_false, cond_false]
      by_cases h1' : c > 0
      · have hlt := c3.1 h1'
        simp only [h1', decide_true, cond_true]
        obtain ⟨a, m, b, hcut, hres⟩ := put_ok ok hk hP hB e hGe n (by omega) hu (nodup_right hnd) (sorted_u hs) (fun x hx => hG x (by simp [hx])) (by omega)
        refine ⟨l.toList ++ e0 :: a, m, b, hcut.right ok hs hlt, ?_⟩
        rcases hres with ⟨h2, h3, rr, h4⟩ | ⟨r', p', t', F, h2, h3, h4, h5, h6⟩
        · exact .inl ⟨h2, h3, r, by simp only [h4, Option.bind_some]; rfl⟩
        · right
          have hF : ∀ x ∈ F, x ∉ L := fun x hx hL => (List.nodup_append.1 h6.pw.ld).2.2 x hx x hL rfl
          have hrF : r ∉ F := fun h => hF r h hrL
          have hlk1 : look p' r = some n1 := by rw [h6.frame r hrF (nodup_u hnd)]; exact hlk
          have hl1 : Rep S p' n1.left l := hl.frame (fun x hx => h6.frame x (fun h => hF x h (hl.sub hP x hx)) (fun h => nodup_lu hnd hx h))
          have hperm : (l.refs ++ r :: t'.refs).Perm (F ++ (Tr.node r e0 l u).refs) := by
            have h7 : (l.refs ++ r :: t'.refs).Perm (l.refs ++ r :: (F ++ u.refs)) := List.Perm.append_left _ (List.Perm.cons _ h6.refs)
            refine h7.trans ?_
            have : (F ++ (Tr.node r e0 l u).refs) = F ++ ((l.refs ++ [r]) ++ u.refs) := by simp [Tr.refs]
            rw [this, show l.refs ++ r :: (F ++ u.refs) = (l.refs ++ [r]) ++ (F ++ u.refs) by simp, ← List.append_assoc, ← List.append_assoc]
            exact List.Perm.append_right _ List.perm_append_comm
          have hFn : (F ++ (Tr.node r e0 l u).refs).Nodup := List.nodup_append.2 ⟨(List.nodup_append.1 h6.pw.ld).1, hnd, fun x hx y hy hxy => hF x hx (hxy ▸ hr.sub hP y hy)⟩
          have hts : t'.size ≤ u.size + 1 := by
            have := congrArg List.length h5
            have h7 := congrArg List.length hcut.eq
            simp only [Tr.len_toList, List.length_append, List.length_cons] at this h7; omega
          obtain ⟨r2, p2, v1, v2⟩ := linkf_ok ok hk h6.pw hl1 hlk1 h6.rep (hperm.nodup_iff.2 hFn) (fun x hx => by
            rw [h5, he] at hx
            simp only [List.mem_append, List.mem_cons] at hx
            have h8 : ∀ y, y ∈ a ∨ y ∈ b → y ∈ u.toList := fun y hy => by rw [hcut.eq]; rcases hy with hy | hy <;> simp [hy]
            rcases hx with hx | rfl | hx | rfl | hx
            · exact hG x (by simp [hx])
            · exact hG x (by simp)
            · exact hG x (by simp [h8 x (.inl hx)])
            · exact hGe
            · exact hG x (by simp [h8 x (.inr hx)])) (by omega)
          refine ⟨r2, p2, Tr.link k l r n1.e t', F, h2, h3, ?_, ?_, v2.pw, v2.rep, ?_, fun x hx1 hx2 => ?_, v2.cap.trans h6.cap⟩
          · simp only [h4, Option.bind_some, v1]; rfl
          · rw [Tr.link_list, h5, he]; simp
          · rw [Tr.link_refs]; exact hperm
          · have hx3 : x ∉ u.refs := fun h => hx2 (by simp [Tr.refs, h])
            rw [v2.frame x (fun h => by
              rcases List.mem_append.1 (hperm.mem_iff.1 h) with h | h
              · exact hx1 h
              · exact hx2 h), h6.frame x hx1 hx3]
      · simp only [h1', decide_false, cond_false]
        have n1' : ¬ lt e e0 := fun h => h1 (c2.2 h)
        have n2' : ¬ lt e0 e := fun h => h1' (c3.2 h)
        refine ⟨l.toList, [e0], u.toList, Cut.mid ok hs n1' n2', .inr ?_⟩
        obtain ⟨p1, q1, q2, q3, q4, q5⟩ := hP.set hlk (TNode.mk e n1.left n1.right n1.size n1.sum)
        have hl1 : Rep S p1 n1.left l := hl.frame (fun x hx => q4 x (fun h => nodup_l hnd (h ▸ hx)))
        have hu1 : Rep S p1 n1.right u := hu.frame (fun x hx => q4 x (fun h => nodup_u hnd (h ▸ hx)))
        obtain ⟨p2, v1, v2⟩ := lay_ok ok q2 q3 hl1 hu1 (nodup_l hnd) (nodup_u hnd) (fun x hx => by
          simp only [List.mem_append, List.mem_cons] at hx
          rcases hx with hx | rfl | hx
          · exact hG x (by simp [hx])
          · exact hGe
          · exact hG x (by simp [hx])) (by omega)
        refine ⟨r, p2, .node r e l u, [], by simp, rfl, ?_, rfl, v2.pw.mono (Nat.le_succ _) hB, v2.rep, by simp [Tr.refs], fun x hx1 hx2 => ?_, v2.cap.trans q5⟩
        · simp only [q1, Option.bind_some, v1]
        · have hxr : x ≠ r := fun h => hx2 (by simp [Tr.refs, h])
          rw [v2.frame x (by simpa using hxr), q4 x hxr]
end
end Go.Proofs.YtpeoalmhccmdiaaGreat

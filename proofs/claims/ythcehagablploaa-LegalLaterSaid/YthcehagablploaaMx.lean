/- Walks of what uses trees. Printed by a program of mine. -/
import Derived.KernelRfl
import Derived.Test.YthcehagablploaaTrM
namespace Go.Proofs.Ythcehagablploaa
open Go Go.Proofs.Ythcehagablploaa.Sx
set_option linter.unusedVariables false
set_option linter.unusedSimpArgs false
theorem wave_New_con0 {k : Nat}  {a0 : Int} {r : TRef × Pool (TNode TMark TSwell)}  (H0 : wave_New.f k a0 = some r) : SCon Try.prog 42 [.a (.c (.v (.int .i64 a0)))] [] (.a (.c (.p 40 0))) [(40, blk 40 [.p 41 0, .i r.1.index, .i r.1.gen] 74), (41, plM 41 r.2)] [40, 41] := by
  rw [wave_New.f] at H0
  refine spec_of [(0, _)] [] 5 Try.func42 rfl Try.ntmps42 rfl rfl rfl rfl (fun β W F => ?_)
  refine G.seq ?_
  refine G.rg ?_
  refine K.move (.inr rfl) (gd0 rfl) rfl rfl ?_
  refine K.nil ?_
  refine At.next ?_
  refine G.seq ?_
  obtain ⟨x1, hx1, H0⟩ := bnd H0
  refine G.rg ?_
  refine K.move (.inl rfl) (gd0 rfl) rfl rfl ?_
  refine K.call0 [(.func 60, _), ((.tmp 3), _)] (Tree_NewM_con (k := k) hx1 100 101 rfl) (toFn_func (cf 60 rfl) rfl) (gd0 rfl) ⟨rfl, rfl, trivial⟩ trivial rfl rfl rfl rfl rfl rfl ?_
  refine K.move (.inr rfl) (gd0 rfl) rfl rfl ?_
  refine K.nil ?_
  refine At.next ?_
  refine G.ret ?_
  refine At.ren (fs' := [(2, .a (.c (.p 40 0)))]) (tl := [(40, blk 40 [.p 41 0, .v (.int .i64 x1.1.index), .v (.int .i64 x1.1.gen)] 74), (41, plM 41 x1.2)]) [(40, 100), (41, 101)] [_, _] rfl ⟨rfl, trivial⟩ ⟨rfl, (blk_ren rfl rfl), rfl, (pl_ren rfl), trivial⟩ rfl ?_
  refine At.done Y [(.tmp 2, .c _)] rfl ⟨.tmp rfl, trivial⟩ (to' := [(40, _), (41, _)]) ⟨rfl, rfl, trivial⟩ ?_ ?_ rfl rfl rfl (.inl rfl)
  · cases H0; rfl
  · cases H0; rfl
theorem wave_New_con {k : Nat}  {a0 : Int} {r : TRef × Pool (TNode TMark TSwell)}  (H0 : wave_New.f k a0 = some r) (m40 m41 : Nat) (hd : ndB [m40, m41] = true) : SCon Try.prog 42 [.a (.c (.v (.int .i64 a0)))] [] (.a (.c (.p m40 0))) [(m40, blk m40 [.p m41 0, .i r.1.index, .i r.1.gen] 74), (m41, plM m41 r.2)] [m40, m41] :=
  SCon.ren (rn [(40, m40), (41, m41)]) (wave_New_con0 (k := k)   H0) trivial ⟨(blk_ren rfl rfl), (pl_ren rfl), trivial⟩ (rn_nd hd rfl rfl) (rn_ks hd rfl rfl rfl)
theorem Lw10_Tree_con0 {k : Nat}  {S : Foot} {W0 : World} {s0 : Value} {l0 : List TR08Mark} {r : TRef × Pool (TNode TMark TSwell)} (hL0 : LArg S W0 s0 eTR08Mark 8 l0) (H0 : Lw10_Tree.f k l0 = some r) : SCon Try.prog 14 [SV.raw s0] [(0, rd S W0)] (.a (.c (.p 40 0))) [(0, rd S W0), (40, blk 40 [.p 41 0, .i r.1.index, .i r.1.gen] 74), (41, plM 41 r.2)] [40, 41] := by
  rw [Lw10_Tree.f] at H0
  obtain ⟨b0, o0, hI0⟩ := hL0
  refine spec_of [(0, _)] [(0, _)] 33 Try.func14 rfl Try.ntmps14 rfl rfl rfl rfl (fun β W F => ?_)
  refine G.seq ?_
  refine G.rg ?_
  refine K.move (.inr rfl) (gd0 rfl) rfl rfl ?_
  refine K.nil ?_
  refine At.next ?_
  refine G.seq ?_
  obtain ⟨x1, hx1, H0⟩ := bnd H0
  refine G.rg ?_
  refine K.move (.inl rfl) (gd0 rfl) rfl rfl ?_
  refine K.lenL (rV 0 S W0 s0 b0 o0 eTR08Mark 8 l0) (hI0.is 0) (gd0 rfl) rfl rfl Try.underlying22 rfl ?_
  refine K.call0 [(.func 42, _), ((.tmp 6), _)] (wave_New_con (k := k) hx1 100 101 rfl) (toFn_func (cf 42 rfl) rfl) (gd0 rfl) ⟨rfl, rfl, trivial⟩ trivial rfl rfl rfl rfl rfl rfl ?_
  refine K.move (.inr rfl) (gd0 rfl) rfl rfl ?_
  refine K.nil ?_
  refine At.next ?_
  obtain ⟨x2, H1, H0⟩ := bnd H0
  refine G.seqJ (σ := { v : Pool (TNode TMark TSwell) × Int × Int // x2 = v }) (fun q => [(3, .a (.c (.p 102 0)))]) (fun q => [(0, rd S W0), (103, plM 103 q.1.1), (102, blk 102 [.p 103 0, .v (.int .i64 q.1.2.1), .v (.int .i64 q.1.2.2)] 74)]) ?_ ?_
  ·
    refine G.seq ?_
    refine G.rg ?_
    refine K.move (.inr rfl) (gd0 rfl) rfl rfl ?_
    refine K.nil ?_
    refine At.next ?_
    refine G.block ?_
    refine G.loop (σ := { q : Nat × (Pool (TNode TMark TSwell) × Int × Int × Int) // Lw10_Tree.l0 k l0 q.1 q.2 = some x2 }) (fun q => [(0, SV.raw s0), (3, .a (.c (.p 108 0))), (4, .a (.c (.v (.int .i64 q.1.2.2.2.2))))]) (fun q => [(0, rd S W0), (109, plM 109 q.1.2.1), (108, blk 108 [.p 109 0, .v (.int .i64 q.1.2.2.1), .v (.int .i64 q.1.2.2.2.1)] 74)]) (fun q => q.1.1) ⟨(k, (x1.2, x1.1.index, x1.1.gen, 0)), H1⟩ ?_ ?_
    · exact At.into [(108, 100), (109, 101)] [_, _, _] rfl ⟨rfl, rfl, rfl, trivial⟩ ⟨rfl, (fun _ => rfl), rfl, (pl_ren rfl), rfl, (blk_ren rfl rfl), trivial⟩ rfl
    ·
      rintro ⟨⟨n0, v1, v2, v3, v4⟩, H1⟩
      show G _ _ [(0, SV.raw s0), (3, .a (.c (.p 108 0))), (4, .a (.c (.v (.int .i64 v4))))] [(0, some (rd S W0)), (109, some (plM 109 v1)), (108, some (blk 108 [.p 109 0, .v (.int .i64 v2), .v (.int .i64 v3)] 74))] _ _
      cases n0 with
      | zero => exact absurd H1 (by simp [Lw10_Tree.l0])
      | succ n0 =>
        have HL0 := H1
        rw [Lw10_Tree.l0] at H1
        refine G.seq ?_
        refine G.seq ?_
        refine G.rg ?_
        refine K.move (.inl rfl) (gd0 rfl) rfl rfl ?_
        refine K.move (.inl rfl) (gd0 rfl) rfl rfl ?_
        refine K.lenL (rV 0 S W0 s0 b0 o0 eTR08Mark 8 l0) (hI0.is 0) (gd0 rfl) rfl rfl Try.underlying22 rfl ?_
        refine K.bin (V := .bool (decide (v4 < (l0.length : Int)))) (gd0 rfl) rfl rfl (fun _ => rfl) rfl ?_
        refine K.nil ?_
        refine At.next ?_
        refine G.cond rfl (fun h1 => ?_) (fun h1 => ?_)
        ·
          replace H1 := bif_t H1 h1
          refine G.skip ?_
          refine At.next ?_
          refine G.seq ?_
          refine G.block ?_
          obtain ⟨x3, hx3, H1⟩ := bnd H1
          obtain ⟨x4, hx4, H1⟩ := bnd H1
          refine G.rd mixed ?_
          refine K.move (.inl rfl) (gd0 rfl) rfl rfl ?_
          refine K.move (.inl rfl) (gd0 rfl) rfl rfl ?_
          refine K.move (.inl rfl) (gd0 rfl) rfl rfl ?_
          refine K.idxL (rV 0 S W0 s0 b0 o0 eTR08Mark 8 l0) ((v4).toNat) (hI0.is 0) (atL_get hx3) (atL_nn hx3) (gd0 rfl) rfl rfl rfl Try.underlying22 el22.size_run rfl ?_
          refine K.fieldL Y (rV 0 S W0 s0 b0 o0 eTR08Mark 8 l0) ((v4).toNat) 0 0 (hI0.is 0) (atL_get hx3) (gd0 rfl) rfl rfl t52 rfl rfl rfl rfl ?_
          refine K.loadSL Y (rV 0 S W0 s0 b0 o0 eTR08Mark 8 l0) ((v4).toNat) 0 [_, _, _, _] [_, _, _, _] (hI0.is 0) (atL_get hx3) (gd0 rfl) rfl rfl t35 rfl rfl rfl rfl rfl ?_
          refine K.move (.inl rfl) (gd0 rfl) rfl rfl ?_
          refine K.move (.inl rfl) (gd0 rfl) rfl rfl ?_
          refine K.idxL (rV 0 S W0 s0 b0 o0 eTR08Mark 8 l0) ((v4).toNat) (hI0.is 0) (atL_get hx3) (atL_nn hx3) (gd0 rfl) rfl rfl rfl Try.underlying22 el22.size_run rfl ?_
          refine K.fieldL Y (rV 0 S W0 s0 b0 o0 eTR08Mark 8 l0) ((v4).toNat) 0 4 (hI0.is 0) (atL_get hx3) (gd0 rfl) rfl rfl t52 rfl rfl rfl rfl ?_
          refine K.load1L Y (rV 0 S W0 s0 b0 o0 eTR08Mark 8 l0) ((v4).toNat) 4 (hI0.is 0) (atL_get hx3) (gd0 rfl) rfl rfl t4 rfl rfl ?_
          refine K.move (.inl rfl) (gd0 rfl) rfl rfl ?_
          refine K.move (.inl rfl) (gd0 rfl) rfl rfl ?_
          refine K.idxL (rV 0 S W0 s0 b0 o0 eTR08Mark 8 l0) ((v4).toNat) (hI0.is 0) (atL_get hx3) (atL_nn hx3) (gd0 rfl) rfl rfl rfl Try.underlying22 el22.size_run rfl ?_
          refine K.fieldL Y (rV 0 S W0 s0 b0 o0 eTR08Mark 8 l0) ((v4).toNat) 0 5 (hI0.is 0) (atL_get hx3) (gd0 rfl) rfl rfl t52 rfl rfl rfl rfl ?_
          refine K.loadSL Y (rV 0 S W0 s0 b0 o0 eTR08Mark 8 l0) ((v4).toNat) 5 [_, _, _] [_, _, _] (hI0.is 0) (atL_get hx3) (gd0 rfl) rfl rfl t37 rfl rfl rfl rfl rfl ?_
          refine K.build Y [(0, _), (1, _), (2, _)] [_, _, _, _, _, _, _, _] [((.tmp 19), _), ((.tmp 24), _), ((.tmp 29), _)] (gd0 rfl) (AllE.spec ⟨rfl, rfl, rfl, trivial⟩) rfl rfl t39 rfl rfl ?_
          refine K.call0 [(.func 43, _), ((.tmp 14), _), ((.tmp 30), _)] (Tree_PutM_con (k := k) hx4 108 109) (toFn_func (cf 43 rfl) rfl) (gd0 rfl) ⟨rfl, rfl, rfl, trivial⟩ ⟨rfl, rfl, trivial⟩ rfl rfl rfl rfl rfl rfl ?_
          refine K.nil ?_
          refine ⟨by kernel_rfl, ?_⟩
          refine At.block_normal ?_
          refine At.next ?_
          refine G.rg ?_
          refine K.move (.inl rfl) (gd0 rfl) rfl rfl ?_
          refine K.bin (V := .int .i64 (w64 (v4 + 1))) (gd0 rfl) rfl rfl (fun _ => rfl) rfl ?_
          refine K.move (.inr rfl) (gd0 rfl) rfl rfl ?_
          refine K.nil ?_
          exact At.again (σ := { q : Nat × (Pool (TNode TMark TSwell) × Int × Int × Int) // Lw10_Tree.l0 k l0 q.1 q.2 = some x2 }) (Fs := fun q => [(0, SV.raw s0), (3, .a (.c (.p 108 0))), (4, .a (.c (.v (.int .i64 q.1.2.2.2.2))))]) (Tl := fun q => [(0, rd S W0), (109, plM 109 q.1.2.1), (108, blk 108 [.p 109 0, .v (.int .i64 q.1.2.2.1), .v (.int .i64 q.1.2.2.2.1)] 74)]) (μ := fun q => q.1.1) (s := ⟨(n0 + 1, (v1, v2, v3, v4)), HL0⟩) ⟨(n0, (x4.2.2, x4.2.1.index, x4.2.1.gen, (w64 (v4 + 1)))), H1⟩ [] [_, _, _] (Nat.lt_succ_self _) rfl ⟨rfl, rfl, rfl, trivial⟩ ⟨rfl, (fun _ => rfl), rfl, (pl_ren rfl), rfl, (blk_ren rfl rfl), trivial⟩ rfl
        ·
          replace H1 := bif_f H1 h1
          refine G.exit ?_
          refine At.over_exit ?_
          refine At.over_exit ?_
          refine At.block_hit ?_
          exact At.joined (σ := { v : Pool (TNode TMark TSwell) × Int × Int // x2 = v }) (Fs := fun q => [(3, .a (.c (.p 102 0)))]) (Tl := fun q => [(0, rd S W0), (103, plM 103 q.1.1), (102, blk 102 [.p 103 0, .v (.int .i64 q.1.2.1), .v (.int .i64 q.1.2.2)] 74)]) ⟨(v1, v2, v3), (Option.some.inj H1).symm⟩ [(102, 108), (103, 109)] [_, _, _] rfl ⟨rfl, trivial⟩ ⟨rfl, (fun _ => rfl), rfl, (pl_ren rfl), rfl, (blk_ren rfl rfl), trivial⟩ rfl
  ·
    rintro ⟨_, rfl⟩
    show G _ _ [(3, .a (.c (.p 102 0)))] [(0, some (rd S W0)), (103, some (plM 103 x2.1)), (102, some (blk 102 [.p 103 0, .v (.int .i64 x2.2.1), .v (.int .i64 x2.2.2)] 74))] _ _
    refine G.seq ?_
    refine G.rg ?_
    refine K.move (.inl rfl) (gd0 rfl) rfl rfl ?_
    refine K.move (.inr rfl) (gd0 rfl) rfl rfl ?_
    refine K.nil ?_
    refine At.next ?_
    refine G.ret ?_
    refine At.ren (fs' := [(2, .a (.c (.p 40 0)))]) (tl := [(0, rd S W0), (40, blk 40 [.p 41 0, .v (.int .i64 x2.2.1), .v (.int .i64 x2.2.2)] 74), (41, plM 41 x2.1)]) [(40, 102), (41, 103)] [_, _, _] rfl ⟨rfl, trivial⟩ ⟨rfl, (fun _ => rfl), rfl, (blk_ren rfl rfl), rfl, (pl_ren rfl), trivial⟩ rfl ?_
    refine At.done Y [(.tmp 2, .c _)] rfl ⟨.tmp rfl, trivial⟩ (to' := [(0, _), (40, _), (41, _)]) ⟨rfl, rfl, rfl, trivial⟩ ?_ ?_ rfl rfl rfl (.inl rfl)
    · cases H0; rfl
    · cases H0; rfl
theorem Lw10_Tree_con {k : Nat}  {S : Foot} {W0 : World} {s0 : Value} {l0 : List TR08Mark} {r : TRef × Pool (TNode TMark TSwell)} (hL0 : LArg S W0 s0 eTR08Mark 8 l0) (H0 : Lw10_Tree.f k l0 = some r) (m40 m41 : Nat) (hd : ndB [m40, m41] = true) : SCon Try.prog 14 [SV.raw s0] [(0, rd S W0)] (.a (.c (.p m40 0))) [(0, rd S W0), (m40, blk m40 [.p m41 0, .i r.1.index, .i r.1.gen] 74), (m41, plM m41 r.2)] [m40, m41] :=
  SCon.ren (rn [(40, m40), (41, m41)]) (Lw10_Tree_con0 (k := k)  hL0 H0) ⟨(fun _ => rfl), trivial⟩ ⟨(fun _ => rfl), (blk_ren rfl rfl), (pl_ren rfl), trivial⟩ (rn_nd hd rfl rfl) (rn_ks hd rfl rfl rfl)
theorem bridge_clamp_con0 {k : Nat}  {p1 : Pool (TNode TMark TSwell)} {rt0 : TRef} {a1 : Int} {r : Int}  (H0 : bridge_clamp.f k p1 rt0 a1 = some r) : SCon Try.prog 46 [SV.p 0 0, .a (.c (.v (.int .i64 a1)))] [(0, blk 0 [.p 1 0, .i rt0.index, .i rt0.gen] 74), (1, plM 1 p1)] (.a (.c (.v (.int .i64 r)))) [(0, blk 0 [.p 1 0, .i rt0.index, .i rt0.gen] 74), (1, plM 1 p1)] [] := by
  rw [bridge_clamp.f] at H0
  refine spec_of [(0, _), (1, _)] [(0, _), (1, _)] 10 Try.func46 rfl Try.ntmps46 rfl rfl rfl rfl (fun β W F => ?_)
  refine G.seq ?_
  refine G.rg ?_
  refine K.move (.inr rfl) (gd0 rfl) rfl rfl ?_
  refine K.nil ?_
  refine At.next ?_
  refine G.seq ?_
  obtain ⟨x1, hx1, H0⟩ := bnd H0
  refine G.rg ?_
  refine K.move (.inl rfl) (gd0 rfl) rfl rfl ?_
  refine K.bi2 (V := .int .i64 (gmax a1 0)) (gd0 rfl) rfl rfl (fun _ _ => rfl) rfl ?_
  refine K.move (.inl rfl) (gd0 rfl) rfl rfl ?_
  refine K.callR [(.func 21, _), ((.tmp 7), _)] (Tree_LenM_con (k := k) hx1 0 1) (toFn_func (cf 21 rfl) rfl) (gd0 rfl) ⟨rfl, rfl, trivial⟩ ⟨rfl, rfl, trivial⟩ rfl rfl rfl ?_
  refine K.bi2 (V := .int .i64 (gmin (gmax a1 0) x1)) (gd0 rfl) rfl rfl (fun _ _ => rfl) rfl ?_
  refine K.move (.inr rfl) (gd0 rfl) rfl rfl ?_
  refine K.nil ?_
  refine At.next ?_
  refine G.ret ?_
  refine At.done Y [(.tmp 4, .c _)] rfl ⟨.tmp rfl, trivial⟩ (to' := [(0, _), (1, _)]) ⟨rfl, rfl, trivial⟩ ?_ ?_ rfl rfl rfl (.inl rfl)
  · cases H0; rfl
  · cases H0; rfl
theorem bridge_clamp_con {k : Nat}  {p1 : Pool (TNode TMark TSwell)} {rt0 : TRef} {a1 : Int} {r : Int}  (H0 : bridge_clamp.f k p1 rt0 a1 = some r) (m0 m1 : Nat) : SCon Try.prog 46 [SV.p m0 0, .a (.c (.v (.int .i64 a1)))] [(m0, blk m0 [.p m1 0, .i rt0.index, .i rt0.gen] 74), (m1, plM m1 p1)] (.a (.c (.v (.int .i64 r)))) [(m0, blk m0 [.p m1 0, .i rt0.index, .i rt0.gen] 74), (m1, plM m1 p1)] [] :=
  SCon.ren (rn [(0, m0), (1, m1)]) (bridge_clamp_con0 (k := k)   H0) ⟨(blk_ren rfl rfl), (pl_ren rfl), trivial⟩ ⟨(blk_ren rfl rfl), (pl_ren rfl), trivial⟩ (by simp) (by simp)
theorem bridge_Height_con0 {k : Nat}  {p1 : Pool (TNode TMark TSwell)} {rt0 : TRef} {a1 : Int} {a2 : Int} {r : Int}  (H0 : bridge_Height.f k p1 rt0 a1 a2 = some r) : SCon Try.prog 13 [SV.p 0 0, .a (.c (.v (.int .i64 a1))), .a (.c (.v (.int .i64 a2)))] [(0, blk 0 [.p 1 0, .i rt0.index, .i rt0.gen] 74), (1, plM 1 p1)] (.a (.c (.v (.int .i64 r)))) [(0, blk 0 [.p 1 0, .i rt0.index, .i rt0.gen] 74), (1, plM 1 p1)] [] := by
  rw [bridge_Height.f] at H0
  refine spec_of [(0, _), (1, _), (2, _)] [(0, _), (1, _)] 14 Try.func13 rfl Try.ntmps13 rfl rfl rfl rfl (fun β W F => ?_)
  refine G.seq ?_
  refine G.rg ?_
  refine K.move (.inr rfl) (gd0 rfl) rfl rfl ?_
  refine K.nil ?_
  refine At.next ?_
  refine G.seq ?_
  obtain ⟨x1, hx1, H0⟩ := bnd H0
  refine G.rg ?_
  refine K.move (.inl rfl) (gd0 rfl) rfl rfl ?_
  refine K.move (.inl rfl) (gd0 rfl) rfl rfl ?_
  refine K.move (.inl rfl) (gd0 rfl) rfl rfl ?_
  refine K.callR [(.func 41, _), ((.tmp 8), _), (_, _), ((.tmp 9), _)] (Tree_BetweenM_con (k := k) hx1 0 1) (toFn_func (cf 41 rfl) rfl) (gd0 rfl) ⟨rfl, rfl, rfl, rfl, trivial⟩ ⟨rfl, rfl, trivial⟩ rfl rfl rfl ?_
  refine K.fieldS Y [_, _, _] (gd0 rfl) rfl t43 rfl t41 rfl rfl ?_
  refine K.field1 Y (gd0 rfl) rfl t41 rfl t3 rfl rfl ?_
  refine K.bin (V := .int .i64 (w64 (a2 + x1.weight.sum))) (gd0 rfl) rfl rfl (fun _ => rfl) rfl ?_
  refine K.move (.inr rfl) (gd0 rfl) rfl rfl ?_
  refine K.nil ?_
  refine At.next ?_
  refine G.ret ?_
  refine At.done Y [(.tmp 6, .c _)] rfl ⟨.tmp rfl, trivial⟩ (to' := [(0, _), (1, _)]) ⟨rfl, rfl, trivial⟩ ?_ ?_ rfl rfl rfl (.inl rfl)
  · cases H0; rfl
  · cases H0; rfl
theorem bridge_Height_con {k : Nat}  {p1 : Pool (TNode TMark TSwell)} {rt0 : TRef} {a1 : Int} {a2 : Int} {r : Int}  (H0 : bridge_Height.f k p1 rt0 a1 a2 = some r) (m0 m1 : Nat) : SCon Try.prog 13 [SV.p m0 0, .a (.c (.v (.int .i64 a1))), .a (.c (.v (.int .i64 a2)))] [(m0, blk m0 [.p m1 0, .i rt0.index, .i rt0.gen] 74), (m1, plM m1 p1)] (.a (.c (.v (.int .i64 r)))) [(m0, blk m0 [.p m1 0, .i rt0.index, .i rt0.gen] 74), (m1, plM m1 p1)] [] :=
  SCon.ren (rn [(0, m0), (1, m1)]) (bridge_Height_con0 (k := k)   H0) ⟨(blk_ren rfl rfl), (pl_ren rfl), trivial⟩ ⟨(blk_ren rfl rfl), (pl_ren rfl), trivial⟩ (by simp) (by simp)
theorem bridge_low_con0 {k : Nat}  {a0 : Int} {r : Int}  (H0 : bridge_low.f k a0 = some r) : SCon Try.prog 48 [.a (.c (.v (.int .i64 a0)))] [] (.a (.c (.fn (.func 63) [50]))) [(50, blk 50 [.v (.int .i64 r)] 3)] [50] := by
  rw [bridge_low.f] at H0
  refine spec_of [(0, _)] [] 4 Try.func48 rfl Try.ntmps48 rfl rfl rfl rfl (fun β W F => ?_)
  refine G.seq ?_
  refine G.rg ?_
  refine K.box Y 100 [_] (gd0 rfl) rfl rfl rfl rfl rfl rfl ?_
  refine K.move (.inr rfl) (gd0 rfl) rfl rfl ?_
  refine K.nil ?_
  refine At.next ?_
  refine G.seq ?_
  refine G.rg ?_
  refine K.mkFn1 (gd0 rfl) rfl rfl ?_
  refine K.move (.inr rfl) (gd0 rfl) rfl rfl ?_
  refine K.nil ?_
  refine At.next ?_
  refine G.ret ?_
  refine At.ren (fs' := [(2, .a (.c (.fn (.func 63) [50])))]) (tl := [(50, blk 50 [.v (.int .i64 a0)] 3)]) [(50, 100)] [_] rfl ⟨rfl, trivial⟩ ⟨rfl, (blk_ren rfl rfl), trivial⟩ rfl ?_
  refine At.done Y [(.tmp 2, .c _)] rfl ⟨.tmp rfl, trivial⟩ (to' := [(50, _)]) ⟨rfl, trivial⟩ ?_ ?_ rfl rfl rfl (.inl rfl)
  · cases H0; rfl
  · cases H0; rfl
theorem bridge_low_con {k : Nat}  {a0 : Int} {r : Int}  (H0 : bridge_low.f k a0 = some r) (m50 : Nat) (hd : ndB [m50] = true) : SCon Try.prog 48 [.a (.c (.v (.int .i64 a0)))] [] (.a (.c (.fn (.func 63) [m50]))) [(m50, blk m50 [.v (.int .i64 r)] 3)] [m50] :=
  SCon.ren (rn [(50, m50)]) (bridge_low_con0 (k := k)   H0) trivial ⟨(blk_ren rfl rfl), trivial⟩ (rn_nd hd rfl rfl) (rn_ks hd rfl rfl rfl)
theorem bridge_low_1_con0 {k : Nat}  {a0 : TSwell} {a1 : TSwell} {c0 : Int} {r : Bool}  (H0 : bridge_low_1.f k a0 a1 c0 = some r) : SCon Try.prog 63 [.a (.agg ((eTSwell a0).map .v)), .a (.agg ((eTSwell a1).map .v)), SV.p 0 0] [(0, blk 0 [.v (.int .i64 c0)] 3)] (.a (.c (.v (.bool r)))) [(0, blk 0 [.v (.int .i64 c0)] 3)] [] := by
  rw [bridge_low_1.f] at H0
  refine spec_of [(0, _), (1, _), (2, _)] [(0, _)] 22 Try.func63 rfl Try.ntmps63 rfl rfl rfl rfl (fun β W F => ?_)
  refine G.seq ?_
  refine G.rg ?_
  refine K.box Y 100 [_, _, _, _, _, _, _, _, _, _, _, _, _, _, _, _] (gd0 rfl) rfl rfl rfl rfl rfl rfl ?_
  refine K.box Y 101 [_, _, _, _, _, _, _, _, _, _, _, _, _, _, _, _] (gd0 rfl) rfl rfl rfl rfl rfl rfl ?_
  refine K.move (.inr rfl) (gd0 rfl) rfl rfl ?_
  refine K.nil ?_
  refine At.next ?_
  refine G.seq ?_
  rcases Bool.eq_false_or_eq_true (decide (a1.weight.n > 0)) with h1 | h1
  ·
    replace H0 := bif_t H0 h1
    refine G.rg ?_
    refine K.fieldAddr Y (gd0 rfl) rfl t43 rfl rfl ?_
    refine K.fieldAddr Y (gd0 rfl) rfl t41 rfl rfl ?_
    refine K.load1 Y (gd0 rfl) rfl rfl t3 rfl rfl ?_
    refine K.bin (V := .bool (decide (a1.weight.n > 0))) (gd0 rfl) rfl rfl (fun _ => rfl) rfl ?_
    refine K.move (.inl rfl) (gd0 rfl) rfl rfl ?_
    refine K.load1 Y (gd1 rfl rfl rfl (h1)) rfl rfl t3 rfl rfl ?_
    refine K.fieldAddr Y (gd1 rfl rfl rfl (h1)) rfl t43 rfl rfl ?_
    refine K.fieldAddr Y (gd1 rfl rfl rfl (h1)) rfl t41 rfl rfl ?_
    refine K.load1 Y (gd1 rfl rfl rfl (h1)) rfl rfl t3 rfl rfl ?_
    refine K.bin (V := .int .i64 (w64 (c0 + a0.weight.sum))) (gd1 rfl rfl rfl (h1)) rfl rfl (fun _ => rfl) rfl ?_
    refine K.fieldAddr Y (gd1 rfl rfl rfl (h1)) rfl t43 rfl rfl ?_
    refine K.fieldAddr Y (gd1 rfl rfl rfl (h1)) rfl t41 rfl rfl ?_
    refine K.load1 Y (gd1 rfl rfl rfl (h1)) rfl rfl t3 rfl rfl ?_
    refine K.bin (V := .int .i64 (w64 ((w64 (c0 + a0.weight.sum)) + a1.weight.low))) (gd1 rfl rfl rfl (h1)) rfl rfl (fun _ => rfl) rfl ?_
    refine K.bin (V := .bool (decide ((w64 ((w64 (c0 + a0.weight.sum)) + a1.weight.low)) ≤ 0))) (gd1 rfl rfl rfl (h1)) rfl rfl (fun _ => rfl) rfl ?_
    refine K.pickT (gd0 rfl) rfl (h1) rfl rfl ?_
    refine K.move (.inr rfl) (gd0 rfl) rfl rfl ?_
    refine K.nil ?_
    refine At.next ?_
    refine G.ret ?_
    refine At.done Y [(.tmp 5, .c _)] rfl ⟨.tmp rfl, trivial⟩ (to' := [(0, _)]) ⟨rfl, trivial⟩ ?_ ?_ rfl rfl rfl (.inl rfl)
    · cases H0; rfl
    · cases H0; rfl
  ·
    replace H0 := bif_f H0 h1
    refine G.rg ?_
    refine K.fieldAddr Y (gd0 rfl) rfl t43 rfl rfl ?_
    refine K.fieldAddr Y (gd0 rfl) rfl t41 rfl rfl ?_
    refine K.load1 Y (gd0 rfl) rfl rfl t3 rfl rfl ?_
    refine K.bin (V := .bool (decide (a1.weight.n > 0))) (gd0 rfl) rfl rfl (fun _ => rfl) rfl ?_
    refine K.move (.inl rfl) (gd0 rfl) rfl rfl ?_
    refine K.skip rfl rfl rfl rfl (h1) rfl ?_
    refine K.skip rfl rfl rfl rfl (h1) rfl ?_
    refine K.skip rfl rfl rfl rfl (h1) rfl ?_
    refine K.skip rfl rfl rfl rfl (h1) rfl ?_
    refine K.skip rfl rfl rfl rfl (h1) rfl ?_
    refine K.skip rfl rfl rfl rfl (h1) rfl ?_
    refine K.skip rfl rfl rfl rfl (h1) rfl ?_
    refine K.skip rfl rfl rfl rfl (h1) rfl ?_
    refine K.skip rfl rfl rfl rfl (h1) rfl ?_
    refine K.skip rfl rfl rfl rfl (h1) rfl ?_
    refine K.pickF (gd0 rfl) rfl (h1) rfl rfl ?_
    refine K.move (.inr rfl) (gd0 rfl) rfl rfl ?_
    refine K.nil ?_
    refine At.next ?_
    refine G.ret ?_
    refine At.done Y [(.tmp 5, .c _)] rfl ⟨.tmp rfl, trivial⟩ (to' := [(0, _)]) ⟨rfl, trivial⟩ ?_ ?_ rfl rfl rfl (.inl rfl)
    · cases H0; rfl
    · cases H0; rfl
theorem bridge_low_1_con {k : Nat}  {a0 : TSwell} {a1 : TSwell} {c0 : Int} {r : Bool}  (H0 : bridge_low_1.f k a0 a1 c0 = some r) (m0 : Nat) : SCon Try.prog 63 [.a (.agg ((eTSwell a0).map .v)), .a (.agg ((eTSwell a1).map .v)), SV.p m0 0] [(m0, blk m0 [.v (.int .i64 c0)] 3)] (.a (.c (.v (.bool r)))) [(m0, blk m0 [.v (.int .i64 c0)] 3)] [] :=
  SCon.ren (rn [(0, m0)]) (bridge_low_1_con0 (k := k)   H0) ⟨(blk_ren rfl rfl), trivial⟩ ⟨(blk_ren rfl rfl), trivial⟩ (by simp) (by simp)
theorem bridge_Next_con0 {k : Nat}  {p1 : Pool (TNode TMark TSwell)} {rt0 : TRef} {a1 : Int} {a2 : Int} {r : Int}  (H0 : bridge_Next.f k p1 rt0 a1 a2 = some r) : SCon Try.prog 17 [SV.p 0 0, .a (.c (.v (.int .i64 a1))), .a (.c (.v (.int .i64 a2)))] [(0, blk 0 [.p 1 0, .i rt0.index, .i rt0.gen] 74), (1, plM 1 p1)] (.a (.c (.v (.int .i64 r)))) [(0, blk 0 [.p 1 0, .i rt0.index, .i rt0.gen] 74), (1, plM 1 p1)] [] := by
  rw [bridge_Next.f] at H0
  refine spec_of [(0, _), (1, _), (2, _)] [(0, _), (1, _)] 26 Try.func17 rfl Try.ntmps17 rfl rfl rfl rfl (fun β W F => ?_)
  refine G.seq ?_
  refine G.rg ?_
  refine K.move (.inr rfl) (gd0 rfl) rfl rfl ?_
  refine K.nil ?_
  refine At.next ?_
  refine G.seq ?_
  obtain ⟨x1, hx1, H0⟩ := bnd H0
  refine G.rg ?_
  refine K.move (.inl rfl) (gd0 rfl) rfl rfl ?_
  refine K.move (.inl rfl) (gd0 rfl) rfl rfl ?_
  refine K.callR [(.func 46, _), ((.tmp 8), _), ((.tmp 9), _)] (bridge_clamp_con (k := k) hx1 0 1) (toFn_func (cf 46 rfl) rfl) (gd0 rfl) ⟨rfl, rfl, rfl, trivial⟩ ⟨rfl, rfl, trivial⟩ rfl rfl rfl ?_
  refine K.move (.inr rfl) (gd0 rfl) rfl rfl ?_
  refine K.nil ?_
  refine At.next ?_
  refine G.seq ?_
  refine G.seq ?_
  obtain ⟨x2, hx2, H0⟩ := bnd H0
  refine G.rg ?_
  refine K.move (.inl rfl) (gd0 rfl) rfl rfl ?_
  refine K.move (.inl rfl) (gd0 rfl) rfl rfl ?_
  refine K.move (.inl rfl) (gd0 rfl) rfl rfl ?_
  refine K.callR [(.func 13, _), ((.tmp 11), _), ((.tmp 12), _), ((.tmp 13), _)] (bridge_Height_con (k := k) hx2 0 1) (toFn_func (cf 13 rfl) rfl) (gd0 rfl) ⟨rfl, rfl, rfl, rfl, trivial⟩ ⟨rfl, rfl, trivial⟩ rfl rfl rfl ?_
  refine K.bin (V := .bool (decide (x2 ≤ 0))) (gd0 rfl) rfl rfl (fun _ => rfl) rfl ?_
  refine K.nil ?_
  refine At.next ?_
  refine G.cond rfl (fun h1 => ?_) (fun h1 => ?_)
  ·
    replace H0 := bif_t H0 h1
    refine G.seq ?_
    refine G.rg ?_
    refine K.move (.inl rfl) (gd0 rfl) rfl rfl ?_
    refine K.move (.inr rfl) (gd0 rfl) rfl rfl ?_
    refine K.nil ?_
    refine At.next ?_
    refine G.ret ?_
    refine At.over_ret ?_
    refine At.done Y [(.tmp 6, .c _)] rfl ⟨.tmp rfl, trivial⟩ (to' := [(0, _), (1, _)]) ⟨rfl, rfl, trivial⟩ ?_ ?_ rfl rfl rfl (.inl rfl)
    · cases H0; rfl
    · cases H0; rfl
  ·
    replace H0 := bif_f H0 h1
    refine G.skip ?_
    refine At.next ?_
    refine G.seq ?_
    refine G.seq ?_
    obtain ⟨x3, hx3, H0⟩ := bnd H0
    obtain ⟨x4, hx4, H0⟩ := bnd H0
    refine G.rg ?_
    refine K.move (.inl rfl) (gd0 rfl) rfl rfl ?_
    refine K.move (.inl rfl) (gd0 rfl) rfl rfl ?_
    refine K.move (.inl rfl) (gd0 rfl) rfl rfl ?_
    refine K.call0 [(.func 48, _), ((.tmp 19), _)] (bridge_low_con (k := k) hx3 100 rfl) (toFn_func (cf 48 rfl) rfl) (gd0 rfl) ⟨rfl, rfl, trivial⟩ trivial rfl rfl rfl rfl rfl rfl ?_
    refine K.callR [(.func 47, _), ((.tmp 17), _), ((.tmp 18), _), ((.tmp 20), _)] (Tree_FirstM_f12_con (k := k) (cv2 := [(.int .i64 x3)]) (Tc2 := 3) (cf 63 rfl) (fun c _ _ _ h => bridge_low_1_con (k := k) h c) hx4 0 1 100) (toFn_func (cf 47 rfl) rfl) (gd0 rfl) ⟨rfl, rfl, rfl, rfl, trivial⟩ ⟨rfl, rfl, rfl, trivial⟩ rfl rfl rfl ?_
    refine K.move (.inr rfl) (gd0 rfl) rfl rfl ?_
    refine K.nil ?_
    refine At.next ?_
    refine G.seq ?_
    refine G.rg ?_
    refine K.move (.inl rfl) (gd0 rfl) rfl rfl ?_
    refine K.bin (V := .bool (decide (x4 ≥ 0))) (gd0 rfl) rfl rfl (fun _ => rfl) rfl ?_
    refine K.nil ?_
    refine At.next ?_
    refine G.cond rfl (fun h2 => ?_) (fun h2 => ?_)
    ·
      replace H0 := bif_t H0 h2
      refine G.seq ?_
      refine G.rg ?_
      refine K.move (.inl rfl) (gd0 rfl) rfl rfl ?_
      refine K.bin (V := .int .i64 (w64 (x4 + 1))) (gd0 rfl) rfl rfl (fun _ => rfl) rfl ?_
      refine K.move (.inr rfl) (gd0 rfl) rfl rfl ?_
      refine K.nil ?_
      refine At.next ?_
      refine G.ret ?_
      refine At.over_ret ?_
      refine At.done Y [(.tmp 6, .c _)] rfl ⟨.tmp rfl, trivial⟩ (to' := [(0, _), (1, _)]) ⟨rfl, rfl, trivial⟩ ?_ ?_ rfl rfl rfl (.inl rfl)
      · cases H0; rfl
      · cases H0; rfl
    ·
      replace H0 := bif_f H0 h2
      refine G.skip ?_
      refine At.next ?_
      refine G.seq ?_
      refine G.rg ?_
      refine K.move (.inr rfl) (gd0 rfl) rfl rfl ?_
      refine K.nil ?_
      refine At.next ?_
      refine G.ret ?_
      refine At.done Y [(.tmp 6, .c _)] rfl ⟨.tmp rfl, trivial⟩ (to' := [(0, _), (1, _)]) ⟨rfl, rfl, trivial⟩ ?_ ?_ rfl rfl rfl (.inl rfl)
      · cases H0; rfl
      · cases H0; rfl
theorem bridge_Next_con {k : Nat}  {p1 : Pool (TNode TMark TSwell)} {rt0 : TRef} {a1 : Int} {a2 : Int} {r : Int}  (H0 : bridge_Next.f k p1 rt0 a1 a2 = some r) (m0 m1 : Nat) : SCon Try.prog 17 [SV.p m0 0, .a (.c (.v (.int .i64 a1))), .a (.c (.v (.int .i64 a2)))] [(m0, blk m0 [.p m1 0, .i rt0.index, .i rt0.gen] 74), (m1, plM m1 p1)] (.a (.c (.v (.int .i64 r)))) [(m0, blk m0 [.p m1 0, .i rt0.index, .i rt0.gen] 74), (m1, plM m1 p1)] [] :=
  SCon.ren (rn [(0, m0), (1, m1)]) (bridge_Next_con0 (k := k)   H0) ⟨(blk_ren rfl rfl), (pl_ren rfl), trivial⟩ ⟨(blk_ren rfl rfl), (pl_ren rfl), trivial⟩ (by simp) (by simp)
theorem bridge_Prior_con0 {k : Nat}  {p1 : Pool (TNode TMark TSwell)} {rt0 : TRef} {a1 : Int} {a2 : Int} {r : Int}  (H0 : bridge_Prior.f k p1 rt0 a1 a2 = some r) : SCon Try.prog 19 [SV.p 0 0, .a (.c (.v (.int .i64 a1))), .a (.c (.v (.int .i64 a2)))] [(0, blk 0 [.p 1 0, .i rt0.index, .i rt0.gen] 74), (1, plM 1 p1)] (.a (.c (.v (.int .i64 r)))) [(0, blk 0 [.p 1 0, .i rt0.index, .i rt0.gen] 74), (1, plM 1 p1)] [] := by
  rw [bridge_Prior.f] at H0
  refine spec_of [(0, _), (1, _), (2, _)] [(0, _), (1, _)] 21 Try.func19 rfl Try.ntmps19 rfl rfl rfl rfl (fun β W F => ?_)
  refine G.seq ?_
  refine G.rg ?_
  refine K.move (.inr rfl) (gd0 rfl) rfl rfl ?_
  refine K.nil ?_
  refine At.next ?_
  refine G.seq ?_
  refine G.seq ?_
  obtain ⟨x1, hx1, H0⟩ := bnd H0
  obtain ⟨x2, hx2, H0⟩ := bnd H0
  obtain ⟨x3, hx3, H0⟩ := bnd H0
  refine G.rg ?_
  refine K.move (.inl rfl) (gd0 rfl) rfl rfl ?_
  refine K.move (.inl rfl) (gd0 rfl) rfl rfl ?_
  refine K.move (.inl rfl) (gd0 rfl) rfl rfl ?_
  refine K.callR [(.func 46, _), ((.tmp 9), _), ((.tmp 10), _)] (bridge_clamp_con (k := k) hx1 0 1) (toFn_func (cf 46 rfl) rfl) (gd0 rfl) ⟨rfl, rfl, rfl, trivial⟩ ⟨rfl, rfl, trivial⟩ rfl rfl rfl ?_
  refine K.move (.inl rfl) (gd0 rfl) rfl rfl ?_
  refine K.call0 [(.func 48, _), ((.tmp 12), _)] (bridge_low_con (k := k) hx2 100 rfl) (toFn_func (cf 48 rfl) rfl) (gd0 rfl) ⟨rfl, rfl, trivial⟩ trivial rfl rfl rfl rfl rfl rfl ?_
  refine K.callR [(.func 49, _), ((.tmp 8), _), ((.tmp 11), _), ((.tmp 13), _)] (Tree_LastM_f12_con (k := k) (cv2 := [(.int .i64 x2)]) (Tc2 := 3) (cf 63 rfl) (fun c _ _ _ h => bridge_low_1_con (k := k) h c) hx3 0 1 100) (toFn_func (cf 49 rfl) rfl) (gd0 rfl) ⟨rfl, rfl, rfl, rfl, trivial⟩ ⟨rfl, rfl, rfl, trivial⟩ rfl rfl rfl ?_
  refine K.move (.inr rfl) (gd0 rfl) rfl rfl ?_
  refine K.nil ?_
  refine At.next ?_
  refine G.seq ?_
  refine G.rg ?_
  refine K.move (.inl rfl) (gd0 rfl) rfl rfl ?_
  refine K.bin (V := .bool (decide (x3 ≥ 0))) (gd0 rfl) rfl rfl (fun _ => rfl) rfl ?_
  refine K.nil ?_
  refine At.next ?_
  refine G.cond rfl (fun h1 => ?_) (fun h1 => ?_)
  ·
    replace H0 := bif_t H0 h1
    refine G.seq ?_
    refine G.rg ?_
    refine K.move (.inl rfl) (gd0 rfl) rfl rfl ?_
    refine K.bin (V := .int .i64 (w64 (x3 + 1))) (gd0 rfl) rfl rfl (fun _ => rfl) rfl ?_
    refine K.move (.inr rfl) (gd0 rfl) rfl rfl ?_
    refine K.nil ?_
    refine At.next ?_
    refine G.ret ?_
    refine At.over_ret ?_
    refine At.done Y [(.tmp 6, .c _)] rfl ⟨.tmp rfl, trivial⟩ (to' := [(0, _), (1, _)]) ⟨rfl, rfl, trivial⟩ ?_ ?_ rfl rfl rfl (.inl rfl)
    · cases H0; rfl
    · cases H0; rfl
  ·
    replace H0 := bif_f H0 h1
    refine G.skip ?_
    refine At.next ?_
    refine G.seq ?_
    refine G.seq ?_
    refine G.rg ?_
    refine K.move (.inl rfl) (gd0 rfl) rfl rfl ?_
    refine K.bin (V := .bool (decide (a2 ≤ 0))) (gd0 rfl) rfl rfl (fun _ => rfl) rfl ?_
    refine K.nil ?_
    refine At.next ?_
    refine G.cond rfl (fun h2 => ?_) (fun h2 => ?_)
    ·
      replace H0 := bif_t H0 h2
      refine G.seq ?_
      refine G.rg ?_
      refine K.move (.inr rfl) (gd0 rfl) rfl rfl ?_
      refine K.nil ?_
      refine At.next ?_
      refine G.ret ?_
      refine At.over_ret ?_
      refine At.done Y [(.tmp 6, .c _)] rfl ⟨.tmp rfl, trivial⟩ (to' := [(0, _), (1, _)]) ⟨rfl, rfl, trivial⟩ ?_ ?_ rfl rfl rfl (.inl rfl)
      · cases H0; rfl
      · cases H0; rfl
    ·
      replace H0 := bif_f H0 h2
      refine G.skip ?_
      refine At.next ?_
      refine G.seq ?_
      refine G.rg ?_
      refine K.move (.inr rfl) (gd0 rfl) rfl rfl ?_
      refine K.nil ?_
      refine At.next ?_
      refine G.ret ?_
      refine At.done Y [(.tmp 6, .c _)] rfl ⟨.tmp rfl, trivial⟩ (to' := [(0, _), (1, _)]) ⟨rfl, rfl, trivial⟩ ?_ ?_ rfl rfl rfl (.inl rfl)
      · cases H0; rfl
      · cases H0; rfl
theorem bridge_Prior_con {k : Nat}  {p1 : Pool (TNode TMark TSwell)} {rt0 : TRef} {a1 : Int} {a2 : Int} {r : Int}  (H0 : bridge_Prior.f k p1 rt0 a1 a2 = some r) (m0 m1 : Nat) : SCon Try.prog 19 [SV.p m0 0, .a (.c (.v (.int .i64 a1))), .a (.c (.v (.int .i64 a2)))] [(m0, blk m0 [.p m1 0, .i rt0.index, .i rt0.gen] 74), (m1, plM m1 p1)] (.a (.c (.v (.int .i64 r)))) [(m0, blk m0 [.p m1 0, .i rt0.index, .i rt0.gen] 74), (m1, plM m1 p1)] [] :=
  SCon.ren (rn [(0, m0), (1, m1)]) (bridge_Prior_con0 (k := k)   H0) ⟨(blk_ren rfl rfl), (pl_ren rfl), trivial⟩ ⟨(blk_ren rfl rfl), (pl_ren rfl), trivial⟩ (by simp) (by simp)
theorem Lw10_awake_con0 {k : Nat}  {r : Bool}  (H0 : Lw10_awake.f k = some r) : SCon Try.prog 11 [] [] (.a (.c (.v (.bool r)))) [] [] := by
  rw [Lw10_awake.f] at H0
  refine spec_of [] [] 37 Try.func11 rfl Try.ntmps11 rfl rfl rfl rfl (fun β W F => ?_)
  refine G.seq ?_
  refine G.rg ?_
  refine K.move (.inr rfl) (gd0 rfl) rfl rfl ?_
  refine K.nil ?_
  refine At.next ?_
  refine G.seq ?_
  refine G.rg ?_
  refine K.build Y [(0, _), (1, _)] [_, _, _, _] [(_, _), (_, _)] (gd0 rfl) (AllE.spec ⟨rfl, rfl, trivial⟩) rfl rfl t35 rfl rfl ?_
  refine K.build Y [(0, _)] [_, _, _, _, _, _, _, _] [((.tmp 3), _)] (gd0 rfl) (AllE.spec ⟨rfl, trivial⟩) rfl rfl t52 rfl rfl ?_
  refine K.build Y [(0, _)] [_, _, _, _] [(_, _)] (gd0 rfl) (AllE.spec ⟨rfl, trivial⟩) rfl rfl t35 rfl rfl ?_
  refine K.build Y [(0, _)] [_, _, _, _, _, _, _, _] [((.tmp 5), _)] (gd0 rfl) (AllE.spec ⟨rfl, trivial⟩) rfl rfl t52 rfl rfl ?_
  refine K.buildL Y 100 ([(TR08Mark.mk (TOp.mk 1 true zTItem) false zTTook), (TR08Mark.mk (TOp.mk 2 false zTItem) false zTTook)] : List TR08Mark) [(0, _), (1, _)] [((.tmp 4), _), ((.tmp 6), _)] eTR08Mark_len (gd0 rfl) (AllE.spec ⟨rfl, rfl, trivial⟩) rfl rfl Try.underlying22 t52 rfl rfl rfl rfl rfl rfl rfl rfl ?_
  refine K.move (.inr rfl) (gd0 rfl) rfl rfl ?_
  refine K.nil ?_
  refine At.next ?_
  refine G.seq ?_
  obtain ⟨x1, hx1, H0⟩ := bnd H0
  refine G.rg ?_
  refine K.move (.inl rfl) (gd0 rfl) rfl rfl ?_
  refine K.callV [(.func 14, _), ((.tmp 8), _)] [(100, lrow 100 52 eTR08Mark 8 ([(TR08Mark.mk (TOp.mk 1 true zTItem) false zTTook), (TR08Mark.mk (TOp.mk 2 false zTItem) false zTTook)] : List TR08Mark))] [] [(101, _), (102, _)] (fun β => [SV.raw ((lrowV 100 52 eTR08Mark 8 ([(TR08Mark.mk (TOp.mk 1 true zTItem) false zTTook), (TR08Mark.mk (TOp.mk 2 false zTItem) false zTTook)] : List TR08Mark)).s.den β)]) (fun β w S2 h => Lw10_Tree_con (k := k) ((lrowV_isC eTR08Mark_len (by decide)).larg ⟨_, List.mem_cons_self⟩ h) hx1 101 102 rfl) (toFn_func (cf 14 rfl) rfl) (gd0 rfl) ⟨rfl, rfl, trivial⟩ (fun _ => rfl) ⟨rfl, trivial⟩ rfl rfl rfl rfl rfl rfl ?_
  refine K.move (.inr rfl) (gd0 rfl) rfl rfl ?_
  refine K.nil ?_
  refine At.next ?_
  refine G.seq ?_
  obtain ⟨x2, hx2, H0⟩ := bnd H0
  rcases Bool.eq_false_or_eq_true (x2 == 0) with h1 | h1
  ·
    replace H0 := bif_t H0 h1
    obtain ⟨x3, hx3, H0⟩ := bnd H0
    rcases Bool.eq_false_or_eq_true (x3 == 2) with h2 | h2
    ·
      replace H0 := bif_t H0 h2
      obtain ⟨x4, hx4, H0⟩ := bnd H0
      rcases Bool.eq_false_or_eq_true (x4 == 0) with h3 | h3
      ·
        replace H0 := bif_t H0 h3
        obtain ⟨x5, hx5, H0⟩ := bnd H0
        rcases Bool.eq_false_or_eq_true (x5 == 2) with h4 | h4
        ·
          replace H0 := bif_t H0 h4
          obtain ⟨x6, hx6, H0⟩ := bnd H0
          refine G.rg ?_
          refine K.move (.inl rfl) (gd0 rfl) rfl rfl ?_
          refine K.eqnil (V := true) (gd0 rfl) rfl rfl (pn_neq_some Try.underlying26) rfl ?_
          refine K.move (.inl rfl) (gd0 rfl) rfl rfl ?_
          refine K.move (.inl rfl) (gd1 rfl rfl rfl (rfl)) rfl rfl ?_
          refine K.callR [(.func 17, _), ((.tmp 13), _), (_, _), (_, _)] (bridge_Next_con (k := k) hx2 101 102) (toFn_func (cf 17 rfl) rfl) (gd1 rfl rfl rfl (rfl)) ⟨rfl, rfl, rfl, rfl, trivial⟩ ⟨rfl, rfl, trivial⟩ rfl rfl rfl ?_
          refine K.bin (V := .bool (x2 == 0)) (gd1 rfl rfl rfl (rfl)) rfl rfl (fun _ => rfl) rfl ?_
          refine K.pickT (gd0 rfl) rfl (rfl) rfl rfl ?_
          refine K.move (.inl rfl) (gd0 rfl) rfl rfl ?_
          refine K.move (.inl rfl) (gd1 rfl rfl rfl (h1)) rfl rfl ?_
          refine K.callR [(.func 17, _), ((.tmp 18), _), (_, _), (_, _)] (bridge_Next_con (k := k) hx3 101 102) (toFn_func (cf 17 rfl) rfl) (gd1 rfl rfl rfl (h1)) ⟨rfl, rfl, rfl, rfl, trivial⟩ ⟨rfl, rfl, trivial⟩ rfl rfl rfl ?_
          refine K.bin (V := .bool (x3 == 2)) (gd1 rfl rfl rfl (h1)) rfl rfl (fun _ => rfl) rfl ?_
          refine K.pickT (gd0 rfl) rfl (h1) rfl rfl ?_
          refine K.move (.inl rfl) (gd0 rfl) rfl rfl ?_
          refine K.move (.inl rfl) (gd1 rfl rfl rfl (h2)) rfl rfl ?_
          refine K.callR [(.func 19, _), ((.tmp 23), _), (_, _), (_, _)] (bridge_Prior_con (k := k) hx4 101 102) (toFn_func (cf 19 rfl) rfl) (gd1 rfl rfl rfl (h2)) ⟨rfl, rfl, rfl, rfl, trivial⟩ ⟨rfl, rfl, trivial⟩ rfl rfl rfl ?_
          refine K.bin (V := .bool (x4 == 0)) (gd1 rfl rfl rfl (h2)) rfl rfl (fun _ => rfl) rfl ?_
          refine K.pickT (gd0 rfl) rfl (h2) rfl rfl ?_
          refine K.move (.inl rfl) (gd0 rfl) rfl rfl ?_
          refine K.move (.inl rfl) (gd1 rfl rfl rfl (h3)) rfl rfl ?_
          refine K.callR [(.func 19, _), ((.tmp 28), _), (_, _), (_, _)] (bridge_Prior_con (k := k) hx5 101 102) (toFn_func (cf 19 rfl) rfl) (gd1 rfl rfl rfl (h3)) ⟨rfl, rfl, rfl, rfl, trivial⟩ ⟨rfl, rfl, trivial⟩ rfl rfl rfl ?_
          refine K.bin (V := .bool (x5 == 2)) (gd1 rfl rfl rfl (h3)) rfl rfl (fun _ => rfl) rfl ?_
          refine K.pickT (gd0 rfl) rfl (h3) rfl rfl ?_
          refine K.move (.inl rfl) (gd0 rfl) rfl rfl ?_
          refine K.move (.inl rfl) (gd1 rfl rfl rfl (h4)) rfl rfl ?_
          refine K.callR [(.func 13, _), ((.tmp 33), _), (_, _), (_, _)] (bridge_Height_con (k := k) hx6 101 102) (toFn_func (cf 13 rfl) rfl) (gd1 rfl rfl rfl (h4)) ⟨rfl, rfl, rfl, rfl, trivial⟩ ⟨rfl, rfl, trivial⟩ rfl rfl rfl ?_
          refine K.bin (V := .bool (x6 == 1)) (gd1 rfl rfl rfl (h4)) rfl rfl (fun _ => rfl) rfl ?_
          refine K.pickT (gd0 rfl) rfl (h4) rfl rfl ?_
          refine K.move (.inr rfl) (gd0 rfl) rfl rfl ?_
          refine K.nil ?_
          refine At.next ?_
          refine G.ret ?_
          refine At.done Y [(.tmp 0, .c _)] rfl ⟨.tmp rfl, trivial⟩ (to' := []) trivial ?_ ?_ rfl rfl rfl (.inl rfl)
          · cases H0; rfl
          · cases H0; rfl
        ·
          replace H0 := bif_f H0 h4
          refine G.rg ?_
          refine K.move (.inl rfl) (gd0 rfl) rfl rfl ?_
          refine K.eqnil (V := true) (gd0 rfl) rfl rfl (pn_neq_some Try.underlying26) rfl ?_
          refine K.move (.inl rfl) (gd0 rfl) rfl rfl ?_
          refine K.move (.inl rfl) (gd1 rfl rfl rfl (rfl)) rfl rfl ?_
          refine K.callR [(.func 17, _), ((.tmp 13), _), (_, _), (_, _)] (bridge_Next_con (k := k) hx2 101 102) (toFn_func (cf 17 rfl) rfl) (gd1 rfl rfl rfl (rfl)) ⟨rfl, rfl, rfl, rfl, trivial⟩ ⟨rfl, rfl, trivial⟩ rfl rfl rfl ?_
          refine K.bin (V := .bool (x2 == 0)) (gd1 rfl rfl rfl (rfl)) rfl rfl (fun _ => rfl) rfl ?_
          refine K.pickT (gd0 rfl) rfl (rfl) rfl rfl ?_
          refine K.move (.inl rfl) (gd0 rfl) rfl rfl ?_
          refine K.move (.inl rfl) (gd1 rfl rfl rfl (h1)) rfl rfl ?_
          refine K.callR [(.func 17, _), ((.tmp 18), _), (_, _), (_, _)] (bridge_Next_con (k := k) hx3 101 102) (toFn_func (cf 17 rfl) rfl) (gd1 rfl rfl rfl (h1)) ⟨rfl, rfl, rfl, rfl, trivial⟩ ⟨rfl, rfl, trivial⟩ rfl rfl rfl ?_
          refine K.bin (V := .bool (x3 == 2)) (gd1 rfl rfl rfl (h1)) rfl rfl (fun _ => rfl) rfl ?_
          refine K.pickT (gd0 rfl) rfl (h1) rfl rfl ?_
          refine K.move (.inl rfl) (gd0 rfl) rfl rfl ?_
          refine K.move (.inl rfl) (gd1 rfl rfl rfl (h2)) rfl rfl ?_
          refine K.callR [(.func 19, _), ((.tmp 23), _), (_, _), (_, _)] (bridge_Prior_con (k := k) hx4 101 102) (toFn_func (cf 19 rfl) rfl) (gd1 rfl rfl rfl (h2)) ⟨rfl, rfl, rfl, rfl, trivial⟩ ⟨rfl, rfl, trivial⟩ rfl rfl rfl ?_
          refine K.bin (V := .bool (x4 == 0)) (gd1 rfl rfl rfl (h2)) rfl rfl (fun _ => rfl) rfl ?_
          refine K.pickT (gd0 rfl) rfl (h2) rfl rfl ?_
          refine K.move (.inl rfl) (gd0 rfl) rfl rfl ?_
          refine K.move (.inl rfl) (gd1 rfl rfl rfl (h3)) rfl rfl ?_
          refine K.callR [(.func 19, _), ((.tmp 28), _), (_, _), (_, _)] (bridge_Prior_con (k := k) hx5 101 102) (toFn_func (cf 19 rfl) rfl) (gd1 rfl rfl rfl (h3)) ⟨rfl, rfl, rfl, rfl, trivial⟩ ⟨rfl, rfl, trivial⟩ rfl rfl rfl ?_
          refine K.bin (V := .bool (x5 == 2)) (gd1 rfl rfl rfl (h3)) rfl rfl (fun _ => rfl) rfl ?_
          refine K.pickT (gd0 rfl) rfl (h3) rfl rfl ?_
          refine K.move (.inl rfl) (gd0 rfl) rfl rfl ?_
          refine K.skip rfl rfl rfl rfl (h4) rfl ?_
          refine K.skip rfl rfl rfl rfl (h4) rfl ?_
          refine K.skip rfl rfl rfl rfl (h4) rfl ?_
          refine K.pickF (gd0 rfl) rfl (h4) rfl rfl ?_
          refine K.move (.inr rfl) (gd0 rfl) rfl rfl ?_
          refine K.nil ?_
          refine At.next ?_
          refine G.ret ?_
          refine At.done Y [(.tmp 0, .c _)] rfl ⟨.tmp rfl, trivial⟩ (to' := []) trivial ?_ ?_ rfl rfl rfl (.inl rfl)
          · cases H0; rfl
          · cases H0; rfl
      ·
        replace H0 := bif_f H0 h3
        refine G.rg ?_
        refine K.move (.inl rfl) (gd0 rfl) rfl rfl ?_
        refine K.eqnil (V := true) (gd0 rfl) rfl rfl (pn_neq_some Try.underlying26) rfl ?_
        refine K.move (.inl rfl) (gd0 rfl) rfl rfl ?_
        refine K.move (.inl rfl) (gd1 rfl rfl rfl (rfl)) rfl rfl ?_
        refine K.callR [(.func 17, _), ((.tmp 13), _), (_, _), (_, _)] (bridge_Next_con (k := k) hx2 101 102) (toFn_func (cf 17 rfl) rfl) (gd1 rfl rfl rfl (rfl)) ⟨rfl, rfl, rfl, rfl, trivial⟩ ⟨rfl, rfl, trivial⟩ rfl rfl rfl ?_
        refine K.bin (V := .bool (x2 == 0)) (gd1 rfl rfl rfl (rfl)) rfl rfl (fun _ => rfl) rfl ?_
        refine K.pickT (gd0 rfl) rfl (rfl) rfl rfl ?_
        refine K.move (.inl rfl) (gd0 rfl) rfl rfl ?_
        refine K.move (.inl rfl) (gd1 rfl rfl rfl (h1)) rfl rfl ?_
        refine K.callR [(.func 17, _), ((.tmp 18), _), (_, _), (_, _)] (bridge_Next_con (k := k) hx3 101 102) (toFn_func (cf 17 rfl) rfl) (gd1 rfl rfl rfl (h1)) ⟨rfl, rfl, rfl, rfl, trivial⟩ ⟨rfl, rfl, trivial⟩ rfl rfl rfl ?_
        refine K.bin (V := .bool (x3 == 2)) (gd1 rfl rfl rfl (h1)) rfl rfl (fun _ => rfl) rfl ?_
        refine K.pickT (gd0 rfl) rfl (h1) rfl rfl ?_
        refine K.move (.inl rfl) (gd0 rfl) rfl rfl ?_
        refine K.move (.inl rfl) (gd1 rfl rfl rfl (h2)) rfl rfl ?_
        refine K.callR [(.func 19, _), ((.tmp 23), _), (_, _), (_, _)] (bridge_Prior_con (k := k) hx4 101 102) (toFn_func (cf 19 rfl) rfl) (gd1 rfl rfl rfl (h2)) ⟨rfl, rfl, rfl, rfl, trivial⟩ ⟨rfl, rfl, trivial⟩ rfl rfl rfl ?_
        refine K.bin (V := .bool (x4 == 0)) (gd1 rfl rfl rfl (h2)) rfl rfl (fun _ => rfl) rfl ?_
        refine K.pickT (gd0 rfl) rfl (h2) rfl rfl ?_
        refine K.move (.inl rfl) (gd0 rfl) rfl rfl ?_
        refine K.skip rfl rfl rfl rfl (h3) rfl ?_
        refine K.skip rfl rfl rfl rfl (h3) rfl ?_
        refine K.skip rfl rfl rfl rfl (h3) rfl ?_
        refine K.pickF (gd0 rfl) rfl (h3) rfl rfl ?_
        refine K.move (.inl rfl) (gd0 rfl) rfl rfl ?_
        refine K.skip rfl rfl rfl rfl (rfl) rfl ?_
        refine K.skip rfl rfl rfl rfl (rfl) rfl ?_
        refine K.skip rfl rfl rfl rfl (rfl) rfl ?_
        refine K.pickF (gd0 rfl) rfl (rfl) rfl rfl ?_
        refine K.move (.inr rfl) (gd0 rfl) rfl rfl ?_
        refine K.nil ?_
        refine At.next ?_
        refine G.ret ?_
        refine At.done Y [(.tmp 0, .c _)] rfl ⟨.tmp rfl, trivial⟩ (to' := []) trivial ?_ ?_ rfl rfl rfl (.inl rfl)
        · cases H0; rfl
        · cases H0; rfl
    ·
      replace H0 := bif_f H0 h2
      refine G.rg ?_
      refine K.move (.inl rfl) (gd0 rfl) rfl rfl ?_
      refine K.eqnil (V := true) (gd0 rfl) rfl rfl (pn_neq_some Try.underlying26) rfl ?_
      refine K.move (.inl rfl) (gd0 rfl) rfl rfl ?_
      refine K.move (.inl rfl) (gd1 rfl rfl rfl (rfl)) rfl rfl ?_
      refine K.callR [(.func 17, _), ((.tmp 13), _), (_, _), (_, _)] (bridge_Next_con (k := k) hx2 101 102) (toFn_func (cf 17 rfl) rfl) (gd1 rfl rfl rfl (rfl)) ⟨rfl, rfl, rfl, rfl, trivial⟩ ⟨rfl, rfl, trivial⟩ rfl rfl rfl ?_
      refine K.bin (V := .bool (x2 == 0)) (gd1 rfl rfl rfl (rfl)) rfl rfl (fun _ => rfl) rfl ?_
      refine K.pickT (gd0 rfl) rfl (rfl) rfl rfl ?_
      refine K.move (.inl rfl) (gd0 rfl) rfl rfl ?_
      refine K.move (.inl rfl) (gd1 rfl rfl rfl (h1)) rfl rfl ?_
      refine K.callR [(.func 17, _), ((.tmp 18), _), (_, _), (_, _)] (bridge_Next_con (k := k) hx3 101 102) (toFn_func (cf 17 rfl) rfl) (gd1 rfl rfl rfl (h1)) ⟨rfl, rfl, rfl, rfl, trivial⟩ ⟨rfl, rfl, trivial⟩ rfl rfl rfl ?_
      refine K.bin (V := .bool (x3 == 2)) (gd1 rfl rfl rfl (h1)) rfl rfl (fun _ => rfl) rfl ?_
      refine K.pickT (gd0 rfl) rfl (h1) rfl rfl ?_
      refine K.move (.inl rfl) (gd0 rfl) rfl rfl ?_
      refine K.skip rfl rfl rfl rfl (h2) rfl ?_
      refine K.skip rfl rfl rfl rfl (h2) rfl ?_
      refine K.skip rfl rfl rfl rfl (h2) rfl ?_
      refine K.pickF (gd0 rfl) rfl (h2) rfl rfl ?_
      refine K.move (.inl rfl) (gd0 rfl) rfl rfl ?_
      refine K.skip rfl rfl rfl rfl (rfl) rfl ?_
      refine K.skip rfl rfl rfl rfl (rfl) rfl ?_
      refine K.skip rfl rfl rfl rfl (rfl) rfl ?_
      refine K.pickF (gd0 rfl) rfl (rfl) rfl rfl ?_
      refine K.move (.inl rfl) (gd0 rfl) rfl rfl ?_
      refine K.skip rfl rfl rfl rfl (rfl) rfl ?_
      refine K.skip rfl rfl rfl rfl (rfl) rfl ?_
      refine K.skip rfl rfl rfl rfl (rfl) rfl ?_
      refine K.pickF (gd0 rfl) rfl (rfl) rfl rfl ?_
      refine K.move (.inr rfl) (gd0 rfl) rfl rfl ?_
      refine K.nil ?_
      refine At.next ?_
      refine G.ret ?_
      refine At.done Y [(.tmp 0, .c _)] rfl ⟨.tmp rfl, trivial⟩ (to' := []) trivial ?_ ?_ rfl rfl rfl (.inl rfl)
      · cases H0; rfl
      · cases H0; rfl
  ·
    replace H0 := bif_f H0 h1
    refine G.rg ?_
    refine K.move (.inl rfl) (gd0 rfl) rfl rfl ?_
    refine K.eqnil (V := true) (gd0 rfl) rfl rfl (pn_neq_some Try.underlying26) rfl ?_
    refine K.move (.inl rfl) (gd0 rfl) rfl rfl ?_
    refine K.move (.inl rfl) (gd1 rfl rfl rfl (rfl)) rfl rfl ?_
    refine K.callR [(.func 17, _), ((.tmp 13), _), (_, _), (_, _)] (bridge_Next_con (k := k) hx2 101 102) (toFn_func (cf 17 rfl) rfl) (gd1 rfl rfl rfl (rfl)) ⟨rfl, rfl, rfl, rfl, trivial⟩ ⟨rfl, rfl, trivial⟩ rfl rfl rfl ?_
    refine K.bin (V := .bool (x2 == 0)) (gd1 rfl rfl rfl (rfl)) rfl rfl (fun _ => rfl) rfl ?_
    refine K.pickT (gd0 rfl) rfl (rfl) rfl rfl ?_
    refine K.move (.inl rfl) (gd0 rfl) rfl rfl ?_
    refine K.skip rfl rfl rfl rfl (h1) rfl ?_
    refine K.skip rfl rfl rfl rfl (h1) rfl ?_
    refine K.skip rfl rfl rfl rfl (h1) rfl ?_
    refine K.pickF (gd0 rfl) rfl (h1) rfl rfl ?_
    refine K.move (.inl rfl) (gd0 rfl) rfl rfl ?_
    refine K.skip rfl rfl rfl rfl (rfl) rfl ?_
    refine K.skip rfl rfl rfl rfl (rfl) rfl ?_
    refine K.skip rfl rfl rfl rfl (rfl) rfl ?_
    refine K.pickF (gd0 rfl) rfl (rfl) rfl rfl ?_
    refine K.move (.inl rfl) (gd0 rfl) rfl rfl ?_
    refine K.skip rfl rfl rfl rfl (rfl) rfl ?_
    refine K.skip rfl rfl rfl rfl (rfl) rfl ?_
    refine K.skip rfl rfl rfl rfl (rfl) rfl ?_
    refine K.pickF (gd0 rfl) rfl (rfl) rfl rfl ?_
    refine K.move (.inl rfl) (gd0 rfl) rfl rfl ?_
    refine K.skip rfl rfl rfl rfl (rfl) rfl ?_
    refine K.skip rfl rfl rfl rfl (rfl) rfl ?_
    refine K.skip rfl rfl rfl rfl (rfl) rfl ?_
    refine K.pickF (gd0 rfl) rfl (rfl) rfl rfl ?_
    refine K.move (.inr rfl) (gd0 rfl) rfl rfl ?_
    refine K.nil ?_
    refine At.next ?_
    refine G.ret ?_
    refine At.done Y [(.tmp 0, .c _)] rfl ⟨.tmp rfl, trivial⟩ (to' := []) trivial ?_ ?_ rfl rfl rfl (.inl rfl)
    · cases H0; rfl
    · cases H0; rfl
theorem Lw10_awake_con {k : Nat}  {r : Bool}  (H0 : Lw10_awake.f k = some r) : SCon Try.prog 11 [] [] (.a (.c (.v (.bool r)))) [] [] :=
  SCon.ren (rn []) (Lw10_awake_con0 (k := k)   H0) trivial trivial (by simp) (by simp)
theorem Lw10_small_con0 {k : Nat}  {S : Foot} {W0 : World} {s0 : Value} {l0 : List TR08Mark} {a1 : Int} {r : Bool} (hL0 : LArg S W0 s0 eTR08Mark 8 l0) (H0 : Lw10_small.f k l0 a1 = some r) : SCon Try.prog 12 [SV.raw s0, .a (.c (.v (.int .i64 a1)))] [(0, rd S W0)] (.a (.c (.v (.bool r)))) [(0, rd S W0)] [] := by
  rw [Lw10_small.f] at H0
  obtain ⟨b0, o0, hI0⟩ := hL0
  refine spec_of [(0, _), (1, _)] [(0, _)] 16 Try.func12 rfl Try.ntmps12 rfl rfl rfl rfl (fun β W F => ?_)
  refine G.seq ?_
  refine G.rg ?_
  refine K.move (.inr rfl) (gd0 rfl) rfl rfl ?_
  refine K.nil ?_
  refine At.next ?_
  refine G.seq ?_
  rcases Bool.eq_false_or_eq_true (decide ((l0.length : Int) ≤ 60)) with h1 | h1
  ·
    replace H0 := bif_t H0 h1
    rcases Bool.eq_false_or_eq_true (decide (a1 ≥ (-1099511627776))) with h2 | h2
    ·
      replace H0 := bif_t H0 h2
      refine G.rg ?_
      refine K.move (.inl rfl) (gd0 rfl) rfl rfl ?_
      refine K.lenL (rV 0 S W0 s0 b0 o0 eTR08Mark 8 l0) (hI0.is 0) (gd0 rfl) rfl rfl Try.underlying22 rfl ?_
      refine K.bin (V := .bool (decide ((l0.length : Int) ≤ 60))) (gd0 rfl) rfl rfl (fun _ => rfl) rfl ?_
      refine K.move (.inl rfl) (gd0 rfl) rfl rfl ?_
      refine K.move (.inl rfl) (gd1 rfl rfl rfl (h1)) rfl rfl ?_
      refine K.bin (V := .bool (decide (a1 ≥ (-1099511627776)))) (gd1 rfl rfl rfl (h1)) rfl rfl (fun _ => rfl) rfl ?_
      refine K.pickT (gd0 rfl) rfl (h1) rfl rfl ?_
      refine K.move (.inl rfl) (gd0 rfl) rfl rfl ?_
      refine K.move (.inl rfl) (gd1 rfl rfl rfl (h2)) rfl rfl ?_
      refine K.bin (V := .bool (decide (a1 ≤ 1099511627776))) (gd1 rfl rfl rfl (h2)) rfl rfl (fun _ => rfl) rfl ?_
      refine K.pickT (gd0 rfl) rfl (h2) rfl rfl ?_
      refine K.move (.inr rfl) (gd0 rfl) rfl rfl ?_
      refine K.nil ?_
      refine At.next ?_
      refine G.ret ?_
      refine At.done Y [(.tmp 4, .c _)] rfl ⟨.tmp rfl, trivial⟩ (to' := [(0, _)]) ⟨rfl, trivial⟩ ?_ ?_ rfl rfl rfl (.inl rfl)
      · cases H0; rfl
      · cases H0; rfl
    ·
      replace H0 := bif_f H0 h2
      refine G.rg ?_
      refine K.move (.inl rfl) (gd0 rfl) rfl rfl ?_
      refine K.lenL (rV 0 S W0 s0 b0 o0 eTR08Mark 8 l0) (hI0.is 0) (gd0 rfl) rfl rfl Try.underlying22 rfl ?_
      refine K.bin (V := .bool (decide ((l0.length : Int) ≤ 60))) (gd0 rfl) rfl rfl (fun _ => rfl) rfl ?_
      refine K.move (.inl rfl) (gd0 rfl) rfl rfl ?_
      refine K.move (.inl rfl) (gd1 rfl rfl rfl (h1)) rfl rfl ?_
      refine K.bin (V := .bool (decide (a1 ≥ (-1099511627776)))) (gd1 rfl rfl rfl (h1)) rfl rfl (fun _ => rfl) rfl ?_
      refine K.pickT (gd0 rfl) rfl (h1) rfl rfl ?_
      refine K.move (.inl rfl) (gd0 rfl) rfl rfl ?_
      refine K.skip rfl rfl rfl rfl (h2) rfl ?_
      refine K.skip rfl rfl rfl rfl (h2) rfl ?_
      refine K.pickF (gd0 rfl) rfl (h2) rfl rfl ?_
      refine K.move (.inr rfl) (gd0 rfl) rfl rfl ?_
      refine K.nil ?_
      refine At.next ?_
      refine G.ret ?_
      refine At.done Y [(.tmp 4, .c _)] rfl ⟨.tmp rfl, trivial⟩ (to' := [(0, _)]) ⟨rfl, trivial⟩ ?_ ?_ rfl rfl rfl (.inl rfl)
      · cases H0; rfl
      · cases H0; rfl
  ·
    replace H0 := bif_f H0 h1
    refine G.rg ?_
    refine K.move (.inl rfl) (gd0 rfl) rfl rfl ?_
    refine K.lenL (rV 0 S W0 s0 b0 o0 eTR08Mark 8 l0) (hI0.is 0) (gd0 rfl) rfl rfl Try.underlying22 rfl ?_
    refine K.bin (V := .bool (decide ((l0.length : Int) ≤ 60))) (gd0 rfl) rfl rfl (fun _ => rfl) rfl ?_
    refine K.move (.inl rfl) (gd0 rfl) rfl rfl ?_
    refine K.skip rfl rfl rfl rfl (h1) rfl ?_
    refine K.skip rfl rfl rfl rfl (h1) rfl ?_
    refine K.pickF (gd0 rfl) rfl (h1) rfl rfl ?_
    refine K.move (.inl rfl) (gd0 rfl) rfl rfl ?_
    refine K.skip rfl rfl rfl rfl (rfl) rfl ?_
    refine K.skip rfl rfl rfl rfl (rfl) rfl ?_
    refine K.pickF (gd0 rfl) rfl (rfl) rfl rfl ?_
    refine K.move (.inr rfl) (gd0 rfl) rfl rfl ?_
    refine K.nil ?_
    refine At.next ?_
    refine G.ret ?_
    refine At.done Y [(.tmp 4, .c _)] rfl ⟨.tmp rfl, trivial⟩ (to' := [(0, _)]) ⟨rfl, trivial⟩ ?_ ?_ rfl rfl rfl (.inl rfl)
    · cases H0; rfl
    · cases H0; rfl
theorem Lw10_small_con {k : Nat}  {S : Foot} {W0 : World} {s0 : Value} {l0 : List TR08Mark} {a1 : Int} {r : Bool} (hL0 : LArg S W0 s0 eTR08Mark 8 l0) (H0 : Lw10_small.f k l0 a1 = some r) : SCon Try.prog 12 [SV.raw s0, .a (.c (.v (.int .i64 a1)))] [(0, rd S W0)] (.a (.c (.v (.bool r)))) [(0, rd S W0)] [] :=
  SCon.ren (rn []) (Lw10_small_con0 (k := k)  hL0 H0) ⟨(fun _ => rfl), trivial⟩ ⟨(fun _ => rfl), trivial⟩ (by simp) (by simp)
theorem R10_Timed_con0 {k : Nat}  {S : Foot} {W0 : World} {s0 : Value} {l0 : List TR08Mark} {r : List TR08Mark} (hL0 : LArg S W0 s0 eTR08Mark 8 l0) (H0 : R10_Timed.f k l0 = some r) : SCon Try.prog 16 [SV.raw s0] [(0, rd S W0)] (.a (.c (.nv 30))) [(0, rd S W0), (30, lrow 30 52 eTR08Mark 8 r)] [30] := by
  rw [R10_Timed.f] at H0
  obtain ⟨b0, o0, hI0⟩ := hL0
  refine spec_of [(0, _)] [(0, _)] 73 Try.func16 rfl Try.ntmps16 rfl rfl rfl rfl (fun β W F => ?_)
  refine G.seq ?_
  refine G.rg ?_
  refine K.nilRow 100 52 eTR08Mark 8 (.inl rfl) (gd0 rfl) rfl rfl rfl ?_
  refine K.nil ?_
  refine At.next ?_
  refine G.seq ?_
  refine G.rg ?_
  refine K.nilRow 101 52 eTR08Mark 8 (.inl rfl) (gd0 rfl) rfl rfl rfl ?_
  refine K.nil ?_
  refine At.next ?_
  obtain ⟨x1, H1, H0⟩ := bnd H0
  refine G.seqJ (σ := { v : List TR08Mark // x1 = v }) (fun q => [(3, .a (.c (.nv 102)))]) (fun q => [(0, rd S W0), (102, lrow 102 52 eTR08Mark 8 q.1)]) ?_ ?_
  ·
    refine G.seq ?_
    refine G.rg ?_
    refine K.move (.inr rfl) (gd0 rfl) rfl rfl ?_
    refine K.nil ?_
    refine At.next ?_
    refine G.block ?_
    refine G.loop (σ := { q : Nat × (List TR08Mark × Int) // R10_Timed.l0 k l0 q.1 q.2 = some x1 }) (fun q => [(0, SV.raw s0), (3, .a (.c (.nv 105))), (4, .a (.c (.v (.int .i64 q.1.2.2))))]) (fun q => [(0, rd S W0), (105, lrow 105 52 eTR08Mark 8 q.1.2.1)]) (fun q => q.1.1) ⟨(k, (([] : List TR08Mark), 0)), H1⟩ ?_ ?_
    · exact At.into [(105, 101)] [_, _] rfl ⟨rfl, rfl, rfl, trivial⟩ ⟨rfl, (fun _ => rfl), rfl, (lrow_ren rfl), trivial⟩ rfl
    ·
      rintro ⟨⟨n0, v1, v2⟩, H1⟩
      show G _ _ [(0, SV.raw s0), (3, .a (.c (.nv 105))), (4, .a (.c (.v (.int .i64 v2))))] [(0, some (rd S W0)), (105, some (lrow 105 52 eTR08Mark 8 v1))] _ _
      cases n0 with
      | zero => exact absurd H1 (by simp [R10_Timed.l0])
      | succ n0 =>
        have HL0 := H1
        rw [R10_Timed.l0] at H1
        refine G.seq ?_
        refine G.seq ?_
        refine G.rg ?_
        refine K.move (.inl rfl) (gd0 rfl) rfl rfl ?_
        refine K.move (.inl rfl) (gd0 rfl) rfl rfl ?_
        refine K.lenL (rV 0 S W0 s0 b0 o0 eTR08Mark 8 l0) (hI0.is 0) (gd0 rfl) rfl rfl Try.underlying22 rfl ?_
        refine K.bin (V := .bool (decide (v2 < (l0.length : Int)))) (gd0 rfl) rfl rfl (fun _ => rfl) rfl ?_
        refine K.nil ?_
        refine At.next ?_
        refine G.cond rfl (fun h1 => ?_) (fun h1 => ?_)
        ·
          replace H1 := bif_t H1 h1
          refine G.skip ?_
          refine At.next ?_
          obtain ⟨x2, H2, H1⟩ := bnd H1
          refine G.seqJ (σ := { v : List TR08Mark // x2 = v }) (fun q => [(0, SV.raw s0), (3, .a (.c (.nv 106))), (4, .a (.c (.v (.int .i64 v2))))]) (fun q => [(0, rd S W0), (106, lrow 106 52 eTR08Mark 8 q.1)]) ?_ ?_
          ·
            refine G.block ?_
            refine G.seq ?_
            refine G.rg ?_
            refine K.move (.inr rfl) (gd0 rfl) rfl rfl ?_
            refine K.nil ?_
            refine At.next ?_
            obtain ⟨x3, H3, H2⟩ := bnd H2
            refine G.seqJ (σ := { v : Int // x3 = v }) (fun q => [(0, SV.raw s0), (3, .a (.c (.nv 107))), (4, .a (.c (.v (.int .i64 v2)))), (5, .a (.c (.v (.int .i64 q.1))))]) (fun q => [(0, rd S W0), (107, lrow 107 52 eTR08Mark 8 v1)]) ?_ ?_
            ·
              refine G.block ?_
              refine G.loop (σ := { q : Nat × (Int) // R10_Timed.l1 k l0 v1 v2 q.1 q.2 = some x3 }) (fun q => [(0, SV.raw s0), (3, .a (.c (.nv 110))), (4, .a (.c (.v (.int .i64 v2)))), (5, .a (.c (.v (.int .i64 q.1.2))))]) (fun q => [(0, rd S W0), (110, lrow 110 52 eTR08Mark 8 v1)]) (fun q => q.1.1) ⟨(k, 0), H3⟩ ?_ ?_
              · exact At.into [(110, 105)] [_, _] rfl ⟨rfl, rfl, rfl, rfl, trivial⟩ ⟨rfl, (fun _ => rfl), rfl, (lrow_ren rfl), trivial⟩ rfl
              ·
                rintro ⟨⟨n0, v101⟩, H3⟩
                show G _ _ [(0, SV.raw s0), (3, .a (.c (.nv 110))), (4, .a (.c (.v (.int .i64 v2)))), (5, .a (.c (.v (.int .i64 v101))))] [(0, some (rd S W0)), (110, some (lrow 110 52 eTR08Mark 8 v1))] _ _
                cases n0 with
                | zero => exact absurd H3 (by simp [R10_Timed.l1])
                | succ n0 =>
                  have HL1 := H3
                  rw [R10_Timed.l1] at H3
                  refine G.seq ?_
                  refine G.seq ?_
                  rcases Bool.eq_false_or_eq_true (decide (v101 < (v1.length : Int))) with h2 | h2
                  ·
                    replace H3 := bif_t H3 h2
                    obtain ⟨x4, hx4, H3⟩ := bnd H3
                    obtain ⟨x5, hx5, H3⟩ := bnd H3
                    refine G.rd mixed ?_
                    refine K.move (.inl rfl) (gd0 rfl) rfl rfl ?_
                    refine K.move (.inl rfl) (gd0 rfl) rfl rfl ?_
                    refine K.lenL (lrowV 110 52 eTR08Mark 8 v1) (lrowV_is eTR08Mark_len (by decide)) (gd0 rfl) rfl rfl Try.underlying22 rfl ?_
                    refine K.bin (V := .bool (decide (v101 < (v1.length : Int)))) (gd0 rfl) rfl rfl (fun _ => rfl) rfl ?_
                    refine K.move (.inl rfl) (gd0 rfl) rfl rfl ?_
                    refine K.move (.inl rfl) (gd1 rfl rfl rfl (h2)) rfl rfl ?_
                    refine K.move (.inl rfl) (gd1 rfl rfl rfl (h2)) rfl rfl ?_
                    refine K.idxL (lrowV 110 52 eTR08Mark 8 v1) ((v101).toNat) (lrowV_is eTR08Mark_len (by decide)) (atL_get hx4) (atL_nn hx4) (gd1 rfl rfl rfl (h2)) rfl rfl rfl Try.underlying22 el22.size_run rfl ?_
                    refine K.fieldL Y (lrowV 110 52 eTR08Mark 8 v1) ((v101).toNat) 0 0 (lrowV_is eTR08Mark_len (by decide)) (atL_get hx4) (gd1 rfl rfl rfl (h2)) rfl rfl t52 rfl rfl rfl rfl ?_
                    refine K.fieldL Y (lrowV 110 52 eTR08Mark 8 v1) ((v101).toNat) 0 0 (lrowV_is eTR08Mark_len (by decide)) (atL_get hx4) (gd1 rfl rfl rfl (h2)) rfl rfl t35 rfl rfl rfl rfl ?_
                    refine K.load1L Y (lrowV 110 52 eTR08Mark 8 v1) ((v101).toNat) 0 (lrowV_is eTR08Mark_len (by decide)) (atL_get hx4) (gd1 rfl rfl rfl (h2)) rfl rfl t3 rfl rfl ?_
                    refine K.move (.inl rfl) (gd1 rfl rfl rfl (h2)) rfl rfl ?_
                    refine K.move (.inl rfl) (gd1 rfl rfl rfl (h2)) rfl rfl ?_
                    refine K.idxL (rV 0 S W0 s0 b0 o0 eTR08Mark 8 l0) ((v2).toNat) (hI0.is 0) (atL_get hx5) (atL_nn hx5) (gd1 rfl rfl rfl (h2)) rfl rfl rfl Try.underlying22 el22.size_run rfl ?_
                    refine K.fieldL Y (rV 0 S W0 s0 b0 o0 eTR08Mark 8 l0) ((v2).toNat) 0 0 (hI0.is 0) (atL_get hx5) (gd1 rfl rfl rfl (h2)) rfl rfl t52 rfl rfl rfl rfl ?_
                    refine K.fieldL Y (rV 0 S W0 s0 b0 o0 eTR08Mark 8 l0) ((v2).toNat) 0 0 (hI0.is 0) (atL_get hx5) (gd1 rfl rfl rfl (h2)) rfl rfl t35 rfl rfl rfl rfl ?_
                    refine K.load1L Y (rV 0 S W0 s0 b0 o0 eTR08Mark 8 l0) ((v2).toNat) 0 (hI0.is 0) (atL_get hx5) (gd1 rfl rfl rfl (h2)) rfl rfl t3 rfl rfl ?_
                    refine K.bin (V := .bool (decide (x4.op.time < x5.op.time))) (gd1 rfl rfl rfl (h2)) rfl rfl (fun _ => rfl) rfl ?_
                    refine K.pickT (gd0 rfl) rfl (h2) rfl rfl ?_
                    refine K.nil ?_
                    refine ⟨by kernel_rfl, ?_⟩
                    refine At.next ?_
                    refine G.cond rfl (fun h3 => ?_) (fun h3 => ?_)
                    ·
                      replace H3 := bif_t H3 h3
                      refine G.skip ?_
                      refine At.next ?_
                      refine G.block ?_
                      refine G.rg ?_
                      refine K.move (.inl rfl) (gd0 rfl) rfl rfl ?_
                      refine K.bin (V := .int .i64 (w64 (v101 + 1))) (gd0 rfl) rfl rfl (fun _ => rfl) rfl ?_
                      refine K.move (.inr rfl) (gd0 rfl) rfl rfl ?_
                      refine K.nil ?_
                      refine At.block_normal ?_
                      exact At.again (σ := { q : Nat × (Int) // R10_Timed.l1 k l0 v1 v2 q.1 q.2 = some x3 }) (Fs := fun q => [(0, SV.raw s0), (3, .a (.c (.nv 110))), (4, .a (.c (.v (.int .i64 v2)))), (5, .a (.c (.v (.int .i64 q.1.2))))]) (Tl := fun q => [(0, rd S W0), (110, lrow 110 52 eTR08Mark 8 v1)]) (μ := fun q => q.1.1) (s := ⟨(n0 + 1, v101), HL1⟩) ⟨(n0, (w64 (v101 + 1))), H3⟩ [] [_, _] (Nat.lt_succ_self _) rfl ⟨rfl, rfl, rfl, rfl, trivial⟩ ⟨rfl, (fun _ => rfl), rfl, (lrow_ren rfl), trivial⟩ rfl
                    ·
                      replace H3 := bif_f H3 h3
                      refine G.exit ?_
                      refine At.over_exit ?_
                      refine At.over_exit ?_
                      refine At.block_hit ?_
                      exact At.joined (σ := { v : Int // x3 = v }) (Fs := fun q => [(0, SV.raw s0), (3, .a (.c (.nv 107))), (4, .a (.c (.v (.int .i64 v2)))), (5, .a (.c (.v (.int .i64 q.1))))]) (Tl := fun q => [(0, rd S W0), (107, lrow 107 52 eTR08Mark 8 v1)]) ⟨v101, (Option.some.inj H3).symm⟩ [(107, 110)] [_, _] rfl ⟨rfl, rfl, rfl, rfl, trivial⟩ ⟨rfl, (fun _ => rfl), rfl, (lrow_ren rfl), trivial⟩ rfl
                  ·
                    replace H3 := bif_f H3 h2
                    refine G.rd mixed ?_
                    refine K.move (.inl rfl) (gd0 rfl) rfl rfl ?_
                    refine K.move (.inl rfl) (gd0 rfl) rfl rfl ?_
                    refine K.lenL (lrowV 110 52 eTR08Mark 8 v1) (lrowV_is eTR08Mark_len (by decide)) (gd0 rfl) rfl rfl Try.underlying22 rfl ?_
                    refine K.bin (V := .bool (decide (v101 < (v1.length : Int)))) (gd0 rfl) rfl rfl (fun _ => rfl) rfl ?_
                    refine K.move (.inl rfl) (gd0 rfl) rfl rfl ?_
                    refine K.skip rfl rfl rfl rfl (h2) rfl ?_
                    refine K.skip rfl rfl rfl rfl (h2) rfl ?_
                    refine K.skip rfl rfl rfl rfl (h2) rfl ?_
                    refine K.skip rfl rfl rfl rfl (h2) rfl ?_
                    refine K.skip rfl rfl rfl rfl (h2) rfl ?_
                    refine K.skip rfl rfl rfl rfl (h2) rfl ?_
                    refine K.skip rfl rfl rfl rfl (h2) rfl ?_
                    refine K.skip rfl rfl rfl rfl (h2) rfl ?_
                    refine K.skip rfl rfl rfl rfl (h2) rfl ?_
                    refine K.skip rfl rfl rfl rfl (h2) rfl ?_
                    refine K.skip rfl rfl rfl rfl (h2) rfl ?_
                    refine K.skip rfl rfl rfl rfl (h2) rfl ?_
                    refine K.skip rfl rfl rfl rfl (h2) rfl ?_
                    refine K.pickF (gd0 rfl) rfl (h2) rfl rfl ?_
                    refine K.nil ?_
                    refine ⟨by kernel_rfl, ?_⟩
                    refine At.next ?_
                    refine G.cond rfl (fun h4 => ?_) (fun h4 => ?_)
                    · cases h4
                    ·
                      refine G.exit ?_
                      refine At.over_exit ?_
                      refine At.over_exit ?_
                      refine At.block_hit ?_
                      exact At.joined (σ := { v : Int // x3 = v }) (Fs := fun q => [(0, SV.raw s0), (3, .a (.c (.nv 107))), (4, .a (.c (.v (.int .i64 v2)))), (5, .a (.c (.v (.int .i64 q.1))))]) (Tl := fun q => [(0, rd S W0), (107, lrow 107 52 eTR08Mark 8 v1)]) ⟨v101, (Option.some.inj H3).symm⟩ [(107, 110)] [_, _] rfl ⟨rfl, rfl, rfl, rfl, trivial⟩ ⟨rfl, (fun _ => rfl), rfl, (lrow_ren rfl), trivial⟩ rfl
            ·
              rintro ⟨_, rfl⟩
              show G _ _ [(0, SV.raw s0), (3, .a (.c (.nv 107))), (4, .a (.c (.v (.int .i64 v2)))), (5, .a (.c (.v (.int .i64 x3))))] [(0, some (rd S W0)), (107, some (lrow 107 52 eTR08Mark 8 v1))] _ _
              refine G.seq ?_
              refine G.rg ?_
              refine K.nilRow 111 52 eTR08Mark 8 (.inl rfl) (gd0 rfl) rfl rfl rfl ?_
              refine K.nil ?_
              refine At.next ?_
              refine G.seq ?_
              obtain ⟨h5, H2⟩ := grd H2
              obtain ⟨h7, H2⟩ := grd H2
              refine G.rg ?_
              refine K.move (.inl rfl) (gd0 rfl) rfl rfl ?_
              refine K.move (.inl rfl) (gd0 rfl) rfl rfl ?_
              refine K.move (.inl rfl) (gd0 rfl) rfl rfl ?_
              refine K.partL 0 ((x3).toNat) (gd0 rfl) rfl .no (.at_ rfl h5.1 rfl) rfl Try.underlying22 el22.size_run (Nat.zero_le _) (tn_len h5.2) rfl ?_
              refine K.appendL 112 (lsubV 107 52 eTR08Mark 8 v1 0 ((x3).toNat)) _ el22 (lsubV_is eTR08Mark_len (by decide) (Nat.zero_le _) (tn_len h5.2)) eTR08Mark_one (gd0 rfl) rfl rfl rfl rfl rfl (ap_m h7) (ap_b h7 (by decide)) rfl rfl rfl rfl rfl rfl ?_
              refine K.move (.inr rfl) (gd0 rfl) rfl rfl ?_
              refine K.nil ?_
              refine At.next ?_
              refine G.seq ?_
              obtain ⟨x6, hx6, H2⟩ := bnd H2
              obtain ⟨h8, H2⟩ := grd H2
              refine G.rg ?_
              refine K.move (.inl rfl) (gd0 rfl) rfl rfl ?_
              refine K.move (.inl rfl) (gd0 rfl) rfl rfl ?_
              refine K.move (.inl rfl) (gd0 rfl) rfl rfl ?_
              refine K.idxL (rV 0 S W0 s0 b0 o0 eTR08Mark 8 l0) ((v2).toNat) (hI0.is 0) (atL_get hx6) (atL_nn hx6) (gd0 rfl) rfl rfl rfl Try.underlying22 el22.size_run rfl ?_
              refine K.loadSL Y (rV 0 S W0 s0 b0 o0 eTR08Mark 8 l0) ((v2).toNat) 0 [_, _, _, _, _, _, _, _] [_, _, _, _, _, _, _, _] (hI0.is 0) (atL_get hx6) (gd0 rfl) rfl rfl t52 rfl rfl rfl rfl rfl ?_
              refine K.buildL Y 113 ([x6] : List TR08Mark) [(0, _)] [((.tmp 43), _)] eTR08Mark_len (gd0 rfl) (AllE.spec ⟨rfl, trivial⟩) rfl rfl Try.underlying22 t52 rfl rfl rfl rfl rfl rfl rfl rfl ?_
              refine K.appendL 114 (lrowV 113 52 eTR08Mark 8 ([x6] : List TR08Mark)) _ el22 (lrowV_is eTR08Mark_len (by decide)) eTR08Mark_one (gd0 rfl) rfl rfl rfl rfl rfl (ap_m h8) (ap_b h8 (by decide)) rfl rfl rfl rfl rfl rfl ?_
              refine K.move (.inr rfl) (gd0 rfl) rfl rfl ?_
              refine K.nil ?_
              refine At.next ?_
              refine G.seq ?_
              refine G.seq ?_
              rcases Bool.eq_false_or_eq_true (decide (x3 < (v1.length : Int))) with h9 | h9
              ·
                replace H2 := bif_t H2 h9
                obtain ⟨x7, hx7, H2⟩ := bnd H2
                refine G.rd mixed ?_
                refine K.move (.inl rfl) (gd0 rfl) rfl rfl ?_
                refine K.move (.inl rfl) (gd0 rfl) rfl rfl ?_
                refine K.lenL (lrowV 107 52 eTR08Mark 8 v1) (lrowV_is eTR08Mark_len (by decide)) (gd0 rfl) rfl rfl Try.underlying22 rfl ?_
                refine K.bin (V := .bool (decide (x3 < (v1.length : Int)))) (gd0 rfl) rfl rfl (fun _ => rfl) rfl ?_
                refine K.move (.inl rfl) (gd0 rfl) rfl rfl ?_
                refine K.move (.inl rfl) (gd1 rfl rfl rfl (h9)) rfl rfl ?_
                refine K.move (.inl rfl) (gd1 rfl rfl rfl (h9)) rfl rfl ?_
                refine K.idxL (lrowV 107 52 eTR08Mark 8 v1) ((x3).toNat) (lrowV_is eTR08Mark_len (by decide)) (atL_get hx7) (atL_nn hx7) (gd1 rfl rfl rfl (h9)) rfl rfl rfl Try.underlying22 el22.size_run rfl ?_
                refine K.fieldL Y (lrowV 107 52 eTR08Mark 8 v1) ((x3).toNat) 0 0 (lrowV_is eTR08Mark_len (by decide)) (atL_get hx7) (gd1 rfl rfl rfl (h9)) rfl rfl t52 rfl rfl rfl rfl ?_
                refine K.fieldL Y (lrowV 107 52 eTR08Mark 8 v1) ((x3).toNat) 0 0 (lrowV_is eTR08Mark_len (by decide)) (atL_get hx7) (gd1 rfl rfl rfl (h9)) rfl rfl t35 rfl rfl rfl rfl ?_
                refine K.load1L Y (lrowV 107 52 eTR08Mark 8 v1) ((x3).toNat) 0 (lrowV_is eTR08Mark_len (by decide)) (atL_get hx7) (gd1 rfl rfl rfl (h9)) rfl rfl t3 rfl rfl ?_
                refine K.move (.inl rfl) (gd1 rfl rfl rfl (h9)) rfl rfl ?_
                refine K.move (.inl rfl) (gd1 rfl rfl rfl (h9)) rfl rfl ?_
                refine K.idxL (rV 0 S W0 s0 b0 o0 eTR08Mark 8 l0) ((v2).toNat) (hI0.is 0) (atL_get hx6) (atL_nn hx6) (gd1 rfl rfl rfl (h9)) rfl rfl rfl Try.underlying22 el22.size_run rfl ?_
                refine K.fieldL Y (rV 0 S W0 s0 b0 o0 eTR08Mark 8 l0) ((v2).toNat) 0 0 (hI0.is 0) (atL_get hx6) (gd1 rfl rfl rfl (h9)) rfl rfl t52 rfl rfl rfl rfl ?_
                refine K.fieldL Y (rV 0 S W0 s0 b0 o0 eTR08Mark 8 l0) ((v2).toNat) 0 0 (hI0.is 0) (atL_get hx6) (gd1 rfl rfl rfl (h9)) rfl rfl t35 rfl rfl rfl rfl ?_
                refine K.load1L Y (rV 0 S W0 s0 b0 o0 eTR08Mark 8 l0) ((v2).toNat) 0 (hI0.is 0) (atL_get hx6) (gd1 rfl rfl rfl (h9)) rfl rfl t3 rfl rfl ?_
                refine K.bin (V := .bool (x7.op.time == x6.op.time)) (gd1 rfl rfl rfl (h9)) rfl rfl (fun _ => rfl) rfl ?_
                refine K.pickT (gd0 rfl) rfl (h9) rfl rfl ?_
                refine K.nil ?_
                refine ⟨by kernel_rfl, ?_⟩
                refine At.next ?_
                refine G.cond rfl (fun h10 => ?_) (fun h10 => ?_)
                ·
                  replace H2 := bif_t H2 h10
                  refine G.rg ?_
                  refine K.move (.inl rfl) (gd0 rfl) rfl rfl ?_
                  refine K.bin (V := .int .i64 (w64 (x3 + 1))) (gd0 rfl) rfl rfl (fun _ => rfl) rfl ?_
                  refine K.move (.inr rfl) (gd0 rfl) rfl rfl ?_
                  refine K.nil ?_
                  refine At.next ?_
                  obtain ⟨h11, H2⟩ := grd H2
                  obtain ⟨h13, H2⟩ := grd H2
                  refine G.rg ?_
                  refine K.move (.inl rfl) (gd0 rfl) rfl rfl ?_
                  refine K.move (.inl rfl) (gd0 rfl) rfl rfl ?_
                  refine K.move (.inl rfl) (gd0 rfl) rfl rfl ?_
                  refine K.partL (((w64 (x3 + 1))).toNat) v1.length (gd0 rfl) rfl (.at_ rfl h11.1 rfl) .no rfl Try.underlying22 el22.size_run (tn_len h11.2) (Nat.le_refl _) rfl ?_
                  refine K.appendL 115 (lsubV 107 52 eTR08Mark 8 v1 (((w64 (x3 + 1))).toNat) v1.length) _ el22 (lsubV_is eTR08Mark_len (by decide) (tn_len h11.2) (Nat.le_refl _)) eTR08Mark_one (gd0 rfl) rfl rfl rfl rfl rfl (ap_m h13) (ap_b h13 (by decide)) rfl rfl rfl rfl rfl rfl ?_
                  refine K.move (.inr rfl) (gd0 rfl) rfl rfl ?_
                  refine K.nil ?_
                  refine At.block_normal ?_
                  exact At.joined (σ := { v : List TR08Mark // x2 = v }) (Fs := fun q => [(0, SV.raw s0), (3, .a (.c (.nv 106))), (4, .a (.c (.v (.int .i64 v2))))]) (Tl := fun q => [(0, rd S W0), (106, lrow 106 52 eTR08Mark 8 q.1)]) ⟨(((([] : List TR08Mark) ++ ((v1.drop 0).take (((x3).toNat) - 0))) ++ ([x6] : List TR08Mark)) ++ ((v1.drop (((w64 (x3 + 1))).toNat)).take (v1.length - (((w64 (x3 + 1))).toNat)))), (Option.some.inj H2).symm⟩ [(106, 115)] [_, _] rfl ⟨rfl, rfl, rfl, trivial⟩ ⟨rfl, (fun _ => rfl), rfl, (lrow_ren rfl), trivial⟩ rfl
                ·
                  replace H2 := bif_f H2 h10
                  refine G.skip ?_
                  refine At.next ?_
                  obtain ⟨h14, H2⟩ := grd H2
                  obtain ⟨h16, H2⟩ := grd H2
                  refine G.rg ?_
                  refine K.move (.inl rfl) (gd0 rfl) rfl rfl ?_
                  refine K.move (.inl rfl) (gd0 rfl) rfl rfl ?_
                  refine K.move (.inl rfl) (gd0 rfl) rfl rfl ?_
                  refine K.partL ((x3).toNat) v1.length (gd0 rfl) rfl (.at_ rfl h14.1 rfl) .no rfl Try.underlying22 el22.size_run (tn_len h14.2) (Nat.le_refl _) rfl ?_
                  refine K.appendL 116 (lsubV 107 52 eTR08Mark 8 v1 ((x3).toNat) v1.length) _ el22 (lsubV_is eTR08Mark_len (by decide) (tn_len h14.2) (Nat.le_refl _)) eTR08Mark_one (gd0 rfl) rfl rfl rfl rfl rfl (ap_m h16) (ap_b h16 (by decide)) rfl rfl rfl rfl rfl rfl ?_
                  refine K.move (.inr rfl) (gd0 rfl) rfl rfl ?_
                  refine K.nil ?_
                  refine At.block_normal ?_
                  exact At.joined (σ := { v : List TR08Mark // x2 = v }) (Fs := fun q => [(0, SV.raw s0), (3, .a (.c (.nv 106))), (4, .a (.c (.v (.int .i64 v2))))]) (Tl := fun q => [(0, rd S W0), (106, lrow 106 52 eTR08Mark 8 q.1)]) ⟨(((([] : List TR08Mark) ++ ((v1.drop 0).take (((x3).toNat) - 0))) ++ ([x6] : List TR08Mark)) ++ ((v1.drop ((x3).toNat)).take (v1.length - ((x3).toNat)))), (Option.some.inj H2).symm⟩ [(106, 116)] [_, _] rfl ⟨rfl, rfl, rfl, trivial⟩ ⟨rfl, (fun _ => rfl), rfl, (lrow_ren rfl), trivial⟩ rfl
              ·
                replace H2 := bif_f H2 h9
                refine G.rd mixed ?_
                refine K.move (.inl rfl) (gd0 rfl) rfl rfl ?_
                refine K.move (.inl rfl) (gd0 rfl) rfl rfl ?_
                refine K.lenL (lrowV 107 52 eTR08Mark 8 v1) (lrowV_is eTR08Mark_len (by decide)) (gd0 rfl) rfl rfl Try.underlying22 rfl ?_
                refine K.bin (V := .bool (decide (x3 < (v1.length : Int)))) (gd0 rfl) rfl rfl (fun _ => rfl) rfl ?_
                refine K.move (.inl rfl) (gd0 rfl) rfl rfl ?_
                refine K.skip rfl rfl rfl rfl (h9) rfl ?_
                refine K.skip rfl rfl rfl rfl (h9) rfl ?_
                refine K.skip rfl rfl rfl rfl (h9) rfl ?_
                refine K.skip rfl rfl rfl rfl (h9) rfl ?_
                refine K.skip rfl rfl rfl rfl (h9) rfl ?_
                refine K.skip rfl rfl rfl rfl (h9) rfl ?_
                refine K.skip rfl rfl rfl rfl (h9) rfl ?_
                refine K.skip rfl rfl rfl rfl (h9) rfl ?_
                refine K.skip rfl rfl rfl rfl (h9) rfl ?_
                refine K.skip rfl rfl rfl rfl (h9) rfl ?_
                refine K.skip rfl rfl rfl rfl (h9) rfl ?_
                refine K.skip rfl rfl rfl rfl (h9) rfl ?_
                refine K.skip rfl rfl rfl rfl (h9) rfl ?_
                refine K.pickF (gd0 rfl) rfl (h9) rfl rfl ?_
                refine K.nil ?_
                refine ⟨by kernel_rfl, ?_⟩
                refine At.next ?_
                refine G.cond rfl (fun h17 => ?_) (fun h17 => ?_)
                · cases h17
                ·
                  refine G.skip ?_
                  refine At.next ?_
                  obtain ⟨h18, H2⟩ := grd H2
                  obtain ⟨h20, H2⟩ := grd H2
                  refine G.rg ?_
                  refine K.move (.inl rfl) (gd0 rfl) rfl rfl ?_
                  refine K.move (.inl rfl) (gd0 rfl) rfl rfl ?_
                  refine K.move (.inl rfl) (gd0 rfl) rfl rfl ?_
                  refine K.partL ((x3).toNat) v1.length (gd0 rfl) rfl (.at_ rfl h18.1 rfl) .no rfl Try.underlying22 el22.size_run (tn_len h18.2) (Nat.le_refl _) rfl ?_
                  refine K.appendL 117 (lsubV 107 52 eTR08Mark 8 v1 ((x3).toNat) v1.length) _ el22 (lsubV_is eTR08Mark_len (by decide) (tn_len h18.2) (Nat.le_refl _)) eTR08Mark_one (gd0 rfl) rfl rfl rfl rfl rfl (ap_m h20) (ap_b h20 (by decide)) rfl rfl rfl rfl rfl rfl ?_
                  refine K.move (.inr rfl) (gd0 rfl) rfl rfl ?_
                  refine K.nil ?_
                  refine At.block_normal ?_
                  exact At.joined (σ := { v : List TR08Mark // x2 = v }) (Fs := fun q => [(0, SV.raw s0), (3, .a (.c (.nv 106))), (4, .a (.c (.v (.int .i64 v2))))]) (Tl := fun q => [(0, rd S W0), (106, lrow 106 52 eTR08Mark 8 q.1)]) ⟨(((([] : List TR08Mark) ++ ((v1.drop 0).take (((x3).toNat) - 0))) ++ ([x6] : List TR08Mark)) ++ ((v1.drop ((x3).toNat)).take (v1.length - ((x3).toNat)))), (Option.some.inj H2).symm⟩ [(106, 117)] [_, _] rfl ⟨rfl, rfl, rfl, trivial⟩ ⟨rfl, (fun _ => rfl), rfl, (lrow_ren rfl), trivial⟩ rfl
          ·
            rintro ⟨_, rfl⟩
            show G _ _ [(0, SV.raw s0), (3, .a (.c (.nv 106))), (4, .a (.c (.v (.int .i64 v2))))] [(0, some (rd S W0)), (106, some (lrow 106 52 eTR08Mark 8 x2))] _ _
            refine G.rg ?_
            refine K.move (.inl rfl) (gd0 rfl) rfl rfl ?_
            refine K.bin (V := .int .i64 (w64 (v2 + 1))) (gd0 rfl) rfl rfl (fun _ => rfl) rfl ?_
            refine K.move (.inr rfl) (gd0 rfl) rfl rfl ?_
            refine K.nil ?_
            exact At.again (σ := { q : Nat × (List TR08Mark × Int) // R10_Timed.l0 k l0 q.1 q.2 = some x1 }) (Fs := fun q => [(0, SV.raw s0), (3, .a (.c (.nv 105))), (4, .a (.c (.v (.int .i64 q.1.2.2))))]) (Tl := fun q => [(0, rd S W0), (105, lrow 105 52 eTR08Mark 8 q.1.2.1)]) (μ := fun q => q.1.1) (s := ⟨(n0 + 1, (v1, v2)), HL0⟩) ⟨(n0, (x2, (w64 (v2 + 1)))), H1⟩ [(105, 106)] [_, _] (Nat.lt_succ_self _) rfl ⟨rfl, rfl, rfl, trivial⟩ ⟨rfl, (fun _ => rfl), rfl, (lrow_ren rfl), trivial⟩ rfl
        ·
          replace H1 := bif_f H1 h1
          refine G.exit ?_
          refine At.over_exit ?_
          refine At.over_exit ?_
          refine At.block_hit ?_
          exact At.joined (σ := { v : List TR08Mark // x1 = v }) (Fs := fun q => [(3, .a (.c (.nv 102)))]) (Tl := fun q => [(0, rd S W0), (102, lrow 102 52 eTR08Mark 8 q.1)]) ⟨v1, (Option.some.inj H1).symm⟩ [(102, 105)] [_, _] rfl ⟨rfl, trivial⟩ ⟨rfl, (fun _ => rfl), rfl, (lrow_ren rfl), trivial⟩ rfl
  ·
    rintro ⟨_, rfl⟩
    show G _ _ [(3, .a (.c (.nv 102)))] [(0, some (rd S W0)), (102, some (lrow 102 52 eTR08Mark 8 x1))] _ _
    refine G.seq ?_
    refine G.rg ?_
    refine K.move (.inl rfl) (gd0 rfl) rfl rfl ?_
    refine K.move (.inr rfl) (gd0 rfl) rfl rfl ?_
    refine K.nil ?_
    refine At.next ?_
    refine G.ret ?_
    refine At.ren (fs' := [(2, .a (.c (.nv 30)))]) (tl := [(0, rd S W0), (30, lrow 30 52 eTR08Mark 8 x1)]) [(30, 102)] [_, _] rfl ⟨rfl, trivial⟩ ⟨rfl, (fun _ => rfl), rfl, (lrow_ren rfl), trivial⟩ rfl ?_
    refine At.done Y [(.tmp 2, .c _)] rfl ⟨.tmp rfl, trivial⟩ (to' := [(0, _), (30, _)]) ⟨rfl, rfl, trivial⟩ ?_ ?_ rfl rfl rfl (.inl rfl)
    · cases H0; rfl
    · cases H0; rfl
theorem R10_Timed_con {k : Nat}  {S : Foot} {W0 : World} {s0 : Value} {l0 : List TR08Mark} {r : List TR08Mark} (hL0 : LArg S W0 s0 eTR08Mark 8 l0) (H0 : R10_Timed.f k l0 = some r) (m30 : Nat) (hd : ndB [m30] = true) : SCon Try.prog 16 [SV.raw s0] [(0, rd S W0)] (.a (.c (.nv m30))) [(0, rd S W0), (m30, lrow m30 52 eTR08Mark 8 r)] [m30] :=
  SCon.ren (rn [(30, m30)]) (R10_Timed_con0 (k := k)  hL0 H0) ⟨(fun _ => rfl), trivial⟩ ⟨(fun _ => rfl), (lrow_ren rfl), trivial⟩ (rn_nd hd rfl rfl) (rn_ks hd rfl rfl rfl)
theorem R08_Counts_con0 {k : Nat}  {S : Foot} {W0 : World} {s0 : Value} {l0 : List TR08Mark} {r : List Int} (hL0 : LArg S W0 s0 eTR08Mark 8 l0) (H0 : R08_Counts.f k l0 = some r) : SCon Try.prog 54 [SV.raw s0] [(0, rd S W0)] (.a (.c (.nv 30))) [(0, rd S W0), (30, lrow 30 3 intE 1 r)] [30] := by
  rw [R08_Counts.f] at H0
  obtain ⟨b0, o0, hI0⟩ := hL0
  refine spec_of [(0, _)] [(0, _)] 23 Try.func54 rfl Try.ntmps54 rfl rfl rfl rfl (fun β W F => ?_)
  refine G.seq ?_
  refine G.rg ?_
  refine K.nilRow 100 3 intE 1 (.inl rfl) (gd0 rfl) rfl rfl rfl ?_
  refine K.nil ?_
  refine At.next ?_
  refine G.seq ?_
  refine G.rg ?_
  refine K.nilRow 101 3 intE 1 (.inl rfl) (gd0 rfl) rfl rfl rfl ?_
  refine K.nil ?_
  refine At.next ?_
  obtain ⟨x1, H1, H0⟩ := bnd H0
  refine G.seqJ (σ := { v : List Int // x1 = v }) (fun q => [(3, .a (.c (.nv 102)))]) (fun q => [(0, rd S W0), (102, lrow 102 3 intE 1 q.1)]) ?_ ?_
  ·
    refine G.seq ?_
    refine G.rg ?_
    refine K.move (.inr rfl) (gd0 rfl) rfl rfl ?_
    refine K.nil ?_
    refine At.next ?_
    refine G.block ?_
    refine G.loop (σ := { q : Nat × (List Int × Int) // R08_Counts.l0 k l0 q.1 q.2 = some x1 }) (fun q => [(0, SV.raw s0), (3, .a (.c (.nv 105))), (4, .a (.c (.v (.int .i64 q.1.2.2))))]) (fun q => [(0, rd S W0), (105, lrow 105 3 intE 1 q.1.2.1)]) (fun q => q.1.1) ⟨(k, (([] : List Int), 0)), H1⟩ ?_ ?_
    · exact At.into [(105, 101)] [_, _] rfl ⟨rfl, rfl, rfl, trivial⟩ ⟨rfl, (fun _ => rfl), rfl, (lrow_ren rfl), trivial⟩ rfl
    ·
      rintro ⟨⟨n0, v1, v2⟩, H1⟩
      show G _ _ [(0, SV.raw s0), (3, .a (.c (.nv 105))), (4, .a (.c (.v (.int .i64 v2))))] [(0, some (rd S W0)), (105, some (lrow 105 3 intE 1 v1))] _ _
      cases n0 with
      | zero => exact absurd H1 (by simp [R08_Counts.l0])
      | succ n0 =>
        have HL0 := H1
        rw [R08_Counts.l0] at H1
        refine G.seq ?_
        refine G.seq ?_
        refine G.rg ?_
        refine K.move (.inl rfl) (gd0 rfl) rfl rfl ?_
        refine K.move (.inl rfl) (gd0 rfl) rfl rfl ?_
        refine K.lenL (rV 0 S W0 s0 b0 o0 eTR08Mark 8 l0) (hI0.is 0) (gd0 rfl) rfl rfl Try.underlying22 rfl ?_
        refine K.bin (V := .bool (decide (v2 < (l0.length : Int)))) (gd0 rfl) rfl rfl (fun _ => rfl) rfl ?_
        refine K.nil ?_
        refine At.next ?_
        refine G.cond rfl (fun h1 => ?_) (fun h1 => ?_)
        ·
          replace H1 := bif_t H1 h1
          refine G.skip ?_
          refine At.next ?_
          refine G.seq ?_
          refine G.block ?_
          refine G.seq ?_
          refine G.rg ?_
          refine K.move (.inr rfl) (gd0 rfl) rfl rfl ?_
          refine K.nil ?_
          refine At.next ?_
          refine G.seq ?_
          refine G.seq ?_
          obtain ⟨x2, hx2, H1⟩ := bnd H1
          refine G.rg ?_
          refine K.move (.inl rfl) (gd0 rfl) rfl rfl ?_
          refine K.move (.inl rfl) (gd0 rfl) rfl rfl ?_
          refine K.idxL (rV 0 S W0 s0 b0 o0 eTR08Mark 8 l0) ((v2).toNat) (hI0.is 0) (atL_get hx2) (atL_nn hx2) (gd0 rfl) rfl rfl rfl Try.underlying22 el22.size_run rfl ?_
          refine K.fieldL Y (rV 0 S W0 s0 b0 o0 eTR08Mark 8 l0) ((v2).toNat) 0 0 (hI0.is 0) (atL_get hx2) (gd0 rfl) rfl rfl t52 rfl rfl rfl rfl ?_
          refine K.fieldL Y (rV 0 S W0 s0 b0 o0 eTR08Mark 8 l0) ((v2).toNat) 0 1 (hI0.is 0) (atL_get hx2) (gd0 rfl) rfl rfl t35 rfl rfl rfl rfl ?_
          refine K.load1L Y (rV 0 S W0 s0 b0 o0 eTR08Mark 8 l0) ((v2).toNat) 1 (hI0.is 0) (atL_get hx2) (gd0 rfl) rfl rfl t4 rfl rfl ?_
          refine K.nil ?_
          refine At.next ?_
          refine G.cond rfl (fun h2 => ?_) (fun h2 => ?_)
          ·
            replace H1 := bif_t H1 h2
            refine G.rg ?_
            refine K.move (.inr rfl) (gd0 rfl) rfl rfl ?_
            refine K.nil ?_
            refine At.next ?_
            obtain ⟨h3, H1⟩ := grd H1
            refine G.rg ?_
            refine K.move (.inl rfl) (gd0 rfl) rfl rfl ?_
            refine K.move (.inl rfl) (gd0 rfl) rfl rfl ?_
            refine K.buildL Y 106 ([1] : List Int) [(0, _)] [((.tmp 19), _)] intE_len (gd0 rfl) (AllE.spec ⟨rfl, trivial⟩) rfl rfl Try.underlying60 t3 rfl rfl rfl rfl rfl rfl rfl rfl ?_
            refine K.appendL 107 (lrowV 106 3 intE 1 ([1] : List Int)) _ el60 (lrowV_is intE_len (by decide)) intE_one (gd0 rfl) rfl rfl rfl rfl rfl (ap_m h3) (ap_b h3 (by decide)) rfl rfl rfl rfl rfl rfl ?_
            refine K.move (.inr rfl) (gd0 rfl) rfl rfl ?_
            refine K.nil ?_
            refine At.block_normal ?_
            refine At.next ?_
            refine G.rg ?_
            refine K.move (.inl rfl) (gd0 rfl) rfl rfl ?_
            refine K.bin (V := .int .i64 (w64 (v2 + 1))) (gd0 rfl) rfl rfl (fun _ => rfl) rfl ?_
            refine K.move (.inr rfl) (gd0 rfl) rfl rfl ?_
            refine K.nil ?_
            exact At.again (σ := { q : Nat × (List Int × Int) // R08_Counts.l0 k l0 q.1 q.2 = some x1 }) (Fs := fun q => [(0, SV.raw s0), (3, .a (.c (.nv 105))), (4, .a (.c (.v (.int .i64 q.1.2.2))))]) (Tl := fun q => [(0, rd S W0), (105, lrow 105 3 intE 1 q.1.2.1)]) (μ := fun q => q.1.1) (s := ⟨(n0 + 1, (v1, v2)), HL0⟩) ⟨(n0, ((v1 ++ ([1] : List Int)), (w64 (v2 + 1)))), H1⟩ [(105, 107)] [_, _] (Nat.lt_succ_self _) rfl ⟨rfl, rfl, rfl, trivial⟩ ⟨rfl, (fun _ => rfl), rfl, (lrow_ren rfl), trivial⟩ rfl
          ·
            replace H1 := bif_f H1 h2
            refine G.skip ?_
            refine At.next ?_
            obtain ⟨h4, H1⟩ := grd H1
            refine G.rg ?_
            refine K.move (.inl rfl) (gd0 rfl) rfl rfl ?_
            refine K.move (.inl rfl) (gd0 rfl) rfl rfl ?_
            refine K.buildL Y 108 ([(-1)] : List Int) [(0, _)] [((.tmp 19), _)] intE_len (gd0 rfl) (AllE.spec ⟨rfl, trivial⟩) rfl rfl Try.underlying60 t3 rfl rfl rfl rfl rfl rfl rfl rfl ?_
            refine K.appendL 109 (lrowV 108 3 intE 1 ([(-1)] : List Int)) _ el60 (lrowV_is intE_len (by decide)) intE_one (gd0 rfl) rfl rfl rfl rfl rfl (ap_m h4) (ap_b h4 (by decide)) rfl rfl rfl rfl rfl rfl ?_
            refine K.move (.inr rfl) (gd0 rfl) rfl rfl ?_
            refine K.nil ?_
            refine At.block_normal ?_
            refine At.next ?_
            refine G.rg ?_
            refine K.move (.inl rfl) (gd0 rfl) rfl rfl ?_
            refine K.bin (V := .int .i64 (w64 (v2 + 1))) (gd0 rfl) rfl rfl (fun _ => rfl) rfl ?_
            refine K.move (.inr rfl) (gd0 rfl) rfl rfl ?_
            refine K.nil ?_
            exact At.again (σ := { q : Nat × (List Int × Int) // R08_Counts.l0 k l0 q.1 q.2 = some x1 }) (Fs := fun q => [(0, SV.raw s0), (3, .a (.c (.nv 105))), (4, .a (.c (.v (.int .i64 q.1.2.2))))]) (Tl := fun q => [(0, rd S W0), (105, lrow 105 3 intE 1 q.1.2.1)]) (μ := fun q => q.1.1) (s := ⟨(n0 + 1, (v1, v2)), HL0⟩) ⟨(n0, ((v1 ++ ([(-1)] : List Int)), (w64 (v2 + 1)))), H1⟩ [(105, 109)] [_, _] (Nat.lt_succ_self _) rfl ⟨rfl, rfl, rfl, trivial⟩ ⟨rfl, (fun _ => rfl), rfl, (lrow_ren rfl), trivial⟩ rfl
        ·
          replace H1 := bif_f H1 h1
          refine G.exit ?_
          refine At.over_exit ?_
          refine At.over_exit ?_
          refine At.block_hit ?_
          exact At.joined (σ := { v : List Int // x1 = v }) (Fs := fun q => [(3, .a (.c (.nv 102)))]) (Tl := fun q => [(0, rd S W0), (102, lrow 102 3 intE 1 q.1)]) ⟨v1, (Option.some.inj H1).symm⟩ [(102, 105)] [_, _] rfl ⟨rfl, trivial⟩ ⟨rfl, (fun _ => rfl), rfl, (lrow_ren rfl), trivial⟩ rfl
  ·
    rintro ⟨_, rfl⟩
    show G _ _ [(3, .a (.c (.nv 102)))] [(0, some (rd S W0)), (102, some (lrow 102 3 intE 1 x1))] _ _
    refine G.seq ?_
    refine G.rg ?_
    refine K.move (.inl rfl) (gd0 rfl) rfl rfl ?_
    refine K.move (.inr rfl) (gd0 rfl) rfl rfl ?_
    refine K.nil ?_
    refine At.next ?_
    refine G.ret ?_
    refine At.ren (fs' := [(2, .a (.c (.nv 30)))]) (tl := [(0, rd S W0), (30, lrow 30 3 intE 1 x1)]) [(30, 102)] [_, _] rfl ⟨rfl, trivial⟩ ⟨rfl, (fun _ => rfl), rfl, (lrow_ren rfl), trivial⟩ rfl ?_
    refine At.done Y [(.tmp 2, .c _)] rfl ⟨.tmp rfl, trivial⟩ (to' := [(0, _), (30, _)]) ⟨rfl, rfl, trivial⟩ ?_ ?_ rfl rfl rfl (.inl rfl)
    · cases H0; rfl
    · cases H0; rfl
theorem R08_Counts_con {k : Nat}  {S : Foot} {W0 : World} {s0 : Value} {l0 : List TR08Mark} {r : List Int} (hL0 : LArg S W0 s0 eTR08Mark 8 l0) (H0 : R08_Counts.f k l0 = some r) (m30 : Nat) (hd : ndB [m30] = true) : SCon Try.prog 54 [SV.raw s0] [(0, rd S W0)] (.a (.c (.nv m30))) [(0, rd S W0), (m30, lrow m30 3 intE 1 r)] [m30] :=
  SCon.ren (rn [(30, m30)]) (R08_Counts_con0 (k := k)  hL0 H0) ⟨(fun _ => rfl), trivial⟩ ⟨(fun _ => rfl), (lrow_ren rfl), trivial⟩ (rn_nd hd rfl rfl) (rn_ks hd rfl rfl rfl)
theorem R08_Weights_con0 {k : Nat}  {S : Foot} {W0 : World} {s0 : Value} {l0 : List TR08Mark} {r : List Int} (hL0 : LArg S W0 s0 eTR08Mark 8 l0) (H0 : R08_Weights.f k l0 = some r) : SCon Try.prog 44 [SV.raw s0] [(0, rd S W0)] (.a (.c (.nv 30))) [(0, rd S W0), (30, lrow 30 3 intE 1 r)] [30] := by
  rw [R08_Weights.f] at H0
  obtain ⟨b0, o0, hI0⟩ := hL0
  refine spec_of [(0, _)] [(0, _)] 30 Try.func44 rfl Try.ntmps44 rfl rfl rfl rfl (fun β W F => ?_)
  refine G.seq ?_
  refine G.rg ?_
  refine K.nilRow 100 3 intE 1 (.inl rfl) (gd0 rfl) rfl rfl rfl ?_
  refine K.nil ?_
  refine At.next ?_
  refine G.seq ?_
  obtain ⟨x1, hx1, H0⟩ := bnd H0
  refine G.rg ?_
  refine K.move (.inl rfl) (gd0 rfl) rfl rfl ?_
  refine K.callV [(.func 54, _), ((.tmp 5), _)] [(0, rd S W0)] [] [(101, _)] (fun β => [SV.raw s0]) (fun β w S2 h => R08_Counts_con (k := k) ((hI0.isC 0).larg ⟨_, List.mem_cons_self⟩ h) hx1 101 rfl) (toFn_func (cf 54 rfl) rfl) (gd0 rfl) ⟨rfl, rfl, trivial⟩ (fun _ => rfl) ⟨rfl, trivial⟩ rfl rfl rfl rfl rfl rfl ?_
  refine K.move (.inr rfl) (gd0 rfl) rfl rfl ?_
  refine K.nil ?_
  refine At.next ?_
  obtain ⟨x2, H1, H0⟩ := bnd H0
  refine G.seqJ (σ := { v : List Int // x2 = v }) (fun q => [(3, .a (.c (.nv 102)))]) (fun q => [(0, rd S W0), (102, lrow 102 3 intE 1 q.1)]) ?_ ?_
  ·
    refine G.seq ?_
    refine G.rg ?_
    refine K.move (.inr rfl) (gd0 rfl) rfl rfl ?_
    refine K.nil ?_
    refine At.next ?_
    refine G.block ?_
    refine G.loop (σ := { q : Nat × (List Int × Int) // R08_Weights.l0 k l0 q.1 q.2 = some x2 }) (fun q => [(0, SV.raw s0), (3, .a (.c (.nv 105))), (4, .a (.c (.v (.int .i64 q.1.2.2))))]) (fun q => [(0, rd S W0), (105, lrow 105 3 intE 1 q.1.2.1)]) (fun q => q.1.1) ⟨(k, (x1, 0)), H1⟩ ?_ ?_
    · exact At.into [(105, 101)] [_, _] rfl ⟨rfl, rfl, rfl, trivial⟩ ⟨rfl, (fun _ => rfl), rfl, (lrow_ren rfl), trivial⟩ rfl
    ·
      rintro ⟨⟨n0, v1, v2⟩, H1⟩
      show G _ _ [(0, SV.raw s0), (3, .a (.c (.nv 105))), (4, .a (.c (.v (.int .i64 v2))))] [(0, some (rd S W0)), (105, some (lrow 105 3 intE 1 v1))] _ _
      cases n0 with
      | zero => exact absurd H1 (by simp [R08_Weights.l0])
      | succ n0 =>
        have HL0 := H1
        rw [R08_Weights.l0] at H1
        refine G.seq ?_
        refine G.seq ?_
        refine G.rg ?_
        refine K.move (.inl rfl) (gd0 rfl) rfl rfl ?_
        refine K.move (.inl rfl) (gd0 rfl) rfl rfl ?_
        refine K.lenL (rV 0 S W0 s0 b0 o0 eTR08Mark 8 l0) (hI0.is 0) (gd0 rfl) rfl rfl Try.underlying22 rfl ?_
        refine K.bin (V := .bool (decide (v2 < (l0.length : Int)))) (gd0 rfl) rfl rfl (fun _ => rfl) rfl ?_
        refine K.nil ?_
        refine At.next ?_
        refine G.cond rfl (fun h1 => ?_) (fun h1 => ?_)
        ·
          replace H1 := bif_t H1 h1
          refine G.skip ?_
          refine At.next ?_
          refine G.seq ?_
          refine G.block ?_
          refine G.seq ?_
          obtain ⟨x3, hx3, H1⟩ := bnd H1
          rcases Bool.eq_false_or_eq_true x3.op.insert with h2 | h2
          ·
            replace H1 := bif_t H1 h2
            refine G.rg ?_
            refine K.move (.inl rfl) (gd0 rfl) rfl rfl ?_
            refine K.move (.inl rfl) (gd0 rfl) rfl rfl ?_
            refine K.idxL (rV 0 S W0 s0 b0 o0 eTR08Mark 8 l0) ((v2).toNat) (hI0.is 0) (atL_get hx3) (atL_nn hx3) (gd0 rfl) rfl rfl rfl Try.underlying22 el22.size_run rfl ?_
            refine K.fieldL Y (rV 0 S W0 s0 b0 o0 eTR08Mark 8 l0) ((v2).toNat) 0 0 (hI0.is 0) (atL_get hx3) (gd0 rfl) rfl rfl t52 rfl rfl rfl rfl ?_
            refine K.fieldL Y (rV 0 S W0 s0 b0 o0 eTR08Mark 8 l0) ((v2).toNat) 0 1 (hI0.is 0) (atL_get hx3) (gd0 rfl) rfl rfl t35 rfl rfl rfl rfl ?_
            refine K.load1L Y (rV 0 S W0 s0 b0 o0 eTR08Mark 8 l0) ((v2).toNat) 1 (hI0.is 0) (atL_get hx3) (gd0 rfl) rfl rfl t4 rfl rfl ?_
            refine K.move (.inl rfl) (gd0 rfl) rfl rfl ?_
            refine K.move (.inl rfl) (gd1 rfl rfl rfl (h2)) rfl rfl ?_
            refine K.move (.inl rfl) (gd1 rfl rfl rfl (h2)) rfl rfl ?_
            refine K.idxL (rV 0 S W0 s0 b0 o0 eTR08Mark 8 l0) ((v2).toNat) (hI0.is 0) (atL_get hx3) (atL_nn hx3) (gd1 rfl rfl rfl (h2)) rfl rfl rfl Try.underlying22 el22.size_run rfl ?_
            refine K.fieldL Y (rV 0 S W0 s0 b0 o0 eTR08Mark 8 l0) ((v2).toNat) 0 4 (hI0.is 0) (atL_get hx3) (gd1 rfl rfl rfl (h2)) rfl rfl t52 rfl rfl rfl rfl ?_
            refine K.load1L Y (rV 0 S W0 s0 b0 o0 eTR08Mark 8 l0) ((v2).toNat) 4 (hI0.is 0) (atL_get hx3) (gd1 rfl rfl rfl (h2)) rfl rfl t4 rfl rfl ?_
            refine K.pickT (gd0 rfl) rfl (h2) rfl rfl ?_
            refine K.nil ?_
            refine At.next ?_
            refine G.cond rfl (fun h3 => ?_) (fun h3 => ?_)
            ·
              replace H1 := bif_t H1 h3
              obtain ⟨x4, hx4, H1⟩ := bnd H1
              refine G.rg ?_
              refine K.move (.inl rfl) (gd0 rfl) rfl rfl ?_
              refine K.move (.inl rfl) (gd0 rfl) rfl rfl ?_
              refine K.idxL (lrowV 105 3 intE 1 v1) ((v2).toNat) (lrowV_is intE_len (by decide)) (atL_get hx4) (atL_nn hx4) (gd0 rfl) rfl rfl rfl Try.underlying60 el60.size_run rfl ?_
              refine K.storeL Y ((v2).toNat) 0 [_] 0 intE_len (by decide) (atL_get hx4) (gd0 rfl) rfl rfl rfl t3 rfl rfl rfl rfl rfl rfl ?_
              refine K.nil ?_
              refine At.block_normal ?_
              refine At.next ?_
              refine G.rg ?_
              refine K.move (.inl rfl) (gd0 rfl) rfl rfl ?_
              refine K.bin (V := .int .i64 (w64 (v2 + 1))) (gd0 rfl) rfl rfl (fun _ => rfl) rfl ?_
              refine K.move (.inr rfl) (gd0 rfl) rfl rfl ?_
              refine K.nil ?_
              exact At.again (σ := { q : Nat × (List Int × Int) // R08_Weights.l0 k l0 q.1 q.2 = some x2 }) (Fs := fun q => [(0, SV.raw s0), (3, .a (.c (.nv 105))), (4, .a (.c (.v (.int .i64 q.1.2.2))))]) (Tl := fun q => [(0, rd S W0), (105, lrow 105 3 intE 1 q.1.2.1)]) (μ := fun q => q.1.1) (s := ⟨(n0 + 1, (v1, v2)), HL0⟩) ⟨(n0, ((v1.set ((v2).toNat) 0), (w64 (v2 + 1)))), H1⟩ [] [_, _] (Nat.lt_succ_self _) rfl ⟨rfl, rfl, rfl, trivial⟩ ⟨rfl, (fun _ => rfl), rfl, (lrow_ren rfl), trivial⟩ rfl
            ·
              replace H1 := bif_f H1 h3
              refine G.skip ?_
              refine At.block_normal ?_
              refine At.next ?_
              refine G.rg ?_
              refine K.move (.inl rfl) (gd0 rfl) rfl rfl ?_
              refine K.bin (V := .int .i64 (w64 (v2 + 1))) (gd0 rfl) rfl rfl (fun _ => rfl) rfl ?_
              refine K.move (.inr rfl) (gd0 rfl) rfl rfl ?_
              refine K.nil ?_
              exact At.again (σ := { q : Nat × (List Int × Int) // R08_Weights.l0 k l0 q.1 q.2 = some x2 }) (Fs := fun q => [(0, SV.raw s0), (3, .a (.c (.nv 105))), (4, .a (.c (.v (.int .i64 q.1.2.2))))]) (Tl := fun q => [(0, rd S W0), (105, lrow 105 3 intE 1 q.1.2.1)]) (μ := fun q => q.1.1) (s := ⟨(n0 + 1, (v1, v2)), HL0⟩) ⟨(n0, (v1, (w64 (v2 + 1)))), H1⟩ [] [_, _] (Nat.lt_succ_self _) rfl ⟨rfl, rfl, rfl, trivial⟩ ⟨rfl, (fun _ => rfl), rfl, (lrow_ren rfl), trivial⟩ rfl
          ·
            replace H1 := bif_f H1 h2
            refine G.rg ?_
            refine K.move (.inl rfl) (gd0 rfl) rfl rfl ?_
            refine K.move (.inl rfl) (gd0 rfl) rfl rfl ?_
            refine K.idxL (rV 0 S W0 s0 b0 o0 eTR08Mark 8 l0) ((v2).toNat) (hI0.is 0) (atL_get hx3) (atL_nn hx3) (gd0 rfl) rfl rfl rfl Try.underlying22 el22.size_run rfl ?_
            refine K.fieldL Y (rV 0 S W0 s0 b0 o0 eTR08Mark 8 l0) ((v2).toNat) 0 0 (hI0.is 0) (atL_get hx3) (gd0 rfl) rfl rfl t52 rfl rfl rfl rfl ?_
            refine K.fieldL Y (rV 0 S W0 s0 b0 o0 eTR08Mark 8 l0) ((v2).toNat) 0 1 (hI0.is 0) (atL_get hx3) (gd0 rfl) rfl rfl t35 rfl rfl rfl rfl ?_
            refine K.load1L Y (rV 0 S W0 s0 b0 o0 eTR08Mark 8 l0) ((v2).toNat) 1 (hI0.is 0) (atL_get hx3) (gd0 rfl) rfl rfl t4 rfl rfl ?_
            refine K.move (.inl rfl) (gd0 rfl) rfl rfl ?_
            refine K.skip rfl rfl rfl rfl (h2) rfl ?_
            refine K.skip rfl rfl rfl rfl (h2) rfl ?_
            refine K.skip rfl rfl rfl rfl (h2) rfl ?_
            refine K.skip rfl rfl rfl rfl (h2) rfl ?_
            refine K.skip rfl rfl rfl rfl (h2) rfl ?_
            refine K.pickF (gd0 rfl) rfl (h2) rfl rfl ?_
            refine K.nil ?_
            refine At.next ?_
            refine G.cond rfl (fun h4 => ?_) (fun h4 => ?_)
            · cases h4
            ·
              refine G.skip ?_
              refine At.block_normal ?_
              refine At.next ?_
              refine G.rg ?_
              refine K.move (.inl rfl) (gd0 rfl) rfl rfl ?_
              refine K.bin (V := .int .i64 (w64 (v2 + 1))) (gd0 rfl) rfl rfl (fun _ => rfl) rfl ?_
              refine K.move (.inr rfl) (gd0 rfl) rfl rfl ?_
              refine K.nil ?_
              exact At.again (σ := { q : Nat × (List Int × Int) // R08_Weights.l0 k l0 q.1 q.2 = some x2 }) (Fs := fun q => [(0, SV.raw s0), (3, .a (.c (.nv 105))), (4, .a (.c (.v (.int .i64 q.1.2.2))))]) (Tl := fun q => [(0, rd S W0), (105, lrow 105 3 intE 1 q.1.2.1)]) (μ := fun q => q.1.1) (s := ⟨(n0 + 1, (v1, v2)), HL0⟩) ⟨(n0, (v1, (w64 (v2 + 1)))), H1⟩ [] [_, _] (Nat.lt_succ_self _) rfl ⟨rfl, rfl, rfl, trivial⟩ ⟨rfl, (fun _ => rfl), rfl, (lrow_ren rfl), trivial⟩ rfl
        ·
          replace H1 := bif_f H1 h1
          refine G.exit ?_
          refine At.over_exit ?_
          refine At.over_exit ?_
          refine At.block_hit ?_
          exact At.joined (σ := { v : List Int // x2 = v }) (Fs := fun q => [(3, .a (.c (.nv 102)))]) (Tl := fun q => [(0, rd S W0), (102, lrow 102 3 intE 1 q.1)]) ⟨v1, (Option.some.inj H1).symm⟩ [(102, 105)] [_, _] rfl ⟨rfl, trivial⟩ ⟨rfl, (fun _ => rfl), rfl, (lrow_ren rfl), trivial⟩ rfl
  ·
    rintro ⟨_, rfl⟩
    show G _ _ [(3, .a (.c (.nv 102)))] [(0, some (rd S W0)), (102, some (lrow 102 3 intE 1 x2))] _ _
    refine G.seq ?_
    refine G.rg ?_
    refine K.move (.inl rfl) (gd0 rfl) rfl rfl ?_
    refine K.move (.inr rfl) (gd0 rfl) rfl rfl ?_
    refine K.nil ?_
    refine At.next ?_
    refine G.ret ?_
    refine At.ren (fs' := [(2, .a (.c (.nv 30)))]) (tl := [(0, rd S W0), (30, lrow 30 3 intE 1 x2)]) [(30, 102)] [_, _] rfl ⟨rfl, trivial⟩ ⟨rfl, (fun _ => rfl), rfl, (lrow_ren rfl), trivial⟩ rfl ?_
    refine At.done Y [(.tmp 2, .c _)] rfl ⟨.tmp rfl, trivial⟩ (to' := [(0, _), (30, _)]) ⟨rfl, rfl, trivial⟩ ?_ ?_ rfl rfl rfl (.inl rfl)
    · cases H0; rfl
    · cases H0; rfl
theorem R08_Weights_con {k : Nat}  {S : Foot} {W0 : World} {s0 : Value} {l0 : List TR08Mark} {r : List Int} (hL0 : LArg S W0 s0 eTR08Mark 8 l0) (H0 : R08_Weights.f k l0 = some r) (m30 : Nat) (hd : ndB [m30] = true) : SCon Try.prog 44 [SV.raw s0] [(0, rd S W0)] (.a (.c (.nv m30))) [(0, rd S W0), (m30, lrow m30 3 intE 1 r)] [m30] :=
  SCon.ren (rn [(30, m30)]) (R08_Weights_con0 (k := k)  hL0 H0) ⟨(fun _ => rfl), trivial⟩ ⟨(fun _ => rfl), (lrow_ren rfl), trivial⟩ (rn_nd hd rfl rfl) (rn_ks hd rfl rfl rfl)
theorem R10_Clamp_con0 {k : Nat}  {S : Foot} {W0 : World} {s0 : Value} {l0 : List TR08Mark} {a1 : Int} {r : Int} (hL0 : LArg S W0 s0 eTR08Mark 8 l0) (H0 : R10_Clamp.f k l0 a1 = some r) : SCon Try.prog 22 [SV.raw s0, .a (.c (.v (.int .i64 a1)))] [(0, rd S W0)] (.a (.c (.v (.int .i64 r)))) [(0, rd S W0)] [] := by
  rw [R10_Clamp.f] at H0
  obtain ⟨b0, o0, hI0⟩ := hL0
  refine spec_of [(0, _), (1, _)] [(0, _)] 14 Try.func22 rfl Try.ntmps22 rfl rfl rfl rfl (fun β W F => ?_)
  refine G.seq ?_
  refine G.rg ?_
  refine K.move (.inr rfl) (gd0 rfl) rfl rfl ?_
  refine K.nil ?_
  refine At.next ?_
  refine G.seq ?_
  refine G.seq ?_
  refine G.rg ?_
  refine K.move (.inl rfl) (gd0 rfl) rfl rfl ?_
  refine K.bin (V := .bool (decide (a1 < 0))) (gd0 rfl) rfl rfl (fun _ => rfl) rfl ?_
  refine K.nil ?_
  refine At.next ?_
  refine G.cond rfl (fun h1 => ?_) (fun h1 => ?_)
  ·
    replace H0 := bif_t H0 h1
    refine G.seq ?_
    refine G.rg ?_
    refine K.move (.inr rfl) (gd0 rfl) rfl rfl ?_
    refine K.nil ?_
    refine At.next ?_
    refine G.ret ?_
    refine At.over_ret ?_
    refine At.done Y [(.tmp 4, .c _)] rfl ⟨.tmp rfl, trivial⟩ (to' := [(0, _)]) ⟨rfl, trivial⟩ ?_ ?_ rfl rfl rfl (.inl rfl)
    · cases H0; rfl
    · cases H0; rfl
  ·
    replace H0 := bif_f H0 h1
    refine G.skip ?_
    refine At.next ?_
    refine G.seq ?_
    refine G.seq ?_
    refine G.rg ?_
    refine K.move (.inl rfl) (gd0 rfl) rfl rfl ?_
    refine K.move (.inl rfl) (gd0 rfl) rfl rfl ?_
    refine K.lenL (rV 0 S W0 s0 b0 o0 eTR08Mark 8 l0) (hI0.is 0) (gd0 rfl) rfl rfl Try.underlying22 rfl ?_
    refine K.bin (V := .bool (decide (a1 > (l0.length : Int)))) (gd0 rfl) rfl rfl (fun _ => rfl) rfl ?_
    refine K.nil ?_
    refine At.next ?_
    refine G.cond rfl (fun h2 => ?_) (fun h2 => ?_)
    ·
      replace H0 := bif_t H0 h2
      refine G.seq ?_
      refine G.rg ?_
      refine K.move (.inl rfl) (gd0 rfl) rfl rfl ?_
      refine K.lenL (rV 0 S W0 s0 b0 o0 eTR08Mark 8 l0) (hI0.is 0) (gd0 rfl) rfl rfl Try.underlying22 rfl ?_
      refine K.move (.inr rfl) (gd0 rfl) rfl rfl ?_
      refine K.nil ?_
      refine At.next ?_
      refine G.ret ?_
      refine At.over_ret ?_
      refine At.done Y [(.tmp 4, .c _)] rfl ⟨.tmp rfl, trivial⟩ (to' := [(0, _)]) ⟨rfl, trivial⟩ ?_ ?_ rfl rfl rfl (.inl rfl)
      · cases H0; rfl
      · cases H0; rfl
    ·
      replace H0 := bif_f H0 h2
      refine G.skip ?_
      refine At.next ?_
      refine G.seq ?_
      refine G.rg ?_
      refine K.move (.inl rfl) (gd0 rfl) rfl rfl ?_
      refine K.move (.inr rfl) (gd0 rfl) rfl rfl ?_
      refine K.nil ?_
      refine At.next ?_
      refine G.ret ?_
      refine At.done Y [(.tmp 4, .c _)] rfl ⟨.tmp rfl, trivial⟩ (to' := [(0, _)]) ⟨rfl, trivial⟩ ?_ ?_ rfl rfl rfl (.inl rfl)
      · cases H0; rfl
      · cases H0; rfl
theorem R10_Clamp_con {k : Nat}  {S : Foot} {W0 : World} {s0 : Value} {l0 : List TR08Mark} {a1 : Int} {r : Int} (hL0 : LArg S W0 s0 eTR08Mark 8 l0) (H0 : R10_Clamp.f k l0 a1 = some r) : SCon Try.prog 22 [SV.raw s0, .a (.c (.v (.int .i64 a1)))] [(0, rd S W0)] (.a (.c (.v (.int .i64 r)))) [(0, rd S W0)] [] :=
  SCon.ren (rn []) (R10_Clamp_con0 (k := k)  hL0 H0) ⟨(fun _ => rfl), trivial⟩ ⟨(fun _ => rfl), trivial⟩ (by simp) (by simp)
theorem R06_Sum_con0 {k : Nat}  {S : Foot} {W0 : World} {s0 : Value} {l0 : List Int} {a1 : Int} {r : Int} (hL0 : LArg S W0 s0 intE 1 l0) (H0 : R06_Sum.f k l0 a1 = some r) : SCon Try.prog 45 [SV.raw s0, .a (.c (.v (.int .i64 a1)))] [(0, rd S W0)] (.a (.c (.v (.int .i64 r)))) [(0, rd S W0)] [] := by
  rw [R06_Sum.f] at H0
  obtain ⟨b0, o0, hI0⟩ := hL0
  refine spec_of [(0, _), (1, _)] [(0, _)] 19 Try.func45 rfl Try.ntmps45 rfl rfl rfl rfl (fun β W F => ?_)
  refine G.seq ?_
  refine G.rg ?_
  refine K.move (.inr rfl) (gd0 rfl) rfl rfl ?_
  refine K.nil ?_
  refine At.next ?_
  refine G.seq ?_
  refine G.rg ?_
  refine K.move (.inr rfl) (gd0 rfl) rfl rfl ?_
  refine K.nil ?_
  refine At.next ?_
  obtain ⟨x1, H1, H0⟩ := bnd H0
  refine G.seqJ (σ := { v : Int // x1 = v }) (fun q => [(5, .a (.c (.v (.int .i64 q.1))))]) (fun q => [(0, rd S W0)]) ?_ ?_
  ·
    refine G.seq ?_
    refine G.rg ?_
    refine K.move (.inr rfl) (gd0 rfl) rfl rfl ?_
    refine K.nil ?_
    refine At.next ?_
    refine G.block ?_
    refine G.loop (σ := { q : Nat × (Int × Int) // R06_Sum.l0 k l0 a1 q.1 q.2 = some x1 }) (fun q => [(0, SV.raw s0), (1, .a (.c (.v (.int .i64 a1)))), (5, .a (.c (.v (.int .i64 q.1.2.1)))), (6, .a (.c (.v (.int .i64 q.1.2.2))))]) (fun q => [(0, rd S W0)]) (fun q => q.1.1) ⟨(k, (0, 0)), H1⟩ ?_ ?_
    · exact At.into [] [_] rfl ⟨rfl, rfl, rfl, rfl, trivial⟩ ⟨rfl, (fun _ => rfl), trivial⟩ rfl
    ·
      rintro ⟨⟨n0, v1, v2⟩, H1⟩
      show G _ _ [(0, SV.raw s0), (1, .a (.c (.v (.int .i64 a1)))), (5, .a (.c (.v (.int .i64 v1)))), (6, .a (.c (.v (.int .i64 v2))))] [(0, some (rd S W0))] _ _
      cases n0 with
      | zero => exact absurd H1 (by simp [R06_Sum.l0])
      | succ n0 =>
        have HL0 := H1
        rw [R06_Sum.l0] at H1
        refine G.seq ?_
        refine G.seq ?_
        refine G.rg ?_
        refine K.move (.inl rfl) (gd0 rfl) rfl rfl ?_
        refine K.move (.inl rfl) (gd0 rfl) rfl rfl ?_
        refine K.bin (V := .bool (decide (v2 < a1))) (gd0 rfl) rfl rfl (fun _ => rfl) rfl ?_
        refine K.nil ?_
        refine At.next ?_
        refine G.cond rfl (fun h1 => ?_) (fun h1 => ?_)
        ·
          replace H1 := bif_t H1 h1
          refine G.skip ?_
          refine At.next ?_
          refine G.seq ?_
          refine G.block ?_
          obtain ⟨x2, hx2, H1⟩ := bnd H1
          refine G.rg ?_
          refine K.move (.inl rfl) (gd0 rfl) rfl rfl ?_
          refine K.move (.inl rfl) (gd0 rfl) rfl rfl ?_
          refine K.move (.inl rfl) (gd0 rfl) rfl rfl ?_
          refine K.idxL (rV 0 S W0 s0 b0 o0 intE 1 l0) ((v2).toNat) (hI0.is 0) (atL_get hx2) (atL_nn hx2) (gd0 rfl) rfl rfl rfl Try.underlying60 el60.size_run rfl ?_
          refine K.load1L Y (rV 0 S W0 s0 b0 o0 intE 1 l0) ((v2).toNat) 0 (hI0.is 0) (atL_get hx2) (gd0 rfl) rfl rfl t3 rfl rfl ?_
          refine K.bin (V := .int .i64 (w64 (v1 + x2))) (gd0 rfl) rfl rfl (fun _ => rfl) rfl ?_
          refine K.move (.inr rfl) (gd0 rfl) rfl rfl ?_
          refine K.nil ?_
          refine At.block_normal ?_
          refine At.next ?_
          refine G.rg ?_
          refine K.move (.inl rfl) (gd0 rfl) rfl rfl ?_
          refine K.bin (V := .int .i64 (w64 (v2 + 1))) (gd0 rfl) rfl rfl (fun _ => rfl) rfl ?_
          refine K.move (.inr rfl) (gd0 rfl) rfl rfl ?_
          refine K.nil ?_
          exact At.again (σ := { q : Nat × (Int × Int) // R06_Sum.l0 k l0 a1 q.1 q.2 = some x1 }) (Fs := fun q => [(0, SV.raw s0), (1, .a (.c (.v (.int .i64 a1)))), (5, .a (.c (.v (.int .i64 q.1.2.1)))), (6, .a (.c (.v (.int .i64 q.1.2.2))))]) (Tl := fun q => [(0, rd S W0)]) (μ := fun q => q.1.1) (s := ⟨(n0 + 1, (v1, v2)), HL0⟩) ⟨(n0, ((w64 (v1 + x2)), (w64 (v2 + 1)))), H1⟩ [] [_] (Nat.lt_succ_self _) rfl ⟨rfl, rfl, rfl, rfl, trivial⟩ ⟨rfl, (fun _ => rfl), trivial⟩ rfl
        ·
          replace H1 := bif_f H1 h1
          refine G.exit ?_
          refine At.over_exit ?_
          refine At.over_exit ?_
          refine At.block_hit ?_
          exact At.joined (σ := { v : Int // x1 = v }) (Fs := fun q => [(5, .a (.c (.v (.int .i64 q.1))))]) (Tl := fun q => [(0, rd S W0)]) ⟨v1, (Option.some.inj H1).symm⟩ [] [_] rfl ⟨rfl, trivial⟩ ⟨rfl, (fun _ => rfl), trivial⟩ rfl
  ·
    rintro ⟨_, rfl⟩
    show G _ _ [(5, .a (.c (.v (.int .i64 x1))))] [(0, some (rd S W0))] _ _
    refine G.seq ?_
    refine G.rg ?_
    refine K.move (.inl rfl) (gd0 rfl) rfl rfl ?_
    refine K.move (.inr rfl) (gd0 rfl) rfl rfl ?_
    refine K.nil ?_
    refine At.next ?_
    refine G.ret ?_
    refine At.done Y [(.tmp 4, .c _)] rfl ⟨.tmp rfl, trivial⟩ (to' := [(0, _)]) ⟨rfl, trivial⟩ ?_ ?_ rfl rfl rfl (.inl rfl)
    · cases H0; rfl
    · cases H0; rfl
theorem R06_Sum_con {k : Nat}  {S : Foot} {W0 : World} {s0 : Value} {l0 : List Int} {a1 : Int} {r : Int} (hL0 : LArg S W0 s0 intE 1 l0) (H0 : R06_Sum.f k l0 a1 = some r) : SCon Try.prog 45 [SV.raw s0, .a (.c (.v (.int .i64 a1)))] [(0, rd S W0)] (.a (.c (.v (.int .i64 r)))) [(0, rd S W0)] [] :=
  SCon.ren (rn []) (R06_Sum_con0 (k := k)  hL0 H0) ⟨(fun _ => rfl), trivial⟩ ⟨(fun _ => rfl), trivial⟩ (by simp) (by simp)
theorem R10_Height_con0 {k : Nat}  {S : Foot} {W0 : World} {s0 : Value} {l0 : List TR08Mark} {a1 : Int} {a2 : Int} {r : Int} (hL0 : LArg S W0 s0 eTR08Mark 8 l0) (H0 : R10_Height.f k l0 a1 a2 = some r) : SCon Try.prog 15 [SV.raw s0, .a (.c (.v (.int .i64 a1))), .a (.c (.v (.int .i64 a2)))] [(0, rd S W0)] (.a (.c (.v (.int .i64 r)))) [(0, rd S W0)] [] := by
  rw [R10_Height.f] at H0
  obtain ⟨b0, o0, hI0⟩ := hL0
  refine spec_of [(0, _), (1, _), (2, _)] [(0, _)] 17 Try.func15 rfl Try.ntmps15 rfl rfl rfl rfl (fun β W F => ?_)
  refine G.seq ?_
  refine G.rg ?_
  refine K.move (.inr rfl) (gd0 rfl) rfl rfl ?_
  refine K.nil ?_
  refine At.next ?_
  refine G.seq ?_
  obtain ⟨x1, hx1, H0⟩ := bnd H0
  refine G.rg ?_
  refine K.move (.inl rfl) (gd0 rfl) rfl rfl ?_
  refine K.callV [(.func 44, _), ((.tmp 8), _)] [(0, rd S W0)] [] [(100, _)] (fun β => [SV.raw s0]) (fun β w S2 h => R08_Weights_con (k := k) ((hI0.isC 0).larg ⟨_, List.mem_cons_self⟩ h) hx1 100 rfl) (toFn_func (cf 44 rfl) rfl) (gd0 rfl) ⟨rfl, rfl, trivial⟩ (fun _ => rfl) ⟨rfl, trivial⟩ rfl rfl rfl rfl rfl rfl ?_
  refine K.move (.inr rfl) (gd0 rfl) rfl rfl ?_
  refine K.nil ?_
  refine At.next ?_
  refine G.seq ?_
  obtain ⟨x2, hx2, H0⟩ := bnd H0
  obtain ⟨x3, hx3, H0⟩ := bnd H0
  refine G.rg ?_
  refine K.move (.inl rfl) (gd0 rfl) rfl rfl ?_
  refine K.move (.inl rfl) (gd0 rfl) rfl rfl ?_
  refine K.move (.inl rfl) (gd0 rfl) rfl rfl ?_
  refine K.move (.inl rfl) (gd0 rfl) rfl rfl ?_
  refine K.callV [(.func 22, _), ((.tmp 12), _), ((.tmp 13), _)] [(0, rd S W0)] [] [] (fun β => [SV.raw s0, .a (.c (.v (.int .i64 a1)))]) (fun β w S2 h => R10_Clamp_con (k := k) ((hI0.isC 0).larg ⟨_, List.mem_cons_self⟩ h) hx2) (toFn_func (cf 22 rfl) rfl) (gd0 rfl) ⟨rfl, rfl, rfl, trivial⟩ (fun _ => rfl) ⟨rfl, trivial⟩ rfl rfl rfl rfl rfl rfl ?_
  refine K.callV [(.func 45, _), ((.tmp 11), _), ((.tmp 14), _)] [(100, lrow 100 3 intE 1 x1)] [] [] (fun β => [SV.raw ((lrowV 100 3 intE 1 x1).s.den β), .a (.c (.v (.int .i64 x2)))]) (fun β w S2 h => R06_Sum_con (k := k) ((lrowV_isC intE_len (by decide)).larg ⟨_, List.mem_cons_self⟩ h) hx3) (toFn_func (cf 45 rfl) rfl) (gd0 rfl) ⟨rfl, rfl, rfl, trivial⟩ (fun _ => rfl) ⟨rfl, trivial⟩ rfl rfl rfl rfl rfl rfl ?_
  refine K.bin (V := .int .i64 (w64 (a2 + x3))) (gd0 rfl) rfl rfl (fun _ => rfl) rfl ?_
  refine K.move (.inr rfl) (gd0 rfl) rfl rfl ?_
  refine K.nil ?_
  refine At.next ?_
  refine G.ret ?_
  refine At.done Y [(.tmp 6, .c _)] rfl ⟨.tmp rfl, trivial⟩ (to' := [(0, _)]) ⟨rfl, trivial⟩ ?_ ?_ rfl rfl rfl (.inl rfl)
  · cases H0; rfl
  · cases H0; rfl
theorem R10_Height_con {k : Nat}  {S : Foot} {W0 : World} {s0 : Value} {l0 : List TR08Mark} {a1 : Int} {a2 : Int} {r : Int} (hL0 : LArg S W0 s0 eTR08Mark 8 l0) (H0 : R10_Height.f k l0 a1 a2 = some r) : SCon Try.prog 15 [SV.raw s0, .a (.c (.v (.int .i64 a1))), .a (.c (.v (.int .i64 a2)))] [(0, rd S W0)] (.a (.c (.v (.int .i64 r)))) [(0, rd S W0)] [] :=
  SCon.ren (rn []) (R10_Height_con0 (k := k)  hL0 H0) ⟨(fun _ => rfl), trivial⟩ ⟨(fun _ => rfl), trivial⟩ (by simp) (by simp)
theorem bridge_Best_con0 {k : Nat}  {p1 : Pool (TNode TMark TSwell)} {rt0 : TRef} {a1 : Int} {r : TTook}  (H0 : bridge_Best.f k p1 rt0 a1 = some r) : SCon Try.prog 23 [SV.p 0 0, .a (.c (.v (.int .i64 a1)))] [(0, blk 0 [.p 1 0, .i rt0.index, .i rt0.gen] 74), (1, plM 1 p1)] (.a (.agg ((eTTook r).map .v))) [(0, blk 0 [.p 1 0, .i rt0.index, .i rt0.gen] 74), (1, plM 1 p1)] [] := by
  rw [bridge_Best.f] at H0
  refine spec_of [(0, _), (1, _)] [(0, _), (1, _)] 13 Try.func23 rfl Try.ntmps23 rfl rfl rfl rfl (fun β W F => ?_)
  refine G.seq ?_
  refine G.rg ?_
  refine K.alloc Y 100 [_, _, _] (gd0 rfl) t37 rfl rfl rfl rfl rfl ?_
  refine K.nil ?_
  refine At.next ?_
  refine G.seq ?_
  obtain ⟨x1, hx1, H0⟩ := bnd H0
  obtain ⟨x2, hx2, H0⟩ := bnd H0
  obtain ⟨x3, hx3, H0⟩ := bnd H0
  refine G.rg ?_
  refine K.move (.inl rfl) (gd0 rfl) rfl rfl ?_
  refine K.move (.inl rfl) (gd0 rfl) rfl rfl ?_
  refine K.move (.inl rfl) (gd0 rfl) rfl rfl ?_
  refine K.callR [(.func 46, _), ((.tmp 6), _), ((.tmp 7), _)] (bridge_clamp_con (k := k) hx1 0 1) (toFn_func (cf 46 rfl) rfl) (gd0 rfl) ⟨rfl, rfl, rfl, trivial⟩ ⟨rfl, rfl, trivial⟩ rfl rfl rfl ?_
  refine K.move (.inl rfl) (gd0 rfl) rfl rfl ?_
  refine K.callR [(.func 21, _), ((.tmp 9), _)] (Tree_LenM_con (k := k) hx2 0 1) (toFn_func (cf 21 rfl) rfl) (gd0 rfl) ⟨rfl, rfl, trivial⟩ ⟨rfl, rfl, trivial⟩ rfl rfl rfl ?_
  refine K.callR [(.func 41, _), ((.tmp 5), _), ((.tmp 8), _), ((.tmp 10), _)] (Tree_BetweenM_con (k := k) hx3 0 1) (toFn_func (cf 41 rfl) rfl) (gd0 rfl) ⟨rfl, rfl, rfl, rfl, trivial⟩ ⟨rfl, rfl, trivial⟩ rfl rfl rfl ?_
  refine K.fieldS Y [_, _, _] (gd0 rfl) rfl t43 rfl t37 rfl rfl ?_
  refine K.store Y [_, _, _] (gd0 rfl) rfl rfl rfl t37 rfl rfl rfl rfl rfl ?_
  refine K.nil ?_
  refine At.next ?_
  refine G.ret ?_
  refine At.done Y [(.cell 4 37, .agg [_, _, _])] rfl ⟨.st rfl rfl t37 rfl rfl, trivial⟩ (to' := [(0, _), (1, _)]) ⟨rfl, rfl, trivial⟩ ?_ ?_ rfl rfl rfl (.inl rfl)
  · cases H0; rfl
  · cases H0; rfl
theorem bridge_Best_con {k : Nat}  {p1 : Pool (TNode TMark TSwell)} {rt0 : TRef} {a1 : Int} {r : TTook}  (H0 : bridge_Best.f k p1 rt0 a1 = some r) (m0 m1 : Nat) : SCon Try.prog 23 [SV.p m0 0, .a (.c (.v (.int .i64 a1)))] [(m0, blk m0 [.p m1 0, .i rt0.index, .i rt0.gen] 74), (m1, plM m1 p1)] (.a (.agg ((eTTook r).map .v))) [(m0, blk m0 [.p m1 0, .i rt0.index, .i rt0.gen] 74), (m1, plM m1 p1)] [] :=
  SCon.ren (rn [(0, m0), (1, m1)]) (bridge_Best_con0 (k := k)   H0) ⟨(blk_ren rfl rfl), (pl_ren rfl), trivial⟩ ⟨(blk_ren rfl rfl), (pl_ren rfl), trivial⟩ (by simp) (by simp)
theorem R02_Ahead_con0 {k : Nat}  {a0 : TItem} {a1 : TItem} {r : Bool}  (H0 : R02_Ahead.f k a0 a1 = some r) : SCon Try.prog 74 [.a (.agg ((eTItem a0).map .v)), .a (.agg ((eTItem a1).map .v))] [] (.a (.c (.v (.bool r)))) [] [] := by
  rw [R02_Ahead.f] at H0
  refine spec_of [(0, _), (1, _)] [] 24 Try.func74 rfl Try.ntmps74 rfl rfl rfl rfl (fun β W F => ?_)
  refine G.seq ?_
  refine G.rg ?_
  refine K.box Y 100 [_, _] (gd0 rfl) rfl rfl rfl rfl rfl rfl ?_
  refine K.box Y 101 [_, _] (gd0 rfl) rfl rfl rfl rfl rfl rfl ?_
  refine K.move (.inr rfl) (gd0 rfl) rfl rfl ?_
  refine K.nil ?_
  refine At.next ?_
  refine G.seq ?_
  rcases Bool.eq_false_or_eq_true (decide (a0.key < a1.key)) with h1 | h1
  ·
    replace H0 := bif_t H0 h1
    refine G.rg ?_
    refine K.fieldAddr Y (gd0 rfl) rfl t33 rfl rfl ?_
    refine K.load1 Y (gd0 rfl) rfl rfl t3 rfl rfl ?_
    refine K.fieldAddr Y (gd0 rfl) rfl t33 rfl rfl ?_
    refine K.load1 Y (gd0 rfl) rfl rfl t3 rfl rfl ?_
    refine K.bin (V := .bool (decide (a0.key < a1.key))) (gd0 rfl) rfl rfl (fun _ => rfl) rfl ?_
    refine K.move (.inl rfl) (gd0 rfl) rfl rfl ?_
    refine K.skip rfl rfl rfl rfl (h1) rfl ?_
    refine K.skip rfl rfl rfl rfl (h1) rfl ?_
    refine K.skip rfl rfl rfl rfl (h1) rfl ?_
    refine K.skip rfl rfl rfl rfl (h1) rfl ?_
    refine K.skip rfl rfl rfl rfl (h1) rfl ?_
    refine K.skip rfl rfl rfl rfl (h1) rfl ?_
    refine K.skipU rfl rfl rfl rfl rfl ?_
    refine K.skipU rfl rfl rfl rfl rfl ?_
    refine K.skipU rfl rfl rfl rfl rfl ?_
    refine K.skipU rfl rfl rfl rfl rfl ?_
    refine K.skipU rfl rfl rfl rfl rfl ?_
    refine K.skip rfl rfl rfl rfl (h1) rfl ?_
    refine K.pickT (gd0 rfl) rfl (h1) rfl rfl ?_
    refine K.move (.inr rfl) (gd0 rfl) rfl rfl ?_
    refine K.nil ?_
    refine At.next ?_
    refine G.ret ?_
    refine At.done Y [(.tmp 4, .c _)] rfl ⟨.tmp rfl, trivial⟩ (to' := []) trivial ?_ ?_ rfl rfl rfl (.inl rfl)
    · cases H0; rfl
    · cases H0; rfl
  ·
    replace H0 := bif_f H0 h1
    rcases Bool.eq_false_or_eq_true (a0.key == a1.key) with h2 | h2
    ·
      replace H0 := bif_t H0 h2
      refine G.rg ?_
      refine K.fieldAddr Y (gd0 rfl) rfl t33 rfl rfl ?_
      refine K.load1 Y (gd0 rfl) rfl rfl t3 rfl rfl ?_
      refine K.fieldAddr Y (gd0 rfl) rfl t33 rfl rfl ?_
      refine K.load1 Y (gd0 rfl) rfl rfl t3 rfl rfl ?_
      refine K.bin (V := .bool (decide (a0.key < a1.key))) (gd0 rfl) rfl rfl (fun _ => rfl) rfl ?_
      refine K.move (.inl rfl) (gd0 rfl) rfl rfl ?_
      refine K.fieldAddr Y (gd1 rfl rfl rfl (h1)) rfl t33 rfl rfl ?_
      refine K.load1 Y (gd1 rfl rfl rfl (h1)) rfl rfl t3 rfl rfl ?_
      refine K.fieldAddr Y (gd1 rfl rfl rfl (h1)) rfl t33 rfl rfl ?_
      refine K.load1 Y (gd1 rfl rfl rfl (h1)) rfl rfl t3 rfl rfl ?_
      refine K.bin (V := .bool (a0.key == a1.key)) (gd1 rfl rfl rfl (h1)) rfl rfl (fun _ => rfl) rfl ?_
      refine K.move (.inl rfl) (gd1 rfl rfl rfl (h1)) rfl rfl ?_
      refine K.fieldAddr Y (gd1 rfl rfl rfl (h2)) rfl t33 rfl rfl ?_
      refine K.load1 Y (gd1 rfl rfl rfl (h2)) rfl rfl t3 rfl rfl ?_
      refine K.fieldAddr Y (gd1 rfl rfl rfl (h2)) rfl t33 rfl rfl ?_
      refine K.load1 Y (gd1 rfl rfl rfl (h2)) rfl rfl t3 rfl rfl ?_
      refine K.bin (V := .bool (decide (a0.id < a1.id))) (gd1 rfl rfl rfl (h2)) rfl rfl (fun _ => rfl) rfl ?_
      refine K.pickT (gd1 rfl rfl rfl (h1)) rfl (h2) rfl rfl ?_
      refine K.pickF (gd0 rfl) rfl (h1) rfl rfl ?_
      refine K.move (.inr rfl) (gd0 rfl) rfl rfl ?_
      refine K.nil ?_
      refine At.next ?_
      refine G.ret ?_
      refine At.done Y [(.tmp 4, .c _)] rfl ⟨.tmp rfl, trivial⟩ (to' := []) trivial ?_ ?_ rfl rfl rfl (.inl rfl)
      · cases H0; rfl
      · cases H0; rfl
    ·
      replace H0 := bif_f H0 h2
      refine G.rg ?_
      refine K.fieldAddr Y (gd0 rfl) rfl t33 rfl rfl ?_
      refine K.load1 Y (gd0 rfl) rfl rfl t3 rfl rfl ?_
      refine K.fieldAddr Y (gd0 rfl) rfl t33 rfl rfl ?_
      refine K.load1 Y (gd0 rfl) rfl rfl t3 rfl rfl ?_
      refine K.bin (V := .bool (decide (a0.key < a1.key))) (gd0 rfl) rfl rfl (fun _ => rfl) rfl ?_
      refine K.move (.inl rfl) (gd0 rfl) rfl rfl ?_
      refine K.fieldAddr Y (gd1 rfl rfl rfl (h1)) rfl t33 rfl rfl ?_
      refine K.load1 Y (gd1 rfl rfl rfl (h1)) rfl rfl t3 rfl rfl ?_
      refine K.fieldAddr Y (gd1 rfl rfl rfl (h1)) rfl t33 rfl rfl ?_
      refine K.load1 Y (gd1 rfl rfl rfl (h1)) rfl rfl t3 rfl rfl ?_
      refine K.bin (V := .bool (a0.key == a1.key)) (gd1 rfl rfl rfl (h1)) rfl rfl (fun _ => rfl) rfl ?_
      refine K.move (.inl rfl) (gd1 rfl rfl rfl (h1)) rfl rfl ?_
      refine K.skip rfl rfl rfl rfl (h2) rfl ?_
      refine K.skip rfl rfl rfl rfl (h2) rfl ?_
      refine K.skip rfl rfl rfl rfl (h2) rfl ?_
      refine K.skip rfl rfl rfl rfl (h2) rfl ?_
      refine K.skip rfl rfl rfl rfl (h2) rfl ?_
      refine K.pickF (gd1 rfl rfl rfl (h1)) rfl (h2) rfl rfl ?_
      refine K.pickF (gd0 rfl) rfl (h1) rfl rfl ?_
      refine K.move (.inr rfl) (gd0 rfl) rfl rfl ?_
      refine K.nil ?_
      refine At.next ?_
      refine G.ret ?_
      refine At.done Y [(.tmp 4, .c _)] rfl ⟨.tmp rfl, trivial⟩ (to' := []) trivial ?_ ?_ rfl rfl rfl (.inl rfl)
      · cases H0; rfl
      · cases H0; rfl
theorem R02_Ahead_con {k : Nat}  {a0 : TItem} {a1 : TItem} {r : Bool}  (H0 : R02_Ahead.f k a0 a1 = some r) : SCon Try.prog 74 [.a (.agg ((eTItem a0).map .v)), .a (.agg ((eTItem a1).map .v))] [] (.a (.c (.v (.bool r)))) [] [] :=
  SCon.ren (rn []) (R02_Ahead_con0 (k := k)   H0) trivial trivial (by simp) (by simp)
theorem R02_Sorted_con0 {k : Nat}  {S : Foot} {W0 : World} {s0 : Value} {l0 : List TItem} {r : List TItem} (hL0 : LArg S W0 s0 eTItem 2 l0) (H0 : R02_Sorted.f k l0 = some r) : SCon Try.prog 66 [SV.raw s0] [(0, rd S W0)] (.a (.c (.nv 30))) [(0, rd S W0), (30, lrow 30 33 eTItem 2 r)] [30] := by
  rw [R02_Sorted.f] at H0
  obtain ⟨b0, o0, hI0⟩ := hL0
  refine spec_of [(0, _)] [(0, _)] 49 Try.func66 rfl Try.ntmps66 rfl rfl rfl rfl (fun β W F => ?_)
  refine G.seq ?_
  refine G.rg ?_
  refine K.nilRow 100 33 eTItem 2 (.inl rfl) (gd0 rfl) rfl rfl rfl ?_
  refine K.nil ?_
  refine At.next ?_
  refine G.seq ?_
  refine G.rg ?_
  refine K.nilRow 101 33 eTItem 2 (.inl rfl) (gd0 rfl) rfl rfl rfl ?_
  refine K.nil ?_
  refine At.next ?_
  obtain ⟨x1, H1, H0⟩ := bnd H0
  refine G.seqJ (σ := { v : List TItem // x1 = v }) (fun q => [(3, .a (.c (.nv 102)))]) (fun q => [(0, rd S W0), (102, lrow 102 33 eTItem 2 q.1)]) ?_ ?_
  ·
    refine G.seq ?_
    refine G.rg ?_
    refine K.move (.inr rfl) (gd0 rfl) rfl rfl ?_
    refine K.nil ?_
    refine At.next ?_
    refine G.block ?_
    refine G.loop (σ := { q : Nat × (List TItem × Int) // R02_Sorted.l0 k l0 q.1 q.2 = some x1 }) (fun q => [(0, SV.raw s0), (3, .a (.c (.nv 105))), (4, .a (.c (.v (.int .i64 q.1.2.2))))]) (fun q => [(0, rd S W0), (105, lrow 105 33 eTItem 2 q.1.2.1)]) (fun q => q.1.1) ⟨(k, (([] : List TItem), 0)), H1⟩ ?_ ?_
    · exact At.into [(105, 101)] [_, _] rfl ⟨rfl, rfl, rfl, trivial⟩ ⟨rfl, (fun _ => rfl), rfl, (lrow_ren rfl), trivial⟩ rfl
    ·
      rintro ⟨⟨n0, v1, v2⟩, H1⟩
      show G _ _ [(0, SV.raw s0), (3, .a (.c (.nv 105))), (4, .a (.c (.v (.int .i64 v2))))] [(0, some (rd S W0)), (105, some (lrow 105 33 eTItem 2 v1))] _ _
      cases n0 with
      | zero => exact absurd H1 (by simp [R02_Sorted.l0])
      | succ n0 =>
        have HL0 := H1
        rw [R02_Sorted.l0] at H1
        refine G.seq ?_
        refine G.seq ?_
        refine G.rg ?_
        refine K.move (.inl rfl) (gd0 rfl) rfl rfl ?_
        refine K.move (.inl rfl) (gd0 rfl) rfl rfl ?_
        refine K.lenL (rV 0 S W0 s0 b0 o0 eTItem 2 l0) (hI0.is 0) (gd0 rfl) rfl rfl Try.underlying75 rfl ?_
        refine K.bin (V := .bool (decide (v2 < (l0.length : Int)))) (gd0 rfl) rfl rfl (fun _ => rfl) rfl ?_
        refine K.nil ?_
        refine At.next ?_
        refine G.cond rfl (fun h1 => ?_) (fun h1 => ?_)
        ·
          replace H1 := bif_t H1 h1
          refine G.skip ?_
          refine At.next ?_
          obtain ⟨x2, H2, H1⟩ := bnd H1
          refine G.seqJ (σ := { v : List TItem // x2 = v }) (fun q => [(0, SV.raw s0), (3, .a (.c (.nv 106))), (4, .a (.c (.v (.int .i64 v2))))]) (fun q => [(0, rd S W0), (106, lrow 106 33 eTItem 2 q.1)]) ?_ ?_
          ·
            refine G.block ?_
            refine G.seq ?_
            refine G.rg ?_
            refine K.move (.inl rfl) (gd0 rfl) rfl rfl ?_
            refine K.lenL (lrowV 105 33 eTItem 2 v1) (lrowV_is eTItem_len (by decide)) (gd0 rfl) rfl rfl Try.underlying75 rfl ?_
            refine K.move (.inr rfl) (gd0 rfl) rfl rfl ?_
            refine K.nil ?_
            refine At.next ?_
            obtain ⟨x3, H3, H2⟩ := bnd H2
            refine G.seqJ (σ := { v : Int // x3 = v }) (fun q => [(0, SV.raw s0), (3, .a (.c (.nv 107))), (4, .a (.c (.v (.int .i64 v2)))), (5, .a (.c (.v (.int .i64 q.1))))]) (fun q => [(0, rd S W0), (107, lrow 107 33 eTItem 2 v1)]) ?_ ?_
            ·
              refine G.block ?_
              refine G.loop (σ := { q : Nat × (Int) // R02_Sorted.l1 k l0 v1 v2 q.1 q.2 = some x3 }) (fun q => [(0, SV.raw s0), (3, .a (.c (.nv 110))), (4, .a (.c (.v (.int .i64 v2)))), (5, .a (.c (.v (.int .i64 q.1.2))))]) (fun q => [(0, rd S W0), (110, lrow 110 33 eTItem 2 v1)]) (fun q => q.1.1) ⟨(k, (v1.length : Int)), H3⟩ ?_ ?_
              · exact At.into [(110, 105)] [_, _] rfl ⟨rfl, rfl, rfl, rfl, trivial⟩ ⟨rfl, (fun _ => rfl), rfl, (lrow_ren rfl), trivial⟩ rfl
              ·
                rintro ⟨⟨n0, v101⟩, H3⟩
                show G _ _ [(0, SV.raw s0), (3, .a (.c (.nv 110))), (4, .a (.c (.v (.int .i64 v2)))), (5, .a (.c (.v (.int .i64 v101))))] [(0, some (rd S W0)), (110, some (lrow 110 33 eTItem 2 v1))] _ _
                cases n0 with
                | zero => exact absurd H3 (by simp [R02_Sorted.l1])
                | succ n0 =>
                  have HL1 := H3
                  rw [R02_Sorted.l1] at H3
                  refine G.seq ?_
                  refine G.seq ?_
                  rcases Bool.eq_false_or_eq_true (decide (v101 > 0)) with h2 | h2
                  ·
                    replace H3 := bif_t H3 h2
                    obtain ⟨x4, hx4, H3⟩ := bnd H3
                    obtain ⟨x5, hx5, H3⟩ := bnd H3
                    obtain ⟨x6, hx6, H3⟩ := bnd H3
                    refine G.rd mixed ?_
                    refine K.move (.inl rfl) (gd0 rfl) rfl rfl ?_
                    refine K.bin (V := .bool (decide (v101 > 0))) (gd0 rfl) rfl rfl (fun _ => rfl) rfl ?_
                    refine K.move (.inl rfl) (gd0 rfl) rfl rfl ?_
                    refine K.move (.inl rfl) (gd1 rfl rfl rfl (h2)) rfl rfl ?_
                    refine K.move (.inl rfl) (gd1 rfl rfl rfl (h2)) rfl rfl ?_
                    refine K.idxL (rV 0 S W0 s0 b0 o0 eTItem 2 l0) ((v2).toNat) (hI0.is 0) (atL_get hx4) (atL_nn hx4) (gd1 rfl rfl rfl (h2)) rfl rfl rfl Try.underlying75 el75.size_run rfl ?_
                    refine K.loadSL Y (rV 0 S W0 s0 b0 o0 eTItem 2 l0) ((v2).toNat) 0 [_, _] [_, _] (hI0.is 0) (atL_get hx4) (gd1 rfl rfl rfl (h2)) rfl rfl t33 rfl rfl rfl rfl rfl ?_
                    refine K.move (.inl rfl) (gd1 rfl rfl rfl (h2)) rfl rfl ?_
                    refine K.move (.inl rfl) (gd1 rfl rfl rfl (h2)) rfl rfl ?_
                    refine K.bin (V := .int .i64 (w64 (v101 - 1))) (gd1 rfl rfl rfl (h2)) rfl rfl (fun _ => rfl) rfl ?_
                    refine K.idxL (lrowV 110 33 eTItem 2 v1) (((w64 (v101 - 1))).toNat) (lrowV_is eTItem_len (by decide)) (atL_get hx5) (atL_nn hx5) (gd1 rfl rfl rfl (h2)) rfl rfl rfl Try.underlying75 el75.size_run rfl ?_
                    refine K.loadSL Y (lrowV 110 33 eTItem 2 v1) (((w64 (v101 - 1))).toNat) 0 [_, _] [_, _] (lrowV_is eTItem_len (by decide)) (atL_get hx5) (gd1 rfl rfl rfl (h2)) rfl rfl t33 rfl rfl rfl rfl rfl ?_
                    refine K.callR [(.func 74, _), ((.tmp 21), _), ((.tmp 26), _)] (R02_Ahead_con (k := k) hx6) (toFn_func (cf 74 rfl) rfl) (gd1 rfl rfl rfl (h2)) ⟨rfl, rfl, rfl, trivial⟩ trivial rfl rfl rfl ?_
                    refine K.pickT (gd0 rfl) rfl (h2) rfl rfl ?_
                    refine K.nil ?_
                    refine ⟨by kernel_rfl, ?_⟩
                    refine At.next ?_
                    refine G.cond rfl (fun h3 => ?_) (fun h3 => ?_)
                    ·
                      replace H3 := bif_t H3 h3
                      refine G.skip ?_
                      refine At.next ?_
                      refine G.block ?_
                      refine G.rg ?_
                      refine K.move (.inl rfl) (gd0 rfl) rfl rfl ?_
                      refine K.bin (V := .int .i64 (w64 (v101 - 1))) (gd0 rfl) rfl rfl (fun _ => rfl) rfl ?_
                      refine K.move (.inr rfl) (gd0 rfl) rfl rfl ?_
                      refine K.nil ?_
                      refine At.block_normal ?_
                      exact At.again (σ := { q : Nat × (Int) // R02_Sorted.l1 k l0 v1 v2 q.1 q.2 = some x3 }) (Fs := fun q => [(0, SV.raw s0), (3, .a (.c (.nv 110))), (4, .a (.c (.v (.int .i64 v2)))), (5, .a (.c (.v (.int .i64 q.1.2))))]) (Tl := fun q => [(0, rd S W0), (110, lrow 110 33 eTItem 2 v1)]) (μ := fun q => q.1.1) (s := ⟨(n0 + 1, v101), HL1⟩) ⟨(n0, (w64 (v101 - 1))), H3⟩ [] [_, _] (Nat.lt_succ_self _) rfl ⟨rfl, rfl, rfl, rfl, trivial⟩ ⟨rfl, (fun _ => rfl), rfl, (lrow_ren rfl), trivial⟩ rfl
                    ·
                      replace H3 := bif_f H3 h3
                      refine G.exit ?_
                      refine At.over_exit ?_
                      refine At.over_exit ?_
                      refine At.block_hit ?_
                      exact At.joined (σ := { v : Int // x3 = v }) (Fs := fun q => [(0, SV.raw s0), (3, .a (.c (.nv 107))), (4, .a (.c (.v (.int .i64 v2)))), (5, .a (.c (.v (.int .i64 q.1))))]) (Tl := fun q => [(0, rd S W0), (107, lrow 107 33 eTItem 2 v1)]) ⟨v101, (Option.some.inj H3).symm⟩ [(107, 110)] [_, _] rfl ⟨rfl, rfl, rfl, rfl, trivial⟩ ⟨rfl, (fun _ => rfl), rfl, (lrow_ren rfl), trivial⟩ rfl
                  ·
                    replace H3 := bif_f H3 h2
                    refine G.rd mixed ?_
                    refine K.move (.inl rfl) (gd0 rfl) rfl rfl ?_
                    refine K.bin (V := .bool (decide (v101 > 0))) (gd0 rfl) rfl rfl (fun _ => rfl) rfl ?_
                    refine K.move (.inl rfl) (gd0 rfl) rfl rfl ?_
                    refine K.skip rfl rfl rfl rfl (h2) rfl ?_
                    refine K.skip rfl rfl rfl rfl (h2) rfl ?_
                    refine K.skip rfl rfl rfl rfl (h2) rfl ?_
                    refine K.skip rfl rfl rfl rfl (h2) rfl ?_
                    refine K.skip rfl rfl rfl rfl (h2) rfl ?_
                    refine K.skip rfl rfl rfl rfl (h2) rfl ?_
                    refine K.skip rfl rfl rfl rfl (h2) rfl ?_
                    refine K.skip rfl rfl rfl rfl (h2) rfl ?_
                    refine K.skip rfl rfl rfl rfl (h2) rfl ?_
                    refine K.skip rfl rfl rfl rfl (h2) rfl ?_
                    refine K.pickF (gd0 rfl) rfl (h2) rfl rfl ?_
                    refine K.nil ?_
                    refine ⟨by kernel_rfl, ?_⟩
                    refine At.next ?_
                    refine G.cond rfl (fun h4 => ?_) (fun h4 => ?_)
                    · cases h4
                    ·
                      refine G.exit ?_
                      refine At.over_exit ?_
                      refine At.over_exit ?_
                      refine At.block_hit ?_
                      exact At.joined (σ := { v : Int // x3 = v }) (Fs := fun q => [(0, SV.raw s0), (3, .a (.c (.nv 107))), (4, .a (.c (.v (.int .i64 v2)))), (5, .a (.c (.v (.int .i64 q.1))))]) (Tl := fun q => [(0, rd S W0), (107, lrow 107 33 eTItem 2 v1)]) ⟨v101, (Option.some.inj H3).symm⟩ [(107, 110)] [_, _] rfl ⟨rfl, rfl, rfl, rfl, trivial⟩ ⟨rfl, (fun _ => rfl), rfl, (lrow_ren rfl), trivial⟩ rfl
            ·
              rintro ⟨_, rfl⟩
              show G _ _ [(0, SV.raw s0), (3, .a (.c (.nv 107))), (4, .a (.c (.v (.int .i64 v2)))), (5, .a (.c (.v (.int .i64 x3))))] [(0, some (rd S W0)), (107, some (lrow 107 33 eTItem 2 v1))] _ _
              refine G.seq ?_
              refine G.rg ?_
              refine K.nilRow 111 33 eTItem 2 (.inl rfl) (gd0 rfl) rfl rfl rfl ?_
              refine K.nil ?_
              refine At.next ?_
              refine G.seq ?_
              obtain ⟨h5, H2⟩ := grd H2
              obtain ⟨h7, H2⟩ := grd H2
              refine G.rg ?_
              refine K.move (.inl rfl) (gd0 rfl) rfl rfl ?_
              refine K.move (.inl rfl) (gd0 rfl) rfl rfl ?_
              refine K.move (.inl rfl) (gd0 rfl) rfl rfl ?_
              refine K.partL 0 ((x3).toNat) (gd0 rfl) rfl .no (.at_ rfl h5.1 rfl) rfl Try.underlying75 el75.size_run (Nat.zero_le _) (tn_len h5.2) rfl ?_
              refine K.appendL 112 (lsubV 107 33 eTItem 2 v1 0 ((x3).toNat)) _ el75 (lsubV_is eTItem_len (by decide) (Nat.zero_le _) (tn_len h5.2)) eTItem_one (gd0 rfl) rfl rfl rfl rfl rfl (ap_m h7) (ap_b h7 (by decide)) rfl rfl rfl rfl rfl rfl ?_
              refine K.move (.inr rfl) (gd0 rfl) rfl rfl ?_
              refine K.nil ?_
              refine At.next ?_
              refine G.seq ?_
              obtain ⟨x7, hx7, H2⟩ := bnd H2
              obtain ⟨h8, H2⟩ := grd H2
              refine G.rg ?_
              refine K.move (.inl rfl) (gd0 rfl) rfl rfl ?_
              refine K.move (.inl rfl) (gd0 rfl) rfl rfl ?_
              refine K.move (.inl rfl) (gd0 rfl) rfl rfl ?_
              refine K.idxL (rV 0 S W0 s0 b0 o0 eTItem 2 l0) ((v2).toNat) (hI0.is 0) (atL_get hx7) (atL_nn hx7) (gd0 rfl) rfl rfl rfl Try.underlying75 el75.size_run rfl ?_
              refine K.loadSL Y (rV 0 S W0 s0 b0 o0 eTItem 2 l0) ((v2).toNat) 0 [_, _] [_, _] (hI0.is 0) (atL_get hx7) (gd0 rfl) rfl rfl t33 rfl rfl rfl rfl rfl ?_
              refine K.buildL Y 113 ([x7] : List TItem) [(0, _)] [((.tmp 40), _)] eTItem_len (gd0 rfl) (AllE.spec ⟨rfl, trivial⟩) rfl rfl Try.underlying75 t33 rfl rfl rfl rfl rfl rfl rfl rfl ?_
              refine K.appendL 114 (lrowV 113 33 eTItem 2 ([x7] : List TItem)) _ el75 (lrowV_is eTItem_len (by decide)) eTItem_one (gd0 rfl) rfl rfl rfl rfl rfl (ap_m h8) (ap_b h8 (by decide)) rfl rfl rfl rfl rfl rfl ?_
              refine K.move (.inr rfl) (gd0 rfl) rfl rfl ?_
              refine K.nil ?_
              refine At.next ?_
              obtain ⟨h9, H2⟩ := grd H2
              obtain ⟨h11, H2⟩ := grd H2
              refine G.rg ?_
              refine K.move (.inl rfl) (gd0 rfl) rfl rfl ?_
              refine K.move (.inl rfl) (gd0 rfl) rfl rfl ?_
              refine K.move (.inl rfl) (gd0 rfl) rfl rfl ?_
              refine K.partL ((x3).toNat) v1.length (gd0 rfl) rfl (.at_ rfl h9.1 rfl) .no rfl Try.underlying75 el75.size_run (tn_len h9.2) (Nat.le_refl _) rfl ?_
              refine K.appendL 115 (lsubV 107 33 eTItem 2 v1 ((x3).toNat) v1.length) _ el75 (lsubV_is eTItem_len (by decide) (tn_len h9.2) (Nat.le_refl _)) eTItem_one (gd0 rfl) rfl rfl rfl rfl rfl (ap_m h11) (ap_b h11 (by decide)) rfl rfl rfl rfl rfl rfl ?_
              refine K.move (.inr rfl) (gd0 rfl) rfl rfl ?_
              refine K.nil ?_
              refine At.block_normal ?_
              exact At.joined (σ := { v : List TItem // x2 = v }) (Fs := fun q => [(0, SV.raw s0), (3, .a (.c (.nv 106))), (4, .a (.c (.v (.int .i64 v2))))]) (Tl := fun q => [(0, rd S W0), (106, lrow 106 33 eTItem 2 q.1)]) ⟨(((([] : List TItem) ++ ((v1.drop 0).take (((x3).toNat) - 0))) ++ ([x7] : List TItem)) ++ ((v1.drop ((x3).toNat)).take (v1.length - ((x3).toNat)))), (Option.some.inj H2).symm⟩ [(106, 115)] [_, _] rfl ⟨rfl, rfl, rfl, trivial⟩ ⟨rfl, (fun _ => rfl), rfl, (lrow_ren rfl), trivial⟩ rfl
          ·
            rintro ⟨_, rfl⟩
            show G _ _ [(0, SV.raw s0), (3, .a (.c (.nv 106))), (4, .a (.c (.v (.int .i64 v2))))] [(0, some (rd S W0)), (106, some (lrow 106 33 eTItem 2 x2))] _ _
            refine G.rg ?_
            refine K.move (.inl rfl) (gd0 rfl) rfl rfl ?_
            refine K.bin (V := .int .i64 (w64 (v2 + 1))) (gd0 rfl) rfl rfl (fun _ => rfl) rfl ?_
            refine K.move (.inr rfl) (gd0 rfl) rfl rfl ?_
            refine K.nil ?_
            exact At.again (σ := { q : Nat × (List TItem × Int) // R02_Sorted.l0 k l0 q.1 q.2 = some x1 }) (Fs := fun q => [(0, SV.raw s0), (3, .a (.c (.nv 105))), (4, .a (.c (.v (.int .i64 q.1.2.2))))]) (Tl := fun q => [(0, rd S W0), (105, lrow 105 33 eTItem 2 q.1.2.1)]) (μ := fun q => q.1.1) (s := ⟨(n0 + 1, (v1, v2)), HL0⟩) ⟨(n0, (x2, (w64 (v2 + 1)))), H1⟩ [(105, 106)] [_, _] (Nat.lt_succ_self _) rfl ⟨rfl, rfl, rfl, trivial⟩ ⟨rfl, (fun _ => rfl), rfl, (lrow_ren rfl), trivial⟩ rfl
        ·
          replace H1 := bif_f H1 h1
          refine G.exit ?_
          refine At.over_exit ?_
          refine At.over_exit ?_
          refine At.block_hit ?_
          exact At.joined (σ := { v : List TItem // x1 = v }) (Fs := fun q => [(3, .a (.c (.nv 102)))]) (Tl := fun q => [(0, rd S W0), (102, lrow 102 33 eTItem 2 q.1)]) ⟨v1, (Option.some.inj H1).symm⟩ [(102, 105)] [_, _] rfl ⟨rfl, trivial⟩ ⟨rfl, (fun _ => rfl), rfl, (lrow_ren rfl), trivial⟩ rfl
  ·
    rintro ⟨_, rfl⟩
    show G _ _ [(3, .a (.c (.nv 102)))] [(0, some (rd S W0)), (102, some (lrow 102 33 eTItem 2 x1))] _ _
    refine G.seq ?_
    refine G.rg ?_
    refine K.move (.inl rfl) (gd0 rfl) rfl rfl ?_
    refine K.move (.inr rfl) (gd0 rfl) rfl rfl ?_
    refine K.nil ?_
    refine At.next ?_
    refine G.ret ?_
    refine At.ren (fs' := [(2, .a (.c (.nv 30)))]) (tl := [(0, rd S W0), (30, lrow 30 33 eTItem 2 x1)]) [(30, 102)] [_, _] rfl ⟨rfl, trivial⟩ ⟨rfl, (fun _ => rfl), rfl, (lrow_ren rfl), trivial⟩ rfl ?_
    refine At.done Y [(.tmp 2, .c _)] rfl ⟨.tmp rfl, trivial⟩ (to' := [(0, _), (30, _)]) ⟨rfl, rfl, trivial⟩ ?_ ?_ rfl rfl rfl (.inl rfl)
    · cases H0; rfl
    · cases H0; rfl
theorem R02_Sorted_con {k : Nat}  {S : Foot} {W0 : World} {s0 : Value} {l0 : List TItem} {r : List TItem} (hL0 : LArg S W0 s0 eTItem 2 l0) (H0 : R02_Sorted.f k l0 = some r) (m30 : Nat) (hd : ndB [m30] = true) : SCon Try.prog 66 [SV.raw s0] [(0, rd S W0)] (.a (.c (.nv m30))) [(0, rd S W0), (m30, lrow m30 33 eTItem 2 r)] [m30] :=
  SCon.ren (rn [(30, m30)]) (R02_Sorted_con0 (k := k)  hL0 H0) ⟨(fun _ => rfl), trivial⟩ ⟨(fun _ => rfl), (lrow_ren rfl), trivial⟩ (rn_nd hd rfl rfl) (rn_ks hd rfl rfl rfl)
theorem R08_Items_con0 {k : Nat}  {S : Foot} {W0 : World} {s0 : Value} {l0 : List TR08Mark} {a1 : Bool} {r : List TItem} (hL0 : LArg S W0 s0 eTR08Mark 8 l0) (H0 : R08_Items.f k l0 a1 = some r) : SCon Try.prog 51 [SV.raw s0, .a (.c (.v (.bool a1)))] [(0, rd S W0)] (.a (.c (.nv 30))) [(0, rd S W0), (30, lrow 30 33 eTItem 2 r)] [30] := by
  rw [R08_Items.f] at H0
  obtain ⟨b0, o0, hI0⟩ := hL0
  refine spec_of [(0, _), (1, _)] [(0, _)] 39 Try.func51 rfl Try.ntmps51 rfl rfl rfl rfl (fun β W F => ?_)
  refine G.seq ?_
  refine G.rg ?_
  refine K.nilRow 100 33 eTItem 2 (.inl rfl) (gd0 rfl) rfl rfl rfl ?_
  refine K.nil ?_
  refine At.next ?_
  refine G.seq ?_
  refine G.rg ?_
  refine K.nilRow 101 33 eTItem 2 (.inl rfl) (gd0 rfl) rfl rfl rfl ?_
  refine K.nil ?_
  refine At.next ?_
  obtain ⟨x1, H1, H0⟩ := bnd H0
  refine G.seqJ (σ := { v : List TItem // x1 = v }) (fun q => [(5, .a (.c (.nv 102)))]) (fun q => [(0, rd S W0), (102, lrow 102 33 eTItem 2 q.1)]) ?_ ?_
  ·
    refine G.seq ?_
    refine G.rg ?_
    refine K.move (.inr rfl) (gd0 rfl) rfl rfl ?_
    refine K.nil ?_
    refine At.next ?_
    refine G.block ?_
    refine G.loop (σ := { q : Nat × (List TItem × Int) // R08_Items.l0 k l0 a1 q.1 q.2 = some x1 }) (fun q => [(0, SV.raw s0), (1, .a (.c (.v (.bool a1)))), (5, .a (.c (.nv 105))), (6, .a (.c (.v (.int .i64 q.1.2.2))))]) (fun q => [(0, rd S W0), (105, lrow 105 33 eTItem 2 q.1.2.1)]) (fun q => q.1.1) ⟨(k, (([] : List TItem), 0)), H1⟩ ?_ ?_
    · exact At.into [(105, 101)] [_, _] rfl ⟨rfl, rfl, rfl, rfl, trivial⟩ ⟨rfl, (fun _ => rfl), rfl, (lrow_ren rfl), trivial⟩ rfl
    ·
      rintro ⟨⟨n0, v1, v2⟩, H1⟩
      show G _ _ [(0, SV.raw s0), (1, .a (.c (.v (.bool a1)))), (5, .a (.c (.nv 105))), (6, .a (.c (.v (.int .i64 v2))))] [(0, some (rd S W0)), (105, some (lrow 105 33 eTItem 2 v1))] _ _
      cases n0 with
      | zero => exact absurd H1 (by simp [R08_Items.l0])
      | succ n0 =>
        have HL0 := H1
        rw [R08_Items.l0] at H1
        refine G.seq ?_
        refine G.seq ?_
        refine G.rg ?_
        refine K.move (.inl rfl) (gd0 rfl) rfl rfl ?_
        refine K.move (.inl rfl) (gd0 rfl) rfl rfl ?_
        refine K.lenL (rV 0 S W0 s0 b0 o0 eTR08Mark 8 l0) (hI0.is 0) (gd0 rfl) rfl rfl Try.underlying22 rfl ?_
        refine K.bin (V := .bool (decide (v2 < (l0.length : Int)))) (gd0 rfl) rfl rfl (fun _ => rfl) rfl ?_
        refine K.nil ?_
        refine At.next ?_
        refine G.cond rfl (fun h1 => ?_) (fun h1 => ?_)
        ·
          replace H1 := bif_t H1 h1
          refine G.skip ?_
          refine At.next ?_
          refine G.seq ?_
          refine G.block ?_
          refine G.seq ?_
          obtain ⟨x2, hx2, H1⟩ := bnd H1
          rcases Bool.eq_false_or_eq_true x2.op.insert with h2 | h2
          ·
            replace H1 := bif_t H1 h2
            refine G.rg ?_
            refine K.move (.inl rfl) (gd0 rfl) rfl rfl ?_
            refine K.move (.inl rfl) (gd0 rfl) rfl rfl ?_
            refine K.idxL (rV 0 S W0 s0 b0 o0 eTR08Mark 8 l0) ((v2).toNat) (hI0.is 0) (atL_get hx2) (atL_nn hx2) (gd0 rfl) rfl rfl rfl Try.underlying22 el22.size_run rfl ?_
            refine K.fieldL Y (rV 0 S W0 s0 b0 o0 eTR08Mark 8 l0) ((v2).toNat) 0 0 (hI0.is 0) (atL_get hx2) (gd0 rfl) rfl rfl t52 rfl rfl rfl rfl ?_
            refine K.fieldL Y (rV 0 S W0 s0 b0 o0 eTR08Mark 8 l0) ((v2).toNat) 0 1 (hI0.is 0) (atL_get hx2) (gd0 rfl) rfl rfl t35 rfl rfl rfl rfl ?_
            refine K.load1L Y (rV 0 S W0 s0 b0 o0 eTR08Mark 8 l0) ((v2).toNat) 1 (hI0.is 0) (atL_get hx2) (gd0 rfl) rfl rfl t4 rfl rfl ?_
            refine K.move (.inl rfl) (gd0 rfl) rfl rfl ?_
            refine K.move (.inl rfl) (gd1 rfl rfl rfl (h2)) rfl rfl ?_
            refine K.move (.inl rfl) (gd1 rfl rfl rfl (h2)) rfl rfl ?_
            refine K.idxL (rV 0 S W0 s0 b0 o0 eTR08Mark 8 l0) ((v2).toNat) (hI0.is 0) (atL_get hx2) (atL_nn hx2) (gd1 rfl rfl rfl (h2)) rfl rfl rfl Try.underlying22 el22.size_run rfl ?_
            refine K.fieldL Y (rV 0 S W0 s0 b0 o0 eTR08Mark 8 l0) ((v2).toNat) 0 4 (hI0.is 0) (atL_get hx2) (gd1 rfl rfl rfl (h2)) rfl rfl t52 rfl rfl rfl rfl ?_
            refine K.load1L Y (rV 0 S W0 s0 b0 o0 eTR08Mark 8 l0) ((v2).toNat) 4 (hI0.is 0) (atL_get hx2) (gd1 rfl rfl rfl (h2)) rfl rfl t4 rfl rfl ?_
            refine K.move (.inl rfl) (gd1 rfl rfl rfl (h2)) rfl rfl ?_
            refine K.bin (V := .bool (x2.here == a1)) (gd1 rfl rfl rfl (h2)) rfl rfl (bq_eql Try.underlying4 _ _) rfl ?_
            refine K.pickT (gd0 rfl) rfl (h2) rfl rfl ?_
            refine K.nil ?_
            refine At.next ?_
            refine G.cond rfl (fun h3 => ?_) (fun h3 => ?_)
            ·
              replace H1 := bif_t H1 h3
              obtain ⟨h4, H1⟩ := grd H1
              refine G.rg ?_
              refine K.move (.inl rfl) (gd0 rfl) rfl rfl ?_
              refine K.move (.inl rfl) (gd0 rfl) rfl rfl ?_
              refine K.move (.inl rfl) (gd0 rfl) rfl rfl ?_
              refine K.idxL (rV 0 S W0 s0 b0 o0 eTR08Mark 8 l0) ((v2).toNat) (hI0.is 0) (atL_get hx2) (atL_nn hx2) (gd0 rfl) rfl rfl rfl Try.underlying22 el22.size_run rfl ?_
              refine K.fieldL Y (rV 0 S W0 s0 b0 o0 eTR08Mark 8 l0) ((v2).toNat) 0 0 (hI0.is 0) (atL_get hx2) (gd0 rfl) rfl rfl t52 rfl rfl rfl rfl ?_
              refine K.fieldL Y (rV 0 S W0 s0 b0 o0 eTR08Mark 8 l0) ((v2).toNat) 0 2 (hI0.is 0) (atL_get hx2) (gd0 rfl) rfl rfl t35 rfl rfl rfl rfl ?_
              refine K.loadSL Y (rV 0 S W0 s0 b0 o0 eTR08Mark 8 l0) ((v2).toNat) 2 [_, _] [_, _] (hI0.is 0) (atL_get hx2) (gd0 rfl) rfl rfl t33 rfl rfl rfl rfl rfl ?_
              refine K.buildL Y 106 ([x2.op.item] : List TItem) [(0, _)] [((.tmp 34), _)] eTItem_len (gd0 rfl) (AllE.spec ⟨rfl, trivial⟩) rfl rfl Try.underlying75 t33 rfl rfl rfl rfl rfl rfl rfl rfl ?_
              refine K.appendL 107 (lrowV 106 33 eTItem 2 ([x2.op.item] : List TItem)) _ el75 (lrowV_is eTItem_len (by decide)) eTItem_one (gd0 rfl) rfl rfl rfl rfl rfl (ap_m h4) (ap_b h4 (by decide)) rfl rfl rfl rfl rfl rfl ?_
              refine K.move (.inr rfl) (gd0 rfl) rfl rfl ?_
              refine K.nil ?_
              refine At.block_normal ?_
              refine At.next ?_
              refine G.rg ?_
              refine K.move (.inl rfl) (gd0 rfl) rfl rfl ?_
              refine K.bin (V := .int .i64 (w64 (v2 + 1))) (gd0 rfl) rfl rfl (fun _ => rfl) rfl ?_
              refine K.move (.inr rfl) (gd0 rfl) rfl rfl ?_
              refine K.nil ?_
              exact At.again (σ := { q : Nat × (List TItem × Int) // R08_Items.l0 k l0 a1 q.1 q.2 = some x1 }) (Fs := fun q => [(0, SV.raw s0), (1, .a (.c (.v (.bool a1)))), (5, .a (.c (.nv 105))), (6, .a (.c (.v (.int .i64 q.1.2.2))))]) (Tl := fun q => [(0, rd S W0), (105, lrow 105 33 eTItem 2 q.1.2.1)]) (μ := fun q => q.1.1) (s := ⟨(n0 + 1, (v1, v2)), HL0⟩) ⟨(n0, ((v1 ++ ([x2.op.item] : List TItem)), (w64 (v2 + 1)))), H1⟩ [(105, 107)] [_, _] (Nat.lt_succ_self _) rfl ⟨rfl, rfl, rfl, rfl, trivial⟩ ⟨rfl, (fun _ => rfl), rfl, (lrow_ren rfl), trivial⟩ rfl
            ·
              replace H1 := bif_f H1 h3
              refine G.skip ?_
              refine At.block_normal ?_
              refine At.next ?_
              refine G.rg ?_
              refine K.move (.inl rfl) (gd0 rfl) rfl rfl ?_
              refine K.bin (V := .int .i64 (w64 (v2 + 1))) (gd0 rfl) rfl rfl (fun _ => rfl) rfl ?_
              refine K.move (.inr rfl) (gd0 rfl) rfl rfl ?_
              refine K.nil ?_
              exact At.again (σ := { q : Nat × (List TItem × Int) // R08_Items.l0 k l0 a1 q.1 q.2 = some x1 }) (Fs := fun q => [(0, SV.raw s0), (1, .a (.c (.v (.bool a1)))), (5, .a (.c (.nv 105))), (6, .a (.c (.v (.int .i64 q.1.2.2))))]) (Tl := fun q => [(0, rd S W0), (105, lrow 105 33 eTItem 2 q.1.2.1)]) (μ := fun q => q.1.1) (s := ⟨(n0 + 1, (v1, v2)), HL0⟩) ⟨(n0, (v1, (w64 (v2 + 1)))), H1⟩ [] [_, _] (Nat.lt_succ_self _) rfl ⟨rfl, rfl, rfl, rfl, trivial⟩ ⟨rfl, (fun _ => rfl), rfl, (lrow_ren rfl), trivial⟩ rfl
          ·
            replace H1 := bif_f H1 h2
            refine G.rg ?_
            refine K.move (.inl rfl) (gd0 rfl) rfl rfl ?_
            refine K.move (.inl rfl) (gd0 rfl) rfl rfl ?_
            refine K.idxL (rV 0 S W0 s0 b0 o0 eTR08Mark 8 l0) ((v2).toNat) (hI0.is 0) (atL_get hx2) (atL_nn hx2) (gd0 rfl) rfl rfl rfl Try.underlying22 el22.size_run rfl ?_
            refine K.fieldL Y (rV 0 S W0 s0 b0 o0 eTR08Mark 8 l0) ((v2).toNat) 0 0 (hI0.is 0) (atL_get hx2) (gd0 rfl) rfl rfl t52 rfl rfl rfl rfl ?_
            refine K.fieldL Y (rV 0 S W0 s0 b0 o0 eTR08Mark 8 l0) ((v2).toNat) 0 1 (hI0.is 0) (atL_get hx2) (gd0 rfl) rfl rfl t35 rfl rfl rfl rfl ?_
            refine K.load1L Y (rV 0 S W0 s0 b0 o0 eTR08Mark 8 l0) ((v2).toNat) 1 (hI0.is 0) (atL_get hx2) (gd0 rfl) rfl rfl t4 rfl rfl ?_
            refine K.move (.inl rfl) (gd0 rfl) rfl rfl ?_
            refine K.skip rfl rfl rfl rfl (h2) rfl ?_
            refine K.skip rfl rfl rfl rfl (h2) rfl ?_
            refine K.skip rfl rfl rfl rfl (h2) rfl ?_
            refine K.skip rfl rfl rfl rfl (h2) rfl ?_
            refine K.skip rfl rfl rfl rfl (h2) rfl ?_
            refine K.skip rfl rfl rfl rfl (h2) rfl ?_
            refine K.skip rfl rfl rfl rfl (h2) rfl ?_
            refine K.pickF (gd0 rfl) rfl (h2) rfl rfl ?_
            refine K.nil ?_
            refine At.next ?_
            refine G.cond rfl (fun h5 => ?_) (fun h5 => ?_)
            · cases h5
            ·
              refine G.skip ?_
              refine At.block_normal ?_
              refine At.next ?_
              refine G.rg ?_
              refine K.move (.inl rfl) (gd0 rfl) rfl rfl ?_
              refine K.bin (V := .int .i64 (w64 (v2 + 1))) (gd0 rfl) rfl rfl (fun _ => rfl) rfl ?_
              refine K.move (.inr rfl) (gd0 rfl) rfl rfl ?_
              refine K.nil ?_
              exact At.again (σ := { q : Nat × (List TItem × Int) // R08_Items.l0 k l0 a1 q.1 q.2 = some x1 }) (Fs := fun q => [(0, SV.raw s0), (1, .a (.c (.v (.bool a1)))), (5, .a (.c (.nv 105))), (6, .a (.c (.v (.int .i64 q.1.2.2))))]) (Tl := fun q => [(0, rd S W0), (105, lrow 105 33 eTItem 2 q.1.2.1)]) (μ := fun q => q.1.1) (s := ⟨(n0 + 1, (v1, v2)), HL0⟩) ⟨(n0, (v1, (w64 (v2 + 1)))), H1⟩ [] [_, _] (Nat.lt_succ_self _) rfl ⟨rfl, rfl, rfl, rfl, trivial⟩ ⟨rfl, (fun _ => rfl), rfl, (lrow_ren rfl), trivial⟩ rfl
        ·
          replace H1 := bif_f H1 h1
          refine G.exit ?_
          refine At.over_exit ?_
          refine At.over_exit ?_
          refine At.block_hit ?_
          exact At.joined (σ := { v : List TItem // x1 = v }) (Fs := fun q => [(5, .a (.c (.nv 102)))]) (Tl := fun q => [(0, rd S W0), (102, lrow 102 33 eTItem 2 q.1)]) ⟨v1, (Option.some.inj H1).symm⟩ [(102, 105)] [_, _] rfl ⟨rfl, trivial⟩ ⟨rfl, (fun _ => rfl), rfl, (lrow_ren rfl), trivial⟩ rfl
  ·
    rintro ⟨_, rfl⟩
    show G _ _ [(5, .a (.c (.nv 102)))] [(0, some (rd S W0)), (102, some (lrow 102 33 eTItem 2 x1))] _ _
    refine G.seq ?_
    obtain ⟨x3, hx3, H0⟩ := bnd H0
    refine G.rg ?_
    refine K.move (.inl rfl) (gd0 rfl) rfl rfl ?_
    refine K.callV [(.func 66, _), ((.tmp 37), _)] [(102, lrow 102 33 eTItem 2 x1)] [] [(108, _)] (fun β => [SV.raw ((lrowV 102 33 eTItem 2 x1).s.den β)]) (fun β w S2 h => R02_Sorted_con (k := k) ((lrowV_isC eTItem_len (by decide)).larg ⟨_, List.mem_cons_self⟩ h) hx3 108 rfl) (toFn_func (cf 66 rfl) rfl) (gd0 rfl) ⟨rfl, rfl, trivial⟩ (fun _ => rfl) ⟨rfl, trivial⟩ rfl rfl rfl rfl rfl rfl ?_
    refine K.move (.inr rfl) (gd0 rfl) rfl rfl ?_
    refine K.nil ?_
    refine At.next ?_
    refine G.ret ?_
    refine At.ren (fs' := [(4, .a (.c (.nv 30)))]) (tl := [(0, rd S W0), (30, lrow 30 33 eTItem 2 x3)]) [(30, 108)] [_, _] rfl ⟨rfl, trivial⟩ ⟨rfl, (fun _ => rfl), rfl, (lrow_ren rfl), trivial⟩ rfl ?_
    refine At.done Y [(.tmp 4, .c _)] rfl ⟨.tmp rfl, trivial⟩ (to' := [(0, _), (30, _)]) ⟨rfl, rfl, trivial⟩ ?_ ?_ rfl rfl rfl (.inl rfl)
    · cases H0; rfl
    · cases H0; rfl
theorem R08_Items_con {k : Nat}  {S : Foot} {W0 : World} {s0 : Value} {l0 : List TR08Mark} {a1 : Bool} {r : List TItem} (hL0 : LArg S W0 s0 eTR08Mark 8 l0) (H0 : R08_Items.f k l0 a1 = some r) (m30 : Nat) (hd : ndB [m30] = true) : SCon Try.prog 51 [SV.raw s0, .a (.c (.v (.bool a1)))] [(0, rd S W0)] (.a (.c (.nv m30))) [(0, rd S W0), (m30, lrow m30 33 eTItem 2 r)] [m30] :=
  SCon.ren (rn [(30, m30)]) (R08_Items_con0 (k := k)  hL0 H0) ⟨(fun _ => rfl), trivial⟩ ⟨(fun _ => rfl), (lrow_ren rfl), trivial⟩ (rn_nd hd rfl rfl) (rn_ks hd rfl rfl rfl)
theorem R10_Best_con0 {k : Nat}  {S : Foot} {W0 : World} {s0 : Value} {l0 : List TR08Mark} {a1 : Int} {r : TTook} (hL0 : LArg S W0 s0 eTR08Mark 8 l0) (H0 : R10_Best.f k l0 a1 = some r) : SCon Try.prog 24 [SV.raw s0, .a (.c (.v (.int .i64 a1)))] [(0, rd S W0)] (.a (.agg ((eTTook r).map .v))) [(0, rd S W0)] [] := by
  rw [R10_Best.f] at H0
  obtain ⟨b0, o0, hI0⟩ := hL0
  refine spec_of [(0, _), (1, _)] [(0, _)] 23 Try.func24 rfl Try.ntmps24 rfl rfl rfl rfl (fun β W F => ?_)
  refine G.seq ?_
  refine G.rg ?_
  refine K.alloc Y 100 [_, _, _] (gd0 rfl) t37 rfl rfl rfl rfl rfl ?_
  refine K.nil ?_
  refine At.next ?_
  refine G.seq ?_
  obtain ⟨x1, hx1, H0⟩ := bnd H0
  obtain ⟨h1, H0⟩ := grd H0
  obtain ⟨x2, hx2, H0⟩ := bnd H0
  refine G.rg ?_
  refine K.move (.inl rfl) (gd0 rfl) rfl rfl ?_
  refine K.move (.inl rfl) (gd0 rfl) rfl rfl ?_
  refine K.move (.inl rfl) (gd0 rfl) rfl rfl ?_
  refine K.callV [(.func 22, _), ((.tmp 7), _), ((.tmp 8), _)] [(0, rd S W0)] [] [] (fun β => [SV.raw s0, .a (.c (.v (.int .i64 a1)))]) (fun β w S2 h => R10_Clamp_con (k := k) ((hI0.isC 0).larg ⟨_, List.mem_cons_self⟩ h) hx1) (toFn_func (cf 22 rfl) rfl) (gd0 rfl) ⟨rfl, rfl, rfl, trivial⟩ (fun _ => rfl) ⟨rfl, trivial⟩ rfl rfl rfl rfl rfl rfl ?_
  refine K.partR ((x1).toNat) l0.length hI0 (gd0 rfl) rfl (.at_ rfl h1.1 rfl) .no Try.underlying22 el22.size_run (tn_len h1.2) (Nat.le_refl _) rfl ?_
  refine K.callV [(.func 51, _), ((.tmp 10), _), (_, _)] [(0, rd S W0)] [] [(101, _)] (fun β => [SV.raw (partOf ((x1).toNat) l0.length 8 s0), .a (.c (.v (.bool false)))]) (fun β w S2 h => R08_Items_con (k := k) (((hI0.part (tn_len h1.2) (Nat.le_refl _)).isC 0).larg ⟨_, List.mem_cons_self⟩ h) hx2 101 rfl) (toFn_func (cf 51 rfl) rfl) (gd0 rfl) ⟨rfl, rfl, rfl, trivial⟩ (fun _ => rfl) ⟨rfl, trivial⟩ rfl rfl rfl rfl rfl rfl ?_
  refine K.move (.inr rfl) (gd0 rfl) rfl rfl ?_
  refine K.nil ?_
  refine At.next ?_
  refine G.seq ?_
  refine G.seq ?_
  refine G.rg ?_
  refine K.move (.inl rfl) (gd0 rfl) rfl rfl ?_
  refine K.lenL (lrowV 101 33 eTItem 2 x2) (lrowV_is eTItem_len (by decide)) (gd0 rfl) rfl rfl Try.underlying75 rfl ?_
  refine K.bin (V := .bool ((x2.length : Int) == 0)) (gd0 rfl) rfl rfl (fun _ => rfl) rfl ?_
  refine K.nil ?_
  refine At.next ?_
  refine G.cond rfl (fun h3 => ?_) (fun h3 => ?_)
  ·
    replace H0 := bif_t H0 h3
    refine G.seq ?_
    refine G.rg ?_
    refine K.build Y [] [_, _, _] [] (gd0 rfl) (AllE.spec trivial) rfl rfl t37 rfl rfl ?_
    refine K.store Y [_, _, _] (gd0 rfl) rfl rfl rfl t37 rfl rfl rfl rfl rfl ?_
    refine K.nil ?_
    refine At.next ?_
    refine G.ret ?_
    refine At.over_ret ?_
    refine At.done Y [(.cell 4 37, .agg [_, _, _])] rfl ⟨.st rfl rfl t37 rfl rfl, trivial⟩ (to' := [(0, _)]) ⟨rfl, trivial⟩ ?_ ?_ rfl rfl rfl (.inl rfl)
    · cases H0; rfl
    · cases H0; rfl
  ·
    replace H0 := bif_f H0 h3
    refine G.skip ?_
    refine At.next ?_
    refine G.seq ?_
    obtain ⟨x3, hx3, H0⟩ := bnd H0
    refine G.rg ?_
    refine K.move (.inl rfl) (gd0 rfl) rfl rfl ?_
    refine K.move (.inl rfl) (gd0 rfl) rfl rfl ?_
    refine K.lenL (lrowV 101 33 eTItem 2 x2) (lrowV_is eTItem_len (by decide)) (gd0 rfl) rfl rfl Try.underlying75 rfl ?_
    refine K.bin (V := .int .i64 (w64 ((x2.length : Int) - 1))) (gd0 rfl) rfl rfl (fun _ => rfl) rfl ?_
    refine K.idxL (lrowV 101 33 eTItem 2 x2) (((w64 ((x2.length : Int) - 1))).toNat) (lrowV_is eTItem_len (by decide)) (atL_get hx3) (atL_nn hx3) (gd0 rfl) rfl rfl rfl Try.underlying75 el75.size_run rfl ?_
    refine K.loadSL Y (lrowV 101 33 eTItem 2 x2) (((w64 ((x2.length : Int) - 1))).toNat) 0 [_, _] [_, _] (lrowV_is eTItem_len (by decide)) (atL_get hx3) (gd0 rfl) rfl rfl t33 rfl rfl rfl rfl rfl ?_
    refine K.build Y [(0, _), (1, _)] [_, _, _] [(_, _), ((.tmp 21), _)] (gd0 rfl) (AllE.spec ⟨rfl, rfl, trivial⟩) rfl rfl t37 rfl rfl ?_
    refine K.store Y [_, _, _] (gd0 rfl) rfl rfl rfl t37 rfl rfl rfl rfl rfl ?_
    refine K.nil ?_
    refine At.next ?_
    refine G.ret ?_
    refine At.done Y [(.cell 4 37, .agg [_, _, _])] rfl ⟨.st rfl rfl t37 rfl rfl, trivial⟩ (to' := [(0, _)]) ⟨rfl, trivial⟩ ?_ ?_ rfl rfl rfl (.inl rfl)
    · cases H0; rfl
    · cases H0; rfl
theorem R10_Best_con {k : Nat}  {S : Foot} {W0 : World} {s0 : Value} {l0 : List TR08Mark} {a1 : Int} {r : TTook} (hL0 : LArg S W0 s0 eTR08Mark 8 l0) (H0 : R10_Best.f k l0 a1 = some r) : SCon Try.prog 24 [SV.raw s0, .a (.c (.v (.int .i64 a1)))] [(0, rd S W0)] (.a (.agg ((eTTook r).map .v))) [(0, rd S W0)] [] :=
  SCon.ren (rn []) (R10_Best_con0 (k := k)  hL0 H0) ⟨(fun _ => rfl), trivial⟩ ⟨(fun _ => rfl), trivial⟩ (by simp) (by simp)
theorem bridge_Least_con0 {k : Nat}  {p1 : Pool (TNode TMark TSwell)} {rt0 : TRef} {a1 : Int} {r : TTook}  (H0 : bridge_Least.f k p1 rt0 a1 = some r) : SCon Try.prog 25 [SV.p 0 0, .a (.c (.v (.int .i64 a1)))] [(0, blk 0 [.p 1 0, .i rt0.index, .i rt0.gen] 74), (1, plM 1 p1)] (.a (.agg ((eTTook r).map .v))) [(0, blk 0 [.p 1 0, .i rt0.index, .i rt0.gen] 74), (1, plM 1 p1)] [] := by
  rw [bridge_Least.f] at H0
  refine spec_of [(0, _), (1, _)] [(0, _), (1, _)] 11 Try.func25 rfl Try.ntmps25 rfl rfl rfl rfl (fun β W F => ?_)
  refine G.seq ?_
  refine G.rg ?_
  refine K.alloc Y 100 [_, _, _] (gd0 rfl) t37 rfl rfl rfl rfl rfl ?_
  refine K.nil ?_
  refine At.next ?_
  refine G.seq ?_
  obtain ⟨x1, hx1, H0⟩ := bnd H0
  obtain ⟨x2, hx2, H0⟩ := bnd H0
  refine G.rg ?_
  refine K.move (.inl rfl) (gd0 rfl) rfl rfl ?_
  refine K.move (.inl rfl) (gd0 rfl) rfl rfl ?_
  refine K.move (.inl rfl) (gd0 rfl) rfl rfl ?_
  refine K.callR [(.func 46, _), ((.tmp 6), _), ((.tmp 7), _)] (bridge_clamp_con (k := k) hx1 0 1) (toFn_func (cf 46 rfl) rfl) (gd0 rfl) ⟨rfl, rfl, rfl, trivial⟩ ⟨rfl, rfl, trivial⟩ rfl rfl rfl ?_
  refine K.callR [(.func 41, _), ((.tmp 5), _), (_, _), ((.tmp 8), _)] (Tree_BetweenM_con (k := k) hx2 0 1) (toFn_func (cf 41 rfl) rfl) (gd0 rfl) ⟨rfl, rfl, rfl, rfl, trivial⟩ ⟨rfl, rfl, trivial⟩ rfl rfl rfl ?_
  refine K.fieldS Y [_, _, _] (gd0 rfl) rfl t43 rfl t37 rfl rfl ?_
  refine K.store Y [_, _, _] (gd0 rfl) rfl rfl rfl t37 rfl rfl rfl rfl rfl ?_
  refine K.nil ?_
  refine At.next ?_
  refine G.ret ?_
  refine At.done Y [(.cell 4 37, .agg [_, _, _])] rfl ⟨.st rfl rfl t37 rfl rfl, trivial⟩ (to' := [(0, _), (1, _)]) ⟨rfl, rfl, trivial⟩ ?_ ?_ rfl rfl rfl (.inl rfl)
  · cases H0; rfl
  · cases H0; rfl
theorem bridge_Least_con {k : Nat}  {p1 : Pool (TNode TMark TSwell)} {rt0 : TRef} {a1 : Int} {r : TTook}  (H0 : bridge_Least.f k p1 rt0 a1 = some r) (m0 m1 : Nat) : SCon Try.prog 25 [SV.p m0 0, .a (.c (.v (.int .i64 a1)))] [(m0, blk m0 [.p m1 0, .i rt0.index, .i rt0.gen] 74), (m1, plM m1 p1)] (.a (.agg ((eTTook r).map .v))) [(m0, blk m0 [.p m1 0, .i rt0.index, .i rt0.gen] 74), (m1, plM m1 p1)] [] :=
  SCon.ren (rn [(0, m0), (1, m1)]) (bridge_Least_con0 (k := k)   H0) ⟨(blk_ren rfl rfl), (pl_ren rfl), trivial⟩ ⟨(blk_ren rfl rfl), (pl_ren rfl), trivial⟩ (by simp) (by simp)
theorem R10_Least_con0 {k : Nat}  {S : Foot} {W0 : World} {s0 : Value} {l0 : List TR08Mark} {a1 : Int} {r : TTook} (hL0 : LArg S W0 s0 eTR08Mark 8 l0) (H0 : R10_Least.f k l0 a1 = some r) : SCon Try.prog 26 [SV.raw s0, .a (.c (.v (.int .i64 a1)))] [(0, rd S W0)] (.a (.agg ((eTTook r).map .v))) [(0, rd S W0)] [] := by
  rw [R10_Least.f] at H0
  obtain ⟨b0, o0, hI0⟩ := hL0
  refine spec_of [(0, _), (1, _)] [(0, _)] 20 Try.func26 rfl Try.ntmps26 rfl rfl rfl rfl (fun β W F => ?_)
  refine G.seq ?_
  refine G.rg ?_
  refine K.alloc Y 100 [_, _, _] (gd0 rfl) t37 rfl rfl rfl rfl rfl ?_
  refine K.nil ?_
  refine At.next ?_
  refine G.seq ?_
  obtain ⟨x1, hx1, H0⟩ := bnd H0
  obtain ⟨h1, H0⟩ := grd H0
  obtain ⟨x2, hx2, H0⟩ := bnd H0
  refine G.rg ?_
  refine K.move (.inl rfl) (gd0 rfl) rfl rfl ?_
  refine K.move (.inl rfl) (gd0 rfl) rfl rfl ?_
  refine K.move (.inl rfl) (gd0 rfl) rfl rfl ?_
  refine K.callV [(.func 22, _), ((.tmp 7), _), ((.tmp 8), _)] [(0, rd S W0)] [] [] (fun β => [SV.raw s0, .a (.c (.v (.int .i64 a1)))]) (fun β w S2 h => R10_Clamp_con (k := k) ((hI0.isC 0).larg ⟨_, List.mem_cons_self⟩ h) hx1) (toFn_func (cf 22 rfl) rfl) (gd0 rfl) ⟨rfl, rfl, rfl, trivial⟩ (fun _ => rfl) ⟨rfl, trivial⟩ rfl rfl rfl rfl rfl rfl ?_
  refine K.partR 0 ((x1).toNat) hI0 (gd0 rfl) rfl .no (.at_ rfl h1.1 rfl) Try.underlying22 el22.size_run (Nat.zero_le _) (tn_len h1.2) rfl ?_
  refine K.callV [(.func 51, _), ((.tmp 10), _), (_, _)] [(0, rd S W0)] [] [(101, _)] (fun β => [SV.raw (partOf 0 ((x1).toNat) 8 s0), .a (.c (.v (.bool true)))]) (fun β w S2 h => R08_Items_con (k := k) (((hI0.part (Nat.zero_le _) (tn_len h1.2)).isC 0).larg ⟨_, List.mem_cons_self⟩ h) hx2 101 rfl) (toFn_func (cf 51 rfl) rfl) (gd0 rfl) ⟨rfl, rfl, rfl, trivial⟩ (fun _ => rfl) ⟨rfl, trivial⟩ rfl rfl rfl rfl rfl rfl ?_
  refine K.move (.inr rfl) (gd0 rfl) rfl rfl ?_
  refine K.nil ?_
  refine At.next ?_
  refine G.seq ?_
  refine G.seq ?_
  refine G.rg ?_
  refine K.move (.inl rfl) (gd0 rfl) rfl rfl ?_
  refine K.lenL (lrowV 101 33 eTItem 2 x2) (lrowV_is eTItem_len (by decide)) (gd0 rfl) rfl rfl Try.underlying75 rfl ?_
  refine K.bin (V := .bool ((x2.length : Int) == 0)) (gd0 rfl) rfl rfl (fun _ => rfl) rfl ?_
  refine K.nil ?_
  refine At.next ?_
  refine G.cond rfl (fun h3 => ?_) (fun h3 => ?_)
  ·
    replace H0 := bif_t H0 h3
    refine G.seq ?_
    refine G.rg ?_
    refine K.build Y [] [_, _, _] [] (gd0 rfl) (AllE.spec trivial) rfl rfl t37 rfl rfl ?_
    refine K.store Y [_, _, _] (gd0 rfl) rfl rfl rfl t37 rfl rfl rfl rfl rfl ?_
    refine K.nil ?_
    refine At.next ?_
    refine G.ret ?_
    refine At.over_ret ?_
    refine At.done Y [(.cell 4 37, .agg [_, _, _])] rfl ⟨.st rfl rfl t37 rfl rfl, trivial⟩ (to' := [(0, _)]) ⟨rfl, trivial⟩ ?_ ?_ rfl rfl rfl (.inl rfl)
    · cases H0; rfl
    · cases H0; rfl
  ·
    replace H0 := bif_f H0 h3
    refine G.skip ?_
    refine At.next ?_
    refine G.seq ?_
    obtain ⟨x3, hx3, H0⟩ := bnd H0
    refine G.rg ?_
    refine K.move (.inl rfl) (gd0 rfl) rfl rfl ?_
    refine K.idxL (lrowV 101 33 eTItem 2 x2) ((0 : Int).toNat) (lrowV_is eTItem_len (by decide)) (atL_get hx3) (atL_nn hx3) (gd0 rfl) rfl rfl rfl Try.underlying75 el75.size_run rfl ?_
    refine K.loadSL Y (lrowV 101 33 eTItem 2 x2) ((0 : Int).toNat) 0 [_, _] [_, _] (lrowV_is eTItem_len (by decide)) (atL_get hx3) (gd0 rfl) rfl rfl t33 rfl rfl rfl rfl rfl ?_
    refine K.build Y [(0, _), (1, _)] [_, _, _] [(_, _), ((.tmp 18), _)] (gd0 rfl) (AllE.spec ⟨rfl, rfl, trivial⟩) rfl rfl t37 rfl rfl ?_
    refine K.store Y [_, _, _] (gd0 rfl) rfl rfl rfl t37 rfl rfl rfl rfl rfl ?_
    refine K.nil ?_
    refine At.next ?_
    refine G.ret ?_
    refine At.done Y [(.cell 4 37, .agg [_, _, _])] rfl ⟨.st rfl rfl t37 rfl rfl, trivial⟩ (to' := [(0, _)]) ⟨rfl, trivial⟩ ?_ ?_ rfl rfl rfl (.inl rfl)
    · cases H0; rfl
    · cases H0; rfl
theorem R10_Least_con {k : Nat}  {S : Foot} {W0 : World} {s0 : Value} {l0 : List TR08Mark} {a1 : Int} {r : TTook} (hL0 : LArg S W0 s0 eTR08Mark 8 l0) (H0 : R10_Least.f k l0 a1 = some r) : SCon Try.prog 26 [SV.raw s0, .a (.c (.v (.int .i64 a1)))] [(0, rd S W0)] (.a (.agg ((eTTook r).map .v))) [(0, rd S W0)] [] :=
  SCon.ren (rn []) (R10_Least_con0 (k := k)  hL0 H0) ⟨(fun _ => rfl), trivial⟩ ⟨(fun _ => rfl), trivial⟩ (by simp) (by simp)
theorem R10_Next_con0 {k : Nat}  {S : Foot} {W0 : World} {s0 : Value} {l0 : List TR08Mark} {a1 : Int} {a2 : Int} {r : Int} (hL0 : LArg S W0 s0 eTR08Mark 8 l0) (H0 : R10_Next.f k l0 a1 a2 = some r) : SCon Try.prog 18 [SV.raw s0, .a (.c (.v (.int .i64 a1))), .a (.c (.v (.int .i64 a2)))] [(0, rd S W0)] (.a (.c (.v (.int .i64 r)))) [(0, rd S W0)] [] := by
  rw [R10_Next.f] at H0
  obtain ⟨b0, o0, hI0⟩ := hL0
  refine spec_of [(0, _), (1, _), (2, _)] [(0, _)] 23 Try.func18 rfl Try.ntmps18 rfl rfl rfl rfl (fun β W F => ?_)
  refine G.seq ?_
  refine G.rg ?_
  refine K.move (.inr rfl) (gd0 rfl) rfl rfl ?_
  refine K.nil ?_
  refine At.next ?_
  obtain ⟨x1, H1, H0⟩ := bnd H0
  refine G.seqJ (σ := { v : Unit // x1 = Sum.inr v }) (fun q => []) (fun q => [(0, rd S W0)]) ?_ ?_
  ·
    refine G.seq ?_
    obtain ⟨x2, hx2, H1⟩ := bnd H1
    refine G.rg ?_
    refine K.move (.inl rfl) (gd0 rfl) rfl rfl ?_
    refine K.move (.inl rfl) (gd0 rfl) rfl rfl ?_
    refine K.callV [(.func 22, _), ((.tmp 8), _), ((.tmp 9), _)] [(0, rd S W0)] [] [] (fun β => [SV.raw s0, .a (.c (.v (.int .i64 a1)))]) (fun β w S2 h => R10_Clamp_con (k := k) ((hI0.isC 0).larg ⟨_, List.mem_cons_self⟩ h) hx2) (toFn_func (cf 22 rfl) rfl) (gd0 rfl) ⟨rfl, rfl, rfl, trivial⟩ (fun _ => rfl) ⟨rfl, trivial⟩ rfl rfl rfl rfl rfl rfl ?_
    refine K.move (.inr rfl) (gd0 rfl) rfl rfl ?_
    refine K.nil ?_
    refine At.next ?_
    refine G.block ?_
    refine G.loop (σ := { q : Nat × (Int) // R10_Next.l0 k l0 a2 q.1 q.2 = some x1 }) (fun q => [(0, SV.raw s0), (2, .a (.c (.v (.int .i64 a2)))), (7, .a (.c (.v (.int .i64 q.1.2))))]) (fun q => [(0, rd S W0)]) (fun q => q.1.1) ⟨(k, x2), H1⟩ ?_ ?_
    · exact At.into [] [_] rfl ⟨rfl, rfl, rfl, trivial⟩ ⟨rfl, (fun _ => rfl), trivial⟩ rfl
    ·
      rintro ⟨⟨n0, v1⟩, H1⟩
      show G _ _ [(0, SV.raw s0), (2, .a (.c (.v (.int .i64 a2)))), (7, .a (.c (.v (.int .i64 v1))))] [(0, some (rd S W0))] _ _
      cases n0 with
      | zero => exact absurd H1 (by simp [R10_Next.l0])
      | succ n0 =>
        have HL0 := H1
        rw [R10_Next.l0] at H1
        refine G.seq ?_
        refine G.seq ?_
        refine G.rg ?_
        refine K.move (.inl rfl) (gd0 rfl) rfl rfl ?_
        refine K.move (.inl rfl) (gd0 rfl) rfl rfl ?_
        refine K.lenL (rV 0 S W0 s0 b0 o0 eTR08Mark 8 l0) (hI0.is 0) (gd0 rfl) rfl rfl Try.underlying22 rfl ?_
        refine K.bin (V := .bool (decide (v1 ≤ (l0.length : Int)))) (gd0 rfl) rfl rfl (fun _ => rfl) rfl ?_
        refine K.nil ?_
        refine At.next ?_
        refine G.cond rfl (fun h1 => ?_) (fun h1 => ?_)
        ·
          replace H1 := bif_t H1 h1
          refine G.skip ?_
          refine At.next ?_
          refine G.seq ?_
          refine G.block ?_
          refine G.seq ?_
          obtain ⟨x3, hx3, H1⟩ := bnd H1
          refine G.rg ?_
          refine K.move (.inl rfl) (gd0 rfl) rfl rfl ?_
          refine K.move (.inl rfl) (gd0 rfl) rfl rfl ?_
          refine K.move (.inl rfl) (gd0 rfl) rfl rfl ?_
          refine K.callV [(.func 15, _), ((.tmp 17), _), ((.tmp 18), _), ((.tmp 19), _)] [(0, rd S W0)] [] [] (fun β => [SV.raw s0, .a (.c (.v (.int .i64 v1))), .a (.c (.v (.int .i64 a2)))]) (fun β w S2 h => R10_Height_con (k := k) ((hI0.isC 0).larg ⟨_, List.mem_cons_self⟩ h) hx3) (toFn_func (cf 15 rfl) rfl) (gd0 rfl) ⟨rfl, rfl, rfl, rfl, trivial⟩ (fun _ => rfl) ⟨rfl, trivial⟩ rfl rfl rfl rfl rfl rfl ?_
          refine K.bin (V := .bool (decide (x3 ≤ 0))) (gd0 rfl) rfl rfl (fun _ => rfl) rfl ?_
          refine K.nil ?_
          refine At.next ?_
          refine G.cond rfl (fun h2 => ?_) (fun h2 => ?_)
          ·
            replace H1 := bif_t H1 h2
            refine G.seq ?_
            refine G.rg ?_
            refine K.move (.inl rfl) (gd0 rfl) rfl rfl ?_
            refine K.move (.inr rfl) (gd0 rfl) rfl rfl ?_
            refine K.nil ?_
            refine At.next ?_
            refine G.ret ?_
            refine At.block_ret ?_
            refine At.over_ret ?_
            refine At.over_ret ?_
            refine At.block_ret ?_
            refine At.over_ret ?_
            cases H1
            replace H0 := sum_l H0
            refine At.done Y [(.tmp 6, .c _)] rfl ⟨.tmp rfl, trivial⟩ (to' := [(0, _)]) ⟨rfl, trivial⟩ ?_ ?_ rfl rfl rfl (.inl rfl)
            · cases H0; rfl
            · cases H0; rfl
          ·
            replace H1 := bif_f H1 h2
            refine G.skip ?_
            refine At.block_normal ?_
            refine At.next ?_
            refine G.rg ?_
            refine K.move (.inl rfl) (gd0 rfl) rfl rfl ?_
            refine K.bin (V := .int .i64 (w64 (v1 + 1))) (gd0 rfl) rfl rfl (fun _ => rfl) rfl ?_
            refine K.move (.inr rfl) (gd0 rfl) rfl rfl ?_
            refine K.nil ?_
            exact At.again (σ := { q : Nat × (Int) // R10_Next.l0 k l0 a2 q.1 q.2 = some x1 }) (Fs := fun q => [(0, SV.raw s0), (2, .a (.c (.v (.int .i64 a2)))), (7, .a (.c (.v (.int .i64 q.1.2))))]) (Tl := fun q => [(0, rd S W0)]) (μ := fun q => q.1.1) (s := ⟨(n0 + 1, v1), HL0⟩) ⟨(n0, (w64 (v1 + 1))), H1⟩ [] [_] (Nat.lt_succ_self _) rfl ⟨rfl, rfl, rfl, trivial⟩ ⟨rfl, (fun _ => rfl), trivial⟩ rfl
        ·
          replace H1 := bif_f H1 h1
          refine G.exit ?_
          refine At.over_exit ?_
          refine At.over_exit ?_
          refine At.block_hit ?_
          exact At.joined (σ := { v : Unit // x1 = Sum.inr v }) (Fs := fun q => []) (Tl := fun q => [(0, rd S W0)]) ⟨(), (Option.some.inj H1).symm⟩ [] [_] rfl trivial ⟨rfl, (fun _ => rfl), trivial⟩ rfl
  ·
    rintro ⟨v1, rfl⟩
    replace H0 := sum_r H0
    show G _ _ [] [(0, some (rd S W0))] _ _
    refine G.seq ?_
    refine G.rg ?_
    refine K.move (.inr rfl) (gd0 rfl) rfl rfl ?_
    refine K.nil ?_
    refine At.next ?_
    refine G.ret ?_
    refine At.done Y [(.tmp 6, .c _)] rfl ⟨.tmp rfl, trivial⟩ (to' := [(0, _)]) ⟨rfl, trivial⟩ ?_ ?_ rfl rfl rfl (.inl rfl)
    · cases H0; rfl
    · cases H0; rfl
theorem R10_Next_con {k : Nat}  {S : Foot} {W0 : World} {s0 : Value} {l0 : List TR08Mark} {a1 : Int} {a2 : Int} {r : Int} (hL0 : LArg S W0 s0 eTR08Mark 8 l0) (H0 : R10_Next.f k l0 a1 a2 = some r) : SCon Try.prog 18 [SV.raw s0, .a (.c (.v (.int .i64 a1))), .a (.c (.v (.int .i64 a2)))] [(0, rd S W0)] (.a (.c (.v (.int .i64 r)))) [(0, rd S W0)] [] :=
  SCon.ren (rn []) (R10_Next_con0 (k := k)  hL0 H0) ⟨(fun _ => rfl), trivial⟩ ⟨(fun _ => rfl), trivial⟩ (by simp) (by simp)
theorem R10_Prior_con0 {k : Nat}  {S : Foot} {W0 : World} {s0 : Value} {l0 : List TR08Mark} {a1 : Int} {a2 : Int} {r : Int} (hL0 : LArg S W0 s0 eTR08Mark 8 l0) (H0 : R10_Prior.f k l0 a1 a2 = some r) : SCon Try.prog 20 [SV.raw s0, .a (.c (.v (.int .i64 a1))), .a (.c (.v (.int .i64 a2)))] [(0, rd S W0)] (.a (.c (.v (.int .i64 r)))) [(0, rd S W0)] [] := by
  rw [R10_Prior.f] at H0
  obtain ⟨b0, o0, hI0⟩ := hL0
  refine spec_of [(0, _), (1, _), (2, _)] [(0, _)] 21 Try.func20 rfl Try.ntmps20 rfl rfl rfl rfl (fun β W F => ?_)
  refine G.seq ?_
  refine G.rg ?_
  refine K.move (.inr rfl) (gd0 rfl) rfl rfl ?_
  refine K.nil ?_
  refine At.next ?_
  obtain ⟨x1, H1, H0⟩ := bnd H0
  refine G.seqJ (σ := { v : Unit // x1 = Sum.inr v }) (fun q => []) (fun q => [(0, rd S W0)]) ?_ ?_
  ·
    refine G.seq ?_
    obtain ⟨x2, hx2, H1⟩ := bnd H1
    refine G.rg ?_
    refine K.move (.inl rfl) (gd0 rfl) rfl rfl ?_
    refine K.move (.inl rfl) (gd0 rfl) rfl rfl ?_
    refine K.callV [(.func 22, _), ((.tmp 8), _), ((.tmp 9), _)] [(0, rd S W0)] [] [] (fun β => [SV.raw s0, .a (.c (.v (.int .i64 a1)))]) (fun β w S2 h => R10_Clamp_con (k := k) ((hI0.isC 0).larg ⟨_, List.mem_cons_self⟩ h) hx2) (toFn_func (cf 22 rfl) rfl) (gd0 rfl) ⟨rfl, rfl, rfl, trivial⟩ (fun _ => rfl) ⟨rfl, trivial⟩ rfl rfl rfl rfl rfl rfl ?_
    refine K.move (.inr rfl) (gd0 rfl) rfl rfl ?_
    refine K.nil ?_
    refine At.next ?_
    refine G.block ?_
    refine G.loop (σ := { q : Nat × (Int) // R10_Prior.l0 k l0 a2 q.1 q.2 = some x1 }) (fun q => [(0, SV.raw s0), (2, .a (.c (.v (.int .i64 a2)))), (7, .a (.c (.v (.int .i64 q.1.2))))]) (fun q => [(0, rd S W0)]) (fun q => q.1.1) ⟨(k, x2), H1⟩ ?_ ?_
    · exact At.into [] [_] rfl ⟨rfl, rfl, rfl, trivial⟩ ⟨rfl, (fun _ => rfl), trivial⟩ rfl
    ·
      rintro ⟨⟨n0, v1⟩, H1⟩
      show G _ _ [(0, SV.raw s0), (2, .a (.c (.v (.int .i64 a2)))), (7, .a (.c (.v (.int .i64 v1))))] [(0, some (rd S W0))] _ _
      cases n0 with
      | zero => exact absurd H1 (by simp [R10_Prior.l0])
      | succ n0 =>
        have HL0 := H1
        rw [R10_Prior.l0] at H1
        refine G.seq ?_
        refine G.seq ?_
        refine G.rg ?_
        refine K.move (.inl rfl) (gd0 rfl) rfl rfl ?_
        refine K.bin (V := .bool (decide (v1 ≥ 0))) (gd0 rfl) rfl rfl (fun _ => rfl) rfl ?_
        refine K.nil ?_
        refine At.next ?_
        refine G.cond rfl (fun h1 => ?_) (fun h1 => ?_)
        ·
          replace H1 := bif_t H1 h1
          refine G.skip ?_
          refine At.next ?_
          refine G.seq ?_
          refine G.block ?_
          refine G.seq ?_
          obtain ⟨x3, hx3, H1⟩ := bnd H1
          refine G.rg ?_
          refine K.move (.inl rfl) (gd0 rfl) rfl rfl ?_
          refine K.move (.inl rfl) (gd0 rfl) rfl rfl ?_
          refine K.move (.inl rfl) (gd0 rfl) rfl rfl ?_
          refine K.callV [(.func 15, _), ((.tmp 15), _), ((.tmp 16), _), ((.tmp 17), _)] [(0, rd S W0)] [] [] (fun β => [SV.raw s0, .a (.c (.v (.int .i64 v1))), .a (.c (.v (.int .i64 a2)))]) (fun β w S2 h => R10_Height_con (k := k) ((hI0.isC 0).larg ⟨_, List.mem_cons_self⟩ h) hx3) (toFn_func (cf 15 rfl) rfl) (gd0 rfl) ⟨rfl, rfl, rfl, rfl, trivial⟩ (fun _ => rfl) ⟨rfl, trivial⟩ rfl rfl rfl rfl rfl rfl ?_
          refine K.bin (V := .bool (decide (x3 ≤ 0))) (gd0 rfl) rfl rfl (fun _ => rfl) rfl ?_
          refine K.nil ?_
          refine At.next ?_
          refine G.cond rfl (fun h2 => ?_) (fun h2 => ?_)
          ·
            replace H1 := bif_t H1 h2
            refine G.seq ?_
            refine G.rg ?_
            refine K.move (.inl rfl) (gd0 rfl) rfl rfl ?_
            refine K.move (.inr rfl) (gd0 rfl) rfl rfl ?_
            refine K.nil ?_
            refine At.next ?_
            refine G.ret ?_
            refine At.block_ret ?_
            refine At.over_ret ?_
            refine At.over_ret ?_
            refine At.block_ret ?_
            refine At.over_ret ?_
            cases H1
            replace H0 := sum_l H0
            refine At.done Y [(.tmp 6, .c _)] rfl ⟨.tmp rfl, trivial⟩ (to' := [(0, _)]) ⟨rfl, trivial⟩ ?_ ?_ rfl rfl rfl (.inl rfl)
            · cases H0; rfl
            · cases H0; rfl
          ·
            replace H1 := bif_f H1 h2
            refine G.skip ?_
            refine At.block_normal ?_
            refine At.next ?_
            refine G.rg ?_
            refine K.move (.inl rfl) (gd0 rfl) rfl rfl ?_
            refine K.bin (V := .int .i64 (w64 (v1 - 1))) (gd0 rfl) rfl rfl (fun _ => rfl) rfl ?_
            refine K.move (.inr rfl) (gd0 rfl) rfl rfl ?_
            refine K.nil ?_
            exact At.again (σ := { q : Nat × (Int) // R10_Prior.l0 k l0 a2 q.1 q.2 = some x1 }) (Fs := fun q => [(0, SV.raw s0), (2, .a (.c (.v (.int .i64 a2)))), (7, .a (.c (.v (.int .i64 q.1.2))))]) (Tl := fun q => [(0, rd S W0)]) (μ := fun q => q.1.1) (s := ⟨(n0 + 1, v1), HL0⟩) ⟨(n0, (w64 (v1 - 1))), H1⟩ [] [_] (Nat.lt_succ_self _) rfl ⟨rfl, rfl, rfl, trivial⟩ ⟨rfl, (fun _ => rfl), trivial⟩ rfl
        ·
          replace H1 := bif_f H1 h1
          refine G.exit ?_
          refine At.over_exit ?_
          refine At.over_exit ?_
          refine At.block_hit ?_
          exact At.joined (σ := { v : Unit // x1 = Sum.inr v }) (Fs := fun q => []) (Tl := fun q => [(0, rd S W0)]) ⟨(), (Option.some.inj H1).symm⟩ [] [_] rfl trivial ⟨rfl, (fun _ => rfl), trivial⟩ rfl
  ·
    rintro ⟨v1, rfl⟩
    replace H0 := sum_r H0
    show G _ _ [] [(0, some (rd S W0))] _ _
    refine G.seq ?_
    refine G.rg ?_
    refine K.move (.inr rfl) (gd0 rfl) rfl rfl ?_
    refine K.nil ?_
    refine At.next ?_
    refine G.ret ?_
    refine At.done Y [(.tmp 6, .c _)] rfl ⟨.tmp rfl, trivial⟩ (to' := [(0, _)]) ⟨rfl, trivial⟩ ?_ ?_ rfl rfl rfl (.inl rfl)
    · cases H0; rfl
    · cases H0; rfl
theorem R10_Prior_con {k : Nat}  {S : Foot} {W0 : World} {s0 : Value} {l0 : List TR08Mark} {a1 : Int} {a2 : Int} {r : Int} (hL0 : LArg S W0 s0 eTR08Mark 8 l0) (H0 : R10_Prior.f k l0 a1 a2 = some r) : SCon Try.prog 20 [SV.raw s0, .a (.c (.v (.int .i64 a1))), .a (.c (.v (.int .i64 a2)))] [(0, rd S W0)] (.a (.c (.v (.int .i64 r)))) [(0, rd S W0)] [] :=
  SCon.ren (rn []) (R10_Prior_con0 (k := k)  hL0 H0) ⟨(fun _ => rfl), trivial⟩ ⟨(fun _ => rfl), trivial⟩ (by simp) (by simp)
theorem tide_Tide_Least_con0 {k : Nat}  {a0 : TTide} {a1 : Int} {r : Int}  (H0 : tide_Tide_Least.f k a0 a1 = some r) : SCon Try.prog 53 [.a (.agg ((eTTide a0).map .v)), .a (.c (.v (.int .i64 a1)))] [] (.a (.c (.v (.int .i64 r)))) [] [] := by
  rw [tide_Tide_Least.f] at H0
  refine spec_of [(0, _), (1, _)] [] 15 Try.func53 rfl Try.ntmps53 rfl rfl rfl rfl (fun β W F => ?_)
  refine G.seq ?_
  refine G.rg ?_
  refine K.box Y 100 [_, _, _] (gd0 rfl) rfl rfl rfl rfl rfl rfl ?_
  refine K.move (.inr rfl) (gd0 rfl) rfl rfl ?_
  refine K.nil ?_
  refine At.next ?_
  refine G.seq ?_
  refine G.seq ?_
  refine G.rg ?_
  refine K.fieldAddr Y (gd0 rfl) rfl t41 rfl rfl ?_
  refine K.load1 Y (gd0 rfl) rfl rfl t3 rfl rfl ?_
  refine K.bin (V := .bool (a0.n == 0)) (gd0 rfl) rfl rfl (fun _ => rfl) rfl ?_
  refine K.nil ?_
  refine At.next ?_
  refine G.cond rfl (fun h1 => ?_) (fun h1 => ?_)
  ·
    replace H0 := bif_t H0 h1
    refine G.seq ?_
    refine G.rg ?_
    refine K.move (.inl rfl) (gd0 rfl) rfl rfl ?_
    refine K.move (.inr rfl) (gd0 rfl) rfl rfl ?_
    refine K.nil ?_
    refine At.next ?_
    refine G.ret ?_
    refine At.over_ret ?_
    refine At.done Y [(.tmp 4, .c _)] rfl ⟨.tmp rfl, trivial⟩ (to' := []) trivial ?_ ?_ rfl rfl rfl (.inl rfl)
    · cases H0; rfl
    · cases H0; rfl
  ·
    replace H0 := bif_f H0 h1
    refine G.skip ?_
    refine At.next ?_
    refine G.seq ?_
    refine G.rg ?_
    refine K.move (.inl rfl) (gd0 rfl) rfl rfl ?_
    refine K.move (.inl rfl) (gd0 rfl) rfl rfl ?_
    refine K.fieldAddr Y (gd0 rfl) rfl t41 rfl rfl ?_
    refine K.load1 Y (gd0 rfl) rfl rfl t3 rfl rfl ?_
    refine K.bin (V := .int .i64 (w64 (a1 + a0.low))) (gd0 rfl) rfl rfl (fun _ => rfl) rfl ?_
    refine K.bi2 (V := .int .i64 (gmin a1 (w64 (a1 + a0.low)))) (gd0 rfl) rfl rfl (fun _ _ => rfl) rfl ?_
    refine K.move (.inr rfl) (gd0 rfl) rfl rfl ?_
    refine K.nil ?_
    refine At.next ?_
    refine G.ret ?_
    refine At.done Y [(.tmp 4, .c _)] rfl ⟨.tmp rfl, trivial⟩ (to' := []) trivial ?_ ?_ rfl rfl rfl (.inl rfl)
    · cases H0; rfl
    · cases H0; rfl
theorem tide_Tide_Least_con {k : Nat}  {a0 : TTide} {a1 : Int} {r : Int}  (H0 : tide_Tide_Least.f k a0 a1 = some r) : SCon Try.prog 53 [.a (.agg ((eTTide a0).map .v)), .a (.c (.v (.int .i64 a1)))] [] (.a (.c (.v (.int .i64 r)))) [] [] :=
  SCon.ren (rn []) (tide_Tide_Least_con0 (k := k)   H0) trivial trivial (by simp) (by simp)
theorem legal_Low_con0 {k : Nat}  {p1 : Pool (TNode TMark TSwell)} {rt0 : TRef} {a1 : Int} {a2 : Int} {r : Int}  (H0 : legal_Low.f k p1 rt0 a1 a2 = some r) : SCon Try.prog 30 [SV.p 0 0, .a (.c (.v (.int .i64 a1))), .a (.c (.v (.int .i64 a2)))] [(0, blk 0 [.p 1 0, .i rt0.index, .i rt0.gen] 74), (1, plM 1 p1)] (.a (.c (.v (.int .i64 r)))) [(0, blk 0 [.p 1 0, .i rt0.index, .i rt0.gen] 74), (1, plM 1 p1)] [] := by
  rw [legal_Low.f] at H0
  refine spec_of [(0, _), (1, _), (2, _)] [(0, _), (1, _)] 33 Try.func30 rfl Try.ntmps30 rfl rfl rfl rfl (fun β W F => ?_)
  refine G.seq ?_
  refine G.rg ?_
  refine K.move (.inr rfl) (gd0 rfl) rfl rfl ?_
  refine K.nil ?_
  refine At.next ?_
  refine G.seq ?_
  obtain ⟨x1, hx1, H0⟩ := bnd H0
  refine G.rg ?_
  refine K.move (.inl rfl) (gd0 rfl) rfl rfl ?_
  refine K.callR [(.func 21, _), ((.tmp 9), _)] (Tree_LenM_con (k := k) hx1 0 1) (toFn_func (cf 21 rfl) rfl) (gd0 rfl) ⟨rfl, rfl, trivial⟩ ⟨rfl, rfl, trivial⟩ rfl rfl rfl ?_
  refine K.move (.inr rfl) (gd0 rfl) rfl rfl ?_
  refine K.nil ?_
  refine At.next ?_
  refine G.seq ?_
  refine G.rg ?_
  refine K.move (.inl rfl) (gd0 rfl) rfl rfl ?_
  refine K.bi2 (V := .int .i64 (gmax a1 0)) (gd0 rfl) rfl rfl (fun _ _ => rfl) rfl ?_
  refine K.move (.inl rfl) (gd0 rfl) rfl rfl ?_
  refine K.bi2 (V := .int .i64 (gmin (gmax a1 0) x1)) (gd0 rfl) rfl rfl (fun _ _ => rfl) rfl ?_
  refine K.move (.inl rfl) (gd0 rfl) rfl rfl ?_
  refine K.bi2 (V := .int .i64 (gmax a2 0)) (gd0 rfl) rfl rfl (fun _ _ => rfl) rfl ?_
  refine K.move (.inl rfl) (gd0 rfl) rfl rfl ?_
  refine K.bi2 (V := .int .i64 (gmin (gmax a2 0) x1)) (gd0 rfl) rfl rfl (fun _ _ => rfl) rfl ?_
  refine K.move (.inr rfl) (gd0 rfl) rfl rfl ?_
  refine K.move (.inr rfl) (gd0 rfl) rfl rfl ?_
  refine K.nil ?_
  refine At.next ?_
  refine G.seq ?_
  obtain ⟨x2, hx2, H0⟩ := bnd H0
  refine G.rg ?_
  refine K.move (.inl rfl) (gd0 rfl) rfl rfl ?_
  refine K.move (.inl rfl) (gd0 rfl) rfl rfl ?_
  refine K.callR [(.func 41, _), ((.tmp 19), _), (_, _), ((.tmp 20), _)] (Tree_BetweenM_con (k := k) hx2 0 1) (toFn_func (cf 41 rfl) rfl) (gd0 rfl) ⟨rfl, rfl, rfl, rfl, trivial⟩ ⟨rfl, rfl, trivial⟩ rfl rfl rfl ?_
  refine K.fieldS Y [_, _, _] (gd0 rfl) rfl t43 rfl t41 rfl rfl ?_
  refine K.field1 Y (gd0 rfl) rfl t41 rfl t3 rfl rfl ?_
  refine K.move (.inr rfl) (gd0 rfl) rfl rfl ?_
  refine K.nil ?_
  refine At.next ?_
  refine G.seq ?_
  obtain ⟨x3, hx3, H0⟩ := bnd H0
  obtain ⟨x4, hx4, H0⟩ := bnd H0
  refine G.rg ?_
  refine K.move (.inl rfl) (gd0 rfl) rfl rfl ?_
  refine K.move (.inl rfl) (gd0 rfl) rfl rfl ?_
  refine K.move (.inl rfl) (gd0 rfl) rfl rfl ?_
  refine K.move (.inl rfl) (gd0 rfl) rfl rfl ?_
  refine K.bi2 (V := .int .i64 (gmax (gmin (gmax a1 0) x1) (gmin (gmax a2 0) x1))) (gd0 rfl) rfl rfl (fun _ _ => rfl) rfl ?_
  refine K.callR [(.func 41, _), ((.tmp 24), _), ((.tmp 25), _), ((.tmp 28), _)] (Tree_BetweenM_con (k := k) hx3 0 1) (toFn_func (cf 41 rfl) rfl) (gd0 rfl) ⟨rfl, rfl, rfl, rfl, trivial⟩ ⟨rfl, rfl, trivial⟩ rfl rfl rfl ?_
  refine K.fieldS Y [_, _, _] (gd0 rfl) rfl t43 rfl t41 rfl rfl ?_
  refine K.move (.inl rfl) (gd0 rfl) rfl rfl ?_
  refine K.callR [(.func 53, _), ((.tmp 30), _), ((.tmp 31), _)] (tide_Tide_Least_con (k := k) hx4) (toFn_func (cf 53 rfl) rfl) (gd0 rfl) ⟨rfl, rfl, rfl, trivial⟩ trivial rfl rfl rfl ?_
  refine K.move (.inr rfl) (gd0 rfl) rfl rfl ?_
  refine K.nil ?_
  refine At.next ?_
  refine G.ret ?_
  refine At.done Y [(.tmp 6, .c _)] rfl ⟨.tmp rfl, trivial⟩ (to' := [(0, _), (1, _)]) ⟨rfl, rfl, trivial⟩ ?_ ?_ rfl rfl rfl (.inl rfl)
  · cases H0; rfl
  · cases H0; rfl
theorem legal_Low_con {k : Nat}  {p1 : Pool (TNode TMark TSwell)} {rt0 : TRef} {a1 : Int} {a2 : Int} {r : Int}  (H0 : legal_Low.f k p1 rt0 a1 a2 = some r) (m0 m1 : Nat) : SCon Try.prog 30 [SV.p m0 0, .a (.c (.v (.int .i64 a1))), .a (.c (.v (.int .i64 a2)))] [(m0, blk m0 [.p m1 0, .i rt0.index, .i rt0.gen] 74), (m1, plM m1 p1)] (.a (.c (.v (.int .i64 r)))) [(m0, blk m0 [.p m1 0, .i rt0.index, .i rt0.gen] 74), (m1, plM m1 p1)] [] :=
  SCon.ren (rn [(0, m0), (1, m1)]) (legal_Low_con0 (k := k)   H0) ⟨(blk_ren rfl rfl), (pl_ren rfl), trivial⟩ ⟨(blk_ren rfl rfl), (pl_ren rfl), trivial⟩ (by simp) (by simp)
theorem legal_Right_con0 {k : Nat}  {p1 : Pool (TNode TMark TSwell)} {rt0 : TRef} {r : Bool}  (H0 : legal_Right.f k p1 rt0 = some r) : SCon Try.prog 32 [SV.p 0 0] [(0, blk 0 [.p 1 0, .i rt0.index, .i rt0.gen] 74), (1, plM 1 p1)] (.a (.c (.v (.bool r)))) [(0, blk 0 [.p 1 0, .i rt0.index, .i rt0.gen] 74), (1, plM 1 p1)] [] := by
  rw [legal_Right.f] at H0
  refine spec_of [(0, _)] [(0, _), (1, _)] 8 Try.func32 rfl Try.ntmps32 rfl rfl rfl rfl (fun β W F => ?_)
  refine G.seq ?_
  refine G.rg ?_
  refine K.move (.inr rfl) (gd0 rfl) rfl rfl ?_
  refine K.nil ?_
  refine At.next ?_
  refine G.seq ?_
  obtain ⟨x1, hx1, H0⟩ := bnd H0
  obtain ⟨x2, hx2, H0⟩ := bnd H0
  refine G.rg ?_
  refine K.move (.inl rfl) (gd0 rfl) rfl rfl ?_
  refine K.move (.inl rfl) (gd0 rfl) rfl rfl ?_
  refine K.callR [(.func 21, _), ((.tmp 4), _)] (Tree_LenM_con (k := k) hx1 0 1) (toFn_func (cf 21 rfl) rfl) (gd0 rfl) ⟨rfl, rfl, trivial⟩ ⟨rfl, rfl, trivial⟩ rfl rfl rfl ?_
  refine K.callR [(.func 30, _), ((.tmp 3), _), (_, _), ((.tmp 5), _)] (legal_Low_con (k := k) hx2 0 1) (toFn_func (cf 30 rfl) rfl) (gd0 rfl) ⟨rfl, rfl, rfl, rfl, trivial⟩ ⟨rfl, rfl, trivial⟩ rfl rfl rfl ?_
  refine K.bin (V := .bool (decide (x2 ≥ 0))) (gd0 rfl) rfl rfl (fun _ => rfl) rfl ?_
  refine K.move (.inr rfl) (gd0 rfl) rfl rfl ?_
  refine K.nil ?_
  refine At.next ?_
  refine G.ret ?_
  refine At.done Y [(.tmp 2, .c _)] rfl ⟨.tmp rfl, trivial⟩ (to' := [(0, _), (1, _)]) ⟨rfl, rfl, trivial⟩ ?_ ?_ rfl rfl rfl (.inl rfl)
  · cases H0; rfl
  · cases H0; rfl
theorem legal_Right_con {k : Nat}  {p1 : Pool (TNode TMark TSwell)} {rt0 : TRef} {r : Bool}  (H0 : legal_Right.f k p1 rt0 = some r) (m0 m1 : Nat) : SCon Try.prog 32 [SV.p m0 0] [(m0, blk m0 [.p m1 0, .i rt0.index, .i rt0.gen] 74), (m1, plM m1 p1)] (.a (.c (.v (.bool r)))) [(m0, blk m0 [.p m1 0, .i rt0.index, .i rt0.gen] 74), (m1, plM m1 p1)] [] :=
  SCon.ren (rn [(0, m0), (1, m1)]) (legal_Right_con0 (k := k)   H0) ⟨(blk_ren rfl rfl), (pl_ren rfl), trivial⟩ ⟨(blk_ren rfl rfl), (pl_ren rfl), trivial⟩ (by simp) (by simp)
theorem wave_Key_con0 {k : Nat}  {a0 : Int} {r : TMark}  (H0 : wave_Key.f k a0 = some r) : SCon Try.prog 56 [.a (.c (.v (.int .i64 a0)))] [] (.a (.agg ((eTMark r).map .v))) [] [] := by
  rw [wave_Key.f] at H0
  refine spec_of [(0, _)] [] 6 Try.func56 rfl Try.ntmps56 rfl rfl rfl rfl (fun β W F => ?_)
  refine G.seq ?_
  refine G.rg ?_
  refine K.alloc Y 100 [_, _, _, _, _, _, _, _] (gd0 rfl) t39 rfl rfl rfl rfl rfl ?_
  refine K.nil ?_
  refine At.next ?_
  refine G.seq ?_
  refine G.rg ?_
  refine K.move (.inl rfl) (gd0 rfl) rfl rfl ?_
  refine K.build Y [(0, _)] [_, _, _, _] [((.tmp 3), _)] (gd0 rfl) (AllE.spec ⟨rfl, trivial⟩) rfl rfl t35 rfl rfl ?_
  refine K.build Y [(0, _)] [_, _, _, _, _, _, _, _] [((.tmp 4), _)] (gd0 rfl) (AllE.spec ⟨rfl, trivial⟩) rfl rfl t39 rfl rfl ?_
  refine K.store Y [_, _, _, _, _, _, _, _] (gd0 rfl) rfl rfl rfl t39 rfl rfl rfl rfl rfl ?_
  refine K.nil ?_
  refine At.next ?_
  refine G.ret ?_
  refine At.done Y [(.cell 2 39, .agg [_, _, _, _, _, _, _, _])] rfl ⟨.st rfl rfl t39 rfl rfl, trivial⟩ (to' := []) trivial ?_ ?_ rfl rfl rfl (.inl rfl)
  · cases H0; rfl
  · cases H0; rfl
theorem wave_Key_con {k : Nat}  {a0 : Int} {r : TMark}  (H0 : wave_Key.f k a0 = some r) : SCon Try.prog 56 [.a (.c (.v (.int .i64 a0)))] [] (.a (.agg ((eTMark r).map .v))) [] [] :=
  SCon.ren (rn []) (wave_Key_con0 (k := k)   H0) trivial trivial (by simp) (by simp)
theorem legal_spare_con0 {k : Nat}  {p1 : Pool (TNode TMark TSwell)} {rt0 : TRef} {a1 : Int} {a2 : Int} {r : Bool}  (H0 : legal_spare.f k p1 rt0 a1 a2 = some r) : SCon Try.prog 57 [SV.p 0 0, .a (.c (.v (.int .i64 a1))), .a (.c (.v (.int .i64 a2)))] [(0, blk 0 [.p 1 0, .i rt0.index, .i rt0.gen] 74), (1, plM 1 p1)] (.a (.c (.v (.bool r)))) [(0, blk 0 [.p 1 0, .i rt0.index, .i rt0.gen] 74), (1, plM 1 p1)] [] := by
  rw [legal_spare.f] at H0
  refine spec_of [(0, _), (1, _), (2, _)] [(0, _), (1, _)] 12 Try.func57 rfl Try.ntmps57 rfl rfl rfl rfl (fun β W F => ?_)
  refine G.seq ?_
  refine G.rg ?_
  refine K.move (.inr rfl) (gd0 rfl) rfl rfl ?_
  refine K.nil ?_
  refine At.next ?_
  refine G.seq ?_
  obtain ⟨x1, hx1, H0⟩ := bnd H0
  refine G.rg ?_
  refine K.move (.inl rfl) (gd0 rfl) rfl rfl ?_
  refine K.move (.inl rfl) (gd0 rfl) rfl rfl ?_
  refine K.move (.inl rfl) (gd0 rfl) rfl rfl ?_
  refine K.callR [(.func 30, _), ((.tmp 7), _), ((.tmp 8), _), ((.tmp 9), _)] (legal_Low_con (k := k) hx1 0 1) (toFn_func (cf 30 rfl) rfl) (gd0 rfl) ⟨rfl, rfl, rfl, rfl, trivial⟩ ⟨rfl, rfl, trivial⟩ rfl rfl rfl ?_
  refine K.bin (V := .bool (decide (x1 > 0))) (gd0 rfl) rfl rfl (fun _ => rfl) rfl ?_
  refine K.move (.inr rfl) (gd0 rfl) rfl rfl ?_
  refine K.nil ?_
  refine At.next ?_
  refine G.ret ?_
  refine At.done Y [(.tmp 6, .c _)] rfl ⟨.tmp rfl, trivial⟩ (to' := [(0, _), (1, _)]) ⟨rfl, rfl, trivial⟩ ?_ ?_ rfl rfl rfl (.inl rfl)
  · cases H0; rfl
  · cases H0; rfl
theorem legal_spare_con {k : Nat}  {p1 : Pool (TNode TMark TSwell)} {rt0 : TRef} {a1 : Int} {a2 : Int} {r : Bool}  (H0 : legal_spare.f k p1 rt0 a1 a2 = some r) (m0 m1 : Nat) : SCon Try.prog 57 [SV.p m0 0, .a (.c (.v (.int .i64 a1))), .a (.c (.v (.int .i64 a2)))] [(m0, blk m0 [.p m1 0, .i rt0.index, .i rt0.gen] 74), (m1, plM m1 p1)] (.a (.c (.v (.bool r)))) [(m0, blk m0 [.p m1 0, .i rt0.index, .i rt0.gen] 74), (m1, plM m1 p1)] [] :=
  SCon.ren (rn [(0, m0), (1, m1)]) (legal_spare_con0 (k := k)   H0) ⟨(blk_ren rfl rfl), (pl_ren rfl), trivial⟩ ⟨(blk_ren rfl rfl), (pl_ren rfl), trivial⟩ (by simp) (by simp)
theorem legal_MayDelete_con0 {k : Nat}  {p1 : Pool (TNode TMark TSwell)} {rt0 : TRef} {a1 : Int} {r : Bool}  (H0 : legal_MayDelete.f k p1 rt0 a1 = some r) : SCon Try.prog 36 [SV.p 0 0, .a (.c (.v (.int .i64 a1)))] [(0, blk 0 [.p 1 0, .i rt0.index, .i rt0.gen] 74), (1, plM 1 p1)] (.a (.c (.v (.bool r)))) [(0, blk 0 [.p 1 0, .i rt0.index, .i rt0.gen] 74), (1, plM 1 p1)] [] := by
  rw [legal_MayDelete.f] at H0
  refine spec_of [(0, _), (1, _)] [(0, _), (1, _)] 23 Try.func36 rfl Try.ntmps36 rfl rfl rfl rfl (fun β W F => ?_)
  refine G.seq ?_
  refine G.rg ?_
  refine K.move (.inr rfl) (gd0 rfl) rfl rfl ?_
  refine K.nil ?_
  refine At.next ?_
  refine G.seq ?_
  refine G.seq ?_
  obtain ⟨x1, hx1, H0⟩ := bnd H0
  obtain ⟨x2, hx2, H0⟩ := bnd H0
  refine G.rg ?_
  refine K.move (.inl rfl) (gd0 rfl) rfl rfl ?_
  refine K.move (.inl rfl) (gd0 rfl) rfl rfl ?_
  refine K.callR [(.func 56, _), ((.tmp 9), _)] (wave_Key_con (k := k) hx1) (toFn_func (cf 56 rfl) rfl) (gd0 rfl) ⟨rfl, rfl, trivial⟩ trivial rfl rfl rfl ?_
  refine K.callR [(.func 55, _), ((.tmp 8), _), ((.tmp 10), _)] (Tree_FindM_con (k := k) hx2 0 1) (toFn_func (cf 55 rfl) rfl) (gd0 rfl) ⟨rfl, rfl, rfl, trivial⟩ ⟨rfl, rfl, trivial⟩ rfl rfl rfl ?_
  refine K.move (.inl rfl) (gd0 rfl) rfl rfl ?_
  refine K.extract (gd0 rfl) rfl rfl rfl ?_
  refine K.extract (gd0 rfl) rfl rfl rfl ?_
  refine K.alloc Y 100 [_, _, _, _, _, _, _, _] (gd0 rfl) t39 rfl rfl rfl rfl rfl ?_
  refine K.store Y [_, _, _, _, _, _, _, _] (gd0 rfl) rfl rfl rfl t39 rfl rfl rfl rfl rfl ?_
  refine K.move (.inr rfl) (gd0 rfl) rfl rfl ?_
  refine K.nil ?_
  refine At.next ?_
  refine G.seq ?_
  refine G.rg ?_
  refine K.move (.inl rfl) (gd0 rfl) rfl rfl ?_
  refine K.nil ?_
  refine At.next ?_
  refine G.cond rfl (fun h1 => ?_) (fun h1 => ?_)
  ·
    replace H0 := bif_t H0 h1
    refine G.seq ?_
    refine G.rg ?_
    refine K.move (.inr rfl) (gd0 rfl) rfl rfl ?_
    refine K.nil ?_
    refine At.next ?_
    refine G.ret ?_
    refine At.over_ret ?_
    refine At.done Y [(.tmp 4, .c _)] rfl ⟨.tmp rfl, trivial⟩ (to' := [(0, _), (1, _)]) ⟨rfl, rfl, trivial⟩ ?_ ?_ rfl rfl rfl (.inl rfl)
    · cases H0; rfl
    · cases H0; rfl
  ·
    replace H0 := bif_f H0 h1
    refine G.skip ?_
    refine At.next ?_
    refine G.seq ?_
    obtain ⟨x3, hx3, H0⟩ := bnd H0
    obtain ⟨x4, hx4, H0⟩ := bnd H0
    obtain ⟨x5, hx5, H0⟩ := bnd H0
    obtain ⟨x6, hx6, H0⟩ := bnd H0
    refine G.rg ?_
    refine K.move (.inl rfl) (gd0 rfl) rfl rfl ?_
    refine K.move (.inl rfl) (gd0 rfl) rfl rfl ?_
    refine K.move (.inl rfl) (gd0 rfl) rfl rfl ?_
    refine K.callR [(.func 56, _), ((.tmp 17), _)] (wave_Key_con (k := k) hx3) (toFn_func (cf 56 rfl) rfl) (gd0 rfl) ⟨rfl, rfl, trivial⟩ trivial rfl rfl rfl ?_
    refine K.callR [(.func 58, _), ((.tmp 16), _), ((.tmp 18), _)] (Tree_RankM_con (k := k) hx4 0 1) (toFn_func (cf 58 rfl) rfl) (gd0 rfl) ⟨rfl, rfl, rfl, trivial⟩ ⟨rfl, rfl, trivial⟩ rfl rfl rfl ?_
    refine K.move (.inl rfl) (gd0 rfl) rfl rfl ?_
    refine K.callR [(.func 21, _), ((.tmp 20), _)] (Tree_LenM_con (k := k) hx5 0 1) (toFn_func (cf 21 rfl) rfl) (gd0 rfl) ⟨rfl, rfl, trivial⟩ ⟨rfl, rfl, trivial⟩ rfl rfl rfl ?_
    refine K.callR [(.func 57, _), ((.tmp 15), _), ((.tmp 19), _), ((.tmp 21), _)] (legal_spare_con (k := k) hx6 0 1) (toFn_func (cf 57 rfl) rfl) (gd0 rfl) ⟨rfl, rfl, rfl, rfl, trivial⟩ ⟨rfl, rfl, trivial⟩ rfl rfl rfl ?_
    refine K.move (.inr rfl) (gd0 rfl) rfl rfl ?_
    refine K.nil ?_
    refine At.next ?_
    refine G.ret ?_
    refine At.done Y [(.tmp 4, .c _)] rfl ⟨.tmp rfl, trivial⟩ (to' := [(0, _), (1, _)]) ⟨rfl, rfl, trivial⟩ ?_ ?_ rfl rfl rfl (.inl rfl)
    · cases H0; rfl
    · cases H0; rfl
theorem legal_MayDelete_con {k : Nat}  {p1 : Pool (TNode TMark TSwell)} {rt0 : TRef} {a1 : Int} {r : Bool}  (H0 : legal_MayDelete.f k p1 rt0 a1 = some r) (m0 m1 : Nat) : SCon Try.prog 36 [SV.p m0 0, .a (.c (.v (.int .i64 a1)))] [(m0, blk m0 [.p m1 0, .i rt0.index, .i rt0.gen] 74), (m1, plM m1 p1)] (.a (.c (.v (.bool r)))) [(m0, blk m0 [.p m1 0, .i rt0.index, .i rt0.gen] 74), (m1, plM m1 p1)] [] :=
  SCon.ren (rn [(0, m0), (1, m1)]) (legal_MayDelete_con0 (k := k)   H0) ⟨(blk_ren rfl rfl), (pl_ren rfl), trivial⟩ ⟨(blk_ren rfl rfl), (pl_ren rfl), trivial⟩ (by simp) (by simp)
theorem legal_MayRevoke_con0 {k : Nat}  {p1 : Pool (TNode TMark TSwell)} {rt0 : TRef} {a1 : Int} {r : Bool}  (H0 : legal_MayRevoke.f k p1 rt0 a1 = some r) : SCon Try.prog 39 [SV.p 0 0, .a (.c (.v (.int .i64 a1)))] [(0, blk 0 [.p 1 0, .i rt0.index, .i rt0.gen] 74), (1, plM 1 p1)] (.a (.c (.v (.bool r)))) [(0, blk 0 [.p 1 0, .i rt0.index, .i rt0.gen] 74), (1, plM 1 p1)] [] := by
  rw [legal_MayRevoke.f] at H0
  refine spec_of [(0, _), (1, _)] [(0, _), (1, _)] 32 Try.func39 rfl Try.ntmps39 rfl rfl rfl rfl (fun β W F => ?_)
  refine G.seq ?_
  refine G.rg ?_
  refine K.move (.inr rfl) (gd0 rfl) rfl rfl ?_
  refine K.nil ?_
  refine At.next ?_
  refine G.seq ?_
  obtain ⟨x1, hx1, H0⟩ := bnd H0
  obtain ⟨x2, hx2, H0⟩ := bnd H0
  refine G.rg ?_
  refine K.move (.inl rfl) (gd0 rfl) rfl rfl ?_
  refine K.move (.inl rfl) (gd0 rfl) rfl rfl ?_
  refine K.callR [(.func 56, _), ((.tmp 9), _)] (wave_Key_con (k := k) hx1) (toFn_func (cf 56 rfl) rfl) (gd0 rfl) ⟨rfl, rfl, trivial⟩ trivial rfl rfl rfl ?_
  refine K.callR [(.func 55, _), ((.tmp 8), _), ((.tmp 10), _)] (Tree_FindM_con (k := k) hx2 0 1) (toFn_func (cf 55 rfl) rfl) (gd0 rfl) ⟨rfl, rfl, rfl, trivial⟩ ⟨rfl, rfl, trivial⟩ rfl rfl rfl ?_
  refine K.move (.inl rfl) (gd0 rfl) rfl rfl ?_
  refine K.extract (gd0 rfl) rfl rfl rfl ?_
  refine K.extract (gd0 rfl) rfl rfl rfl ?_
  refine K.alloc Y 100 [_, _, _, _, _, _, _, _] (gd0 rfl) t39 rfl rfl rfl rfl rfl ?_
  refine K.store Y [_, _, _, _, _, _, _, _] (gd0 rfl) rfl rfl rfl t39 rfl rfl rfl rfl rfl ?_
  refine K.move (.inr rfl) (gd0 rfl) rfl rfl ?_
  refine K.nil ?_
  refine At.next ?_
  refine G.seq ?_
  refine G.seq ?_
  rcases Bool.eq_false_or_eq_true (!x2.2) with h1 | h1
  ·
    replace H0 := bif_t H0 h1
    refine G.rg ?_
    refine K.move (.inl rfl) (gd0 rfl) rfl rfl ?_
    refine K.un (V := .bool (!x2.2)) (gd0 rfl) rfl (fun _ => rfl) rfl ?_
    refine K.move (.inl rfl) (gd0 rfl) rfl rfl ?_
    refine K.skip rfl rfl rfl rfl (h1) rfl ?_
    refine K.skip rfl rfl rfl rfl (h1) rfl ?_
    refine K.skip rfl rfl rfl rfl (h1) rfl ?_
    refine K.skip rfl rfl rfl rfl (h1) rfl ?_
    refine K.pickT (gd0 rfl) rfl (h1) rfl rfl ?_
    refine K.nil ?_
    refine At.next ?_
    refine G.cond rfl (fun h2 => ?_) (fun h2 => ?_)
    ·
      refine G.seq ?_
      refine G.rg ?_
      refine K.move (.inl rfl) (gd0 rfl) rfl rfl ?_
      refine K.move (.inr rfl) (gd0 rfl) rfl rfl ?_
      refine K.nil ?_
      refine At.next ?_
      refine G.ret ?_
      refine At.over_ret ?_
      refine At.done Y [(.tmp 4, .c _)] rfl ⟨.tmp rfl, trivial⟩ (to' := [(0, _), (1, _)]) ⟨rfl, rfl, trivial⟩ ?_ ?_ rfl rfl rfl (.inl rfl)
      · cases H0; rfl
      · cases H0; rfl
    · cases h2
  ·
    replace H0 := bif_f H0 h1
    refine G.rg ?_
    refine K.move (.inl rfl) (gd0 rfl) rfl rfl ?_
    refine K.un (V := .bool (!x2.2)) (gd0 rfl) rfl (fun _ => rfl) rfl ?_
    refine K.move (.inl rfl) (gd0 rfl) rfl rfl ?_
    refine K.fieldAddr Y (gd1 rfl rfl rfl (h1)) rfl t39 rfl rfl ?_
    refine K.fieldAddr Y (gd1 rfl rfl rfl (h1)) rfl t35 rfl rfl ?_
    refine K.load1 Y (gd1 rfl rfl rfl (h1)) rfl rfl t4 rfl rfl ?_
    refine K.un (V := .bool (!x2.1.op.insert)) (gd1 rfl rfl rfl (h1)) rfl (fun _ => rfl) rfl ?_
    refine K.pickF (gd0 rfl) rfl (h1) rfl rfl ?_
    refine K.nil ?_
    refine At.next ?_
    refine G.cond rfl (fun h3 => ?_) (fun h3 => ?_)
    ·
      replace H0 := bif_t H0 h3
      refine G.seq ?_
      refine G.rg ?_
      refine K.move (.inl rfl) (gd0 rfl) rfl rfl ?_
      refine K.move (.inr rfl) (gd0 rfl) rfl rfl ?_
      refine K.nil ?_
      refine At.next ?_
      refine G.ret ?_
      refine At.over_ret ?_
      refine At.done Y [(.tmp 4, .c _)] rfl ⟨.tmp rfl, trivial⟩ (to' := [(0, _), (1, _)]) ⟨rfl, rfl, trivial⟩ ?_ ?_ rfl rfl rfl (.inl rfl)
      · cases H0; rfl
      · cases H0; rfl
    ·
      replace H0 := bif_f H0 h3
      refine G.skip ?_
      refine At.next ?_
      refine G.seq ?_
      obtain ⟨x3, hx3, H0⟩ := bnd H0
      obtain ⟨x4, hx4, H0⟩ := bnd H0
      obtain ⟨x5, hx5, H0⟩ := bnd H0
      obtain ⟨x6, hx6, H0⟩ := bnd H0
      refine G.rg ?_
      refine K.move (.inl rfl) (gd0 rfl) rfl rfl ?_
      refine K.move (.inl rfl) (gd0 rfl) rfl rfl ?_
      refine K.move (.inl rfl) (gd0 rfl) rfl rfl ?_
      refine K.callR [(.func 56, _), ((.tmp 25), _)] (wave_Key_con (k := k) hx3) (toFn_func (cf 56 rfl) rfl) (gd0 rfl) ⟨rfl, rfl, trivial⟩ trivial rfl rfl rfl ?_
      refine K.callR [(.func 58, _), ((.tmp 24), _), ((.tmp 26), _)] (Tree_RankM_con (k := k) hx4 0 1) (toFn_func (cf 58 rfl) rfl) (gd0 rfl) ⟨rfl, rfl, rfl, trivial⟩ ⟨rfl, rfl, trivial⟩ rfl rfl rfl ?_
      refine K.bin (V := .int .i64 (w64 (x4 + 1))) (gd0 rfl) rfl rfl (fun _ => rfl) rfl ?_
      refine K.move (.inl rfl) (gd0 rfl) rfl rfl ?_
      refine K.callR [(.func 21, _), ((.tmp 29), _)] (Tree_LenM_con (k := k) hx5 0 1) (toFn_func (cf 21 rfl) rfl) (gd0 rfl) ⟨rfl, rfl, trivial⟩ ⟨rfl, rfl, trivial⟩ rfl rfl rfl ?_
      refine K.callR [(.func 57, _), ((.tmp 23), _), ((.tmp 28), _), ((.tmp 30), _)] (legal_spare_con (k := k) hx6 0 1) (toFn_func (cf 57 rfl) rfl) (gd0 rfl) ⟨rfl, rfl, rfl, rfl, trivial⟩ ⟨rfl, rfl, trivial⟩ rfl rfl rfl ?_
      refine K.move (.inr rfl) (gd0 rfl) rfl rfl ?_
      refine K.nil ?_
      refine At.next ?_
      refine G.ret ?_
      refine At.done Y [(.tmp 4, .c _)] rfl ⟨.tmp rfl, trivial⟩ (to' := [(0, _), (1, _)]) ⟨rfl, rfl, trivial⟩ ?_ ?_ rfl rfl rfl (.inl rfl)
      · cases H0; rfl
      · cases H0; rfl
theorem legal_MayRevoke_con {k : Nat}  {p1 : Pool (TNode TMark TSwell)} {rt0 : TRef} {a1 : Int} {r : Bool}  (H0 : legal_MayRevoke.f k p1 rt0 a1 = some r) (m0 m1 : Nat) : SCon Try.prog 39 [SV.p m0 0, .a (.c (.v (.int .i64 a1)))] [(m0, blk m0 [.p m1 0, .i rt0.index, .i rt0.gen] 74), (m1, plM m1 p1)] (.a (.c (.v (.bool r)))) [(m0, blk m0 [.p m1 0, .i rt0.index, .i rt0.gen] 74), (m1, plM m1 p1)] [] :=
  SCon.ren (rn [(0, m0), (1, m1)]) (legal_MayRevoke_con0 (k := k)   H0) ⟨(blk_ren rfl rfl), (pl_ren rfl), trivial⟩ ⟨(blk_ren rfl rfl), (pl_ren rfl), trivial⟩ (by simp) (by simp)
theorem Lw11_awake_con0 {k : Nat}  {r : Bool}  (H0 : Lw11_awake.f k = some r) : SCon Try.prog 29 [] [] (.a (.c (.v (.bool r)))) [] [] := by
  rw [Lw11_awake.f] at H0
  refine spec_of [] [] 35 Try.func29 rfl Try.ntmps29 rfl rfl rfl rfl (fun β W F => ?_)
  refine G.seq ?_
  refine G.rg ?_
  refine K.move (.inr rfl) (gd0 rfl) rfl rfl ?_
  refine K.nil ?_
  refine At.next ?_
  refine G.seq ?_
  obtain ⟨x1, hx1, H0⟩ := bnd H0
  refine G.rg ?_
  refine K.build Y [(0, _), (1, _)] [_, _, _, _] [(_, _), (_, _)] (gd0 rfl) (AllE.spec ⟨rfl, rfl, trivial⟩) rfl rfl t35 rfl rfl ?_
  refine K.build Y [(0, _)] [_, _, _, _, _, _, _, _] [((.tmp 2), _)] (gd0 rfl) (AllE.spec ⟨rfl, trivial⟩) rfl rfl t52 rfl rfl ?_
  refine K.buildL Y 100 ([(TR08Mark.mk (TOp.mk 5 true zTItem) false zTTook)] : List TR08Mark) [(0, _)] [((.tmp 3), _)] eTR08Mark_len (gd0 rfl) (AllE.spec ⟨rfl, trivial⟩) rfl rfl Try.underlying22 t52 rfl rfl rfl rfl rfl rfl rfl rfl ?_
  refine K.callV [(.func 14, _), ((.tmp 4), _)] [(100, lrow 100 52 eTR08Mark 8 ([(TR08Mark.mk (TOp.mk 5 true zTItem) false zTTook)] : List TR08Mark))] [] [(101, _), (102, _)] (fun β => [SV.raw ((lrowV 100 52 eTR08Mark 8 ([(TR08Mark.mk (TOp.mk 5 true zTItem) false zTTook)] : List TR08Mark)).s.den β)]) (fun β w S2 h => Lw10_Tree_con (k := k) ((lrowV_isC eTR08Mark_len (by decide)).larg ⟨_, List.mem_cons_self⟩ h) hx1 101 102 rfl) (toFn_func (cf 14 rfl) rfl) (gd0 rfl) ⟨rfl, rfl, trivial⟩ (fun _ => rfl) ⟨rfl, trivial⟩ rfl rfl rfl rfl rfl rfl ?_
  refine K.move (.inr rfl) (gd0 rfl) rfl rfl ?_
  refine K.nil ?_
  refine At.next ?_
  refine G.seq ?_
  obtain ⟨x2, hx2, H0⟩ := bnd H0
  rcases Bool.eq_false_or_eq_true x2 with h1 | h1
  ·
    replace H0 := bif_t H0 h1
    obtain ⟨x3, hx3, H0⟩ := bnd H0
    rcases Bool.eq_false_or_eq_true x3 with h2 | h2
    ·
      replace H0 := bif_t H0 h2
      obtain ⟨x4, hx4, H0⟩ := bnd H0
      rcases Bool.eq_false_or_eq_true (!x4) with h3 | h3
      ·
        replace H0 := bif_t H0 h3
        obtain ⟨x5, hx5, H0⟩ := bnd H0
        rcases Bool.eq_false_or_eq_true x5 with h4 | h4
        ·
          replace H0 := bif_t H0 h4
          obtain ⟨x6, hx6, H0⟩ := bnd H0
          rcases Bool.eq_false_or_eq_true (x6 == 0) with h5 | h5
          ·
            replace H0 := bif_t H0 h5
            obtain ⟨x7, hx7, H0⟩ := bnd H0
            refine G.rg ?_
            refine K.move (.inl rfl) (gd0 rfl) rfl rfl ?_
            refine K.eqnil (V := true) (gd0 rfl) rfl rfl (pn_neq_some Try.underlying26) rfl ?_
            refine K.move (.inl rfl) (gd0 rfl) rfl rfl ?_
            refine K.move (.inl rfl) (gd1 rfl rfl rfl (rfl)) rfl rfl ?_
            refine K.callR [(.func 32, _), ((.tmp 9), _)] (legal_Right_con (k := k) hx2 101 102) (toFn_func (cf 32 rfl) rfl) (gd1 rfl rfl rfl (rfl)) ⟨rfl, rfl, trivial⟩ ⟨rfl, rfl, trivial⟩ rfl rfl rfl ?_
            refine K.pickT (gd0 rfl) rfl (rfl) rfl rfl ?_
            refine K.move (.inl rfl) (gd0 rfl) rfl rfl ?_
            refine K.move (.inl rfl) (gd1 rfl rfl rfl (h1)) rfl rfl ?_
            refine K.callR [(.func 36, _), ((.tmp 13), _), (_, _)] (legal_MayDelete_con (k := k) hx3 101 102) (toFn_func (cf 36 rfl) rfl) (gd1 rfl rfl rfl (h1)) ⟨rfl, rfl, rfl, trivial⟩ ⟨rfl, rfl, trivial⟩ rfl rfl rfl ?_
            refine K.pickT (gd0 rfl) rfl (h1) rfl rfl ?_
            refine K.move (.inl rfl) (gd0 rfl) rfl rfl ?_
            refine K.move (.inl rfl) (gd1 rfl rfl rfl (h2)) rfl rfl ?_
            refine K.callR [(.func 36, _), ((.tmp 17), _), (_, _)] (legal_MayDelete_con (k := k) hx4 101 102) (toFn_func (cf 36 rfl) rfl) (gd1 rfl rfl rfl (h2)) ⟨rfl, rfl, rfl, trivial⟩ ⟨rfl, rfl, trivial⟩ rfl rfl rfl ?_
            refine K.un (V := .bool (!x4)) (gd1 rfl rfl rfl (h2)) rfl (fun _ => rfl) rfl ?_
            refine K.pickT (gd0 rfl) rfl (h2) rfl rfl ?_
            refine K.move (.inl rfl) (gd0 rfl) rfl rfl ?_
            refine K.move (.inl rfl) (gd1 rfl rfl rfl (h3)) rfl rfl ?_
            refine K.callR [(.func 39, _), ((.tmp 22), _), (_, _)] (legal_MayRevoke_con (k := k) hx5 101 102) (toFn_func (cf 39 rfl) rfl) (gd1 rfl rfl rfl (h3)) ⟨rfl, rfl, rfl, trivial⟩ ⟨rfl, rfl, trivial⟩ rfl rfl rfl ?_
            refine K.pickT (gd0 rfl) rfl (h3) rfl rfl ?_
            refine K.move (.inl rfl) (gd0 rfl) rfl rfl ?_
            refine K.move (.inl rfl) (gd1 rfl rfl rfl (h4)) rfl rfl ?_
            refine K.callR [(.func 30, _), ((.tmp 26), _), (_, _), (_, _)] (legal_Low_con (k := k) hx6 101 102) (toFn_func (cf 30 rfl) rfl) (gd1 rfl rfl rfl (h4)) ⟨rfl, rfl, rfl, rfl, trivial⟩ ⟨rfl, rfl, trivial⟩ rfl rfl rfl ?_
            refine K.bin (V := .bool (x6 == 0)) (gd1 rfl rfl rfl (h4)) rfl rfl (fun _ => rfl) rfl ?_
            refine K.pickT (gd0 rfl) rfl (h4) rfl rfl ?_
            refine K.move (.inl rfl) (gd0 rfl) rfl rfl ?_
            refine K.move (.inl rfl) (gd1 rfl rfl rfl (h5)) rfl rfl ?_
            refine K.callR [(.func 30, _), ((.tmp 31), _), (_, _), (_, _)] (legal_Low_con (k := k) hx7 101 102) (toFn_func (cf 30 rfl) rfl) (gd1 rfl rfl rfl (h5)) ⟨rfl, rfl, rfl, rfl, trivial⟩ ⟨rfl, rfl, trivial⟩ rfl rfl rfl ?_
            refine K.bin (V := .bool (x7 == 1)) (gd1 rfl rfl rfl (h5)) rfl rfl (fun _ => rfl) rfl ?_
            refine K.pickT (gd0 rfl) rfl (h5) rfl rfl ?_
            refine K.move (.inr rfl) (gd0 rfl) rfl rfl ?_
            refine K.nil ?_
            refine At.next ?_
            refine G.ret ?_
            refine At.done Y [(.tmp 0, .c _)] rfl ⟨.tmp rfl, trivial⟩ (to' := []) trivial ?_ ?_ rfl rfl rfl (.inl rfl)
            · cases H0; rfl
            · cases H0; rfl
          ·
            replace H0 := bif_f H0 h5
            refine G.rg ?_
            refine K.move (.inl rfl) (gd0 rfl) rfl rfl ?_
            refine K.eqnil (V := true) (gd0 rfl) rfl rfl (pn_neq_some Try.underlying26) rfl ?_
            refine K.move (.inl rfl) (gd0 rfl) rfl rfl ?_
            refine K.move (.inl rfl) (gd1 rfl rfl rfl (rfl)) rfl rfl ?_
            refine K.callR [(.func 32, _), ((.tmp 9), _)] (legal_Right_con (k := k) hx2 101 102) (toFn_func (cf 32 rfl) rfl) (gd1 rfl rfl rfl (rfl)) ⟨rfl, rfl, trivial⟩ ⟨rfl, rfl, trivial⟩ rfl rfl rfl ?_
            refine K.pickT (gd0 rfl) rfl (rfl) rfl rfl ?_
            refine K.move (.inl rfl) (gd0 rfl) rfl rfl ?_
            refine K.move (.inl rfl) (gd1 rfl rfl rfl (h1)) rfl rfl ?_
            refine K.callR [(.func 36, _), ((.tmp 13), _), (_, _)] (legal_MayDelete_con (k := k) hx3 101 102) (toFn_func (cf 36 rfl) rfl) (gd1 rfl rfl rfl (h1)) ⟨rfl, rfl, rfl, trivial⟩ ⟨rfl, rfl, trivial⟩ rfl rfl rfl ?_
            refine K.pickT (gd0 rfl) rfl (h1) rfl rfl ?_
            refine K.move (.inl rfl) (gd0 rfl) rfl rfl ?_
            refine K.move (.inl rfl) (gd1 rfl rfl rfl (h2)) rfl rfl ?_
            refine K.callR [(.func 36, _), ((.tmp 17), _), (_, _)] (legal_MayDelete_con (k := k) hx4 101 102) (toFn_func (cf 36 rfl) rfl) (gd1 rfl rfl rfl (h2)) ⟨rfl, rfl, rfl, trivial⟩ ⟨rfl, rfl, trivial⟩ rfl rfl rfl ?_
            refine K.un (V := .bool (!x4)) (gd1 rfl rfl rfl (h2)) rfl (fun _ => rfl) rfl ?_
            refine K.pickT (gd0 rfl) rfl (h2) rfl rfl ?_
            refine K.move (.inl rfl) (gd0 rfl) rfl rfl ?_
            refine K.move (.inl rfl) (gd1 rfl rfl rfl (h3)) rfl rfl ?_
            refine K.callR [(.func 39, _), ((.tmp 22), _), (_, _)] (legal_MayRevoke_con (k := k) hx5 101 102) (toFn_func (cf 39 rfl) rfl) (gd1 rfl rfl rfl (h3)) ⟨rfl, rfl, rfl, trivial⟩ ⟨rfl, rfl, trivial⟩ rfl rfl rfl ?_
            refine K.pickT (gd0 rfl) rfl (h3) rfl rfl ?_
            refine K.move (.inl rfl) (gd0 rfl) rfl rfl ?_
            refine K.move (.inl rfl) (gd1 rfl rfl rfl (h4)) rfl rfl ?_
            refine K.callR [(.func 30, _), ((.tmp 26), _), (_, _), (_, _)] (legal_Low_con (k := k) hx6 101 102) (toFn_func (cf 30 rfl) rfl) (gd1 rfl rfl rfl (h4)) ⟨rfl, rfl, rfl, rfl, trivial⟩ ⟨rfl, rfl, trivial⟩ rfl rfl rfl ?_
            refine K.bin (V := .bool (x6 == 0)) (gd1 rfl rfl rfl (h4)) rfl rfl (fun _ => rfl) rfl ?_
            refine K.pickT (gd0 rfl) rfl (h4) rfl rfl ?_
            refine K.move (.inl rfl) (gd0 rfl) rfl rfl ?_
            refine K.skip rfl rfl rfl rfl (h5) rfl ?_
            refine K.skip rfl rfl rfl rfl (h5) rfl ?_
            refine K.skip rfl rfl rfl rfl (h5) rfl ?_
            refine K.pickF (gd0 rfl) rfl (h5) rfl rfl ?_
            refine K.move (.inr rfl) (gd0 rfl) rfl rfl ?_
            refine K.nil ?_
            refine At.next ?_
            refine G.ret ?_
            refine At.done Y [(.tmp 0, .c _)] rfl ⟨.tmp rfl, trivial⟩ (to' := []) trivial ?_ ?_ rfl rfl rfl (.inl rfl)
            · cases H0; rfl
            · cases H0; rfl
        ·
          replace H0 := bif_f H0 h4
          refine G.rg ?_
          refine K.move (.inl rfl) (gd0 rfl) rfl rfl ?_
          refine K.eqnil (V := true) (gd0 rfl) rfl rfl (pn_neq_some Try.underlying26) rfl ?_
          refine K.move (.inl rfl) (gd0 rfl) rfl rfl ?_
          refine K.move (.inl rfl) (gd1 rfl rfl rfl (rfl)) rfl rfl ?_
          refine K.callR [(.func 32, _), ((.tmp 9), _)] (legal_Right_con (k := k) hx2 101 102) (toFn_func (cf 32 rfl) rfl) (gd1 rfl rfl rfl (rfl)) ⟨rfl, rfl, trivial⟩ ⟨rfl, rfl, trivial⟩ rfl rfl rfl ?_
          refine K.pickT (gd0 rfl) rfl (rfl) rfl rfl ?_
          refine K.move (.inl rfl) (gd0 rfl) rfl rfl ?_
          refine K.move (.inl rfl) (gd1 rfl rfl rfl (h1)) rfl rfl ?_
          refine K.callR [(.func 36, _), ((.tmp 13), _), (_, _)] (legal_MayDelete_con (k := k) hx3 101 102) (toFn_func (cf 36 rfl) rfl) (gd1 rfl rfl rfl (h1)) ⟨rfl, rfl, rfl, trivial⟩ ⟨rfl, rfl, trivial⟩ rfl rfl rfl ?_
          refine K.pickT (gd0 rfl) rfl (h1) rfl rfl ?_
          refine K.move (.inl rfl) (gd0 rfl) rfl rfl ?_
          refine K.move (.inl rfl) (gd1 rfl rfl rfl (h2)) rfl rfl ?_
          refine K.callR [(.func 36, _), ((.tmp 17), _), (_, _)] (legal_MayDelete_con (k := k) hx4 101 102) (toFn_func (cf 36 rfl) rfl) (gd1 rfl rfl rfl (h2)) ⟨rfl, rfl, rfl, trivial⟩ ⟨rfl, rfl, trivial⟩ rfl rfl rfl ?_
          refine K.un (V := .bool (!x4)) (gd1 rfl rfl rfl (h2)) rfl (fun _ => rfl) rfl ?_
          refine K.pickT (gd0 rfl) rfl (h2) rfl rfl ?_
          refine K.move (.inl rfl) (gd0 rfl) rfl rfl ?_
          refine K.move (.inl rfl) (gd1 rfl rfl rfl (h3)) rfl rfl ?_
          refine K.callR [(.func 39, _), ((.tmp 22), _), (_, _)] (legal_MayRevoke_con (k := k) hx5 101 102) (toFn_func (cf 39 rfl) rfl) (gd1 rfl rfl rfl (h3)) ⟨rfl, rfl, rfl, trivial⟩ ⟨rfl, rfl, trivial⟩ rfl rfl rfl ?_
          refine K.pickT (gd0 rfl) rfl (h3) rfl rfl ?_
          refine K.move (.inl rfl) (gd0 rfl) rfl rfl ?_
          refine K.skip rfl rfl rfl rfl (h4) rfl ?_
          refine K.skip rfl rfl rfl rfl (h4) rfl ?_
          refine K.skip rfl rfl rfl rfl (h4) rfl ?_
          refine K.pickF (gd0 rfl) rfl (h4) rfl rfl ?_
          refine K.move (.inl rfl) (gd0 rfl) rfl rfl ?_
          refine K.skip rfl rfl rfl rfl (rfl) rfl ?_
          refine K.skip rfl rfl rfl rfl (rfl) rfl ?_
          refine K.skip rfl rfl rfl rfl (rfl) rfl ?_
          refine K.pickF (gd0 rfl) rfl (rfl) rfl rfl ?_
          refine K.move (.inr rfl) (gd0 rfl) rfl rfl ?_
          refine K.nil ?_
          refine At.next ?_
          refine G.ret ?_
          refine At.done Y [(.tmp 0, .c _)] rfl ⟨.tmp rfl, trivial⟩ (to' := []) trivial ?_ ?_ rfl rfl rfl (.inl rfl)
          · cases H0; rfl
          · cases H0; rfl
      ·
        replace H0 := bif_f H0 h3
        refine G.rg ?_
        refine K.move (.inl rfl) (gd0 rfl) rfl rfl ?_
        refine K.eqnil (V := true) (gd0 rfl) rfl rfl (pn_neq_some Try.underlying26) rfl ?_
        refine K.move (.inl rfl) (gd0 rfl) rfl rfl ?_
        refine K.move (.inl rfl) (gd1 rfl rfl rfl (rfl)) rfl rfl ?_
        refine K.callR [(.func 32, _), ((.tmp 9), _)] (legal_Right_con (k := k) hx2 101 102) (toFn_func (cf 32 rfl) rfl) (gd1 rfl rfl rfl (rfl)) ⟨rfl, rfl, trivial⟩ ⟨rfl, rfl, trivial⟩ rfl rfl rfl ?_
        refine K.pickT (gd0 rfl) rfl (rfl) rfl rfl ?_
        refine K.move (.inl rfl) (gd0 rfl) rfl rfl ?_
        refine K.move (.inl rfl) (gd1 rfl rfl rfl (h1)) rfl rfl ?_
        refine K.callR [(.func 36, _), ((.tmp 13), _), (_, _)] (legal_MayDelete_con (k := k) hx3 101 102) (toFn_func (cf 36 rfl) rfl) (gd1 rfl rfl rfl (h1)) ⟨rfl, rfl, rfl, trivial⟩ ⟨rfl, rfl, trivial⟩ rfl rfl rfl ?_
        refine K.pickT (gd0 rfl) rfl (h1) rfl rfl ?_
        refine K.move (.inl rfl) (gd0 rfl) rfl rfl ?_
        refine K.move (.inl rfl) (gd1 rfl rfl rfl (h2)) rfl rfl ?_
        refine K.callR [(.func 36, _), ((.tmp 17), _), (_, _)] (legal_MayDelete_con (k := k) hx4 101 102) (toFn_func (cf 36 rfl) rfl) (gd1 rfl rfl rfl (h2)) ⟨rfl, rfl, rfl, trivial⟩ ⟨rfl, rfl, trivial⟩ rfl rfl rfl ?_
        refine K.un (V := .bool (!x4)) (gd1 rfl rfl rfl (h2)) rfl (fun _ => rfl) rfl ?_
        refine K.pickT (gd0 rfl) rfl (h2) rfl rfl ?_
        refine K.move (.inl rfl) (gd0 rfl) rfl rfl ?_
        refine K.skip rfl rfl rfl rfl (h3) rfl ?_
        refine K.skip rfl rfl rfl rfl (h3) rfl ?_
        refine K.pickF (gd0 rfl) rfl (h3) rfl rfl ?_
        refine K.move (.inl rfl) (gd0 rfl) rfl rfl ?_
        refine K.skip rfl rfl rfl rfl (rfl) rfl ?_
        refine K.skip rfl rfl rfl rfl (rfl) rfl ?_
        refine K.skip rfl rfl rfl rfl (rfl) rfl ?_
        refine K.pickF (gd0 rfl) rfl (rfl) rfl rfl ?_
        refine K.move (.inl rfl) (gd0 rfl) rfl rfl ?_
        refine K.skip rfl rfl rfl rfl (rfl) rfl ?_
        refine K.skip rfl rfl rfl rfl (rfl) rfl ?_
        refine K.skip rfl rfl rfl rfl (rfl) rfl ?_
        refine K.pickF (gd0 rfl) rfl (rfl) rfl rfl ?_
        refine K.move (.inr rfl) (gd0 rfl) rfl rfl ?_
        refine K.nil ?_
        refine At.next ?_
        refine G.ret ?_
        refine At.done Y [(.tmp 0, .c _)] rfl ⟨.tmp rfl, trivial⟩ (to' := []) trivial ?_ ?_ rfl rfl rfl (.inl rfl)
        · cases H0; rfl
        · cases H0; rfl
    ·
      replace H0 := bif_f H0 h2
      refine G.rg ?_
      refine K.move (.inl rfl) (gd0 rfl) rfl rfl ?_
      refine K.eqnil (V := true) (gd0 rfl) rfl rfl (pn_neq_some Try.underlying26) rfl ?_
      refine K.move (.inl rfl) (gd0 rfl) rfl rfl ?_
      refine K.move (.inl rfl) (gd1 rfl rfl rfl (rfl)) rfl rfl ?_
      refine K.callR [(.func 32, _), ((.tmp 9), _)] (legal_Right_con (k := k) hx2 101 102) (toFn_func (cf 32 rfl) rfl) (gd1 rfl rfl rfl (rfl)) ⟨rfl, rfl, trivial⟩ ⟨rfl, rfl, trivial⟩ rfl rfl rfl ?_
      refine K.pickT (gd0 rfl) rfl (rfl) rfl rfl ?_
      refine K.move (.inl rfl) (gd0 rfl) rfl rfl ?_
      refine K.move (.inl rfl) (gd1 rfl rfl rfl (h1)) rfl rfl ?_
      refine K.callR [(.func 36, _), ((.tmp 13), _), (_, _)] (legal_MayDelete_con (k := k) hx3 101 102) (toFn_func (cf 36 rfl) rfl) (gd1 rfl rfl rfl (h1)) ⟨rfl, rfl, rfl, trivial⟩ ⟨rfl, rfl, trivial⟩ rfl rfl rfl ?_
      refine K.pickT (gd0 rfl) rfl (h1) rfl rfl ?_
      refine K.move (.inl rfl) (gd0 rfl) rfl rfl ?_
      refine K.skip rfl rfl rfl rfl (h2) rfl ?_
      refine K.skip rfl rfl rfl rfl (h2) rfl ?_
      refine K.skip rfl rfl rfl rfl (h2) rfl ?_
      refine K.pickF (gd0 rfl) rfl (h2) rfl rfl ?_
      refine K.move (.inl rfl) (gd0 rfl) rfl rfl ?_
      refine K.skip rfl rfl rfl rfl (rfl) rfl ?_
      refine K.skip rfl rfl rfl rfl (rfl) rfl ?_
      refine K.pickF (gd0 rfl) rfl (rfl) rfl rfl ?_
      refine K.move (.inl rfl) (gd0 rfl) rfl rfl ?_
      refine K.skip rfl rfl rfl rfl (rfl) rfl ?_
      refine K.skip rfl rfl rfl rfl (rfl) rfl ?_
      refine K.skip rfl rfl rfl rfl (rfl) rfl ?_
      refine K.pickF (gd0 rfl) rfl (rfl) rfl rfl ?_
      refine K.move (.inl rfl) (gd0 rfl) rfl rfl ?_
      refine K.skip rfl rfl rfl rfl (rfl) rfl ?_
      refine K.skip rfl rfl rfl rfl (rfl) rfl ?_
      refine K.skip rfl rfl rfl rfl (rfl) rfl ?_
      refine K.pickF (gd0 rfl) rfl (rfl) rfl rfl ?_
      refine K.move (.inr rfl) (gd0 rfl) rfl rfl ?_
      refine K.nil ?_
      refine At.next ?_
      refine G.ret ?_
      refine At.done Y [(.tmp 0, .c _)] rfl ⟨.tmp rfl, trivial⟩ (to' := []) trivial ?_ ?_ rfl rfl rfl (.inl rfl)
      · cases H0; rfl
      · cases H0; rfl
  ·
    replace H0 := bif_f H0 h1
    refine G.rg ?_
    refine K.move (.inl rfl) (gd0 rfl) rfl rfl ?_
    refine K.eqnil (V := true) (gd0 rfl) rfl rfl (pn_neq_some Try.underlying26) rfl ?_
    refine K.move (.inl rfl) (gd0 rfl) rfl rfl ?_
    refine K.move (.inl rfl) (gd1 rfl rfl rfl (rfl)) rfl rfl ?_
    refine K.callR [(.func 32, _), ((.tmp 9), _)] (legal_Right_con (k := k) hx2 101 102) (toFn_func (cf 32 rfl) rfl) (gd1 rfl rfl rfl (rfl)) ⟨rfl, rfl, trivial⟩ ⟨rfl, rfl, trivial⟩ rfl rfl rfl ?_
    refine K.pickT (gd0 rfl) rfl (rfl) rfl rfl ?_
    refine K.move (.inl rfl) (gd0 rfl) rfl rfl ?_
    refine K.skip rfl rfl rfl rfl (h1) rfl ?_
    refine K.skip rfl rfl rfl rfl (h1) rfl ?_
    refine K.pickF (gd0 rfl) rfl (h1) rfl rfl ?_
    refine K.move (.inl rfl) (gd0 rfl) rfl rfl ?_
    refine K.skip rfl rfl rfl rfl (rfl) rfl ?_
    refine K.skip rfl rfl rfl rfl (rfl) rfl ?_
    refine K.skip rfl rfl rfl rfl (rfl) rfl ?_
    refine K.pickF (gd0 rfl) rfl (rfl) rfl rfl ?_
    refine K.move (.inl rfl) (gd0 rfl) rfl rfl ?_
    refine K.skip rfl rfl rfl rfl (rfl) rfl ?_
    refine K.skip rfl rfl rfl rfl (rfl) rfl ?_
    refine K.pickF (gd0 rfl) rfl (rfl) rfl rfl ?_
    refine K.move (.inl rfl) (gd0 rfl) rfl rfl ?_
    refine K.skip rfl rfl rfl rfl (rfl) rfl ?_
    refine K.skip rfl rfl rfl rfl (rfl) rfl ?_
    refine K.skip rfl rfl rfl rfl (rfl) rfl ?_
    refine K.pickF (gd0 rfl) rfl (rfl) rfl rfl ?_
    refine K.move (.inl rfl) (gd0 rfl) rfl rfl ?_
    refine K.skip rfl rfl rfl rfl (rfl) rfl ?_
    refine K.skip rfl rfl rfl rfl (rfl) rfl ?_
    refine K.skip rfl rfl rfl rfl (rfl) rfl ?_
    refine K.pickF (gd0 rfl) rfl (rfl) rfl rfl ?_
    refine K.move (.inr rfl) (gd0 rfl) rfl rfl ?_
    refine K.nil ?_
    refine At.next ?_
    refine G.ret ?_
    refine At.done Y [(.tmp 0, .c _)] rfl ⟨.tmp rfl, trivial⟩ (to' := []) trivial ?_ ?_ rfl rfl rfl (.inl rfl)
    · cases H0; rfl
    · cases H0; rfl
theorem Lw11_awake_con {k : Nat}  {r : Bool}  (H0 : Lw11_awake.f k = some r) : SCon Try.prog 29 [] [] (.a (.c (.v (.bool r)))) [] [] :=
  SCon.ren (rn []) (Lw11_awake_con0 (k := k)   H0) trivial trivial (by simp) (by simp)
theorem R11_Low_con0 {k : Nat}  {S : Foot} {W0 : World} {s0 : Value} {l0 : List TR08Mark} {a1 : Int} {a2 : Int} {r : Int} (hL0 : LArg S W0 s0 eTR08Mark 8 l0) (H0 : R11_Low.f k l0 a1 a2 = some r) : SCon Try.prog 31 [SV.raw s0, .a (.c (.v (.int .i64 a1))), .a (.c (.v (.int .i64 a2)))] [(0, rd S W0)] (.a (.c (.v (.int .i64 r)))) [(0, rd S W0)] [] := by
  rw [R11_Low.f] at H0
  obtain ⟨b0, o0, hI0⟩ := hL0
  refine spec_of [(0, _), (1, _), (2, _)] [(0, _)] 37 Try.func31 rfl Try.ntmps31 rfl rfl rfl rfl (fun β W F => ?_)
  refine G.seq ?_
  refine G.rg ?_
  refine K.move (.inr rfl) (gd0 rfl) rfl rfl ?_
  refine K.nil ?_
  refine At.next ?_
  refine G.seq ?_
  obtain ⟨x1, hx1, H0⟩ := bnd H0
  refine G.rg ?_
  refine K.move (.inl rfl) (gd0 rfl) rfl rfl ?_
  refine K.callV [(.func 54, _), ((.tmp 10), _)] [(0, rd S W0)] [] [(100, _)] (fun β => [SV.raw s0]) (fun β w S2 h => R08_Counts_con (k := k) ((hI0.isC 0).larg ⟨_, List.mem_cons_self⟩ h) hx1 100 rfl) (toFn_func (cf 54 rfl) rfl) (gd0 rfl) ⟨rfl, rfl, trivial⟩ (fun _ => rfl) ⟨rfl, trivial⟩ rfl rfl rfl rfl rfl rfl ?_
  refine K.move (.inr rfl) (gd0 rfl) rfl rfl ?_
  refine K.nil ?_
  refine At.next ?_
  refine G.seq ?_
  refine G.rg ?_
  refine K.move (.inl rfl) (gd0 rfl) rfl rfl ?_
  refine K.bi2 (V := .int .i64 (gmax a1 0)) (gd0 rfl) rfl rfl (fun _ _ => rfl) rfl ?_
  refine K.move (.inl rfl) (gd0 rfl) rfl rfl ?_
  refine K.lenL (rV 0 S W0 s0 b0 o0 eTR08Mark 8 l0) (hI0.is 0) (gd0 rfl) rfl rfl Try.underlying22 rfl ?_
  refine K.bi2 (V := .int .i64 (gmin (gmax a1 0) (l0.length : Int))) (gd0 rfl) rfl rfl (fun _ _ => rfl) rfl ?_
  refine K.move (.inr rfl) (gd0 rfl) rfl rfl ?_
  refine K.nil ?_
  refine At.next ?_
  refine G.seq ?_
  refine G.rg ?_
  refine K.move (.inl rfl) (gd0 rfl) rfl rfl ?_
  refine K.bi2 (V := .int .i64 (gmax a2 0)) (gd0 rfl) rfl rfl (fun _ _ => rfl) rfl ?_
  refine K.move (.inl rfl) (gd0 rfl) rfl rfl ?_
  refine K.lenL (rV 0 S W0 s0 b0 o0 eTR08Mark 8 l0) (hI0.is 0) (gd0 rfl) rfl rfl Try.underlying22 rfl ?_
  refine K.bi2 (V := .int .i64 (gmin (gmax a2 0) (l0.length : Int))) (gd0 rfl) rfl rfl (fun _ _ => rfl) rfl ?_
  refine K.move (.inr rfl) (gd0 rfl) rfl rfl ?_
  refine K.nil ?_
  refine At.next ?_
  refine G.seq ?_
  obtain ⟨x2, hx2, H0⟩ := bnd H0
  refine G.rg ?_
  refine K.move (.inl rfl) (gd0 rfl) rfl rfl ?_
  refine K.move (.inl rfl) (gd0 rfl) rfl rfl ?_
  refine K.callV [(.func 45, _), ((.tmp 22), _), ((.tmp 23), _)] [(100, lrow 100 3 intE 1 x1)] [] [] (fun β => [SV.raw ((lrowV 100 3 intE 1 x1).s.den β), .a (.c (.v (.int .i64 (gmin (gmax a1 0) (l0.length : Int)))))]) (fun β w S2 h => R06_Sum_con (k := k) ((lrowV_isC intE_len (by decide)).larg ⟨_, List.mem_cons_self⟩ h) hx2) (toFn_func (cf 45 rfl) rfl) (gd0 rfl) ⟨rfl, rfl, rfl, trivial⟩ (fun _ => rfl) ⟨rfl, trivial⟩ rfl rfl rfl rfl rfl rfl ?_
  refine K.move (.inr rfl) (gd0 rfl) rfl rfl ?_
  refine K.nil ?_
  refine At.next ?_
  obtain ⟨x3, H1, H0⟩ := bnd H0
  refine G.seqJ (σ := { v : Int // x3 = v }) (fun q => [(8, .a (.c (.v (.int .i64 q.1))))]) (fun q => [(0, rd S W0)]) ?_ ?_
  ·
    refine G.seq ?_
    refine G.rg ?_
    refine K.move (.inl rfl) (gd0 rfl) rfl rfl ?_
    refine K.move (.inr rfl) (gd0 rfl) rfl rfl ?_
    refine K.nil ?_
    refine At.next ?_
    refine G.block ?_
    refine G.loop (σ := { q : Nat × (Int × Int) // R11_Low.l0 k l0 a2 x1 q.1 q.2 = some x3 }) (fun q => [(2, .a (.c (.v (.int .i64 (gmin (gmax a2 0) (l0.length : Int)))))), (7, .a (.c (.nv 103))), (8, .a (.c (.v (.int .i64 q.1.2.1)))), (9, .a (.c (.v (.int .i64 q.1.2.2))))]) (fun q => [(0, rd S W0), (103, lrow 103 3 intE 1 x1)]) (fun q => q.1.1) ⟨(k, (x2, (gmin (gmax a1 0) (l0.length : Int)))), H1⟩ ?_ ?_
    · exact At.into [(103, 100)] [_, _] rfl ⟨rfl, rfl, rfl, rfl, trivial⟩ ⟨rfl, (fun _ => rfl), rfl, (lrow_ren rfl), trivial⟩ rfl
    ·
      rintro ⟨⟨n0, v1, v2⟩, H1⟩
      show G _ _ [(2, .a (.c (.v (.int .i64 (gmin (gmax a2 0) (l0.length : Int)))))), (7, .a (.c (.nv 103))), (8, .a (.c (.v (.int .i64 v1)))), (9, .a (.c (.v (.int .i64 v2))))] [(0, some (rd S W0)), (103, some (lrow 103 3 intE 1 x1))] _ _
      cases n0 with
      | zero => exact absurd H1 (by simp [R11_Low.l0])
      | succ n0 =>
        have HL0 := H1
        rw [R11_Low.l0] at H1
        refine G.seq ?_
        refine G.seq ?_
        refine G.rg ?_
        refine K.move (.inl rfl) (gd0 rfl) rfl rfl ?_
        refine K.move (.inl rfl) (gd0 rfl) rfl rfl ?_
        refine K.bin (V := .bool (decide (v2 ≤ (gmin (gmax a2 0) (l0.length : Int))))) (gd0 rfl) rfl rfl (fun _ => rfl) rfl ?_
        refine K.nil ?_
        refine At.next ?_
        refine G.cond rfl (fun h1 => ?_) (fun h1 => ?_)
        ·
          replace H1 := bif_t H1 h1
          refine G.skip ?_
          refine At.next ?_
          refine G.seq ?_
          refine G.block ?_
          obtain ⟨x4, hx4, H1⟩ := bnd H1
          refine G.rg ?_
          refine K.move (.inl rfl) (gd0 rfl) rfl rfl ?_
          refine K.move (.inl rfl) (gd0 rfl) rfl rfl ?_
          refine K.move (.inl rfl) (gd0 rfl) rfl rfl ?_
          refine K.callV [(.func 45, _), ((.tmp 32), _), ((.tmp 33), _)] [(103, lrow 103 3 intE 1 x1)] [] [] (fun β => [SV.raw ((lrowV 103 3 intE 1 x1).s.den β), .a (.c (.v (.int .i64 v2)))]) (fun β w S2 h => R06_Sum_con (k := k) ((lrowV_isC intE_len (by decide)).larg ⟨_, List.mem_cons_self⟩ h) hx4) (toFn_func (cf 45 rfl) rfl) (gd0 rfl) ⟨rfl, rfl, rfl, trivial⟩ (fun _ => rfl) ⟨rfl, trivial⟩ rfl rfl rfl rfl rfl rfl ?_
          refine K.bi2 (V := .int .i64 (gmin v1 x4)) (gd0 rfl) rfl rfl (fun _ _ => rfl) rfl ?_
          refine K.move (.inr rfl) (gd0 rfl) rfl rfl ?_
          refine K.nil ?_
          refine At.block_normal ?_
          refine At.next ?_
          refine G.rg ?_
          refine K.move (.inl rfl) (gd0 rfl) rfl rfl ?_
          refine K.bin (V := .int .i64 (w64 (v2 + 1))) (gd0 rfl) rfl rfl (fun _ => rfl) rfl ?_
          refine K.move (.inr rfl) (gd0 rfl) rfl rfl ?_
          refine K.nil ?_
          exact At.again (σ := { q : Nat × (Int × Int) // R11_Low.l0 k l0 a2 x1 q.1 q.2 = some x3 }) (Fs := fun q => [(2, .a (.c (.v (.int .i64 (gmin (gmax a2 0) (l0.length : Int)))))), (7, .a (.c (.nv 103))), (8, .a (.c (.v (.int .i64 q.1.2.1)))), (9, .a (.c (.v (.int .i64 q.1.2.2))))]) (Tl := fun q => [(0, rd S W0), (103, lrow 103 3 intE 1 x1)]) (μ := fun q => q.1.1) (s := ⟨(n0 + 1, (v1, v2)), HL0⟩) ⟨(n0, ((gmin v1 x4), (w64 (v2 + 1)))), H1⟩ [] [_, _] (Nat.lt_succ_self _) rfl ⟨rfl, rfl, rfl, rfl, trivial⟩ ⟨rfl, (fun _ => rfl), rfl, (lrow_ren rfl), trivial⟩ rfl
        ·
          replace H1 := bif_f H1 h1
          refine G.exit ?_
          refine At.over_exit ?_
          refine At.over_exit ?_
          refine At.block_hit ?_
          exact At.joined (σ := { v : Int // x3 = v }) (Fs := fun q => [(8, .a (.c (.v (.int .i64 q.1))))]) (Tl := fun q => [(0, rd S W0)]) ⟨v1, (Option.some.inj H1).symm⟩ [] [_] rfl ⟨rfl, trivial⟩ ⟨rfl, (fun _ => rfl), trivial⟩ rfl
  ·
    rintro ⟨_, rfl⟩
    show G _ _ [(8, .a (.c (.v (.int .i64 x3))))] [(0, some (rd S W0))] _ _
    refine G.seq ?_
    refine G.rg ?_
    refine K.move (.inl rfl) (gd0 rfl) rfl rfl ?_
    refine K.move (.inr rfl) (gd0 rfl) rfl rfl ?_
    refine K.nil ?_
    refine At.next ?_
    refine G.ret ?_
    refine At.done Y [(.tmp 6, .c _)] rfl ⟨.tmp rfl, trivial⟩ (to' := [(0, _)]) ⟨rfl, trivial⟩ ?_ ?_ rfl rfl rfl (.inl rfl)
    · cases H0; rfl
    · cases H0; rfl
theorem R11_Low_con {k : Nat}  {S : Foot} {W0 : World} {s0 : Value} {l0 : List TR08Mark} {a1 : Int} {a2 : Int} {r : Int} (hL0 : LArg S W0 s0 eTR08Mark 8 l0) (H0 : R11_Low.f k l0 a1 a2 = some r) : SCon Try.prog 31 [SV.raw s0, .a (.c (.v (.int .i64 a1))), .a (.c (.v (.int .i64 a2)))] [(0, rd S W0)] (.a (.c (.v (.int .i64 r)))) [(0, rd S W0)] [] :=
  SCon.ren (rn []) (R11_Low_con0 (k := k)  hL0 H0) ⟨(fun _ => rfl), trivial⟩ ⟨(fun _ => rfl), trivial⟩ (by simp) (by simp)
theorem R11_Legal_con0 {k : Nat}  {S : Foot} {W0 : World} {s0 : Value} {l0 : List TR08Mark} {r : Bool} (hL0 : LArg S W0 s0 eTR08Mark 8 l0) (H0 : R11_Legal.f k l0 = some r) : SCon Try.prog 33 [SV.raw s0] [(0, rd S W0)] (.a (.c (.v (.bool r)))) [(0, rd S W0)] [] := by
  rw [R11_Legal.f] at H0
  obtain ⟨b0, o0, hI0⟩ := hL0
  refine spec_of [(0, _)] [(0, _)] 23 Try.func33 rfl Try.ntmps33 rfl rfl rfl rfl (fun β W F => ?_)
  refine G.seq ?_
  refine G.rg ?_
  refine K.move (.inr rfl) (gd0 rfl) rfl rfl ?_
  refine K.nil ?_
  refine At.next ?_
  refine G.seq ?_
  refine G.rg ?_
  refine K.move (.inr rfl) (gd0 rfl) rfl rfl ?_
  refine K.nil ?_
  refine At.next ?_
  obtain ⟨x1, H1, H0⟩ := bnd H0
  refine G.seqJ (σ := { v : Unit // x1 = Sum.inr v }) (fun q => []) (fun q => [(0, rd S W0)]) ?_ ?_
  ·
    refine G.seq ?_
    refine G.rg ?_
    refine K.move (.inr rfl) (gd0 rfl) rfl rfl ?_
    refine K.nil ?_
    refine At.next ?_
    refine G.block ?_
    refine G.loop (σ := { q : Nat × (Int × Int) // R11_Legal.l0 k l0 q.1 q.2 = some x1 }) (fun q => [(0, SV.raw s0), (3, .a (.c (.v (.int .i64 q.1.2.1)))), (4, .a (.c (.v (.int .i64 q.1.2.2))))]) (fun q => [(0, rd S W0)]) (fun q => q.1.1) ⟨(k, (0, 0)), H1⟩ ?_ ?_
    · exact At.into [] [_] rfl ⟨rfl, rfl, rfl, trivial⟩ ⟨rfl, (fun _ => rfl), trivial⟩ rfl
    ·
      rintro ⟨⟨n0, v1, v2⟩, H1⟩
      show G _ _ [(0, SV.raw s0), (3, .a (.c (.v (.int .i64 v1)))), (4, .a (.c (.v (.int .i64 v2))))] [(0, some (rd S W0))] _ _
      cases n0 with
      | zero => exact absurd H1 (by simp [R11_Legal.l0])
      | succ n0 =>
        have HL0 := H1
        rw [R11_Legal.l0] at H1
        refine G.seq ?_
        refine G.seq ?_
        refine G.rg ?_
        refine K.move (.inl rfl) (gd0 rfl) rfl rfl ?_
        refine K.move (.inl rfl) (gd0 rfl) rfl rfl ?_
        refine K.lenL (rV 0 S W0 s0 b0 o0 eTR08Mark 8 l0) (hI0.is 0) (gd0 rfl) rfl rfl Try.underlying22 rfl ?_
        refine K.bin (V := .bool (decide (v2 < (l0.length : Int)))) (gd0 rfl) rfl rfl (fun _ => rfl) rfl ?_
        refine K.nil ?_
        refine At.next ?_
        refine G.cond rfl (fun h1 => ?_) (fun h1 => ?_)
        ·
          replace H1 := bif_t H1 h1
          refine G.skip ?_
          refine At.next ?_
          refine G.seq ?_
          refine G.block ?_
          refine G.seq ?_
          refine G.seq ?_
          obtain ⟨x2, hx2, H1⟩ := bnd H1
          refine G.rg ?_
          refine K.move (.inl rfl) (gd0 rfl) rfl rfl ?_
          refine K.move (.inl rfl) (gd0 rfl) rfl rfl ?_
          refine K.idxL (rV 0 S W0 s0 b0 o0 eTR08Mark 8 l0) ((v2).toNat) (hI0.is 0) (atL_get hx2) (atL_nn hx2) (gd0 rfl) rfl rfl rfl Try.underlying22 el22.size_run rfl ?_
          refine K.fieldL Y (rV 0 S W0 s0 b0 o0 eTR08Mark 8 l0) ((v2).toNat) 0 0 (hI0.is 0) (atL_get hx2) (gd0 rfl) rfl rfl t52 rfl rfl rfl rfl ?_
          refine K.fieldL Y (rV 0 S W0 s0 b0 o0 eTR08Mark 8 l0) ((v2).toNat) 0 1 (hI0.is 0) (atL_get hx2) (gd0 rfl) rfl rfl t35 rfl rfl rfl rfl ?_
          refine K.load1L Y (rV 0 S W0 s0 b0 o0 eTR08Mark 8 l0) ((v2).toNat) 1 (hI0.is 0) (atL_get hx2) (gd0 rfl) rfl rfl t4 rfl rfl ?_
          refine K.nil ?_
          refine At.next ?_
          refine G.cond rfl (fun h2 => ?_) (fun h2 => ?_)
          ·
            replace H1 := bif_t H1 h2
            refine G.rg ?_
            refine K.move (.inl rfl) (gd0 rfl) rfl rfl ?_
            refine K.bin (V := .int .i64 (w64 (v1 + 1))) (gd0 rfl) rfl rfl (fun _ => rfl) rfl ?_
            refine K.move (.inr rfl) (gd0 rfl) rfl rfl ?_
            refine K.nil ?_
            refine At.next ?_
            refine G.seq ?_
            refine G.rg ?_
            refine K.move (.inl rfl) (gd0 rfl) rfl rfl ?_
            refine K.bin (V := .bool (decide ((w64 (v1 + 1)) < 0))) (gd0 rfl) rfl rfl (fun _ => rfl) rfl ?_
            refine K.nil ?_
            refine At.next ?_
            refine G.cond rfl (fun h3 => ?_) (fun h3 => ?_)
            ·
              replace H1 := bif_t H1 h3
              refine G.seq ?_
              refine G.rg ?_
              refine K.move (.inr rfl) (gd0 rfl) rfl rfl ?_
              refine K.nil ?_
              refine At.next ?_
              refine G.ret ?_
              refine At.block_ret ?_
              refine At.over_ret ?_
              refine At.over_ret ?_
              refine At.block_ret ?_
              refine At.over_ret ?_
              cases H1
              replace H0 := sum_l H0
              refine At.done Y [(.tmp 2, .c _)] rfl ⟨.tmp rfl, trivial⟩ (to' := [(0, _)]) ⟨rfl, trivial⟩ ?_ ?_ rfl rfl rfl (.inl rfl)
              · cases H0; rfl
              · cases H0; rfl
            ·
              replace H1 := bif_f H1 h3
              refine G.skip ?_
              refine At.block_normal ?_
              refine At.next ?_
              refine G.rg ?_
              refine K.move (.inl rfl) (gd0 rfl) rfl rfl ?_
              refine K.bin (V := .int .i64 (w64 (v2 + 1))) (gd0 rfl) rfl rfl (fun _ => rfl) rfl ?_
              refine K.move (.inr rfl) (gd0 rfl) rfl rfl ?_
              refine K.nil ?_
              exact At.again (σ := { q : Nat × (Int × Int) // R11_Legal.l0 k l0 q.1 q.2 = some x1 }) (Fs := fun q => [(0, SV.raw s0), (3, .a (.c (.v (.int .i64 q.1.2.1)))), (4, .a (.c (.v (.int .i64 q.1.2.2))))]) (Tl := fun q => [(0, rd S W0)]) (μ := fun q => q.1.1) (s := ⟨(n0 + 1, (v1, v2)), HL0⟩) ⟨(n0, ((w64 (v1 + 1)), (w64 (v2 + 1)))), H1⟩ [] [_] (Nat.lt_succ_self _) rfl ⟨rfl, rfl, rfl, trivial⟩ ⟨rfl, (fun _ => rfl), trivial⟩ rfl
          ·
            replace H1 := bif_f H1 h2
            refine G.rg ?_
            refine K.move (.inl rfl) (gd0 rfl) rfl rfl ?_
            refine K.bin (V := .int .i64 (w64 (v1 - 1))) (gd0 rfl) rfl rfl (fun _ => rfl) rfl ?_
            refine K.move (.inr rfl) (gd0 rfl) rfl rfl ?_
            refine K.nil ?_
            refine At.next ?_
            refine G.seq ?_
            refine G.rg ?_
            refine K.move (.inl rfl) (gd0 rfl) rfl rfl ?_
            refine K.bin (V := .bool (decide ((w64 (v1 - 1)) < 0))) (gd0 rfl) rfl rfl (fun _ => rfl) rfl ?_
            refine K.nil ?_
            refine At.next ?_
            refine G.cond rfl (fun h4 => ?_) (fun h4 => ?_)
            ·
              replace H1 := bif_t H1 h4
              refine G.seq ?_
              refine G.rg ?_
              refine K.move (.inr rfl) (gd0 rfl) rfl rfl ?_
              refine K.nil ?_
              refine At.next ?_
              refine G.ret ?_
              refine At.block_ret ?_
              refine At.over_ret ?_
              refine At.over_ret ?_
              refine At.block_ret ?_
              refine At.over_ret ?_
              cases H1
              replace H0 := sum_l H0
              refine At.done Y [(.tmp 2, .c _)] rfl ⟨.tmp rfl, trivial⟩ (to' := [(0, _)]) ⟨rfl, trivial⟩ ?_ ?_ rfl rfl rfl (.inl rfl)
              · cases H0; rfl
              · cases H0; rfl
            ·
              replace H1 := bif_f H1 h4
              refine G.skip ?_
              refine At.block_normal ?_
              refine At.next ?_
              refine G.rg ?_
              refine K.move (.inl rfl) (gd0 rfl) rfl rfl ?_
              refine K.bin (V := .int .i64 (w64 (v2 + 1))) (gd0 rfl) rfl rfl (fun _ => rfl) rfl ?_
              refine K.move (.inr rfl) (gd0 rfl) rfl rfl ?_
              refine K.nil ?_
              exact At.again (σ := { q : Nat × (Int × Int) // R11_Legal.l0 k l0 q.1 q.2 = some x1 }) (Fs := fun q => [(0, SV.raw s0), (3, .a (.c (.v (.int .i64 q.1.2.1)))), (4, .a (.c (.v (.int .i64 q.1.2.2))))]) (Tl := fun q => [(0, rd S W0)]) (μ := fun q => q.1.1) (s := ⟨(n0 + 1, (v1, v2)), HL0⟩) ⟨(n0, ((w64 (v1 - 1)), (w64 (v2 + 1)))), H1⟩ [] [_] (Nat.lt_succ_self _) rfl ⟨rfl, rfl, rfl, trivial⟩ ⟨rfl, (fun _ => rfl), trivial⟩ rfl
        ·
          replace H1 := bif_f H1 h1
          refine G.exit ?_
          refine At.over_exit ?_
          refine At.over_exit ?_
          refine At.block_hit ?_
          exact At.joined (σ := { v : Unit // x1 = Sum.inr v }) (Fs := fun q => []) (Tl := fun q => [(0, rd S W0)]) ⟨(), (Option.some.inj H1).symm⟩ [] [_] rfl trivial ⟨rfl, (fun _ => rfl), trivial⟩ rfl
  ·
    rintro ⟨v1, rfl⟩
    replace H0 := sum_r H0
    show G _ _ [] [(0, some (rd S W0))] _ _
    refine G.seq ?_
    refine G.rg ?_
    refine K.move (.inr rfl) (gd0 rfl) rfl rfl ?_
    refine K.nil ?_
    refine At.next ?_
    refine G.ret ?_
    refine At.done Y [(.tmp 2, .c _)] rfl ⟨.tmp rfl, trivial⟩ (to' := [(0, _)]) ⟨rfl, trivial⟩ ?_ ?_ rfl rfl rfl (.inl rfl)
    · cases H0; rfl
    · cases H0; rfl
theorem R11_Legal_con {k : Nat}  {S : Foot} {W0 : World} {s0 : Value} {l0 : List TR08Mark} {r : Bool} (hL0 : LArg S W0 s0 eTR08Mark 8 l0) (H0 : R11_Legal.f k l0 = some r) : SCon Try.prog 33 [SV.raw s0] [(0, rd S W0)] (.a (.c (.v (.bool r)))) [(0, rd S W0)] [] :=
  SCon.ren (rn []) (R11_Legal_con0 (k := k)  hL0 H0) ⟨(fun _ => rfl), trivial⟩ ⟨(fun _ => rfl), trivial⟩ (by simp) (by simp)
theorem R11_With_con0 {k : Nat}  {S : Foot} {W0 : World} {s0 : Value} {l0 : List TR08Mark} {a1 : TR08Mark} {r : List TR08Mark} (hL0 : LArg S W0 s0 eTR08Mark 8 l0) (H0 : R11_With.f k l0 a1 = some r) : SCon Try.prog 37 [SV.raw s0, .a (.agg ((eTR08Mark a1).map .v))] [(0, rd S W0)] (.a (.c (.nv 30))) [(0, rd S W0), (30, lrow 30 52 eTR08Mark 8 r)] [30] := by
  rw [R11_With.f] at H0
  obtain ⟨b0, o0, hI0⟩ := hL0
  refine spec_of [(0, _), (1, _)] [(0, _)] 39 Try.func37 rfl Try.ntmps37 rfl rfl rfl rfl (fun β W F => ?_)
  refine G.seq ?_
  refine G.rg ?_
  refine K.box Y 100 [_, _, _, _, _, _, _, _] (gd0 rfl) rfl rfl rfl rfl rfl rfl ?_
  refine K.nilRow 101 52 eTR08Mark 8 (.inl rfl) (gd0 rfl) rfl rfl rfl ?_
  refine K.nil ?_
  refine At.next ?_
  refine G.seq ?_
  refine G.rg ?_
  refine K.move (.inr rfl) (gd0 rfl) rfl rfl ?_
  refine K.nil ?_
  refine At.next ?_
  obtain ⟨x1, H1, H0⟩ := bnd H0
  refine G.seqJ (σ := { v : Int // x1 = v }) (fun q => [(0, SV.raw s0), (3, .a (.c (.p 102 0))), (5, .a (.c (.v (.int .i64 q.1))))]) (fun q => [(0, rd S W0), (102, blk 102 [.v (.int .i64 a1.op.time), .v (.bool a1.op.insert), .v (.int .i64 a1.op.item.key), .v (.int .i64 a1.op.item.id), .v (.bool a1.here), .v (.bool a1.took.found), .v (.int .i64 a1.took.item.key), .v (.int .i64 a1.took.item.id)] 52)]) ?_ ?_
  ·
    refine G.block ?_
    refine G.loop (σ := { q : Nat × (Int) // R11_With.l0 k l0 a1 q.1 q.2 = some x1 }) (fun q => [(0, SV.raw s0), (3, .a (.c (.p 105 0))), (5, .a (.c (.v (.int .i64 q.1.2))))]) (fun q => [(0, rd S W0), (105, blk 105 [.v (.int .i64 a1.op.time), .v (.bool a1.op.insert), .v (.int .i64 a1.op.item.key), .v (.int .i64 a1.op.item.id), .v (.bool a1.here), .v (.bool a1.took.found), .v (.int .i64 a1.took.item.key), .v (.int .i64 a1.took.item.id)] 52)]) (fun q => q.1.1) ⟨(k, 0), H1⟩ ?_ ?_
    · exact At.into [(105, 100)] [_, _] rfl ⟨rfl, rfl, rfl, trivial⟩ ⟨rfl, (fun _ => rfl), rfl, (blk_ren rfl rfl), trivial⟩ rfl
    ·
      rintro ⟨⟨n0, v1⟩, H1⟩
      show G _ _ [(0, SV.raw s0), (3, .a (.c (.p 105 0))), (5, .a (.c (.v (.int .i64 v1))))] [(0, some (rd S W0)), (105, some (blk 105 [.v (.int .i64 a1.op.time), .v (.bool a1.op.insert), .v (.int .i64 a1.op.item.key), .v (.int .i64 a1.op.item.id), .v (.bool a1.here), .v (.bool a1.took.found), .v (.int .i64 a1.took.item.key), .v (.int .i64 a1.took.item.id)] 52))] _ _
      cases n0 with
      | zero => exact absurd H1 (by simp [R11_With.l0])
      | succ n0 =>
        have HL0 := H1
        rw [R11_With.l0] at H1
        refine G.seq ?_
        refine G.seq ?_
        rcases Bool.eq_false_or_eq_true (decide (v1 < (l0.length : Int))) with h1 | h1
        ·
          replace H1 := bif_t H1 h1
          obtain ⟨x2, hx2, H1⟩ := bnd H1
          refine G.rd mixed ?_
          refine K.move (.inl rfl) (gd0 rfl) rfl rfl ?_
          refine K.move (.inl rfl) (gd0 rfl) rfl rfl ?_
          refine K.lenL (rV 0 S W0 s0 b0 o0 eTR08Mark 8 l0) (hI0.is 0) (gd0 rfl) rfl rfl Try.underlying22 rfl ?_
          refine K.bin (V := .bool (decide (v1 < (l0.length : Int)))) (gd0 rfl) rfl rfl (fun _ => rfl) rfl ?_
          refine K.move (.inl rfl) (gd0 rfl) rfl rfl ?_
          refine K.move (.inl rfl) (gd1 rfl rfl rfl (h1)) rfl rfl ?_
          refine K.move (.inl rfl) (gd1 rfl rfl rfl (h1)) rfl rfl ?_
          refine K.idxL (rV 0 S W0 s0 b0 o0 eTR08Mark 8 l0) ((v1).toNat) (hI0.is 0) (atL_get hx2) (atL_nn hx2) (gd1 rfl rfl rfl (h1)) rfl rfl rfl Try.underlying22 el22.size_run rfl ?_
          refine K.fieldL Y (rV 0 S W0 s0 b0 o0 eTR08Mark 8 l0) ((v1).toNat) 0 0 (hI0.is 0) (atL_get hx2) (gd1 rfl rfl rfl (h1)) rfl rfl t52 rfl rfl rfl rfl ?_
          refine K.fieldL Y (rV 0 S W0 s0 b0 o0 eTR08Mark 8 l0) ((v1).toNat) 0 0 (hI0.is 0) (atL_get hx2) (gd1 rfl rfl rfl (h1)) rfl rfl t35 rfl rfl rfl rfl ?_
          refine K.load1L Y (rV 0 S W0 s0 b0 o0 eTR08Mark 8 l0) ((v1).toNat) 0 (hI0.is 0) (atL_get hx2) (gd1 rfl rfl rfl (h1)) rfl rfl t3 rfl rfl ?_
          refine K.fieldAddr Y (gd1 rfl rfl rfl (h1)) rfl t52 rfl rfl ?_
          refine K.fieldAddr Y (gd1 rfl rfl rfl (h1)) rfl t35 rfl rfl ?_
          refine K.load1 Y (gd1 rfl rfl rfl (h1)) rfl rfl t3 rfl rfl ?_
          refine K.bin (V := .bool (decide (x2.op.time < a1.op.time))) (gd1 rfl rfl rfl (h1)) rfl rfl (fun _ => rfl) rfl ?_
          refine K.pickT (gd0 rfl) rfl (h1) rfl rfl ?_
          refine K.nil ?_
          refine ⟨by kernel_rfl, ?_⟩
          refine At.next ?_
          refine G.cond rfl (fun h2 => ?_) (fun h2 => ?_)
          ·
            replace H1 := bif_t H1 h2
            refine G.skip ?_
            refine At.next ?_
            refine G.block ?_
            refine G.rg ?_
            refine K.move (.inl rfl) (gd0 rfl) rfl rfl ?_
            refine K.bin (V := .int .i64 (w64 (v1 + 1))) (gd0 rfl) rfl rfl (fun _ => rfl) rfl ?_
            refine K.move (.inr rfl) (gd0 rfl) rfl rfl ?_
            refine K.nil ?_
            refine At.block_normal ?_
            exact At.again (σ := { q : Nat × (Int) // R11_With.l0 k l0 a1 q.1 q.2 = some x1 }) (Fs := fun q => [(0, SV.raw s0), (3, .a (.c (.p 105 0))), (5, .a (.c (.v (.int .i64 q.1.2))))]) (Tl := fun q => [(0, rd S W0), (105, blk 105 [.v (.int .i64 a1.op.time), .v (.bool a1.op.insert), .v (.int .i64 a1.op.item.key), .v (.int .i64 a1.op.item.id), .v (.bool a1.here), .v (.bool a1.took.found), .v (.int .i64 a1.took.item.key), .v (.int .i64 a1.took.item.id)] 52)]) (μ := fun q => q.1.1) (s := ⟨(n0 + 1, v1), HL0⟩) ⟨(n0, (w64 (v1 + 1))), H1⟩ [] [_, _] (Nat.lt_succ_self _) rfl ⟨rfl, rfl, rfl, trivial⟩ ⟨rfl, (fun _ => rfl), rfl, (blk_ren rfl rfl), trivial⟩ rfl
          ·
            replace H1 := bif_f H1 h2
            refine G.exit ?_
            refine At.over_exit ?_
            refine At.over_exit ?_
            refine At.block_hit ?_
            exact At.joined (σ := { v : Int // x1 = v }) (Fs := fun q => [(0, SV.raw s0), (3, .a (.c (.p 102 0))), (5, .a (.c (.v (.int .i64 q.1))))]) (Tl := fun q => [(0, rd S W0), (102, blk 102 [.v (.int .i64 a1.op.time), .v (.bool a1.op.insert), .v (.int .i64 a1.op.item.key), .v (.int .i64 a1.op.item.id), .v (.bool a1.here), .v (.bool a1.took.found), .v (.int .i64 a1.took.item.key), .v (.int .i64 a1.took.item.id)] 52)]) ⟨v1, (Option.some.inj H1).symm⟩ [(102, 105)] [_, _] rfl ⟨rfl, rfl, rfl, trivial⟩ ⟨rfl, (fun _ => rfl), rfl, (blk_ren rfl rfl), trivial⟩ rfl
        ·
          replace H1 := bif_f H1 h1
          refine G.rd mixed ?_
          refine K.move (.inl rfl) (gd0 rfl) rfl rfl ?_
          refine K.move (.inl rfl) (gd0 rfl) rfl rfl ?_
          refine K.lenL (rV 0 S W0 s0 b0 o0 eTR08Mark 8 l0) (hI0.is 0) (gd0 rfl) rfl rfl Try.underlying22 rfl ?_
          refine K.bin (V := .bool (decide (v1 < (l0.length : Int)))) (gd0 rfl) rfl rfl (fun _ => rfl) rfl ?_
          refine K.move (.inl rfl) (gd0 rfl) rfl rfl ?_
          refine K.skip rfl rfl rfl rfl (h1) rfl ?_
          refine K.skip rfl rfl rfl rfl (h1) rfl ?_
          refine K.skip rfl rfl rfl rfl (h1) rfl ?_
          refine K.skip rfl rfl rfl rfl (h1) rfl ?_
          refine K.skip rfl rfl rfl rfl (h1) rfl ?_
          refine K.skip rfl rfl rfl rfl (h1) rfl ?_
          refine K.skip rfl rfl rfl rfl (h1) rfl ?_
          refine K.skip rfl rfl rfl rfl (h1) rfl ?_
          refine K.skip rfl rfl rfl rfl (h1) rfl ?_
          refine K.skip rfl rfl rfl rfl (h1) rfl ?_
          refine K.pickF (gd0 rfl) rfl (h1) rfl rfl ?_
          refine K.nil ?_
          refine ⟨by kernel_rfl, ?_⟩
          refine At.next ?_
          refine G.cond rfl (fun h3 => ?_) (fun h3 => ?_)
          · cases h3
          ·
            refine G.exit ?_
            refine At.over_exit ?_
            refine At.over_exit ?_
            refine At.block_hit ?_
            exact At.joined (σ := { v : Int // x1 = v }) (Fs := fun q => [(0, SV.raw s0), (3, .a (.c (.p 102 0))), (5, .a (.c (.v (.int .i64 q.1))))]) (Tl := fun q => [(0, rd S W0), (102, blk 102 [.v (.int .i64 a1.op.time), .v (.bool a1.op.insert), .v (.int .i64 a1.op.item.key), .v (.int .i64 a1.op.item.id), .v (.bool a1.here), .v (.bool a1.took.found), .v (.int .i64 a1.took.item.key), .v (.int .i64 a1.took.item.id)] 52)]) ⟨v1, (Option.some.inj H1).symm⟩ [(102, 105)] [_, _] rfl ⟨rfl, rfl, rfl, trivial⟩ ⟨rfl, (fun _ => rfl), rfl, (blk_ren rfl rfl), trivial⟩ rfl
  ·
    rintro ⟨_, rfl⟩
    show G _ _ [(0, SV.raw s0), (3, .a (.c (.p 102 0))), (5, .a (.c (.v (.int .i64 x1))))] [(0, some (rd S W0)), (102, some (blk 102 [.v (.int .i64 a1.op.time), .v (.bool a1.op.insert), .v (.int .i64 a1.op.item.key), .v (.int .i64 a1.op.item.id), .v (.bool a1.here), .v (.bool a1.took.found), .v (.int .i64 a1.took.item.key), .v (.int .i64 a1.took.item.id)] 52))] _ _
    refine G.seq ?_
    refine G.rg ?_
    refine K.nilRow 106 52 eTR08Mark 8 (.inl rfl) (gd0 rfl) rfl rfl rfl ?_
    refine K.nil ?_
    refine At.next ?_
    refine G.seq ?_
    obtain ⟨h4, H0⟩ := grd H0
    obtain ⟨h6, H0⟩ := grd H0
    refine G.rg ?_
    refine K.move (.inl rfl) (gd0 rfl) rfl rfl ?_
    refine K.move (.inl rfl) (gd0 rfl) rfl rfl ?_
    refine K.move (.inl rfl) (gd0 rfl) rfl rfl ?_
    refine K.partR 0 ((x1).toNat) hI0 (gd0 rfl) rfl .no (.at_ rfl h4.1 rfl) Try.underlying22 el22.size_run (Nat.zero_le _) (tn_len h4.2) rfl ?_
    refine K.appendL 107 (rV 0 S W0 (partOf 0 ((x1).toNat) 8 s0) _ _ eTR08Mark 8 ((l0.drop 0).take (((x1).toNat) - 0))) _ el22 ((hI0.part (Nat.zero_le _) (tn_len h4.2)).is 0) eTR08Mark_one (gd0 rfl) rfl rfl rfl rfl rfl (ap_m h6) (ap_b h6 (by decide)) rfl rfl rfl rfl rfl rfl ?_
    refine K.move (.inr rfl) (gd0 rfl) rfl rfl ?_
    refine K.nil ?_
    refine At.next ?_
    refine G.seq ?_
    obtain ⟨h7, H0⟩ := grd H0
    refine G.rg ?_
    refine K.move (.inl rfl) (gd0 rfl) rfl rfl ?_
    refine K.loadS Y [_, _, _, _, _, _, _, _] (gd0 rfl) rfl rfl t52 rfl rfl rfl ?_
    refine K.buildL Y 108 ([a1] : List TR08Mark) [(0, _)] [((.tmp 31), _)] eTR08Mark_len (gd0 rfl) (AllE.spec ⟨rfl, trivial⟩) rfl rfl Try.underlying22 t52 rfl rfl rfl rfl rfl rfl rfl rfl ?_
    refine K.appendL 109 (lrowV 108 52 eTR08Mark 8 ([a1] : List TR08Mark)) _ el22 (lrowV_is eTR08Mark_len (by decide)) eTR08Mark_one (gd0 rfl) rfl rfl rfl rfl rfl (ap_m h7) (ap_b h7 (by decide)) rfl rfl rfl rfl rfl rfl ?_
    refine K.move (.inr rfl) (gd0 rfl) rfl rfl ?_
    refine K.nil ?_
    refine At.next ?_
    refine G.seq ?_
    obtain ⟨h8, H0⟩ := grd H0
    obtain ⟨h10, H0⟩ := grd H0
    refine G.rg ?_
    refine K.move (.inl rfl) (gd0 rfl) rfl rfl ?_
    refine K.move (.inl rfl) (gd0 rfl) rfl rfl ?_
    refine K.move (.inl rfl) (gd0 rfl) rfl rfl ?_
    refine K.partR ((x1).toNat) l0.length hI0 (gd0 rfl) rfl (.at_ rfl h8.1 rfl) .no Try.underlying22 el22.size_run (tn_len h8.2) (Nat.le_refl _) rfl ?_
    refine K.appendL 110 (rV 0 S W0 (partOf ((x1).toNat) l0.length 8 s0) _ _ eTR08Mark 8 ((l0.drop ((x1).toNat)).take (l0.length - ((x1).toNat)))) _ el22 ((hI0.part (tn_len h8.2) (Nat.le_refl _)).is 0) eTR08Mark_one (gd0 rfl) rfl rfl rfl rfl rfl (ap_m h10) (ap_b h10 (by decide)) rfl rfl rfl rfl rfl rfl ?_
    refine K.move (.inr rfl) (gd0 rfl) rfl rfl ?_
    refine K.nil ?_
    refine At.next ?_
    refine G.ret ?_
    refine At.ren (fs' := [(4, .a (.c (.nv 30)))]) (tl := [(0, rd S W0), (30, lrow 30 52 eTR08Mark 8 (((([] : List TR08Mark) ++ ((l0.drop 0).take (((x1).toNat) - 0))) ++ ([a1] : List TR08Mark)) ++ ((l0.drop ((x1).toNat)).take (l0.length - ((x1).toNat)))))]) [(30, 110)] [_, _] rfl ⟨rfl, trivial⟩ ⟨rfl, (fun _ => rfl), rfl, (lrow_ren rfl), trivial⟩ rfl ?_
    refine At.done Y [(.tmp 4, .c _)] rfl ⟨.tmp rfl, trivial⟩ (to' := [(0, _), (30, _)]) ⟨rfl, rfl, trivial⟩ ?_ ?_ rfl rfl rfl (.inl rfl)
    · cases H0; rfl
    · cases H0; rfl
theorem R11_With_con {k : Nat}  {S : Foot} {W0 : World} {s0 : Value} {l0 : List TR08Mark} {a1 : TR08Mark} {r : List TR08Mark} (hL0 : LArg S W0 s0 eTR08Mark 8 l0) (H0 : R11_With.f k l0 a1 = some r) (m30 : Nat) (hd : ndB [m30] = true) : SCon Try.prog 37 [SV.raw s0, .a (.agg ((eTR08Mark a1).map .v))] [(0, rd S W0)] (.a (.c (.nv m30))) [(0, rd S W0), (m30, lrow m30 52 eTR08Mark 8 r)] [m30] :=
  SCon.ren (rn [(30, m30)]) (R11_With_con0 (k := k)  hL0 H0) ⟨(fun _ => rfl), trivial⟩ ⟨(fun _ => rfl), (lrow_ren rfl), trivial⟩ (rn_nd hd rfl rfl) (rn_ks hd rfl rfl rfl)
theorem R11_At_con0 {k : Nat}  {S : Foot} {W0 : World} {s0 : Value} {l0 : List TR08Mark} {a1 : Int} {r : Int} (hL0 : LArg S W0 s0 eTR08Mark 8 l0) (H0 : R11_At.f k l0 a1 = some r) : SCon Try.prog 35 [SV.raw s0, .a (.c (.v (.int .i64 a1)))] [(0, rd S W0)] (.a (.c (.v (.int .i64 r)))) [(0, rd S W0)] [] := by
  rw [R11_At.f] at H0
  obtain ⟨b0, o0, hI0⟩ := hL0
  refine spec_of [(0, _), (1, _)] [(0, _)] 21 Try.func35 rfl Try.ntmps35 rfl rfl rfl rfl (fun β W F => ?_)
  refine G.seq ?_
  refine G.rg ?_
  refine K.move (.inr rfl) (gd0 rfl) rfl rfl ?_
  refine K.nil ?_
  refine At.next ?_
  obtain ⟨x1, H1, H0⟩ := bnd H0
  refine G.seqJ (σ := { v : Unit // x1 = Sum.inr v }) (fun q => []) (fun q => [(0, rd S W0)]) ?_ ?_
  ·
    refine G.seq ?_
    refine G.rg ?_
    refine K.move (.inr rfl) (gd0 rfl) rfl rfl ?_
    refine K.nil ?_
    refine At.next ?_
    refine G.block ?_
    refine G.loop (σ := { q : Nat × (Int) // R11_At.l0 k l0 a1 q.1 q.2 = some x1 }) (fun q => [(0, SV.raw s0), (1, .a (.c (.v (.int .i64 a1)))), (5, .a (.c (.v (.int .i64 q.1.2))))]) (fun q => [(0, rd S W0)]) (fun q => q.1.1) ⟨(k, 0), H1⟩ ?_ ?_
    · exact At.into [] [_] rfl ⟨rfl, rfl, rfl, trivial⟩ ⟨rfl, (fun _ => rfl), trivial⟩ rfl
    ·
      rintro ⟨⟨n0, v1⟩, H1⟩
      show G _ _ [(0, SV.raw s0), (1, .a (.c (.v (.int .i64 a1)))), (5, .a (.c (.v (.int .i64 v1))))] [(0, some (rd S W0))] _ _
      cases n0 with
      | zero => exact absurd H1 (by simp [R11_At.l0])
      | succ n0 =>
        have HL0 := H1
        rw [R11_At.l0] at H1
        refine G.seq ?_
        refine G.seq ?_
        refine G.rg ?_
        refine K.move (.inl rfl) (gd0 rfl) rfl rfl ?_
        refine K.move (.inl rfl) (gd0 rfl) rfl rfl ?_
        refine K.lenL (rV 0 S W0 s0 b0 o0 eTR08Mark 8 l0) (hI0.is 0) (gd0 rfl) rfl rfl Try.underlying22 rfl ?_
        refine K.bin (V := .bool (decide (v1 < (l0.length : Int)))) (gd0 rfl) rfl rfl (fun _ => rfl) rfl ?_
        refine K.nil ?_
        refine At.next ?_
        refine G.cond rfl (fun h1 => ?_) (fun h1 => ?_)
        ·
          replace H1 := bif_t H1 h1
          refine G.skip ?_
          refine At.next ?_
          refine G.seq ?_
          refine G.block ?_
          refine G.seq ?_
          obtain ⟨x2, hx2, H1⟩ := bnd H1
          refine G.rg ?_
          refine K.move (.inl rfl) (gd0 rfl) rfl rfl ?_
          refine K.move (.inl rfl) (gd0 rfl) rfl rfl ?_
          refine K.idxL (rV 0 S W0 s0 b0 o0 eTR08Mark 8 l0) ((v1).toNat) (hI0.is 0) (atL_get hx2) (atL_nn hx2) (gd0 rfl) rfl rfl rfl Try.underlying22 el22.size_run rfl ?_
          refine K.fieldL Y (rV 0 S W0 s0 b0 o0 eTR08Mark 8 l0) ((v1).toNat) 0 0 (hI0.is 0) (atL_get hx2) (gd0 rfl) rfl rfl t52 rfl rfl rfl rfl ?_
          refine K.fieldL Y (rV 0 S W0 s0 b0 o0 eTR08Mark 8 l0) ((v1).toNat) 0 0 (hI0.is 0) (atL_get hx2) (gd0 rfl) rfl rfl t35 rfl rfl rfl rfl ?_
          refine K.load1L Y (rV 0 S W0 s0 b0 o0 eTR08Mark 8 l0) ((v1).toNat) 0 (hI0.is 0) (atL_get hx2) (gd0 rfl) rfl rfl t3 rfl rfl ?_
          refine K.move (.inl rfl) (gd0 rfl) rfl rfl ?_
          refine K.bin (V := .bool (x2.op.time == a1)) (gd0 rfl) rfl rfl (fun _ => rfl) rfl ?_
          refine K.nil ?_
          refine At.next ?_
          refine G.cond rfl (fun h2 => ?_) (fun h2 => ?_)
          ·
            replace H1 := bif_t H1 h2
            refine G.seq ?_
            refine G.rg ?_
            refine K.move (.inl rfl) (gd0 rfl) rfl rfl ?_
            refine K.move (.inr rfl) (gd0 rfl) rfl rfl ?_
            refine K.nil ?_
            refine At.next ?_
            refine G.ret ?_
            refine At.block_ret ?_
            refine At.over_ret ?_
            refine At.over_ret ?_
            refine At.block_ret ?_
            refine At.over_ret ?_
            cases H1
            replace H0 := sum_l H0
            refine At.done Y [(.tmp 4, .c _)] rfl ⟨.tmp rfl, trivial⟩ (to' := [(0, _)]) ⟨rfl, trivial⟩ ?_ ?_ rfl rfl rfl (.inl rfl)
            · cases H0; rfl
            · cases H0; rfl
          ·
            replace H1 := bif_f H1 h2
            refine G.skip ?_
            refine At.block_normal ?_
            refine At.next ?_
            refine G.rg ?_
            refine K.move (.inl rfl) (gd0 rfl) rfl rfl ?_
            refine K.bin (V := .int .i64 (w64 (v1 + 1))) (gd0 rfl) rfl rfl (fun _ => rfl) rfl ?_
            refine K.move (.inr rfl) (gd0 rfl) rfl rfl ?_
            refine K.nil ?_
            exact At.again (σ := { q : Nat × (Int) // R11_At.l0 k l0 a1 q.1 q.2 = some x1 }) (Fs := fun q => [(0, SV.raw s0), (1, .a (.c (.v (.int .i64 a1)))), (5, .a (.c (.v (.int .i64 q.1.2))))]) (Tl := fun q => [(0, rd S W0)]) (μ := fun q => q.1.1) (s := ⟨(n0 + 1, v1), HL0⟩) ⟨(n0, (w64 (v1 + 1))), H1⟩ [] [_] (Nat.lt_succ_self _) rfl ⟨rfl, rfl, rfl, trivial⟩ ⟨rfl, (fun _ => rfl), trivial⟩ rfl
        ·
          replace H1 := bif_f H1 h1
          refine G.exit ?_
          refine At.over_exit ?_
          refine At.over_exit ?_
          refine At.block_hit ?_
          exact At.joined (σ := { v : Unit // x1 = Sum.inr v }) (Fs := fun q => []) (Tl := fun q => [(0, rd S W0)]) ⟨(), (Option.some.inj H1).symm⟩ [] [_] rfl trivial ⟨rfl, (fun _ => rfl), trivial⟩ rfl
  ·
    rintro ⟨v1, rfl⟩
    replace H0 := sum_r H0
    show G _ _ [] [(0, some (rd S W0))] _ _
    refine G.seq ?_
    refine G.rg ?_
    refine K.move (.inr rfl) (gd0 rfl) rfl rfl ?_
    refine K.nil ?_
    refine At.next ?_
    refine G.ret ?_
    refine At.done Y [(.tmp 4, .c _)] rfl ⟨.tmp rfl, trivial⟩ (to' := [(0, _)]) ⟨rfl, trivial⟩ ?_ ?_ rfl rfl rfl (.inl rfl)
    · cases H0; rfl
    · cases H0; rfl
theorem R11_At_con {k : Nat}  {S : Foot} {W0 : World} {s0 : Value} {l0 : List TR08Mark} {a1 : Int} {r : Int} (hL0 : LArg S W0 s0 eTR08Mark 8 l0) (H0 : R11_At.f k l0 a1 = some r) : SCon Try.prog 35 [SV.raw s0, .a (.c (.v (.int .i64 a1)))] [(0, rd S W0)] (.a (.c (.v (.int .i64 r)))) [(0, rd S W0)] [] :=
  SCon.ren (rn []) (R11_At_con0 (k := k)  hL0 H0) ⟨(fun _ => rfl), trivial⟩ ⟨(fun _ => rfl), trivial⟩ (by simp) (by simp)
theorem R11_Of_con0 {k : Nat}  {S : Foot} {W0 : World} {s0 : Value} {l0 : List TR08Mark} {r : List TR08Mark} (hL0 : LArg S W0 s0 eTR08Mark 8 l0) (H0 : R11_Of.f k l0 = some r) : SCon Try.prog 34 [SV.raw s0] [(0, rd S W0)] (.a (.c (.nv 30))) [(0, rd S W0), (30, lrow 30 52 eTR08Mark 8 r)] [30] := by
  rw [R11_Of.f] at H0
  obtain ⟨b0, o0, hI0⟩ := hL0
  refine spec_of [(0, _)] [(0, _)] 33 Try.func34 rfl Try.ntmps34 rfl rfl rfl rfl (fun β W F => ?_)
  refine G.seq ?_
  refine G.rg ?_
  refine K.nilRow 100 52 eTR08Mark 8 (.inl rfl) (gd0 rfl) rfl rfl rfl ?_
  refine K.nil ?_
  refine At.next ?_
  refine G.seq ?_
  refine G.rg ?_
  refine K.nilRow 101 52 eTR08Mark 8 (.inl rfl) (gd0 rfl) rfl rfl rfl ?_
  refine K.nil ?_
  refine At.next ?_
  obtain ⟨x1, H1, H0⟩ := bnd H0
  refine G.seqJ (σ := { v : List TR08Mark // x1 = v }) (fun q => [(3, .a (.c (.nv 102)))]) (fun q => [(0, rd S W0), (102, lrow 102 52 eTR08Mark 8 q.1)]) ?_ ?_
  ·
    refine G.seq ?_
    refine G.rg ?_
    refine K.move (.inr rfl) (gd0 rfl) rfl rfl ?_
    refine K.nil ?_
    refine At.next ?_
    refine G.block ?_
    refine G.loop (σ := { q : Nat × (List TR08Mark × Int) // R11_Of.l0 k l0 q.1 q.2 = some x1 }) (fun q => [(0, SV.raw s0), (3, .a (.c (.nv 105))), (4, .a (.c (.v (.int .i64 q.1.2.2))))]) (fun q => [(0, rd S W0), (105, lrow 105 52 eTR08Mark 8 q.1.2.1)]) (fun q => q.1.1) ⟨(k, (([] : List TR08Mark), 0)), H1⟩ ?_ ?_
    · exact At.into [(105, 101)] [_, _] rfl ⟨rfl, rfl, rfl, trivial⟩ ⟨rfl, (fun _ => rfl), rfl, (lrow_ren rfl), trivial⟩ rfl
    ·
      rintro ⟨⟨n0, v1, v2⟩, H1⟩
      show G _ _ [(0, SV.raw s0), (3, .a (.c (.nv 105))), (4, .a (.c (.v (.int .i64 v2))))] [(0, some (rd S W0)), (105, some (lrow 105 52 eTR08Mark 8 v1))] _ _
      cases n0 with
      | zero => exact absurd H1 (by simp [R11_Of.l0])
      | succ n0 =>
        have HL0 := H1
        rw [R11_Of.l0] at H1
        refine G.seq ?_
        refine G.seq ?_
        refine G.rg ?_
        refine K.move (.inl rfl) (gd0 rfl) rfl rfl ?_
        refine K.move (.inl rfl) (gd0 rfl) rfl rfl ?_
        refine K.lenL (rV 0 S W0 s0 b0 o0 eTR08Mark 8 l0) (hI0.is 0) (gd0 rfl) rfl rfl Try.underlying22 rfl ?_
        refine K.bin (V := .bool (decide (v2 < (l0.length : Int)))) (gd0 rfl) rfl rfl (fun _ => rfl) rfl ?_
        refine K.nil ?_
        refine At.next ?_
        refine G.cond rfl (fun h1 => ?_) (fun h1 => ?_)
        ·
          replace H1 := bif_t H1 h1
          refine G.skip ?_
          refine At.next ?_
          refine G.seq ?_
          refine G.block ?_
          refine G.seq ?_
          obtain ⟨x2, hx2, H1⟩ := bnd H1
          obtain ⟨x3, hx3, H1⟩ := bnd H1
          refine G.rg ?_
          refine K.move (.inl rfl) (gd0 rfl) rfl rfl ?_
          refine K.move (.inl rfl) (gd0 rfl) rfl rfl ?_
          refine K.move (.inl rfl) (gd0 rfl) rfl rfl ?_
          refine K.idxL (rV 0 S W0 s0 b0 o0 eTR08Mark 8 l0) ((v2).toNat) (hI0.is 0) (atL_get hx2) (atL_nn hx2) (gd0 rfl) rfl rfl rfl Try.underlying22 el22.size_run rfl ?_
          refine K.loadSL Y (rV 0 S W0 s0 b0 o0 eTR08Mark 8 l0) ((v2).toNat) 0 [_, _, _, _, _, _, _, _] [_, _, _, _, _, _, _, _] (hI0.is 0) (atL_get hx2) (gd0 rfl) rfl rfl t52 rfl rfl rfl rfl rfl ?_
          refine K.callV [(.func 37, _), ((.tmp 12), _), ((.tmp 16), _)] [(105, lrow 105 52 eTR08Mark 8 v1)] [] [(106, _)] (fun β => [SV.raw ((lrowV 105 52 eTR08Mark 8 v1).s.den β), .a (.agg ((eTR08Mark x2).map .v))]) (fun β w S2 h => R11_With_con (k := k) ((lrowV_isC eTR08Mark_len (by decide)).larg ⟨_, List.mem_cons_self⟩ h) hx3 106 rfl) (toFn_func (cf 37 rfl) rfl) (gd0 rfl) ⟨rfl, rfl, rfl, trivial⟩ (fun _ => rfl) ⟨rfl, trivial⟩ rfl rfl rfl rfl rfl rfl ?_
          refine K.move (.inr rfl) (gd0 rfl) rfl rfl ?_
          refine K.nil ?_
          refine At.next ?_
          refine G.seq ?_
          obtain ⟨x4, hx4, H1⟩ := bnd H1
          rcases Bool.eq_false_or_eq_true (decide (x4 < 0)) with h2 | h2
          ·
            replace H1 := bif_t H1 h2
            obtain ⟨x5, hx5, H1⟩ := bnd H1
            refine G.rg ?_
            refine K.move (.inl rfl) (gd0 rfl) rfl rfl ?_
            refine K.move (.inl rfl) (gd0 rfl) rfl rfl ?_
            refine K.move (.inl rfl) (gd0 rfl) rfl rfl ?_
            refine K.idxL (rV 0 S W0 s0 b0 o0 eTR08Mark 8 l0) ((v2).toNat) (hI0.is 0) (atL_get hx2) (atL_nn hx2) (gd0 rfl) rfl rfl rfl Try.underlying22 el22.size_run rfl ?_
            refine K.fieldL Y (rV 0 S W0 s0 b0 o0 eTR08Mark 8 l0) ((v2).toNat) 0 0 (hI0.is 0) (atL_get hx2) (gd0 rfl) rfl rfl t52 rfl rfl rfl rfl ?_
            refine K.fieldL Y (rV 0 S W0 s0 b0 o0 eTR08Mark 8 l0) ((v2).toNat) 0 0 (hI0.is 0) (atL_get hx2) (gd0 rfl) rfl rfl t35 rfl rfl rfl rfl ?_
            refine K.load1L Y (rV 0 S W0 s0 b0 o0 eTR08Mark 8 l0) ((v2).toNat) 0 (hI0.is 0) (atL_get hx2) (gd0 rfl) rfl rfl t3 rfl rfl ?_
            refine K.callV [(.func 35, _), ((.tmp 18), _), ((.tmp 24), _)] [(105, lrow 105 52 eTR08Mark 8 v1)] [] [] (fun β => [SV.raw ((lrowV 105 52 eTR08Mark 8 v1).s.den β), .a (.c (.v (.int .i64 x2.op.time)))]) (fun β w S2 h => R11_At_con (k := k) ((lrowV_isC eTR08Mark_len (by decide)).larg ⟨_, List.mem_cons_self⟩ h) hx4) (toFn_func (cf 35 rfl) rfl) (gd0 rfl) ⟨rfl, rfl, rfl, trivial⟩ (fun _ => rfl) ⟨rfl, trivial⟩ rfl rfl rfl rfl rfl rfl ?_
            refine K.bin (V := .bool (decide (x4 < 0))) (gd0 rfl) rfl rfl (fun _ => rfl) rfl ?_
            refine K.move (.inl rfl) (gd0 rfl) rfl rfl ?_
            refine K.move (.inl rfl) (gd1 rfl rfl rfl (h2)) rfl rfl ?_
            refine K.callV [(.func 33, _), ((.tmp 28), _)] [(106, lrow 106 52 eTR08Mark 8 x3)] [] [] (fun β => [SV.raw ((lrowV 106 52 eTR08Mark 8 x3).s.den β)]) (fun β w S2 h => R11_Legal_con (k := k) ((lrowV_isC eTR08Mark_len (by decide)).larg ⟨_, List.mem_cons_self⟩ h) hx5) (toFn_func (cf 33 rfl) rfl) (gd1 rfl rfl rfl (h2)) ⟨rfl, rfl, trivial⟩ (fun _ => rfl) ⟨rfl, trivial⟩ rfl rfl rfl rfl rfl rfl ?_
            refine K.pickT (gd0 rfl) rfl (h2) rfl rfl ?_
            refine K.nil ?_
            refine At.next ?_
            refine G.cond rfl (fun h3 => ?_) (fun h3 => ?_)
            ·
              replace H1 := bif_t H1 h3
              refine G.rg ?_
              refine K.move (.inl rfl) (gd0 rfl) rfl rfl ?_
              refine K.move (.inr rfl) (gd0 rfl) rfl rfl ?_
              refine K.nil ?_
              refine At.block_normal ?_
              refine At.next ?_
              refine G.rg ?_
              refine K.move (.inl rfl) (gd0 rfl) rfl rfl ?_
              refine K.bin (V := .int .i64 (w64 (v2 + 1))) (gd0 rfl) rfl rfl (fun _ => rfl) rfl ?_
              refine K.move (.inr rfl) (gd0 rfl) rfl rfl ?_
              refine K.nil ?_
              exact At.again (σ := { q : Nat × (List TR08Mark × Int) // R11_Of.l0 k l0 q.1 q.2 = some x1 }) (Fs := fun q => [(0, SV.raw s0), (3, .a (.c (.nv 105))), (4, .a (.c (.v (.int .i64 q.1.2.2))))]) (Tl := fun q => [(0, rd S W0), (105, lrow 105 52 eTR08Mark 8 q.1.2.1)]) (μ := fun q => q.1.1) (s := ⟨(n0 + 1, (v1, v2)), HL0⟩) ⟨(n0, (x3, (w64 (v2 + 1)))), H1⟩ [(105, 106)] [_, _] (Nat.lt_succ_self _) rfl ⟨rfl, rfl, rfl, trivial⟩ ⟨rfl, (fun _ => rfl), rfl, (lrow_ren rfl), trivial⟩ rfl
            ·
              replace H1 := bif_f H1 h3
              refine G.skip ?_
              refine At.block_normal ?_
              refine At.next ?_
              refine G.rg ?_
              refine K.move (.inl rfl) (gd0 rfl) rfl rfl ?_
              refine K.bin (V := .int .i64 (w64 (v2 + 1))) (gd0 rfl) rfl rfl (fun _ => rfl) rfl ?_
              refine K.move (.inr rfl) (gd0 rfl) rfl rfl ?_
              refine K.nil ?_
              exact At.again (σ := { q : Nat × (List TR08Mark × Int) // R11_Of.l0 k l0 q.1 q.2 = some x1 }) (Fs := fun q => [(0, SV.raw s0), (3, .a (.c (.nv 105))), (4, .a (.c (.v (.int .i64 q.1.2.2))))]) (Tl := fun q => [(0, rd S W0), (105, lrow 105 52 eTR08Mark 8 q.1.2.1)]) (μ := fun q => q.1.1) (s := ⟨(n0 + 1, (v1, v2)), HL0⟩) ⟨(n0, (v1, (w64 (v2 + 1)))), H1⟩ [] [_, _] (Nat.lt_succ_self _) rfl ⟨rfl, rfl, rfl, trivial⟩ ⟨rfl, (fun _ => rfl), rfl, (lrow_ren rfl), trivial⟩ rfl
          ·
            replace H1 := bif_f H1 h2
            refine G.rg ?_
            refine K.move (.inl rfl) (gd0 rfl) rfl rfl ?_
            refine K.move (.inl rfl) (gd0 rfl) rfl rfl ?_
            refine K.move (.inl rfl) (gd0 rfl) rfl rfl ?_
            refine K.idxL (rV 0 S W0 s0 b0 o0 eTR08Mark 8 l0) ((v2).toNat) (hI0.is 0) (atL_get hx2) (atL_nn hx2) (gd0 rfl) rfl rfl rfl Try.underlying22 el22.size_run rfl ?_
            refine K.fieldL Y (rV 0 S W0 s0 b0 o0 eTR08Mark 8 l0) ((v2).toNat) 0 0 (hI0.is 0) (atL_get hx2) (gd0 rfl) rfl rfl t52 rfl rfl rfl rfl ?_
            refine K.fieldL Y (rV 0 S W0 s0 b0 o0 eTR08Mark 8 l0) ((v2).toNat) 0 0 (hI0.is 0) (atL_get hx2) (gd0 rfl) rfl rfl t35 rfl rfl rfl rfl ?_
            refine K.load1L Y (rV 0 S W0 s0 b0 o0 eTR08Mark 8 l0) ((v2).toNat) 0 (hI0.is 0) (atL_get hx2) (gd0 rfl) rfl rfl t3 rfl rfl ?_
            refine K.callV [(.func 35, _), ((.tmp 18), _), ((.tmp 24), _)] [(105, lrow 105 52 eTR08Mark 8 v1)] [] [] (fun β => [SV.raw ((lrowV 105 52 eTR08Mark 8 v1).s.den β), .a (.c (.v (.int .i64 x2.op.time)))]) (fun β w S2 h => R11_At_con (k := k) ((lrowV_isC eTR08Mark_len (by decide)).larg ⟨_, List.mem_cons_self⟩ h) hx4) (toFn_func (cf 35 rfl) rfl) (gd0 rfl) ⟨rfl, rfl, rfl, trivial⟩ (fun _ => rfl) ⟨rfl, trivial⟩ rfl rfl rfl rfl rfl rfl ?_
            refine K.bin (V := .bool (decide (x4 < 0))) (gd0 rfl) rfl rfl (fun _ => rfl) rfl ?_
            refine K.move (.inl rfl) (gd0 rfl) rfl rfl ?_
            refine K.skip rfl rfl rfl rfl (h2) rfl ?_
            refine K.skip rfl rfl rfl rfl (h2) rfl ?_
            refine K.pickF (gd0 rfl) rfl (h2) rfl rfl ?_
            refine K.nil ?_
            refine At.next ?_
            refine G.cond rfl (fun h4 => ?_) (fun h4 => ?_)
            · cases h4
            ·
              refine G.skip ?_
              refine At.block_normal ?_
              refine At.next ?_
              refine G.rg ?_
              refine K.move (.inl rfl) (gd0 rfl) rfl rfl ?_
              refine K.bin (V := .int .i64 (w64 (v2 + 1))) (gd0 rfl) rfl rfl (fun _ => rfl) rfl ?_
              refine K.move (.inr rfl) (gd0 rfl) rfl rfl ?_
              refine K.nil ?_
              exact At.again (σ := { q : Nat × (List TR08Mark × Int) // R11_Of.l0 k l0 q.1 q.2 = some x1 }) (Fs := fun q => [(0, SV.raw s0), (3, .a (.c (.nv 105))), (4, .a (.c (.v (.int .i64 q.1.2.2))))]) (Tl := fun q => [(0, rd S W0), (105, lrow 105 52 eTR08Mark 8 q.1.2.1)]) (μ := fun q => q.1.1) (s := ⟨(n0 + 1, (v1, v2)), HL0⟩) ⟨(n0, (v1, (w64 (v2 + 1)))), H1⟩ [] [_, _] (Nat.lt_succ_self _) rfl ⟨rfl, rfl, rfl, trivial⟩ ⟨rfl, (fun _ => rfl), rfl, (lrow_ren rfl), trivial⟩ rfl
        ·
          replace H1 := bif_f H1 h1
          refine G.exit ?_
          refine At.over_exit ?_
          refine At.over_exit ?_
          refine At.block_hit ?_
          exact At.joined (σ := { v : List TR08Mark // x1 = v }) (Fs := fun q => [(3, .a (.c (.nv 102)))]) (Tl := fun q => [(0, rd S W0), (102, lrow 102 52 eTR08Mark 8 q.1)]) ⟨v1, (Option.some.inj H1).symm⟩ [(102, 105)] [_, _] rfl ⟨rfl, trivial⟩ ⟨rfl, (fun _ => rfl), rfl, (lrow_ren rfl), trivial⟩ rfl
  ·
    rintro ⟨_, rfl⟩
    show G _ _ [(3, .a (.c (.nv 102)))] [(0, some (rd S W0)), (102, some (lrow 102 52 eTR08Mark 8 x1))] _ _
    refine G.seq ?_
    refine G.rg ?_
    refine K.move (.inl rfl) (gd0 rfl) rfl rfl ?_
    refine K.move (.inr rfl) (gd0 rfl) rfl rfl ?_
    refine K.nil ?_
    refine At.next ?_
    refine G.ret ?_
    refine At.ren (fs' := [(2, .a (.c (.nv 30)))]) (tl := [(0, rd S W0), (30, lrow 30 52 eTR08Mark 8 x1)]) [(30, 102)] [_, _] rfl ⟨rfl, trivial⟩ ⟨rfl, (fun _ => rfl), rfl, (lrow_ren rfl), trivial⟩ rfl ?_
    refine At.done Y [(.tmp 2, .c _)] rfl ⟨.tmp rfl, trivial⟩ (to' := [(0, _), (30, _)]) ⟨rfl, rfl, trivial⟩ ?_ ?_ rfl rfl rfl (.inl rfl)
    · cases H0; rfl
    · cases H0; rfl
theorem R11_Of_con {k : Nat}  {S : Foot} {W0 : World} {s0 : Value} {l0 : List TR08Mark} {r : List TR08Mark} (hL0 : LArg S W0 s0 eTR08Mark 8 l0) (H0 : R11_Of.f k l0 = some r) (m30 : Nat) (hd : ndB [m30] = true) : SCon Try.prog 34 [SV.raw s0] [(0, rd S W0)] (.a (.c (.nv m30))) [(0, rd S W0), (m30, lrow m30 52 eTR08Mark 8 r)] [m30] :=
  SCon.ren (rn [(30, m30)]) (R11_Of_con0 (k := k)  hL0 H0) ⟨(fun _ => rfl), trivial⟩ ⟨(fun _ => rfl), (lrow_ren rfl), trivial⟩ (rn_nd hd rfl rfl) (rn_ks hd rfl rfl rfl)
theorem R11_Delete_con0 {k : Nat}  {a0 : Int} {r : TR08Mark}  (H0 : R11_Delete.f k a0 = some r) : SCon Try.prog 38 [.a (.c (.v (.int .i64 a0)))] [] (.a (.agg ((eTR08Mark r).map .v))) [] [] := by
  rw [R11_Delete.f] at H0
  refine spec_of [(0, _)] [] 6 Try.func38 rfl Try.ntmps38 rfl rfl rfl rfl (fun β W F => ?_)
  refine G.seq ?_
  refine G.rg ?_
  refine K.alloc Y 100 [_, _, _, _, _, _, _, _] (gd0 rfl) t52 rfl rfl rfl rfl rfl ?_
  refine K.nil ?_
  refine At.next ?_
  refine G.seq ?_
  refine G.rg ?_
  refine K.move (.inl rfl) (gd0 rfl) rfl rfl ?_
  refine K.build Y [(0, _)] [_, _, _, _] [((.tmp 3), _)] (gd0 rfl) (AllE.spec ⟨rfl, trivial⟩) rfl rfl t35 rfl rfl ?_
  refine K.build Y [(0, _)] [_, _, _, _, _, _, _, _] [((.tmp 4), _)] (gd0 rfl) (AllE.spec ⟨rfl, trivial⟩) rfl rfl t52 rfl rfl ?_
  refine K.store Y [_, _, _, _, _, _, _, _] (gd0 rfl) rfl rfl rfl t52 rfl rfl rfl rfl rfl ?_
  refine K.nil ?_
  refine At.next ?_
  refine G.ret ?_
  refine At.done Y [(.cell 2 52, .agg [_, _, _, _, _, _, _, _])] rfl ⟨.st rfl rfl t52 rfl rfl, trivial⟩ (to' := []) trivial ?_ ?_ rfl rfl rfl (.inl rfl)
  · cases H0; rfl
  · cases H0; rfl
theorem R11_Delete_con {k : Nat}  {a0 : Int} {r : TR08Mark}  (H0 : R11_Delete.f k a0 = some r) : SCon Try.prog 38 [.a (.c (.v (.int .i64 a0)))] [] (.a (.agg ((eTR08Mark r).map .v))) [] [] :=
  SCon.ren (rn []) (R11_Delete_con0 (k := k)   H0) trivial trivial (by simp) (by simp)
theorem R11_Without_con0 {k : Nat}  {S : Foot} {W0 : World} {s0 : Value} {l0 : List TR08Mark} {a1 : Int} {r : List TR08Mark} (hL0 : LArg S W0 s0 eTR08Mark 8 l0) (H0 : R11_Without.f k l0 a1 = some r) : SCon Try.prog 40 [SV.raw s0, .a (.c (.v (.int .i64 a1)))] [(0, rd S W0)] (.a (.c (.nv 30))) [(0, rd S W0), (30, lrow 30 52 eTR08Mark 8 r)] [30] := by
  rw [R11_Without.f] at H0
  obtain ⟨b0, o0, hI0⟩ := hL0
  refine spec_of [(0, _), (1, _)] [(0, _)] 17 Try.func40 rfl Try.ntmps40 rfl rfl rfl rfl (fun β W F => ?_)
  refine G.seq ?_
  refine G.rg ?_
  refine K.nilRow 100 52 eTR08Mark 8 (.inl rfl) (gd0 rfl) rfl rfl rfl ?_
  refine K.nil ?_
  refine At.next ?_
  refine G.seq ?_
  refine G.rg ?_
  refine K.nilRow 101 52 eTR08Mark 8 (.inl rfl) (gd0 rfl) rfl rfl rfl ?_
  refine K.nil ?_
  refine At.next ?_
  refine G.seq ?_
  obtain ⟨h1, H0⟩ := grd H0
  obtain ⟨h3, H0⟩ := grd H0
  refine G.rg ?_
  refine K.move (.inl rfl) (gd0 rfl) rfl rfl ?_
  refine K.move (.inl rfl) (gd0 rfl) rfl rfl ?_
  refine K.move (.inl rfl) (gd0 rfl) rfl rfl ?_
  refine K.partR 0 ((a1).toNat) hI0 (gd0 rfl) rfl .no (.at_ rfl h1.1 rfl) Try.underlying22 el22.size_run (Nat.zero_le _) (tn_len h1.2) rfl ?_
  refine K.appendL 102 (rV 0 S W0 (partOf 0 ((a1).toNat) 8 s0) _ _ eTR08Mark 8 ((l0.drop 0).take (((a1).toNat) - 0))) _ el22 ((hI0.part (Nat.zero_le _) (tn_len h1.2)).is 0) eTR08Mark_one (gd0 rfl) rfl rfl rfl rfl rfl (ap_m h3) (ap_b h3 (by decide)) rfl rfl rfl rfl rfl rfl ?_
  refine K.move (.inr rfl) (gd0 rfl) rfl rfl ?_
  refine K.nil ?_
  refine At.next ?_
  refine G.seq ?_
  obtain ⟨h4, H0⟩ := grd H0
  obtain ⟨h6, H0⟩ := grd H0
  refine G.rg ?_
  refine K.move (.inl rfl) (gd0 rfl) rfl rfl ?_
  refine K.move (.inl rfl) (gd0 rfl) rfl rfl ?_
  refine K.move (.inl rfl) (gd0 rfl) rfl rfl ?_
  refine K.bin (V := .int .i64 (w64 (a1 + 1))) (gd0 rfl) rfl rfl (fun _ => rfl) rfl ?_
  refine K.partR (((w64 (a1 + 1))).toNat) l0.length hI0 (gd0 rfl) rfl (.at_ rfl h4.1 rfl) .no Try.underlying22 el22.size_run (tn_len h4.2) (Nat.le_refl _) rfl ?_
  refine K.appendL 103 (rV 0 S W0 (partOf (((w64 (a1 + 1))).toNat) l0.length 8 s0) _ _ eTR08Mark 8 ((l0.drop (((w64 (a1 + 1))).toNat)).take (l0.length - (((w64 (a1 + 1))).toNat)))) _ el22 ((hI0.part (tn_len h4.2) (Nat.le_refl _)).is 0) eTR08Mark_one (gd0 rfl) rfl rfl rfl rfl rfl (ap_m h6) (ap_b h6 (by decide)) rfl rfl rfl rfl rfl rfl ?_
  refine K.move (.inr rfl) (gd0 rfl) rfl rfl ?_
  refine K.nil ?_
  refine At.next ?_
  refine G.ret ?_
  refine At.ren (fs' := [(4, .a (.c (.nv 30)))]) (tl := [(0, rd S W0), (30, lrow 30 52 eTR08Mark 8 ((([] : List TR08Mark) ++ ((l0.drop 0).take (((a1).toNat) - 0))) ++ ((l0.drop (((w64 (a1 + 1))).toNat)).take (l0.length - (((w64 (a1 + 1))).toNat)))))]) [(30, 103)] [_, _] rfl ⟨rfl, trivial⟩ ⟨rfl, (fun _ => rfl), rfl, (lrow_ren rfl), trivial⟩ rfl ?_
  refine At.done Y [(.tmp 4, .c _)] rfl ⟨.tmp rfl, trivial⟩ (to' := [(0, _), (30, _)]) ⟨rfl, rfl, trivial⟩ ?_ ?_ rfl rfl rfl (.inl rfl)
  · cases H0; rfl
  · cases H0; rfl
theorem R11_Without_con {k : Nat}  {S : Foot} {W0 : World} {s0 : Value} {l0 : List TR08Mark} {a1 : Int} {r : List TR08Mark} (hL0 : LArg S W0 s0 eTR08Mark 8 l0) (H0 : R11_Without.f k l0 a1 = some r) (m30 : Nat) (hd : ndB [m30] = true) : SCon Try.prog 40 [SV.raw s0, .a (.c (.v (.int .i64 a1)))] [(0, rd S W0)] (.a (.c (.nv m30))) [(0, rd S W0), (m30, lrow m30 52 eTR08Mark 8 r)] [m30] :=
  SCon.ren (rn [(30, m30)]) (R11_Without_con0 (k := k)  hL0 H0) ⟨(fun _ => rfl), trivial⟩ ⟨(fun _ => rfl), (lrow_ren rfl), trivial⟩ (rn_nd hd rfl rfl) (rn_ks hd rfl rfl rfl)
end Go.Proofs.Ythcehagablploaa


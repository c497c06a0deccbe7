/- A law's walk. Printed by a program of mine. -/
import Derived.KernelRfl
import Derived.Test.YtgogiehpenfdpaaMx
namespace Go.Proofs.Ytgogiehpenfdpaa
open Go Go.Proofs.Ytgogiehpenfdpaa.Sx
set_option linter.unusedVariables false
set_option linter.unusedSimpArgs false
theorem Lw08_WaveTrees_con0 {k : Nat}  {S : Foot} {W0 : World} {s0 : Value} {l0 : List TR08Mark} {a1 : Int} {a2 : Int} {r : Bool} (hL0 : LArg S W0 s0 eTR08Mark 8 l0) (H0 : Lw08_WaveTrees.f k l0 a1 a2 = some r) : SCon Try.prog 10 [SV.raw s0, .a (.c (.v (.int .i64 a1))), .a (.c (.v (.int .i64 a2)))] [(0, rd S W0)] (.a (.c (.v (.bool r)))) [(0, rd S W0)] [] := by
  rw [Lw08_WaveTrees.f] at H0
  obtain ⟨b0, o0, hI0⟩ := hL0
  refine spec_of [(0, _), (1, _), (2, _)] [(0, _)] 202 Try.func10 rfl Try.ntmps10 rfl rfl rfl rfl (fun β W F => ?_)
  refine G.seq ?_
  refine G.rg ?_
  refine K.move (.inr rfl) (gd0 rfl) rfl rfl ?_
  refine K.nil ?_
  refine At.next ?_
  obtain ⟨x1, H1, H0⟩ := bnd H0
  refine G.seqJ (σ := { v : Unit // x1 = Sum.inr v }) (fun q => [(0, SV.raw s0), (1, .a (.c (.v (.int .i64 a1)))), (2, .a (.c (.v (.int .i64 a2))))]) (fun q => [(0, rd S W0)]) ?_ ?_
  ·
    refine G.seq ?_
    obtain ⟨x2, hx2, H1⟩ := bnd H1
    rcases Bool.eq_false_or_eq_true (!x2) with h1 | h1
    ·
      replace H1 := bif_t H1 h1
      refine G.rg ?_
      refine K.callR [(.func 37, _)] (Lw08_awake_con (k := k) hx2) (toFn_func (cf 37 rfl) rfl) (gd0 rfl) ⟨rfl, trivial⟩ trivial rfl rfl rfl ?_
      refine K.un (V := .bool (!x2)) (gd0 rfl) rfl (fun _ => rfl) rfl ?_
      refine K.move (.inl rfl) (gd0 rfl) rfl rfl ?_
      refine K.skip rfl rfl rfl rfl (h1) rfl ?_
      refine K.skip rfl rfl rfl rfl (h1) rfl ?_
      refine K.skip rfl rfl rfl rfl (h1) rfl ?_
      refine K.pickT (gd0 rfl) rfl (h1) rfl rfl ?_
      refine K.nil ?_
      refine At.next ?_
      refine G.cond rfl (fun h2 => ?_) (fun h2 => ?_)
      ·
        refine G.seq ?_
        obtain ⟨x3, hx3, H1⟩ := bnd H1
        refine G.rg ?_
        refine K.callR [(.func 37, _)] (Lw08_awake_con (k := k) hx3) (toFn_func (cf 37 rfl) rfl) (gd0 rfl) ⟨rfl, trivial⟩ trivial rfl rfl rfl ?_
        refine K.move (.inr rfl) (gd0 rfl) rfl rfl ?_
        refine K.nil ?_
        refine At.next ?_
        refine G.ret ?_
        refine At.over_ret ?_
        cases H1
        replace H0 := sum_l H0
        refine At.done Y [(.tmp 6, .c _)] rfl ⟨.tmp rfl, trivial⟩ (to' := [(0, _)]) ⟨rfl, trivial⟩ ?_ ?_ rfl rfl rfl (.inl rfl)
        · cases H0; rfl
        · cases H0; rfl
      · cases h2
    ·
      replace H1 := bif_f H1 h1
      refine G.rg ?_
      refine K.callR [(.func 37, _)] (Lw08_awake_con (k := k) hx2) (toFn_func (cf 37 rfl) rfl) (gd0 rfl) ⟨rfl, trivial⟩ trivial rfl rfl rfl ?_
      refine K.un (V := .bool (!x2)) (gd0 rfl) rfl (fun _ => rfl) rfl ?_
      refine K.move (.inl rfl) (gd0 rfl) rfl rfl ?_
      refine K.move (.inl rfl) (gd1 rfl rfl rfl (h1)) rfl rfl ?_
      refine K.lenL (rV 0 S W0 s0 b0 o0 eTR08Mark 8 l0) (hI0.is 0) (gd1 rfl rfl rfl (h1)) rfl rfl Try.underlying60 rfl ?_
      refine K.bin (V := .bool (decide ((l0.length : Int) > 60))) (gd1 rfl rfl rfl (h1)) rfl rfl (fun _ => rfl) rfl ?_
      refine K.pickF (gd0 rfl) rfl (h1) rfl rfl ?_
      refine K.nil ?_
      refine At.next ?_
      refine G.cond rfl (fun h3 => ?_) (fun h3 => ?_)
      ·
        replace H1 := bif_t H1 h3
        refine G.seq ?_
        obtain ⟨x4, hx4, H1⟩ := bnd H1
        refine G.rg ?_
        refine K.callR [(.func 37, _)] (Lw08_awake_con (k := k) hx4) (toFn_func (cf 37 rfl) rfl) (gd0 rfl) ⟨rfl, trivial⟩ trivial rfl rfl rfl ?_
        refine K.move (.inr rfl) (gd0 rfl) rfl rfl ?_
        refine K.nil ?_
        refine At.next ?_
        refine G.ret ?_
        refine At.over_ret ?_
        cases H1
        replace H0 := sum_l H0
        refine At.done Y [(.tmp 6, .c _)] rfl ⟨.tmp rfl, trivial⟩ (to' := [(0, _)]) ⟨rfl, trivial⟩ ?_ ?_ rfl rfl rfl (.inl rfl)
        · cases H0; rfl
        · cases H0; rfl
      ·
        replace H1 := bif_f H1 h3
        refine G.skip ?_
        exact At.joined (σ := { v : Unit // x1 = Sum.inr v }) (Fs := fun q => [(0, SV.raw s0), (1, .a (.c (.v (.int .i64 a1)))), (2, .a (.c (.v (.int .i64 a2))))]) (Tl := fun q => [(0, rd S W0)]) ⟨(), (Option.some.inj H1).symm⟩ [] [_] rfl ⟨rfl, rfl, rfl, trivial⟩ ⟨rfl, (fun _ => rfl), trivial⟩ rfl
  ·
    rintro ⟨v1, rfl⟩
    replace H0 := sum_r H0
    show G _ _ [(0, SV.raw s0), (1, .a (.c (.v (.int .i64 a1)))), (2, .a (.c (.v (.int .i64 a2))))] [(0, some (rd S W0))] _ _
    refine G.seq ?_
    obtain ⟨x5, hx5, H0⟩ := bnd H0
    refine G.rg ?_
    refine K.call0 [(.func 43, _), (_, _)] (wave_New_con (k := k) hx5 100 101 rfl) (toFn_func (cf 43 rfl) rfl) (gd0 rfl) ⟨rfl, rfl, trivial⟩ trivial rfl rfl rfl rfl rfl rfl ?_
    refine K.move (.inr rfl) (gd0 rfl) rfl rfl ?_
    refine K.nil ?_
    refine At.next ?_
    refine G.seq ?_
    refine G.rg ?_
    refine K.nilRow 102 75 eTR08Mark 8 (.inl rfl) (gd0 rfl) rfl rfl rfl ?_
    refine K.nil ?_
    refine At.next ?_
    obtain ⟨x6, H1, H0⟩ := bnd H0
    refine G.seqJ (σ := { v : Pool (TNode TMark TSwell) × Int × Int × List TR08Mark // x6 = Sum.inr v }) (fun q => [(1, .a (.c (.v (.int .i64 a1)))), (2, .a (.c (.v (.int .i64 a2)))), (7, .a (.c (.p 103 0))), (8, .a (.c (.nv 105)))]) (fun q => [(0, rd S W0), (104, plM 104 q.1.1), (103, blk 103 [.p 104 0, .v (.int .i64 q.1.2.1), .v (.int .i64 q.1.2.2.1)] 120), (105, lrow 105 75 eTR08Mark 8 q.1.2.2.2)]) ?_ ?_
    ·
      refine G.seq ?_
      refine G.rg ?_
      refine K.move (.inr rfl) (gd0 rfl) rfl rfl ?_
      refine K.nil ?_
      refine At.next ?_
      refine G.block ?_
      refine G.loop (σ := { q : Nat × (Pool (TNode TMark TSwell) × Int × Int × List TR08Mark × Int) // Lw08_WaveTrees.l0 k l0 q.1 q.2 = some x6 }) (fun q => [(0, SV.raw s0), (1, .a (.c (.v (.int .i64 a1)))), (2, .a (.c (.v (.int .i64 a2)))), (7, .a (.c (.p 112 0))), (8, .a (.c (.nv 114))), (9, .a (.c (.v (.int .i64 q.1.2.2.2.2.2))))]) (fun q => [(0, rd S W0), (113, plM 113 q.1.2.1), (112, blk 112 [.p 113 0, .v (.int .i64 q.1.2.2.1), .v (.int .i64 q.1.2.2.2.1)] 120), (114, lrow 114 75 eTR08Mark 8 q.1.2.2.2.2.1)]) (fun q => q.1.1) ⟨(k, (x5.2, x5.1.index, x5.1.gen, ([] : List TR08Mark), 0)), H1⟩ ?_ ?_
      · exact At.into [(112, 100), (113, 101), (114, 102)] [_, _, _, _] rfl ⟨rfl, rfl, rfl, rfl, rfl, rfl, trivial⟩ ⟨rfl, (fun _ => rfl), rfl, (pl_ren rfl), rfl, (blk_ren rfl rfl), rfl, (lrow_ren rfl), trivial⟩ rfl
      ·
        rintro ⟨⟨n0, v1, v2, v3, v4, v5⟩, H1⟩
        show G _ _ [(0, SV.raw s0), (1, .a (.c (.v (.int .i64 a1)))), (2, .a (.c (.v (.int .i64 a2)))), (7, .a (.c (.p 112 0))), (8, .a (.c (.nv 114))), (9, .a (.c (.v (.int .i64 v5))))] [(0, some (rd S W0)), (113, some (plM 113 v1)), (112, some (blk 112 [.p 113 0, .v (.int .i64 v2), .v (.int .i64 v3)] 120)), (114, some (lrow 114 75 eTR08Mark 8 v4))] _ _
        cases n0 with
        | zero => exact absurd H1 (by simp [Lw08_WaveTrees.l0])
        | succ n0 =>
          have HL0 := H1
          rw [Lw08_WaveTrees.l0] at H1
          refine G.seq ?_
          refine G.seq ?_
          refine G.rg ?_
          refine K.move (.inl rfl) (gd0 rfl) rfl rfl ?_
          refine K.move (.inl rfl) (gd0 rfl) rfl rfl ?_
          refine K.lenL (rV 0 S W0 s0 b0 o0 eTR08Mark 8 l0) (hI0.is 0) (gd0 rfl) rfl rfl Try.underlying60 rfl ?_
          refine K.bin (V := .bool (decide (v5 < (l0.length : Int)))) (gd0 rfl) rfl rfl (fun _ => rfl) rfl ?_
          refine K.nil ?_
          refine At.next ?_
          refine G.cond rfl (fun h4 => ?_) (fun h4 => ?_)
          ·
            replace H1 := bif_t H1 h4
            refine G.skip ?_
            refine At.next ?_
            obtain ⟨x7, H2, H1⟩ := bnd H1
            refine G.seqJ (σ := { v : Pool (TNode TMark TSwell) × Int × Int × List TR08Mark // x7 = Sum.inr v }) (fun q => [(0, SV.raw s0), (1, .a (.c (.v (.int .i64 a1)))), (2, .a (.c (.v (.int .i64 a2)))), (7, .a (.c (.p 115 0))), (8, .a (.c (.nv 117))), (9, .a (.c (.v (.int .i64 v5))))]) (fun q => [(0, rd S W0), (116, plM 116 q.1.1), (115, blk 115 [.p 116 0, .v (.int .i64 q.1.2.1), .v (.int .i64 q.1.2.2.1)] 120), (117, lrow 117 75 eTR08Mark 8 q.1.2.2.2)]) ?_ ?_
            ·
              refine G.block ?_
              refine G.seq ?_
              refine G.seq ?_
              obtain ⟨x8, hx8, H2⟩ := bnd H2
              obtain ⟨x9, hx9, H2⟩ := bnd H2
              refine G.rd mixed ?_
              refine K.move (.inl rfl) (gd0 rfl) rfl rfl ?_
              refine K.move (.inl rfl) (gd0 rfl) rfl rfl ?_
              refine K.move (.inl rfl) (gd0 rfl) rfl rfl ?_
              refine K.idxL (rV 0 S W0 s0 b0 o0 eTR08Mark 8 l0) ((v5).toNat) (hI0.is 0) (atL_get hx8) (atL_nn hx8) (gd0 rfl) rfl rfl rfl Try.underlying60 el60.size_run rfl ?_
              refine K.fieldL Y (rV 0 S W0 s0 b0 o0 eTR08Mark 8 l0) ((v5).toNat) 0 0 (hI0.is 0) (atL_get hx8) (gd0 rfl) rfl rfl t75 rfl rfl rfl rfl ?_
              refine K.loadSL Y (rV 0 S W0 s0 b0 o0 eTR08Mark 8 l0) ((v5).toNat) 0 [_, _, _, _] [_, _, _, _] (hI0.is 0) (atL_get hx8) (gd0 rfl) rfl rfl t73 rfl rfl rfl rfl rfl ?_
              refine K.move (.inl rfl) (gd0 rfl) rfl rfl ?_
              refine K.move (.inl rfl) (gd0 rfl) rfl rfl ?_
              refine K.idxL (rV 0 S W0 s0 b0 o0 eTR08Mark 8 l0) ((v5).toNat) (hI0.is 0) (atL_get hx8) (atL_nn hx8) (gd0 rfl) rfl rfl rfl Try.underlying60 el60.size_run rfl ?_
              refine K.fieldL Y (rV 0 S W0 s0 b0 o0 eTR08Mark 8 l0) ((v5).toNat) 0 4 (hI0.is 0) (atL_get hx8) (gd0 rfl) rfl rfl t75 rfl rfl rfl rfl ?_
              refine K.load1L Y (rV 0 S W0 s0 b0 o0 eTR08Mark 8 l0) ((v5).toNat) 4 (hI0.is 0) (atL_get hx8) (gd0 rfl) rfl rfl t4 rfl rfl ?_
              refine K.move (.inl rfl) (gd0 rfl) rfl rfl ?_
              refine K.move (.inl rfl) (gd0 rfl) rfl rfl ?_
              refine K.idxL (rV 0 S W0 s0 b0 o0 eTR08Mark 8 l0) ((v5).toNat) (hI0.is 0) (atL_get hx8) (atL_nn hx8) (gd0 rfl) rfl rfl rfl Try.underlying60 el60.size_run rfl ?_
              refine K.fieldL Y (rV 0 S W0 s0 b0 o0 eTR08Mark 8 l0) ((v5).toNat) 0 5 (hI0.is 0) (atL_get hx8) (gd0 rfl) rfl rfl t75 rfl rfl rfl rfl ?_
              refine K.loadSL Y (rV 0 S W0 s0 b0 o0 eTR08Mark 8 l0) ((v5).toNat) 5 [_, _, _] [_, _, _] (hI0.is 0) (atL_get hx8) (gd0 rfl) rfl rfl t65 rfl rfl rfl rfl rfl ?_
              refine K.build Y [(0, _), (1, _), (2, _)] [_, _, _, _, _, _, _, _] [((.tmp 37), _), ((.tmp 42), _), ((.tmp 47), _)] (gd0 rfl) (AllE.spec ⟨rfl, rfl, rfl, trivial⟩) rfl rfl t82 rfl rfl ?_
              refine K.call0 [(.func 44, _), ((.tmp 32), _), ((.tmp 48), _)] (Tree_PutM_con (k := k) hx9 112 113) (toFn_func (cf 44 rfl) rfl) (gd0 rfl) ⟨rfl, rfl, rfl, trivial⟩ ⟨rfl, rfl, trivial⟩ rfl rfl rfl rfl rfl rfl ?_
              refine K.un (V := .bool (!x9.1)) (gd0 rfl) rfl (fun _ => rfl) rfl ?_
              refine K.nil ?_
              refine ⟨by kernel_rfl, ?_⟩
              refine At.next ?_
              refine G.cond rfl (fun h5 => ?_) (fun h5 => ?_)
              ·
                replace H2 := bif_t H2 h5
                refine G.seq ?_
                refine G.rg ?_
                refine K.move (.inr rfl) (gd0 rfl) rfl rfl ?_
                refine K.nil ?_
                refine At.next ?_
                refine G.ret ?_
                refine At.over_ret ?_
                refine At.block_ret ?_
                refine At.over_ret ?_
                cases H2
                replace H1 := sum_l H1
                refine At.over_ret ?_
                refine At.block_ret ?_
                refine At.over_ret ?_
                cases H1
                replace H0 := sum_l H0
                refine At.done Y [(.tmp 6, .c _)] rfl ⟨.tmp rfl, trivial⟩ (to' := [(0, _)]) ⟨rfl, trivial⟩ ?_ ?_ rfl rfl rfl (.inl rfl)
                · cases H0; rfl
                · cases H0; rfl
              ·
                replace H2 := bif_f H2 h5
                refine G.skip ?_
                refine At.next ?_
                refine G.seq ?_
                refine G.rg ?_
                refine K.move (.inr rfl) (gd0 rfl) rfl rfl ?_
                refine K.nil ?_
                refine At.next ?_
                obtain ⟨x10, H3, H2⟩ := bnd H2
                refine G.seqJ (σ := { v : Int // x10 = v }) (fun q => [(0, SV.raw s0), (1, .a (.c (.v (.int .i64 a1)))), (2, .a (.c (.v (.int .i64 a2)))), (7, .a (.c (.p 118 0))), (8, .a (.c (.nv 120))), (9, .a (.c (.v (.int .i64 v5)))), (10, .a (.c (.v (.int .i64 q.1))))]) (fun q => [(0, rd S W0), (119, plM 119 x9.2.2), (118, blk 118 [.p 119 0, .v (.int .i64 x9.2.1.index), .v (.int .i64 x9.2.1.gen)] 120), (120, lrow 120 75 eTR08Mark 8 v4)]) ?_ ?_
                ·
                  refine G.block ?_
                  refine G.loop (σ := { q : Nat × (Int) // Lw08_WaveTrees.l1 k l0 v4 v5 q.1 q.2 = some x10 }) (fun q => [(0, SV.raw s0), (1, .a (.c (.v (.int .i64 a1)))), (2, .a (.c (.v (.int .i64 a2)))), (7, .a (.c (.p 127 0))), (8, .a (.c (.nv 129))), (9, .a (.c (.v (.int .i64 v5)))), (10, .a (.c (.v (.int .i64 q.1.2))))]) (fun q => [(0, rd S W0), (128, plM 128 x9.2.2), (127, blk 127 [.p 128 0, .v (.int .i64 x9.2.1.index), .v (.int .i64 x9.2.1.gen)] 120), (129, lrow 129 75 eTR08Mark 8 v4)]) (fun q => q.1.1) ⟨(k, 0), H3⟩ ?_ ?_
                  · exact At.into [(127, 112), (128, 113), (129, 114)] [_, _, _, _] rfl ⟨rfl, rfl, rfl, rfl, rfl, rfl, rfl, trivial⟩ ⟨rfl, (fun _ => rfl), rfl, (pl_ren rfl), rfl, (blk_ren rfl rfl), rfl, (lrow_ren rfl), trivial⟩ rfl
                  ·
                    rintro ⟨⟨n0, v101⟩, H3⟩
                    show G _ _ [(0, SV.raw s0), (1, .a (.c (.v (.int .i64 a1)))), (2, .a (.c (.v (.int .i64 a2)))), (7, .a (.c (.p 127 0))), (8, .a (.c (.nv 129))), (9, .a (.c (.v (.int .i64 v5)))), (10, .a (.c (.v (.int .i64 v101))))] [(0, some (rd S W0)), (128, some (plM 128 x9.2.2)), (127, some (blk 127 [.p 128 0, .v (.int .i64 x9.2.1.index), .v (.int .i64 x9.2.1.gen)] 120)), (129, some (lrow 129 75 eTR08Mark 8 v4))] _ _
                    cases n0 with
                    | zero => exact absurd H3 (by simp [Lw08_WaveTrees.l1])
                    | succ n0 =>
                      have HL1 := H3
                      rw [Lw08_WaveTrees.l1] at H3
                      refine G.seq ?_
                      refine G.seq ?_
                      rcases Bool.eq_false_or_eq_true (decide (v101 < (v4.length : Int))) with h6 | h6
                      ·
                        replace H3 := bif_t H3 h6
                        obtain ⟨x11, hx11, H3⟩ := bnd H3
                        obtain ⟨x12, hx12, H3⟩ := bnd H3
                        refine G.rd mixed ?_
                        refine K.move (.inl rfl) (gd0 rfl) rfl rfl ?_
                        refine K.move (.inl rfl) (gd0 rfl) rfl rfl ?_
                        refine K.lenL (lrowV 129 75 eTR08Mark 8 v4) (lrowV_is eTR08Mark_len (by decide)) (gd0 rfl) rfl rfl Try.underlying60 rfl ?_
                        refine K.bin (V := .bool (decide (v101 < (v4.length : Int)))) (gd0 rfl) rfl rfl (fun _ => rfl) rfl ?_
                        refine K.move (.inl rfl) (gd0 rfl) rfl rfl ?_
                        refine K.move (.inl rfl) (gd1 rfl rfl rfl (h6)) rfl rfl ?_
                        refine K.move (.inl rfl) (gd1 rfl rfl rfl (h6)) rfl rfl ?_
                        refine K.idxL (lrowV 129 75 eTR08Mark 8 v4) ((v101).toNat) (lrowV_is eTR08Mark_len (by decide)) (atL_get hx11) (atL_nn hx11) (gd1 rfl rfl rfl (h6)) rfl rfl rfl Try.underlying60 el60.size_run rfl ?_
                        refine K.fieldL Y (lrowV 129 75 eTR08Mark 8 v4) ((v101).toNat) 0 0 (lrowV_is eTR08Mark_len (by decide)) (atL_get hx11) (gd1 rfl rfl rfl (h6)) rfl rfl t75 rfl rfl rfl rfl ?_
                        refine K.fieldL Y (lrowV 129 75 eTR08Mark 8 v4) ((v101).toNat) 0 0 (lrowV_is eTR08Mark_len (by decide)) (atL_get hx11) (gd1 rfl rfl rfl (h6)) rfl rfl t73 rfl rfl rfl rfl ?_
                        refine K.load1L Y (lrowV 129 75 eTR08Mark 8 v4) ((v101).toNat) 0 (lrowV_is eTR08Mark_len (by decide)) (atL_get hx11) (gd1 rfl rfl rfl (h6)) rfl rfl t3 rfl rfl ?_
                        refine K.move (.inl rfl) (gd1 rfl rfl rfl (h6)) rfl rfl ?_
                        refine K.move (.inl rfl) (gd1 rfl rfl rfl (h6)) rfl rfl ?_
                        refine K.idxL (rV 0 S W0 s0 b0 o0 eTR08Mark 8 l0) ((v5).toNat) (hI0.is 0) (atL_get hx12) (atL_nn hx12) (gd1 rfl rfl rfl (h6)) rfl rfl rfl Try.underlying60 el60.size_run rfl ?_
                        refine K.fieldL Y (rV 0 S W0 s0 b0 o0 eTR08Mark 8 l0) ((v5).toNat) 0 0 (hI0.is 0) (atL_get hx12) (gd1 rfl rfl rfl (h6)) rfl rfl t75 rfl rfl rfl rfl ?_
                        refine K.fieldL Y (rV 0 S W0 s0 b0 o0 eTR08Mark 8 l0) ((v5).toNat) 0 0 (hI0.is 0) (atL_get hx12) (gd1 rfl rfl rfl (h6)) rfl rfl t73 rfl rfl rfl rfl ?_
                        refine K.load1L Y (rV 0 S W0 s0 b0 o0 eTR08Mark 8 l0) ((v5).toNat) 0 (hI0.is 0) (atL_get hx12) (gd1 rfl rfl rfl (h6)) rfl rfl t3 rfl rfl ?_
                        refine K.bin (V := .bool (decide (x11.op.time < x12.op.time))) (gd1 rfl rfl rfl (h6)) rfl rfl (fun _ => rfl) rfl ?_
                        refine K.pickT (gd0 rfl) rfl (h6) rfl rfl ?_
                        refine K.nil ?_
                        refine ⟨by kernel_rfl, ?_⟩
                        refine At.next ?_
                        refine G.cond rfl (fun h7 => ?_) (fun h7 => ?_)
                        ·
                          replace H3 := bif_t H3 h7
                          refine G.skip ?_
                          refine At.next ?_
                          refine G.block ?_
                          refine G.rg ?_
                          refine K.move (.inl rfl) (gd0 rfl) rfl rfl ?_
                          refine K.bin (V := .int .i64 (w64 (v101 + 1))) (gd0 rfl) rfl rfl (fun _ => rfl) rfl ?_
                          refine K.move (.inr rfl) (gd0 rfl) rfl rfl ?_
                          refine K.nil ?_
                          refine At.block_normal ?_
                          exact At.again (σ := { q : Nat × (Int) // Lw08_WaveTrees.l1 k l0 v4 v5 q.1 q.2 = some x10 }) (Fs := fun q => [(0, SV.raw s0), (1, .a (.c (.v (.int .i64 a1)))), (2, .a (.c (.v (.int .i64 a2)))), (7, .a (.c (.p 127 0))), (8, .a (.c (.nv 129))), (9, .a (.c (.v (.int .i64 v5)))), (10, .a (.c (.v (.int .i64 q.1.2))))]) (Tl := fun q => [(0, rd S W0), (128, plM 128 x9.2.2), (127, blk 127 [.p 128 0, .v (.int .i64 x9.2.1.index), .v (.int .i64 x9.2.1.gen)] 120), (129, lrow 129 75 eTR08Mark 8 v4)]) (μ := fun q => q.1.1) (s := ⟨(n0 + 1, v101), HL1⟩) ⟨(n0, (w64 (v101 + 1))), H3⟩ [] [_, _, _, _] (Nat.lt_succ_self _) rfl ⟨rfl, rfl, rfl, rfl, rfl, rfl, rfl, trivial⟩ ⟨rfl, (fun _ => rfl), rfl, (pl_ren rfl), rfl, (blk_ren rfl rfl), rfl, (lrow_ren rfl), trivial⟩ rfl
                        ·
                          replace H3 := bif_f H3 h7
                          refine G.exit ?_
                          refine At.over_exit ?_
                          refine At.over_exit ?_
                          refine At.block_hit ?_
                          exact At.joined (σ := { v : Int // x10 = v }) (Fs := fun q => [(0, SV.raw s0), (1, .a (.c (.v (.int .i64 a1)))), (2, .a (.c (.v (.int .i64 a2)))), (7, .a (.c (.p 118 0))), (8, .a (.c (.nv 120))), (9, .a (.c (.v (.int .i64 v5)))), (10, .a (.c (.v (.int .i64 q.1))))]) (Tl := fun q => [(0, rd S W0), (119, plM 119 x9.2.2), (118, blk 118 [.p 119 0, .v (.int .i64 x9.2.1.index), .v (.int .i64 x9.2.1.gen)] 120), (120, lrow 120 75 eTR08Mark 8 v4)]) ⟨v101, (Option.some.inj H3).symm⟩ [(118, 127), (119, 128), (120, 129)] [_, _, _, _] rfl ⟨rfl, rfl, rfl, rfl, rfl, rfl, rfl, trivial⟩ ⟨rfl, (fun _ => rfl), rfl, (pl_ren rfl), rfl, (blk_ren rfl rfl), rfl, (lrow_ren rfl), trivial⟩ rfl
                      ·
                        replace H3 := bif_f H3 h6
                        refine G.rd mixed ?_
                        refine K.move (.inl rfl) (gd0 rfl) rfl rfl ?_
                        refine K.move (.inl rfl) (gd0 rfl) rfl rfl ?_
                        refine K.lenL (lrowV 129 75 eTR08Mark 8 v4) (lrowV_is eTR08Mark_len (by decide)) (gd0 rfl) rfl rfl Try.underlying60 rfl ?_
                        refine K.bin (V := .bool (decide (v101 < (v4.length : Int)))) (gd0 rfl) rfl rfl (fun _ => rfl) rfl ?_
                        refine K.move (.inl rfl) (gd0 rfl) rfl rfl ?_
                        refine K.skip rfl rfl rfl rfl (h6) rfl ?_
                        refine K.skip rfl rfl rfl rfl (h6) rfl ?_
                        refine K.skip rfl rfl rfl rfl (h6) rfl ?_
                        refine K.skip rfl rfl rfl rfl (h6) rfl ?_
                        refine K.skip rfl rfl rfl rfl (h6) rfl ?_
                        refine K.skip rfl rfl rfl rfl (h6) rfl ?_
                        refine K.skip rfl rfl rfl rfl (h6) rfl ?_
                        refine K.skip rfl rfl rfl rfl (h6) rfl ?_
                        refine K.skip rfl rfl rfl rfl (h6) rfl ?_
                        refine K.skip rfl rfl rfl rfl (h6) rfl ?_
                        refine K.skip rfl rfl rfl rfl (h6) rfl ?_
                        refine K.skip rfl rfl rfl rfl (h6) rfl ?_
                        refine K.skip rfl rfl rfl rfl (h6) rfl ?_
                        refine K.pickF (gd0 rfl) rfl (h6) rfl rfl ?_
                        refine K.nil ?_
                        refine ⟨by kernel_rfl, ?_⟩
                        refine At.next ?_
                        refine G.cond rfl (fun h8 => ?_) (fun h8 => ?_)
                        · cases h8
                        ·
                          refine G.exit ?_
                          refine At.over_exit ?_
                          refine At.over_exit ?_
                          refine At.block_hit ?_
                          exact At.joined (σ := { v : Int // x10 = v }) (Fs := fun q => [(0, SV.raw s0), (1, .a (.c (.v (.int .i64 a1)))), (2, .a (.c (.v (.int .i64 a2)))), (7, .a (.c (.p 118 0))), (8, .a (.c (.nv 120))), (9, .a (.c (.v (.int .i64 v5)))), (10, .a (.c (.v (.int .i64 q.1))))]) (Tl := fun q => [(0, rd S W0), (119, plM 119 x9.2.2), (118, blk 118 [.p 119 0, .v (.int .i64 x9.2.1.index), .v (.int .i64 x9.2.1.gen)] 120), (120, lrow 120 75 eTR08Mark 8 v4)]) ⟨v101, (Option.some.inj H3).symm⟩ [(118, 127), (119, 128), (120, 129)] [_, _, _, _] rfl ⟨rfl, rfl, rfl, rfl, rfl, rfl, rfl, trivial⟩ ⟨rfl, (fun _ => rfl), rfl, (pl_ren rfl), rfl, (blk_ren rfl rfl), rfl, (lrow_ren rfl), trivial⟩ rfl
                ·
                  rintro ⟨_, rfl⟩
                  show G _ _ [(0, SV.raw s0), (1, .a (.c (.v (.int .i64 a1)))), (2, .a (.c (.v (.int .i64 a2)))), (7, .a (.c (.p 118 0))), (8, .a (.c (.nv 120))), (9, .a (.c (.v (.int .i64 v5)))), (10, .a (.c (.v (.int .i64 x10))))] [(0, some (rd S W0)), (119, some (plM 119 x9.2.2)), (118, some (blk 118 [.p 119 0, .v (.int .i64 x9.2.1.index), .v (.int .i64 x9.2.1.gen)] 120)), (120, some (lrow 120 75 eTR08Mark 8 v4))] _ _
                  refine G.seq ?_
                  refine G.rg ?_
                  refine K.nilRow 130 75 eTR08Mark 8 (.inl rfl) (gd0 rfl) rfl rfl rfl ?_
                  refine K.nil ?_
                  refine At.next ?_
                  refine G.seq ?_
                  obtain ⟨h9, H2⟩ := grd H2
                  obtain ⟨h11, H2⟩ := grd H2
                  refine G.rg ?_
                  refine K.move (.inl rfl) (gd0 rfl) rfl rfl ?_
                  refine K.move (.inl rfl) (gd0 rfl) rfl rfl ?_
                  refine K.move (.inl rfl) (gd0 rfl) rfl rfl ?_
                  refine K.partL 0 ((x10).toNat) (gd0 rfl) rfl .no (.at_ rfl h9.1 rfl) rfl Try.underlying60 el60.size_run (Nat.zero_le _) (tn_len h9.2) rfl ?_
                  refine K.appendL 131 (lsubV 120 75 eTR08Mark 8 v4 0 ((x10).toNat)) _ el60 (lsubV_is eTR08Mark_len (by decide) (Nat.zero_le _) (tn_len h9.2)) eTR08Mark_one (gd0 rfl) rfl rfl rfl rfl rfl (ap_m h11) (ap_b h11 (by decide)) rfl rfl rfl rfl rfl rfl ?_
                  refine K.move (.inr rfl) (gd0 rfl) rfl rfl ?_
                  refine K.nil ?_
                  refine At.next ?_
                  refine G.seq ?_
                  obtain ⟨x13, hx13, H2⟩ := bnd H2
                  obtain ⟨h12, H2⟩ := grd H2
                  refine G.rg ?_
                  refine K.move (.inl rfl) (gd0 rfl) rfl rfl ?_
                  refine K.move (.inl rfl) (gd0 rfl) rfl rfl ?_
                  refine K.move (.inl rfl) (gd0 rfl) rfl rfl ?_
                  refine K.idxL (rV 0 S W0 s0 b0 o0 eTR08Mark 8 l0) ((v5).toNat) (hI0.is 0) (atL_get hx13) (atL_nn hx13) (gd0 rfl) rfl rfl rfl Try.underlying60 el60.size_run rfl ?_
                  refine K.loadSL Y (rV 0 S W0 s0 b0 o0 eTR08Mark 8 l0) ((v5).toNat) 0 [_, _, _, _, _, _, _, _] [_, _, _, _, _, _, _, _] (hI0.is 0) (atL_get hx13) (gd0 rfl) rfl rfl t75 rfl rfl rfl rfl rfl ?_
                  refine K.buildL Y 132 ([x13] : List TR08Mark) [(0, _)] [((.tmp 81), _)] eTR08Mark_len (gd0 rfl) (AllE.spec ⟨rfl, trivial⟩) rfl rfl Try.underlying60 t75 rfl rfl rfl rfl rfl rfl rfl rfl ?_
                  refine K.appendL 133 (lrowV 132 75 eTR08Mark 8 ([x13] : List TR08Mark)) _ el60 (lrowV_is eTR08Mark_len (by decide)) eTR08Mark_one (gd0 rfl) rfl rfl rfl rfl rfl (ap_m h12) (ap_b h12 (by decide)) rfl rfl rfl rfl rfl rfl ?_
                  refine K.move (.inr rfl) (gd0 rfl) rfl rfl ?_
                  refine K.nil ?_
                  refine At.next ?_
                  refine G.seq ?_
                  refine G.seq ?_
                  rcases Bool.eq_false_or_eq_true (decide (x10 < (v4.length : Int))) with h13 | h13
                  ·
                    replace H2 := bif_t H2 h13
                    obtain ⟨x14, hx14, H2⟩ := bnd H2
                    refine G.rd mixed ?_
                    refine K.move (.inl rfl) (gd0 rfl) rfl rfl ?_
                    refine K.move (.inl rfl) (gd0 rfl) rfl rfl ?_
                    refine K.lenL (lrowV 120 75 eTR08Mark 8 v4) (lrowV_is eTR08Mark_len (by decide)) (gd0 rfl) rfl rfl Try.underlying60 rfl ?_
                    refine K.bin (V := .bool (decide (x10 < (v4.length : Int)))) (gd0 rfl) rfl rfl (fun _ => rfl) rfl ?_
                    refine K.move (.inl rfl) (gd0 rfl) rfl rfl ?_
                    refine K.move (.inl rfl) (gd1 rfl rfl rfl (h13)) rfl rfl ?_
                    refine K.move (.inl rfl) (gd1 rfl rfl rfl (h13)) rfl rfl ?_
                    refine K.idxL (lrowV 120 75 eTR08Mark 8 v4) ((x10).toNat) (lrowV_is eTR08Mark_len (by decide)) (atL_get hx14) (atL_nn hx14) (gd1 rfl rfl rfl (h13)) rfl rfl rfl Try.underlying60 el60.size_run rfl ?_
                    refine K.fieldL Y (lrowV 120 75 eTR08Mark 8 v4) ((x10).toNat) 0 0 (lrowV_is eTR08Mark_len (by decide)) (atL_get hx14) (gd1 rfl rfl rfl (h13)) rfl rfl t75 rfl rfl rfl rfl ?_
                    refine K.fieldL Y (lrowV 120 75 eTR08Mark 8 v4) ((x10).toNat) 0 0 (lrowV_is eTR08Mark_len (by decide)) (atL_get hx14) (gd1 rfl rfl rfl (h13)) rfl rfl t73 rfl rfl rfl rfl ?_
                    refine K.load1L Y (lrowV 120 75 eTR08Mark 8 v4) ((x10).toNat) 0 (lrowV_is eTR08Mark_len (by decide)) (atL_get hx14) (gd1 rfl rfl rfl (h13)) rfl rfl t3 rfl rfl ?_
                    refine K.move (.inl rfl) (gd1 rfl rfl rfl (h13)) rfl rfl ?_
                    refine K.move (.inl rfl) (gd1 rfl rfl rfl (h13)) rfl rfl ?_
                    refine K.idxL (rV 0 S W0 s0 b0 o0 eTR08Mark 8 l0) ((v5).toNat) (hI0.is 0) (atL_get hx13) (atL_nn hx13) (gd1 rfl rfl rfl (h13)) rfl rfl rfl Try.underlying60 el60.size_run rfl ?_
                    refine K.fieldL Y (rV 0 S W0 s0 b0 o0 eTR08Mark 8 l0) ((v5).toNat) 0 0 (hI0.is 0) (atL_get hx13) (gd1 rfl rfl rfl (h13)) rfl rfl t75 rfl rfl rfl rfl ?_
                    refine K.fieldL Y (rV 0 S W0 s0 b0 o0 eTR08Mark 8 l0) ((v5).toNat) 0 0 (hI0.is 0) (atL_get hx13) (gd1 rfl rfl rfl (h13)) rfl rfl t73 rfl rfl rfl rfl ?_
                    refine K.load1L Y (rV 0 S W0 s0 b0 o0 eTR08Mark 8 l0) ((v5).toNat) 0 (hI0.is 0) (atL_get hx13) (gd1 rfl rfl rfl (h13)) rfl rfl t3 rfl rfl ?_
                    refine K.bin (V := .bool (x14.op.time == x13.op.time)) (gd1 rfl rfl rfl (h13)) rfl rfl (fun _ => rfl) rfl ?_
                    refine K.pickT (gd0 rfl) rfl (h13) rfl rfl ?_
                    refine K.nil ?_
                    refine ⟨by kernel_rfl, ?_⟩
                    refine At.next ?_
                    refine G.cond rfl (fun h14 => ?_) (fun h14 => ?_)
                    ·
                      replace H2 := bif_t H2 h14
                      refine G.rg ?_
                      refine K.move (.inl rfl) (gd0 rfl) rfl rfl ?_
                      refine K.bin (V := .int .i64 (w64 (x10 + 1))) (gd0 rfl) rfl rfl (fun _ => rfl) rfl ?_
                      refine K.move (.inr rfl) (gd0 rfl) rfl rfl ?_
                      refine K.nil ?_
                      refine At.next ?_
                      obtain ⟨h15, H2⟩ := grd H2
                      obtain ⟨h17, H2⟩ := grd H2
                      refine G.rg ?_
                      refine K.move (.inl rfl) (gd0 rfl) rfl rfl ?_
                      refine K.move (.inl rfl) (gd0 rfl) rfl rfl ?_
                      refine K.move (.inl rfl) (gd0 rfl) rfl rfl ?_
                      refine K.partL (((w64 (x10 + 1))).toNat) v4.length (gd0 rfl) rfl (.at_ rfl h15.1 rfl) .no rfl Try.underlying60 el60.size_run (tn_len h15.2) (Nat.le_refl _) rfl ?_
                      refine K.appendL 134 (lsubV 120 75 eTR08Mark 8 v4 (((w64 (x10 + 1))).toNat) v4.length) _ el60 (lsubV_is eTR08Mark_len (by decide) (tn_len h15.2) (Nat.le_refl _)) eTR08Mark_one (gd0 rfl) rfl rfl rfl rfl rfl (ap_m h17) (ap_b h17 (by decide)) rfl rfl rfl rfl rfl rfl ?_
                      refine K.move (.inr rfl) (gd0 rfl) rfl rfl ?_
                      refine K.nil ?_
                      refine At.block_normal ?_
                      exact At.joined (σ := { v : Pool (TNode TMark TSwell) × Int × Int × List TR08Mark // x7 = Sum.inr v }) (Fs := fun q => [(0, SV.raw s0), (1, .a (.c (.v (.int .i64 a1)))), (2, .a (.c (.v (.int .i64 a2)))), (7, .a (.c (.p 115 0))), (8, .a (.c (.nv 117))), (9, .a (.c (.v (.int .i64 v5))))]) (Tl := fun q => [(0, rd S W0), (116, plM 116 q.1.1), (115, blk 115 [.p 116 0, .v (.int .i64 q.1.2.1), .v (.int .i64 q.1.2.2.1)] 120), (117, lrow 117 75 eTR08Mark 8 q.1.2.2.2)]) ⟨(x9.2.2, x9.2.1.index, x9.2.1.gen, (((([] : List TR08Mark) ++ ((v4.drop 0).take (((x10).toNat) - 0))) ++ ([x13] : List TR08Mark)) ++ ((v4.drop (((w64 (x10 + 1))).toNat)).take (v4.length - (((w64 (x10 + 1))).toNat))))), (Option.some.inj H2).symm⟩ [(115, 118), (116, 119), (117, 134)] [_, _, _, _] rfl ⟨rfl, rfl, rfl, rfl, rfl, rfl, trivial⟩ ⟨rfl, (fun _ => rfl), rfl, (pl_ren rfl), rfl, (blk_ren rfl rfl), rfl, (lrow_ren rfl), trivial⟩ rfl
                    ·
                      replace H2 := bif_f H2 h14
                      refine G.skip ?_
                      refine At.next ?_
                      obtain ⟨h18, H2⟩ := grd H2
                      obtain ⟨h20, H2⟩ := grd H2
                      refine G.rg ?_
                      refine K.move (.inl rfl) (gd0 rfl) rfl rfl ?_
                      refine K.move (.inl rfl) (gd0 rfl) rfl rfl ?_
                      refine K.move (.inl rfl) (gd0 rfl) rfl rfl ?_
                      refine K.partL ((x10).toNat) v4.length (gd0 rfl) rfl (.at_ rfl h18.1 rfl) .no rfl Try.underlying60 el60.size_run (tn_len h18.2) (Nat.le_refl _) rfl ?_
                      refine K.appendL 135 (lsubV 120 75 eTR08Mark 8 v4 ((x10).toNat) v4.length) _ el60 (lsubV_is eTR08Mark_len (by decide) (tn_len h18.2) (Nat.le_refl _)) eTR08Mark_one (gd0 rfl) rfl rfl rfl rfl rfl (ap_m h20) (ap_b h20 (by decide)) rfl rfl rfl rfl rfl rfl ?_
                      refine K.move (.inr rfl) (gd0 rfl) rfl rfl ?_
                      refine K.nil ?_
                      refine At.block_normal ?_
                      exact At.joined (σ := { v : Pool (TNode TMark TSwell) × Int × Int × List TR08Mark // x7 = Sum.inr v }) (Fs := fun q => [(0, SV.raw s0), (1, .a (.c (.v (.int .i64 a1)))), (2, .a (.c (.v (.int .i64 a2)))), (7, .a (.c (.p 115 0))), (8, .a (.c (.nv 117))), (9, .a (.c (.v (.int .i64 v5))))]) (Tl := fun q => [(0, rd S W0), (116, plM 116 q.1.1), (115, blk 115 [.p 116 0, .v (.int .i64 q.1.2.1), .v (.int .i64 q.1.2.2.1)] 120), (117, lrow 117 75 eTR08Mark 8 q.1.2.2.2)]) ⟨(x9.2.2, x9.2.1.index, x9.2.1.gen, (((([] : List TR08Mark) ++ ((v4.drop 0).take (((x10).toNat) - 0))) ++ ([x13] : List TR08Mark)) ++ ((v4.drop ((x10).toNat)).take (v4.length - ((x10).toNat))))), (Option.some.inj H2).symm⟩ [(115, 118), (116, 119), (117, 135)] [_, _, _, _] rfl ⟨rfl, rfl, rfl, rfl, rfl, rfl, trivial⟩ ⟨rfl, (fun _ => rfl), rfl, (pl_ren rfl), rfl, (blk_ren rfl rfl), rfl, (lrow_ren rfl), trivial⟩ rfl
                  ·
                    replace H2 := bif_f H2 h13
                    refine G.rd mixed ?_
                    refine K.move (.inl rfl) (gd0 rfl) rfl rfl ?_
                    refine K.move (.inl rfl) (gd0 rfl) rfl rfl ?_
                    refine K.lenL (lrowV 120 75 eTR08Mark 8 v4) (lrowV_is eTR08Mark_len (by decide)) (gd0 rfl) rfl rfl Try.underlying60 rfl ?_
                    refine K.bin (V := .bool (decide (x10 < (v4.length : Int)))) (gd0 rfl) rfl rfl (fun _ => rfl) rfl ?_
                    refine K.move (.inl rfl) (gd0 rfl) rfl rfl ?_
                    refine K.skip rfl rfl rfl rfl (h13) rfl ?_
                    refine K.skip rfl rfl rfl rfl (h13) rfl ?_
                    refine K.skip rfl rfl rfl rfl (h13) rfl ?_
                    refine K.skip rfl rfl rfl rfl (h13) rfl ?_
                    refine K.skip rfl rfl rfl rfl (h13) rfl ?_
                    refine K.skip rfl rfl rfl rfl (h13) rfl ?_
                    refine K.skip rfl rfl rfl rfl (h13) rfl ?_
                    refine K.skip rfl rfl rfl rfl (h13) rfl ?_
                    refine K.skip rfl rfl rfl rfl (h13) rfl ?_
                    refine K.skip rfl rfl rfl rfl (h13) rfl ?_
                    refine K.skip rfl rfl rfl rfl (h13) rfl ?_
                    refine K.skip rfl rfl rfl rfl (h13) rfl ?_
                    refine K.skip rfl rfl rfl rfl (h13) rfl ?_
                    refine K.pickF (gd0 rfl) rfl (h13) rfl rfl ?_
                    refine K.nil ?_
                    refine ⟨by kernel_rfl, ?_⟩
                    refine At.next ?_
                    refine G.cond rfl (fun h21 => ?_) (fun h21 => ?_)
                    · cases h21
                    ·
                      refine G.skip ?_
                      refine At.next ?_
                      obtain ⟨h22, H2⟩ := grd H2
                      obtain ⟨h24, H2⟩ := grd H2
                      refine G.rg ?_
                      refine K.move (.inl rfl) (gd0 rfl) rfl rfl ?_
                      refine K.move (.inl rfl) (gd0 rfl) rfl rfl ?_
                      refine K.move (.inl rfl) (gd0 rfl) rfl rfl ?_
                      refine K.partL ((x10).toNat) v4.length (gd0 rfl) rfl (.at_ rfl h22.1 rfl) .no rfl Try.underlying60 el60.size_run (tn_len h22.2) (Nat.le_refl _) rfl ?_
                      refine K.appendL 136 (lsubV 120 75 eTR08Mark 8 v4 ((x10).toNat) v4.length) _ el60 (lsubV_is eTR08Mark_len (by decide) (tn_len h22.2) (Nat.le_refl _)) eTR08Mark_one (gd0 rfl) rfl rfl rfl rfl rfl (ap_m h24) (ap_b h24 (by decide)) rfl rfl rfl rfl rfl rfl ?_
                      refine K.move (.inr rfl) (gd0 rfl) rfl rfl ?_
                      refine K.nil ?_
                      refine At.block_normal ?_
                      exact At.joined (σ := { v : Pool (TNode TMark TSwell) × Int × Int × List TR08Mark // x7 = Sum.inr v }) (Fs := fun q => [(0, SV.raw s0), (1, .a (.c (.v (.int .i64 a1)))), (2, .a (.c (.v (.int .i64 a2)))), (7, .a (.c (.p 115 0))), (8, .a (.c (.nv 117))), (9, .a (.c (.v (.int .i64 v5))))]) (Tl := fun q => [(0, rd S W0), (116, plM 116 q.1.1), (115, blk 115 [.p 116 0, .v (.int .i64 q.1.2.1), .v (.int .i64 q.1.2.2.1)] 120), (117, lrow 117 75 eTR08Mark 8 q.1.2.2.2)]) ⟨(x9.2.2, x9.2.1.index, x9.2.1.gen, (((([] : List TR08Mark) ++ ((v4.drop 0).take (((x10).toNat) - 0))) ++ ([x13] : List TR08Mark)) ++ ((v4.drop ((x10).toNat)).take (v4.length - ((x10).toNat))))), (Option.some.inj H2).symm⟩ [(115, 118), (116, 119), (117, 136)] [_, _, _, _] rfl ⟨rfl, rfl, rfl, rfl, rfl, rfl, trivial⟩ ⟨rfl, (fun _ => rfl), rfl, (pl_ren rfl), rfl, (blk_ren rfl rfl), rfl, (lrow_ren rfl), trivial⟩ rfl
            ·
              rintro ⟨v7, rfl⟩
              replace H1 := sum_r H1
              show G _ _ [(0, SV.raw s0), (1, .a (.c (.v (.int .i64 a1)))), (2, .a (.c (.v (.int .i64 a2)))), (7, .a (.c (.p 115 0))), (8, .a (.c (.nv 117))), (9, .a (.c (.v (.int .i64 v5))))] [(0, some (rd S W0)), (116, some (plM 116 v7.1)), (115, some (blk 115 [.p 116 0, .v (.int .i64 v7.2.1), .v (.int .i64 v7.2.2.1)] 120)), (117, some (lrow 117 75 eTR08Mark 8 v7.2.2.2))] _ _
              refine G.rg ?_
              refine K.move (.inl rfl) (gd0 rfl) rfl rfl ?_
              refine K.bin (V := .int .i64 (w64 (v5 + 1))) (gd0 rfl) rfl rfl (fun _ => rfl) rfl ?_
              refine K.move (.inr rfl) (gd0 rfl) rfl rfl ?_
              refine K.nil ?_
              exact At.again (σ := { q : Nat × (Pool (TNode TMark TSwell) × Int × Int × List TR08Mark × Int) // Lw08_WaveTrees.l0 k l0 q.1 q.2 = some x6 }) (Fs := fun q => [(0, SV.raw s0), (1, .a (.c (.v (.int .i64 a1)))), (2, .a (.c (.v (.int .i64 a2)))), (7, .a (.c (.p 112 0))), (8, .a (.c (.nv 114))), (9, .a (.c (.v (.int .i64 q.1.2.2.2.2.2))))]) (Tl := fun q => [(0, rd S W0), (113, plM 113 q.1.2.1), (112, blk 112 [.p 113 0, .v (.int .i64 q.1.2.2.1), .v (.int .i64 q.1.2.2.2.1)] 120), (114, lrow 114 75 eTR08Mark 8 q.1.2.2.2.2.1)]) (μ := fun q => q.1.1) (s := ⟨(n0 + 1, (v1, v2, v3, v4, v5)), HL0⟩) ⟨(n0, (v7.1, v7.2.1, v7.2.2.1, v7.2.2.2, (w64 (v5 + 1)))), H1⟩ [(112, 115), (113, 116), (114, 117)] [_, _, _, _] (Nat.lt_succ_self _) rfl ⟨rfl, rfl, rfl, rfl, rfl, rfl, trivial⟩ ⟨rfl, (fun _ => rfl), rfl, (pl_ren rfl), rfl, (blk_ren rfl rfl), rfl, (lrow_ren rfl), trivial⟩ rfl
          ·
            replace H1 := bif_f H1 h4
            refine G.exit ?_
            refine At.over_exit ?_
            refine At.over_exit ?_
            refine At.block_hit ?_
            exact At.joined (σ := { v : Pool (TNode TMark TSwell) × Int × Int × List TR08Mark // x6 = Sum.inr v }) (Fs := fun q => [(1, .a (.c (.v (.int .i64 a1)))), (2, .a (.c (.v (.int .i64 a2)))), (7, .a (.c (.p 103 0))), (8, .a (.c (.nv 105)))]) (Tl := fun q => [(0, rd S W0), (104, plM 104 q.1.1), (103, blk 103 [.p 104 0, .v (.int .i64 q.1.2.1), .v (.int .i64 q.1.2.2.1)] 120), (105, lrow 105 75 eTR08Mark 8 q.1.2.2.2)]) ⟨(v1, v2, v3, v4), (Option.some.inj H1).symm⟩ [(103, 112), (104, 113), (105, 114)] [_, _, _, _] rfl ⟨rfl, rfl, rfl, rfl, trivial⟩ ⟨rfl, (fun _ => rfl), rfl, (pl_ren rfl), rfl, (blk_ren rfl rfl), rfl, (lrow_ren rfl), trivial⟩ rfl
    ·
      rintro ⟨v6, rfl⟩
      replace H0 := sum_r H0
      show G _ _ [(1, .a (.c (.v (.int .i64 a1)))), (2, .a (.c (.v (.int .i64 a2)))), (7, .a (.c (.p 103 0))), (8, .a (.c (.nv 105)))] [(0, some (rd S W0)), (104, some (plM 104 v6.1)), (103, some (blk 103 [.p 104 0, .v (.int .i64 v6.2.1), .v (.int .i64 v6.2.2.1)] 120)), (105, some (lrow 105 75 eTR08Mark 8 v6.2.2.2))] _ _
      refine G.seq ?_
      refine G.seq ?_
      obtain ⟨x15, hx15, H0⟩ := bnd H0
      refine G.rg ?_
      refine K.move (.inl rfl) (gd0 rfl) rfl rfl ?_
      refine K.callR [(.func 45, _), ((.tmp 110), _)] (Tree_LenM_con (k := k) hx15 103 104) (toFn_func (cf 45 rfl) rfl) (gd0 rfl) ⟨rfl, rfl, trivial⟩ ⟨rfl, rfl, trivial⟩ rfl rfl rfl ?_
      refine K.move (.inl rfl) (gd0 rfl) rfl rfl ?_
      refine K.lenL (lrowV 105 75 eTR08Mark 8 v6.2.2.2) (lrowV_is eTR08Mark_len (by decide)) (gd0 rfl) rfl rfl Try.underlying60 rfl ?_
      refine K.bin (V := .bool (x15 != (v6.2.2.2.length : Int))) (gd0 rfl) rfl rfl (fun _ => rfl) rfl ?_
      refine K.nil ?_
      refine At.next ?_
      refine G.cond rfl (fun h25 => ?_) (fun h25 => ?_)
      ·
        replace H0 := bif_t H0 h25
        refine G.seq ?_
        refine G.rg ?_
        refine K.move (.inr rfl) (gd0 rfl) rfl rfl ?_
        refine K.nil ?_
        refine At.next ?_
        refine G.ret ?_
        refine At.over_ret ?_
        refine At.done Y [(.tmp 6, .c _)] rfl ⟨.tmp rfl, trivial⟩ (to' := [(0, _)]) ⟨rfl, trivial⟩ ?_ ?_ rfl rfl rfl (.inl rfl)
        · cases H0; rfl
        · cases H0; rfl
      ·
        replace H0 := bif_f H0 h25
        refine G.skip ?_
        refine At.next ?_
        obtain ⟨x16, H1, H0⟩ := bnd H0
        refine G.seqJ (σ := { v : Unit // x16 = Sum.inr v }) (fun q => [(1, .a (.c (.v (.int .i64 a1)))), (2, .a (.c (.v (.int .i64 a2)))), (7, .a (.c (.p 137 0))), (8, .a (.c (.nv 139)))]) (fun q => [(0, rd S W0), (138, plM 138 v6.1), (137, blk 137 [.p 138 0, .v (.int .i64 v6.2.1), .v (.int .i64 v6.2.2.1)] 120), (139, lrow 139 75 eTR08Mark 8 v6.2.2.2)]) ?_ ?_
        ·
          refine G.seq ?_
          refine G.rg ?_
          refine K.move (.inr rfl) (gd0 rfl) rfl rfl ?_
          refine K.nil ?_
          refine At.next ?_
          refine G.block ?_
          refine G.loop (σ := { q : Nat × (Int) // Lw08_WaveTrees.l2 k v6 q.1 q.2 = some x16 }) (fun q => [(1, .a (.c (.v (.int .i64 a1)))), (2, .a (.c (.v (.int .i64 a2)))), (7, .a (.c (.p 146 0))), (8, .a (.c (.nv 148))), (12, .a (.c (.v (.int .i64 q.1.2))))]) (fun q => [(0, rd S W0), (147, plM 147 v6.1), (146, blk 146 [.p 147 0, .v (.int .i64 v6.2.1), .v (.int .i64 v6.2.2.1)] 120), (148, lrow 148 75 eTR08Mark 8 v6.2.2.2)]) (fun q => q.1.1) ⟨(k, 0), H1⟩ ?_ ?_
          · exact At.into [(146, 103), (147, 104), (148, 105)] [_, _, _, _] rfl ⟨rfl, rfl, rfl, rfl, rfl, trivial⟩ ⟨rfl, (fun _ => rfl), rfl, (pl_ren rfl), rfl, (blk_ren rfl rfl), rfl, (lrow_ren rfl), trivial⟩ rfl
          ·
            rintro ⟨⟨n0, v201⟩, H1⟩
            show G _ _ [(1, .a (.c (.v (.int .i64 a1)))), (2, .a (.c (.v (.int .i64 a2)))), (7, .a (.c (.p 146 0))), (8, .a (.c (.nv 148))), (12, .a (.c (.v (.int .i64 v201))))] [(0, some (rd S W0)), (147, some (plM 147 v6.1)), (146, some (blk 146 [.p 147 0, .v (.int .i64 v6.2.1), .v (.int .i64 v6.2.2.1)] 120)), (148, some (lrow 148 75 eTR08Mark 8 v6.2.2.2))] _ _
            cases n0 with
            | zero => exact absurd H1 (by simp [Lw08_WaveTrees.l2])
            | succ n0 =>
              have HL2 := H1
              rw [Lw08_WaveTrees.l2] at H1
              refine G.seq ?_
              refine G.seq ?_
              refine G.rg ?_
              refine K.move (.inl rfl) (gd0 rfl) rfl rfl ?_
              refine K.move (.inl rfl) (gd0 rfl) rfl rfl ?_
              refine K.lenL (lrowV 148 75 eTR08Mark 8 v6.2.2.2) (lrowV_is eTR08Mark_len (by decide)) (gd0 rfl) rfl rfl Try.underlying60 rfl ?_
              refine K.bin (V := .bool (decide (v201 < (v6.2.2.2.length : Int)))) (gd0 rfl) rfl rfl (fun _ => rfl) rfl ?_
              refine K.nil ?_
              refine At.next ?_
              refine G.cond rfl (fun h26 => ?_) (fun h26 => ?_)
              ·
                replace H1 := bif_t H1 h26
                refine G.skip ?_
                refine At.next ?_
                refine G.seq ?_
                refine G.block ?_
                refine G.seq ?_
                obtain ⟨x17, hx17, H1⟩ := bnd H1
                obtain ⟨x18, hx18, H1⟩ := bnd H1
                obtain ⟨x19, hx19, H1⟩ := bnd H1
                refine G.rg ?_
                refine K.move (.inl rfl) (gd0 rfl) rfl rfl ?_
                refine K.move (.inl rfl) (gd0 rfl) rfl rfl ?_
                refine K.move (.inl rfl) (gd0 rfl) rfl rfl ?_
                refine K.idxL (lrowV 148 75 eTR08Mark 8 v6.2.2.2) ((v201).toNat) (lrowV_is eTR08Mark_len (by decide)) (atL_get hx17) (atL_nn hx17) (gd0 rfl) rfl rfl rfl Try.underlying60 el60.size_run rfl ?_
                refine K.fieldL Y (lrowV 148 75 eTR08Mark 8 v6.2.2.2) ((v201).toNat) 0 0 (lrowV_is eTR08Mark_len (by decide)) (atL_get hx17) (gd0 rfl) rfl rfl t75 rfl rfl rfl rfl ?_
                refine K.fieldL Y (lrowV 148 75 eTR08Mark 8 v6.2.2.2) ((v201).toNat) 0 0 (lrowV_is eTR08Mark_len (by decide)) (atL_get hx17) (gd0 rfl) rfl rfl t73 rfl rfl rfl rfl ?_
                refine K.load1L Y (lrowV 148 75 eTR08Mark 8 v6.2.2.2) ((v201).toNat) 0 (lrowV_is eTR08Mark_len (by decide)) (atL_get hx17) (gd0 rfl) rfl rfl t3 rfl rfl ?_
                refine K.callR [(.func 47, _), ((.tmp 128), _)] (wave_Key_con (k := k) hx18) (toFn_func (cf 47 rfl) rfl) (gd0 rfl) ⟨rfl, rfl, trivial⟩ trivial rfl rfl rfl ?_
                refine K.callR [(.func 46, _), ((.tmp 122), _), ((.tmp 129), _)] (Tree_FindM_con (k := k) hx19 146 147) (toFn_func (cf 46 rfl) rfl) (gd0 rfl) ⟨rfl, rfl, rfl, trivial⟩ ⟨rfl, rfl, trivial⟩ rfl rfl rfl ?_
                refine K.move (.inl rfl) (gd0 rfl) rfl rfl ?_
                refine K.extract (gd0 rfl) rfl rfl rfl ?_
                refine K.extract (gd0 rfl) rfl rfl rfl ?_
                refine K.alloc Y 149 [_, _, _, _, _, _, _, _] (gd0 rfl) t82 rfl rfl rfl rfl rfl ?_
                refine K.store Y [_, _, _, _, _, _, _, _] (gd0 rfl) rfl rfl rfl t82 rfl rfl rfl rfl rfl ?_
                refine K.move (.inr rfl) (gd0 rfl) rfl rfl ?_
                refine K.nil ?_
                refine At.next ?_
                refine G.seq ?_
                rcases Bool.eq_false_or_eq_true (!x19.2) with h27 | h27
                ·
                  replace H1 := bif_t H1 h27
                  refine G.rd mixed ?_
                  refine K.move (.inl rfl) (gd0 rfl) rfl rfl ?_
                  refine K.un (V := .bool (!x19.2)) (gd0 rfl) rfl (fun _ => rfl) rfl ?_
                  refine K.move (.inl rfl) (gd0 rfl) rfl rfl ?_
                  refine K.skip rfl rfl rfl rfl (h27) rfl ?_
                  refine K.skip rfl rfl rfl rfl (h27) rfl ?_
                  refine K.skip rfl rfl rfl rfl (h27) rfl ?_
                  refine K.skip rfl rfl rfl rfl (h27) rfl ?_
                  refine K.skip rfl rfl rfl rfl (h27) rfl ?_
                  refine K.skip rfl rfl rfl rfl (h27) rfl ?_
                  refine K.skip rfl rfl rfl rfl (h27) rfl ?_
                  refine K.skip rfl rfl rfl rfl (h27) rfl ?_
                  refine K.pickT (gd0 rfl) rfl (h27) rfl rfl ?_
                  refine K.move (.inl rfl) (gd0 rfl) rfl rfl ?_
                  refine K.skip rfl rfl rfl rfl (rfl) rfl ?_
                  refine K.skip rfl rfl rfl rfl (rfl) rfl ?_
                  refine K.skip rfl rfl rfl rfl (rfl) rfl ?_
                  refine K.skip rfl rfl rfl rfl (rfl) rfl ?_
                  refine K.skip rfl rfl rfl rfl (rfl) rfl ?_
                  refine K.skip rfl rfl rfl rfl (rfl) rfl ?_
                  refine K.skip rfl rfl rfl rfl (rfl) rfl ?_
                  refine K.skip rfl rfl rfl rfl (rfl) rfl ?_
                  refine K.pickT (gd0 rfl) rfl (rfl) rfl rfl ?_
                  refine K.move (.inl rfl) (gd0 rfl) rfl rfl ?_
                  refine K.skip rfl rfl rfl rfl (rfl) rfl ?_
                  refine K.skip rfl rfl rfl rfl (rfl) rfl ?_
                  refine K.skip rfl rfl rfl rfl (rfl) rfl ?_
                  refine K.skip rfl rfl rfl rfl (rfl) rfl ?_
                  refine K.skip rfl rfl rfl rfl (rfl) rfl ?_
                  refine K.skip rfl rfl rfl rfl (rfl) rfl ?_
                  refine K.skip rfl rfl rfl rfl (rfl) rfl ?_
                  refine K.skip rfl rfl rfl rfl (rfl) rfl ?_
                  refine K.pickT (gd0 rfl) rfl (rfl) rfl rfl ?_
                  refine K.move (.inl rfl) (gd0 rfl) rfl rfl ?_
                  refine K.skip rfl rfl rfl rfl (rfl) rfl ?_
                  refine K.skip rfl rfl rfl rfl (rfl) rfl ?_
                  refine K.skip rfl rfl rfl rfl (rfl) rfl ?_
                  refine K.skip rfl rfl rfl rfl (rfl) rfl ?_
                  refine K.skip rfl rfl rfl rfl (rfl) rfl ?_
                  refine K.skip rfl rfl rfl rfl (rfl) rfl ?_
                  refine K.skip rfl rfl rfl rfl (rfl) rfl ?_
                  refine K.skip rfl rfl rfl rfl (rfl) rfl ?_
                  refine K.skip rfl rfl rfl rfl (rfl) rfl ?_
                  refine K.skip rfl rfl rfl rfl (rfl) rfl ?_
                  refine K.skip rfl rfl rfl rfl (rfl) rfl ?_
                  refine K.pickT (gd0 rfl) rfl (rfl) rfl rfl ?_
                  refine K.nil ?_
                  refine ⟨by kernel_rfl, ?_⟩
                  refine At.next ?_
                  refine G.cond rfl (fun h28 => ?_) (fun h28 => ?_)
                  ·
                    refine G.seq ?_
                    refine G.rg ?_
                    refine K.move (.inr rfl) (gd0 rfl) rfl rfl ?_
                    refine K.nil ?_
                    refine At.next ?_
                    refine G.ret ?_
                    refine At.block_ret ?_
                    refine At.over_ret ?_
                    refine At.over_ret ?_
                    refine At.block_ret ?_
                    refine At.over_ret ?_
                    cases H1
                    replace H0 := sum_l H0
                    refine At.done Y [(.tmp 6, .c _)] rfl ⟨.tmp rfl, trivial⟩ (to' := [(0, _)]) ⟨rfl, trivial⟩ ?_ ?_ rfl rfl rfl (.inl rfl)
                    · cases H0; rfl
                    · cases H0; rfl
                  · cases h28
                ·
                  replace H1 := bif_f H1 h27
                  rcases Bool.eq_false_or_eq_true (!((x19.1.op.time == x17.op.time) && ((x19.1.op.insert == x17.op.insert) && ((x19.1.op.item.key == x17.op.item.key) && ((x19.1.op.item.id == x17.op.item.id) && true))))) with h29 | h29
                  ·
                    replace H1 := bif_t H1 h29
                    refine G.rd mixed ?_
                    refine K.move (.inl rfl) (gd0 rfl) rfl rfl ?_
                    refine K.un (V := .bool (!x19.2)) (gd0 rfl) rfl (fun _ => rfl) rfl ?_
                    refine K.move (.inl rfl) (gd0 rfl) rfl rfl ?_
                    refine K.fieldAddr Y (gd1 rfl rfl rfl (h27)) rfl t82 rfl rfl ?_
                    refine K.loadS Y [_, _, _, _] (gd1 rfl rfl rfl (h27)) rfl rfl t73 rfl rfl rfl ?_
                    refine K.move (.inl rfl) (gd1 rfl rfl rfl (h27)) rfl rfl ?_
                    refine K.move (.inl rfl) (gd1 rfl rfl rfl (h27)) rfl rfl ?_
                    refine K.idxL (lrowV 148 75 eTR08Mark 8 v6.2.2.2) ((v201).toNat) (lrowV_is eTR08Mark_len (by decide)) (atL_get hx17) (atL_nn hx17) (gd1 rfl rfl rfl (h27)) rfl rfl rfl Try.underlying60 el60.size_run rfl ?_
                    refine K.fieldL Y (lrowV 148 75 eTR08Mark 8 v6.2.2.2) ((v201).toNat) 0 0 (lrowV_is eTR08Mark_len (by decide)) (atL_get hx17) (gd1 rfl rfl rfl (h27)) rfl rfl t75 rfl rfl rfl rfl ?_
                    refine K.loadSL Y (lrowV 148 75 eTR08Mark 8 v6.2.2.2) ((v201).toNat) 0 [_, _, _, _] [_, _, _, _] (lrowV_is eTR08Mark_len (by decide)) (atL_get hx17) (gd1 rfl rfl rfl (h27)) rfl rfl t73 rfl rfl rfl rfl rfl ?_
                    refine K.eqS [_, _, _, _] [_, _, _, _] (gd1 rfl rfl rfl (h27)) rfl rfl cmp73 rfl (.inr rfl) (!((x19.1.op.time == x17.op.time) && ((x19.1.op.insert == x17.op.insert) && ((x19.1.op.item.key == x17.op.item.key) && ((x19.1.op.item.id == x17.op.item.id) && true))))) rfl rfl ?_
                    refine K.pickF (gd0 rfl) rfl (h27) rfl rfl ?_
                    refine K.move (.inl rfl) (gd0 rfl) rfl rfl ?_
                    refine K.skip rfl rfl rfl rfl (h29) rfl ?_
                    refine K.skip rfl rfl rfl rfl (h29) rfl ?_
                    refine K.skip rfl rfl rfl rfl (h29) rfl ?_
                    refine K.skip rfl rfl rfl rfl (h29) rfl ?_
                    refine K.skip rfl rfl rfl rfl (h29) rfl ?_
                    refine K.skip rfl rfl rfl rfl (h29) rfl ?_
                    refine K.skip rfl rfl rfl rfl (h29) rfl ?_
                    refine K.skip rfl rfl rfl rfl (h29) rfl ?_
                    refine K.pickT (gd0 rfl) rfl (h29) rfl rfl ?_
                    refine K.move (.inl rfl) (gd0 rfl) rfl rfl ?_
                    refine K.skip rfl rfl rfl rfl (rfl) rfl ?_
                    refine K.skip rfl rfl rfl rfl (rfl) rfl ?_
                    refine K.skip rfl rfl rfl rfl (rfl) rfl ?_
                    refine K.skip rfl rfl rfl rfl (rfl) rfl ?_
                    refine K.skip rfl rfl rfl rfl (rfl) rfl ?_
                    refine K.skip rfl rfl rfl rfl (rfl) rfl ?_
                    refine K.skip rfl rfl rfl rfl (rfl) rfl ?_
                    refine K.skip rfl rfl rfl rfl (rfl) rfl ?_
                    refine K.pickT (gd0 rfl) rfl (rfl) rfl rfl ?_
                    refine K.move (.inl rfl) (gd0 rfl) rfl rfl ?_
                    refine K.skip rfl rfl rfl rfl (rfl) rfl ?_
                    refine K.skip rfl rfl rfl rfl (rfl) rfl ?_
                    refine K.skip rfl rfl rfl rfl (rfl) rfl ?_
                    refine K.skip rfl rfl rfl rfl (rfl) rfl ?_
                    refine K.skip rfl rfl rfl rfl (rfl) rfl ?_
                    refine K.skip rfl rfl rfl rfl (rfl) rfl ?_
                    refine K.skip rfl rfl rfl rfl (rfl) rfl ?_
                    refine K.skip rfl rfl rfl rfl (rfl) rfl ?_
                    refine K.skip rfl rfl rfl rfl (rfl) rfl ?_
                    refine K.skip rfl rfl rfl rfl (rfl) rfl ?_
                    refine K.skip rfl rfl rfl rfl (rfl) rfl ?_
                    refine K.pickT (gd0 rfl) rfl (rfl) rfl rfl ?_
                    refine K.nil ?_
                    refine ⟨by kernel_rfl, ?_⟩
                    refine At.next ?_
                    refine G.cond rfl (fun h30 => ?_) (fun h30 => ?_)
                    ·
                      refine G.seq ?_
                      refine G.rg ?_
                      refine K.move (.inr rfl) (gd0 rfl) rfl rfl ?_
                      refine K.nil ?_
                      refine At.next ?_
                      refine G.ret ?_
                      refine At.block_ret ?_
                      refine At.over_ret ?_
                      refine At.over_ret ?_
                      refine At.block_ret ?_
                      refine At.over_ret ?_
                      cases H1
                      replace H0 := sum_l H0
                      refine At.done Y [(.tmp 6, .c _)] rfl ⟨.tmp rfl, trivial⟩ (to' := [(0, _)]) ⟨rfl, trivial⟩ ?_ ?_ rfl rfl rfl (.inl rfl)
                      · cases H0; rfl
                      · cases H0; rfl
                    · cases h30
                  ·
                    replace H1 := bif_f H1 h29
                    rcases Bool.eq_false_or_eq_true (!(x19.1.here == x17.here)) with h31 | h31
                    ·
                      replace H1 := bif_t H1 h31
                      refine G.rd mixed ?_
                      refine K.move (.inl rfl) (gd0 rfl) rfl rfl ?_
                      refine K.un (V := .bool (!x19.2)) (gd0 rfl) rfl (fun _ => rfl) rfl ?_
                      refine K.move (.inl rfl) (gd0 rfl) rfl rfl ?_
                      refine K.fieldAddr Y (gd1 rfl rfl rfl (h27)) rfl t82 rfl rfl ?_
                      refine K.loadS Y [_, _, _, _] (gd1 rfl rfl rfl (h27)) rfl rfl t73 rfl rfl rfl ?_
                      refine K.move (.inl rfl) (gd1 rfl rfl rfl (h27)) rfl rfl ?_
                      refine K.move (.inl rfl) (gd1 rfl rfl rfl (h27)) rfl rfl ?_
                      refine K.idxL (lrowV 148 75 eTR08Mark 8 v6.2.2.2) ((v201).toNat) (lrowV_is eTR08Mark_len (by decide)) (atL_get hx17) (atL_nn hx17) (gd1 rfl rfl rfl (h27)) rfl rfl rfl Try.underlying60 el60.size_run rfl ?_
                      refine K.fieldL Y (lrowV 148 75 eTR08Mark 8 v6.2.2.2) ((v201).toNat) 0 0 (lrowV_is eTR08Mark_len (by decide)) (atL_get hx17) (gd1 rfl rfl rfl (h27)) rfl rfl t75 rfl rfl rfl rfl ?_
                      refine K.loadSL Y (lrowV 148 75 eTR08Mark 8 v6.2.2.2) ((v201).toNat) 0 [_, _, _, _] [_, _, _, _] (lrowV_is eTR08Mark_len (by decide)) (atL_get hx17) (gd1 rfl rfl rfl (h27)) rfl rfl t73 rfl rfl rfl rfl rfl ?_
                      refine K.eqS [_, _, _, _] [_, _, _, _] (gd1 rfl rfl rfl (h27)) rfl rfl cmp73 rfl (.inr rfl) (!((x19.1.op.time == x17.op.time) && ((x19.1.op.insert == x17.op.insert) && ((x19.1.op.item.key == x17.op.item.key) && ((x19.1.op.item.id == x17.op.item.id) && true))))) rfl rfl ?_
                      refine K.pickF (gd0 rfl) rfl (h27) rfl rfl ?_
                      refine K.move (.inl rfl) (gd0 rfl) rfl rfl ?_
                      refine K.fieldAddr Y (gd1 rfl rfl rfl (h29)) rfl t82 rfl rfl ?_
                      refine K.load1 Y (gd1 rfl rfl rfl (h29)) rfl rfl t4 rfl rfl ?_
                      refine K.move (.inl rfl) (gd1 rfl rfl rfl (h29)) rfl rfl ?_
                      refine K.move (.inl rfl) (gd1 rfl rfl rfl (h29)) rfl rfl ?_
                      refine K.idxL (lrowV 148 75 eTR08Mark 8 v6.2.2.2) ((v201).toNat) (lrowV_is eTR08Mark_len (by decide)) (atL_get hx17) (atL_nn hx17) (gd1 rfl rfl rfl (h29)) rfl rfl rfl Try.underlying60 el60.size_run rfl ?_
                      refine K.fieldL Y (lrowV 148 75 eTR08Mark 8 v6.2.2.2) ((v201).toNat) 0 4 (lrowV_is eTR08Mark_len (by decide)) (atL_get hx17) (gd1 rfl rfl rfl (h29)) rfl rfl t75 rfl rfl rfl rfl ?_
                      refine K.load1L Y (lrowV 148 75 eTR08Mark 8 v6.2.2.2) ((v201).toNat) 4 (lrowV_is eTR08Mark_len (by decide)) (atL_get hx17) (gd1 rfl rfl rfl (h29)) rfl rfl t4 rfl rfl ?_
                      refine K.bin (V := .bool (!(x19.1.here == x17.here))) (gd1 rfl rfl rfl (h29)) rfl rfl (bq_neq Try.underlying4 _ _) rfl ?_
                      refine K.pickF (gd0 rfl) rfl (h29) rfl rfl ?_
                      refine K.move (.inl rfl) (gd0 rfl) rfl rfl ?_
                      refine K.skip rfl rfl rfl rfl (h31) rfl ?_
                      refine K.skip rfl rfl rfl rfl (h31) rfl ?_
                      refine K.skip rfl rfl rfl rfl (h31) rfl ?_
                      refine K.skip rfl rfl rfl rfl (h31) rfl ?_
                      refine K.skip rfl rfl rfl rfl (h31) rfl ?_
                      refine K.skip rfl rfl rfl rfl (h31) rfl ?_
                      refine K.skip rfl rfl rfl rfl (h31) rfl ?_
                      refine K.skip rfl rfl rfl rfl (h31) rfl ?_
                      refine K.pickT (gd0 rfl) rfl (h31) rfl rfl ?_
                      refine K.move (.inl rfl) (gd0 rfl) rfl rfl ?_
                      refine K.skip rfl rfl rfl rfl (rfl) rfl ?_
                      refine K.skip rfl rfl rfl rfl (rfl) rfl ?_
                      refine K.skip rfl rfl rfl rfl (rfl) rfl ?_
                      refine K.skip rfl rfl rfl rfl (rfl) rfl ?_
                      refine K.skip rfl rfl rfl rfl (rfl) rfl ?_
                      refine K.skip rfl rfl rfl rfl (rfl) rfl ?_
                      refine K.skip rfl rfl rfl rfl (rfl) rfl ?_
                      refine K.skip rfl rfl rfl rfl (rfl) rfl ?_
                      refine K.skip rfl rfl rfl rfl (rfl) rfl ?_
                      refine K.skip rfl rfl rfl rfl (rfl) rfl ?_
                      refine K.skip rfl rfl rfl rfl (rfl) rfl ?_
                      refine K.pickT (gd0 rfl) rfl (rfl) rfl rfl ?_
                      refine K.nil ?_
                      refine ⟨by kernel_rfl, ?_⟩
                      refine At.next ?_
                      refine G.cond rfl (fun h32 => ?_) (fun h32 => ?_)
                      ·
                        refine G.seq ?_
                        refine G.rg ?_
                        refine K.move (.inr rfl) (gd0 rfl) rfl rfl ?_
                        refine K.nil ?_
                        refine At.next ?_
                        refine G.ret ?_
                        refine At.block_ret ?_
                        refine At.over_ret ?_
                        refine At.over_ret ?_
                        refine At.block_ret ?_
                        refine At.over_ret ?_
                        cases H1
                        replace H0 := sum_l H0
                        refine At.done Y [(.tmp 6, .c _)] rfl ⟨.tmp rfl, trivial⟩ (to' := [(0, _)]) ⟨rfl, trivial⟩ ?_ ?_ rfl rfl rfl (.inl rfl)
                        · cases H0; rfl
                        · cases H0; rfl
                      · cases h32
                    ·
                      replace H1 := bif_f H1 h31
                      rcases Bool.eq_false_or_eq_true (!((x19.1.took.found == x17.took.found) && ((x19.1.took.item.key == x17.took.item.key) && ((x19.1.took.item.id == x17.took.item.id) && true)))) with h33 | h33
                      ·
                        replace H1 := bif_t H1 h33
                        refine G.rd mixed ?_
                        refine K.move (.inl rfl) (gd0 rfl) rfl rfl ?_
                        refine K.un (V := .bool (!x19.2)) (gd0 rfl) rfl (fun _ => rfl) rfl ?_
                        refine K.move (.inl rfl) (gd0 rfl) rfl rfl ?_
                        refine K.fieldAddr Y (gd1 rfl rfl rfl (h27)) rfl t82 rfl rfl ?_
                        refine K.loadS Y [_, _, _, _] (gd1 rfl rfl rfl (h27)) rfl rfl t73 rfl rfl rfl ?_
                        refine K.move (.inl rfl) (gd1 rfl rfl rfl (h27)) rfl rfl ?_
                        refine K.move (.inl rfl) (gd1 rfl rfl rfl (h27)) rfl rfl ?_
                        refine K.idxL (lrowV 148 75 eTR08Mark 8 v6.2.2.2) ((v201).toNat) (lrowV_is eTR08Mark_len (by decide)) (atL_get hx17) (atL_nn hx17) (gd1 rfl rfl rfl (h27)) rfl rfl rfl Try.underlying60 el60.size_run rfl ?_
                        refine K.fieldL Y (lrowV 148 75 eTR08Mark 8 v6.2.2.2) ((v201).toNat) 0 0 (lrowV_is eTR08Mark_len (by decide)) (atL_get hx17) (gd1 rfl rfl rfl (h27)) rfl rfl t75 rfl rfl rfl rfl ?_
                        refine K.loadSL Y (lrowV 148 75 eTR08Mark 8 v6.2.2.2) ((v201).toNat) 0 [_, _, _, _] [_, _, _, _] (lrowV_is eTR08Mark_len (by decide)) (atL_get hx17) (gd1 rfl rfl rfl (h27)) rfl rfl t73 rfl rfl rfl rfl rfl ?_
                        refine K.eqS [_, _, _, _] [_, _, _, _] (gd1 rfl rfl rfl (h27)) rfl rfl cmp73 rfl (.inr rfl) (!((x19.1.op.time == x17.op.time) && ((x19.1.op.insert == x17.op.insert) && ((x19.1.op.item.key == x17.op.item.key) && ((x19.1.op.item.id == x17.op.item.id) && true))))) rfl rfl ?_
                        refine K.pickF (gd0 rfl) rfl (h27) rfl rfl ?_
                        refine K.move (.inl rfl) (gd0 rfl) rfl rfl ?_
                        refine K.fieldAddr Y (gd1 rfl rfl rfl (h29)) rfl t82 rfl rfl ?_
                        refine K.load1 Y (gd1 rfl rfl rfl (h29)) rfl rfl t4 rfl rfl ?_
                        refine K.move (.inl rfl) (gd1 rfl rfl rfl (h29)) rfl rfl ?_
                        refine K.move (.inl rfl) (gd1 rfl rfl rfl (h29)) rfl rfl ?_
                        refine K.idxL (lrowV 148 75 eTR08Mark 8 v6.2.2.2) ((v201).toNat) (lrowV_is eTR08Mark_len (by decide)) (atL_get hx17) (atL_nn hx17) (gd1 rfl rfl rfl (h29)) rfl rfl rfl Try.underlying60 el60.size_run rfl ?_
                        refine K.fieldL Y (lrowV 148 75 eTR08Mark 8 v6.2.2.2) ((v201).toNat) 0 4 (lrowV_is eTR08Mark_len (by decide)) (atL_get hx17) (gd1 rfl rfl rfl (h29)) rfl rfl t75 rfl rfl rfl rfl ?_
                        refine K.load1L Y (lrowV 148 75 eTR08Mark 8 v6.2.2.2) ((v201).toNat) 4 (lrowV_is eTR08Mark_len (by decide)) (atL_get hx17) (gd1 rfl rfl rfl (h29)) rfl rfl t4 rfl rfl ?_
                        refine K.bin (V := .bool (!(x19.1.here == x17.here))) (gd1 rfl rfl rfl (h29)) rfl rfl (bq_neq Try.underlying4 _ _) rfl ?_
                        refine K.pickF (gd0 rfl) rfl (h29) rfl rfl ?_
                        refine K.move (.inl rfl) (gd0 rfl) rfl rfl ?_
                        refine K.fieldAddr Y (gd1 rfl rfl rfl (h31)) rfl t82 rfl rfl ?_
                        refine K.loadS Y [_, _, _] (gd1 rfl rfl rfl (h31)) rfl rfl t65 rfl rfl rfl ?_
                        refine K.move (.inl rfl) (gd1 rfl rfl rfl (h31)) rfl rfl ?_
                        refine K.move (.inl rfl) (gd1 rfl rfl rfl (h31)) rfl rfl ?_
                        refine K.idxL (lrowV 148 75 eTR08Mark 8 v6.2.2.2) ((v201).toNat) (lrowV_is eTR08Mark_len (by decide)) (atL_get hx17) (atL_nn hx17) (gd1 rfl rfl rfl (h31)) rfl rfl rfl Try.underlying60 el60.size_run rfl ?_
                        refine K.fieldL Y (lrowV 148 75 eTR08Mark 8 v6.2.2.2) ((v201).toNat) 0 5 (lrowV_is eTR08Mark_len (by decide)) (atL_get hx17) (gd1 rfl rfl rfl (h31)) rfl rfl t75 rfl rfl rfl rfl ?_
                        refine K.loadSL Y (lrowV 148 75 eTR08Mark 8 v6.2.2.2) ((v201).toNat) 5 [_, _, _] [_, _, _] (lrowV_is eTR08Mark_len (by decide)) (atL_get hx17) (gd1 rfl rfl rfl (h31)) rfl rfl t65 rfl rfl rfl rfl rfl ?_
                        refine K.eqS [_, _, _] [_, _, _] (gd1 rfl rfl rfl (h31)) rfl rfl cmp65 rfl (.inr rfl) (!((x19.1.took.found == x17.took.found) && ((x19.1.took.item.key == x17.took.item.key) && ((x19.1.took.item.id == x17.took.item.id) && true)))) rfl rfl ?_
                        refine K.pickF (gd0 rfl) rfl (h31) rfl rfl ?_
                        refine K.move (.inl rfl) (gd0 rfl) rfl rfl ?_
                        refine K.skip rfl rfl rfl rfl (h33) rfl ?_
                        refine K.skip rfl rfl rfl rfl (h33) rfl ?_
                        refine K.skip rfl rfl rfl rfl (h33) rfl ?_
                        refine K.skip rfl rfl rfl rfl (h33) rfl ?_
                        refine K.skip rfl rfl rfl rfl (h33) rfl ?_
                        refine K.skip rfl rfl rfl rfl (h33) rfl ?_
                        refine K.skip rfl rfl rfl rfl (h33) rfl ?_
                        refine K.skip rfl rfl rfl rfl (h33) rfl ?_
                        refine K.skip rfl rfl rfl rfl (h33) rfl ?_
                        refine K.skip rfl rfl rfl rfl (h33) rfl ?_
                        refine K.skip rfl rfl rfl rfl (h33) rfl ?_
                        refine K.pickT (gd0 rfl) rfl (h33) rfl rfl ?_
                        refine K.nil ?_
                        refine ⟨by kernel_rfl, ?_⟩
                        refine At.next ?_
                        refine G.cond rfl (fun h34 => ?_) (fun h34 => ?_)
                        ·
                          refine G.seq ?_
                          refine G.rg ?_
                          refine K.move (.inr rfl) (gd0 rfl) rfl rfl ?_
                          refine K.nil ?_
                          refine At.next ?_
                          refine G.ret ?_
                          refine At.block_ret ?_
                          refine At.over_ret ?_
                          refine At.over_ret ?_
                          refine At.block_ret ?_
                          refine At.over_ret ?_
                          cases H1
                          replace H0 := sum_l H0
                          refine At.done Y [(.tmp 6, .c _)] rfl ⟨.tmp rfl, trivial⟩ (to' := [(0, _)]) ⟨rfl, trivial⟩ ?_ ?_ rfl rfl rfl (.inl rfl)
                          · cases H0; rfl
                          · cases H0; rfl
                        · cases h34
                      ·
                        replace H1 := bif_f H1 h33
                        obtain ⟨x20, hx20, H1⟩ := bnd H1
                        obtain ⟨x21, hx21, H1⟩ := bnd H1
                        refine G.rd mixed ?_
                        refine K.move (.inl rfl) (gd0 rfl) rfl rfl ?_
                        refine K.un (V := .bool (!x19.2)) (gd0 rfl) rfl (fun _ => rfl) rfl ?_
                        refine K.move (.inl rfl) (gd0 rfl) rfl rfl ?_
                        refine K.fieldAddr Y (gd1 rfl rfl rfl (h27)) rfl t82 rfl rfl ?_
                        refine K.loadS Y [_, _, _, _] (gd1 rfl rfl rfl (h27)) rfl rfl t73 rfl rfl rfl ?_
                        refine K.move (.inl rfl) (gd1 rfl rfl rfl (h27)) rfl rfl ?_
                        refine K.move (.inl rfl) (gd1 rfl rfl rfl (h27)) rfl rfl ?_
                        refine K.idxL (lrowV 148 75 eTR08Mark 8 v6.2.2.2) ((v201).toNat) (lrowV_is eTR08Mark_len (by decide)) (atL_get hx17) (atL_nn hx17) (gd1 rfl rfl rfl (h27)) rfl rfl rfl Try.underlying60 el60.size_run rfl ?_
                        refine K.fieldL Y (lrowV 148 75 eTR08Mark 8 v6.2.2.2) ((v201).toNat) 0 0 (lrowV_is eTR08Mark_len (by decide)) (atL_get hx17) (gd1 rfl rfl rfl (h27)) rfl rfl t75 rfl rfl rfl rfl ?_
                        refine K.loadSL Y (lrowV 148 75 eTR08Mark 8 v6.2.2.2) ((v201).toNat) 0 [_, _, _, _] [_, _, _, _] (lrowV_is eTR08Mark_len (by decide)) (atL_get hx17) (gd1 rfl rfl rfl (h27)) rfl rfl t73 rfl rfl rfl rfl rfl ?_
                        refine K.eqS [_, _, _, _] [_, _, _, _] (gd1 rfl rfl rfl (h27)) rfl rfl cmp73 rfl (.inr rfl) (!((x19.1.op.time == x17.op.time) && ((x19.1.op.insert == x17.op.insert) && ((x19.1.op.item.key == x17.op.item.key) && ((x19.1.op.item.id == x17.op.item.id) && true))))) rfl rfl ?_
                        refine K.pickF (gd0 rfl) rfl (h27) rfl rfl ?_
                        refine K.move (.inl rfl) (gd0 rfl) rfl rfl ?_
                        refine K.fieldAddr Y (gd1 rfl rfl rfl (h29)) rfl t82 rfl rfl ?_
                        refine K.load1 Y (gd1 rfl rfl rfl (h29)) rfl rfl t4 rfl rfl ?_
                        refine K.move (.inl rfl) (gd1 rfl rfl rfl (h29)) rfl rfl ?_
                        refine K.move (.inl rfl) (gd1 rfl rfl rfl (h29)) rfl rfl ?_
                        refine K.idxL (lrowV 148 75 eTR08Mark 8 v6.2.2.2) ((v201).toNat) (lrowV_is eTR08Mark_len (by decide)) (atL_get hx17) (atL_nn hx17) (gd1 rfl rfl rfl (h29)) rfl rfl rfl Try.underlying60 el60.size_run rfl ?_
                        refine K.fieldL Y (lrowV 148 75 eTR08Mark 8 v6.2.2.2) ((v201).toNat) 0 4 (lrowV_is eTR08Mark_len (by decide)) (atL_get hx17) (gd1 rfl rfl rfl (h29)) rfl rfl t75 rfl rfl rfl rfl ?_
                        refine K.load1L Y (lrowV 148 75 eTR08Mark 8 v6.2.2.2) ((v201).toNat) 4 (lrowV_is eTR08Mark_len (by decide)) (atL_get hx17) (gd1 rfl rfl rfl (h29)) rfl rfl t4 rfl rfl ?_
                        refine K.bin (V := .bool (!(x19.1.here == x17.here))) (gd1 rfl rfl rfl (h29)) rfl rfl (bq_neq Try.underlying4 _ _) rfl ?_
                        refine K.pickF (gd0 rfl) rfl (h29) rfl rfl ?_
                        refine K.move (.inl rfl) (gd0 rfl) rfl rfl ?_
                        refine K.fieldAddr Y (gd1 rfl rfl rfl (h31)) rfl t82 rfl rfl ?_
                        refine K.loadS Y [_, _, _] (gd1 rfl rfl rfl (h31)) rfl rfl t65 rfl rfl rfl ?_
                        refine K.move (.inl rfl) (gd1 rfl rfl rfl (h31)) rfl rfl ?_
                        refine K.move (.inl rfl) (gd1 rfl rfl rfl (h31)) rfl rfl ?_
                        refine K.idxL (lrowV 148 75 eTR08Mark 8 v6.2.2.2) ((v201).toNat) (lrowV_is eTR08Mark_len (by decide)) (atL_get hx17) (atL_nn hx17) (gd1 rfl rfl rfl (h31)) rfl rfl rfl Try.underlying60 el60.size_run rfl ?_
                        refine K.fieldL Y (lrowV 148 75 eTR08Mark 8 v6.2.2.2) ((v201).toNat) 0 5 (lrowV_is eTR08Mark_len (by decide)) (atL_get hx17) (gd1 rfl rfl rfl (h31)) rfl rfl t75 rfl rfl rfl rfl ?_
                        refine K.loadSL Y (lrowV 148 75 eTR08Mark 8 v6.2.2.2) ((v201).toNat) 5 [_, _, _] [_, _, _] (lrowV_is eTR08Mark_len (by decide)) (atL_get hx17) (gd1 rfl rfl rfl (h31)) rfl rfl t65 rfl rfl rfl rfl rfl ?_
                        refine K.eqS [_, _, _] [_, _, _] (gd1 rfl rfl rfl (h31)) rfl rfl cmp65 rfl (.inr rfl) (!((x19.1.took.found == x17.took.found) && ((x19.1.took.item.key == x17.took.item.key) && ((x19.1.took.item.id == x17.took.item.id) && true)))) rfl rfl ?_
                        refine K.pickF (gd0 rfl) rfl (h31) rfl rfl ?_
                        refine K.move (.inl rfl) (gd0 rfl) rfl rfl ?_
                        refine K.move (.inl rfl) (gd1 rfl rfl rfl (h33)) rfl rfl ?_
                        refine K.move (.inl rfl) (gd1 rfl rfl rfl (h33)) rfl rfl ?_
                        refine K.move (.inl rfl) (gd1 rfl rfl rfl (h33)) rfl rfl ?_
                        refine K.idxL (lrowV 148 75 eTR08Mark 8 v6.2.2.2) ((v201).toNat) (lrowV_is eTR08Mark_len (by decide)) (atL_get hx17) (atL_nn hx17) (gd1 rfl rfl rfl (h33)) rfl rfl rfl Try.underlying60 el60.size_run rfl ?_
                        refine K.fieldL Y (lrowV 148 75 eTR08Mark 8 v6.2.2.2) ((v201).toNat) 0 0 (lrowV_is eTR08Mark_len (by decide)) (atL_get hx17) (gd1 rfl rfl rfl (h33)) rfl rfl t75 rfl rfl rfl rfl ?_
                        refine K.fieldL Y (lrowV 148 75 eTR08Mark 8 v6.2.2.2) ((v201).toNat) 0 0 (lrowV_is eTR08Mark_len (by decide)) (atL_get hx17) (gd1 rfl rfl rfl (h33)) rfl rfl t73 rfl rfl rfl rfl ?_
                        refine K.load1L Y (lrowV 148 75 eTR08Mark 8 v6.2.2.2) ((v201).toNat) 0 (lrowV_is eTR08Mark_len (by decide)) (atL_get hx17) (gd1 rfl rfl rfl (h33)) rfl rfl t3 rfl rfl ?_
                        refine K.callR [(.func 47, _), ((.tmp 172), _)] (wave_Key_con (k := k) hx20) (toFn_func (cf 47 rfl) rfl) (gd1 rfl rfl rfl (h33)) ⟨rfl, rfl, trivial⟩ trivial rfl rfl rfl ?_
                        refine K.callR [(.func 48, _), ((.tmp 166), _), ((.tmp 173), _)] (Tree_RankM_con (k := k) hx21 146 147) (toFn_func (cf 48 rfl) rfl) (gd1 rfl rfl rfl (h33)) ⟨rfl, rfl, rfl, trivial⟩ ⟨rfl, rfl, trivial⟩ rfl rfl rfl ?_
                        refine K.move (.inl rfl) (gd1 rfl rfl rfl (h33)) rfl rfl ?_
                        refine K.bin (V := .bool (x21 != v201)) (gd1 rfl rfl rfl (h33)) rfl rfl (fun _ => rfl) rfl ?_
                        refine K.pickF (gd0 rfl) rfl (h33) rfl rfl ?_
                        refine K.nil ?_
                        refine ⟨by kernel_rfl, ?_⟩
                        refine At.next ?_
                        refine G.cond rfl (fun h35 => ?_) (fun h35 => ?_)
                        ·
                          replace H1 := bif_t H1 h35
                          refine G.seq ?_
                          refine G.rg ?_
                          refine K.move (.inr rfl) (gd0 rfl) rfl rfl ?_
                          refine K.nil ?_
                          refine At.next ?_
                          refine G.ret ?_
                          refine At.block_ret ?_
                          refine At.over_ret ?_
                          refine At.over_ret ?_
                          refine At.block_ret ?_
                          refine At.over_ret ?_
                          cases H1
                          replace H0 := sum_l H0
                          refine At.done Y [(.tmp 6, .c _)] rfl ⟨.tmp rfl, trivial⟩ (to' := [(0, _)]) ⟨rfl, trivial⟩ ?_ ?_ rfl rfl rfl (.inl rfl)
                          · cases H0; rfl
                          · cases H0; rfl
                        ·
                          replace H1 := bif_f H1 h35
                          refine G.skip ?_
                          refine At.block_normal ?_
                          refine At.next ?_
                          refine G.rg ?_
                          refine K.move (.inl rfl) (gd0 rfl) rfl rfl ?_
                          refine K.bin (V := .int .i64 (w64 (v201 + 1))) (gd0 rfl) rfl rfl (fun _ => rfl) rfl ?_
                          refine K.move (.inr rfl) (gd0 rfl) rfl rfl ?_
                          refine K.nil ?_
                          exact At.again (σ := { q : Nat × (Int) // Lw08_WaveTrees.l2 k v6 q.1 q.2 = some x16 }) (Fs := fun q => [(1, .a (.c (.v (.int .i64 a1)))), (2, .a (.c (.v (.int .i64 a2)))), (7, .a (.c (.p 146 0))), (8, .a (.c (.nv 148))), (12, .a (.c (.v (.int .i64 q.1.2))))]) (Tl := fun q => [(0, rd S W0), (147, plM 147 v6.1), (146, blk 146 [.p 147 0, .v (.int .i64 v6.2.1), .v (.int .i64 v6.2.2.1)] 120), (148, lrow 148 75 eTR08Mark 8 v6.2.2.2)]) (μ := fun q => q.1.1) (s := ⟨(n0 + 1, v201), HL2⟩) ⟨(n0, (w64 (v201 + 1))), H1⟩ [] [_, _, _, _] (Nat.lt_succ_self _) rfl ⟨rfl, rfl, rfl, rfl, rfl, trivial⟩ ⟨rfl, (fun _ => rfl), rfl, (pl_ren rfl), rfl, (blk_ren rfl rfl), rfl, (lrow_ren rfl), trivial⟩ rfl
              ·
                replace H1 := bif_f H1 h26
                refine G.exit ?_
                refine At.over_exit ?_
                refine At.over_exit ?_
                refine At.block_hit ?_
                exact At.joined (σ := { v : Unit // x16 = Sum.inr v }) (Fs := fun q => [(1, .a (.c (.v (.int .i64 a1)))), (2, .a (.c (.v (.int .i64 a2)))), (7, .a (.c (.p 137 0))), (8, .a (.c (.nv 139)))]) (Tl := fun q => [(0, rd S W0), (138, plM 138 v6.1), (137, blk 137 [.p 138 0, .v (.int .i64 v6.2.1), .v (.int .i64 v6.2.2.1)] 120), (139, lrow 139 75 eTR08Mark 8 v6.2.2.2)]) ⟨(), (Option.some.inj H1).symm⟩ [(137, 146), (138, 147), (139, 148)] [_, _, _, _] rfl ⟨rfl, rfl, rfl, rfl, trivial⟩ ⟨rfl, (fun _ => rfl), rfl, (pl_ren rfl), rfl, (blk_ren rfl rfl), rfl, (lrow_ren rfl), trivial⟩ rfl
        ·
          rintro ⟨v16, rfl⟩
          replace H0 := sum_r H0
          show G _ _ [(1, .a (.c (.v (.int .i64 a1)))), (2, .a (.c (.v (.int .i64 a2)))), (7, .a (.c (.p 137 0))), (8, .a (.c (.nv 139)))] [(0, some (rd S W0)), (138, some (plM 138 v6.1)), (137, some (blk 137 [.p 138 0, .v (.int .i64 v6.2.1), .v (.int .i64 v6.2.2.1)] 120)), (139, some (lrow 139 75 eTR08Mark 8 v6.2.2.2))] _ _
          refine G.seq ?_
          refine G.rg ?_
          refine K.move (.inl rfl) (gd0 rfl) rfl rfl ?_
          refine K.bi2 (V := .int .i64 (gmax a1 0)) (gd0 rfl) rfl rfl (fun _ _ => rfl) rfl ?_
          refine K.move (.inl rfl) (gd0 rfl) rfl rfl ?_
          refine K.lenL (lrowV 139 75 eTR08Mark 8 v6.2.2.2) (lrowV_is eTR08Mark_len (by decide)) (gd0 rfl) rfl rfl Try.underlying60 rfl ?_
          refine K.bi2 (V := .int .i64 (gmin (gmax a1 0) (v6.2.2.2.length : Int))) (gd0 rfl) rfl rfl (fun _ _ => rfl) rfl ?_
          refine K.move (.inl rfl) (gd0 rfl) rfl rfl ?_
          refine K.bi2 (V := .int .i64 (gmax a2 0)) (gd0 rfl) rfl rfl (fun _ _ => rfl) rfl ?_
          refine K.move (.inl rfl) (gd0 rfl) rfl rfl ?_
          refine K.lenL (lrowV 139 75 eTR08Mark 8 v6.2.2.2) (lrowV_is eTR08Mark_len (by decide)) (gd0 rfl) rfl rfl Try.underlying60 rfl ?_
          refine K.bi2 (V := .int .i64 (gmin (gmax a2 0) (v6.2.2.2.length : Int))) (gd0 rfl) rfl rfl (fun _ _ => rfl) rfl ?_
          refine K.move (.inr rfl) (gd0 rfl) rfl rfl ?_
          refine K.move (.inr rfl) (gd0 rfl) rfl rfl ?_
          refine K.nil ?_
          refine At.next ?_
          refine G.seq ?_
          rcases Bool.eq_false_or_eq_true (decide ((gmin (gmax a1 0) (v6.2.2.2.length : Int)) > (gmin (gmax a2 0) (v6.2.2.2.length : Int)))) with h36 | h36
          ·
            replace H0 := bif_t H0 h36
            refine G.rd mixed ?_
            refine K.move (.inl rfl) (gd0 rfl) rfl rfl ?_
            refine K.move (.inl rfl) (gd0 rfl) rfl rfl ?_
            refine K.bin (V := .bool (decide ((gmin (gmax a1 0) (v6.2.2.2.length : Int)) > (gmin (gmax a2 0) (v6.2.2.2.length : Int))))) (gd0 rfl) rfl rfl (fun _ => rfl) rfl ?_
            refine K.move (.inl rfl) (gd0 rfl) rfl rfl ?_
            refine K.skip rfl rfl rfl rfl (h36) rfl ?_
            refine K.skip rfl rfl rfl rfl (h36) rfl ?_
            refine K.skip rfl rfl rfl rfl (h36) rfl ?_
            refine K.skip rfl rfl rfl rfl (h36) rfl ?_
            refine K.skip rfl rfl rfl rfl (h36) rfl ?_
            refine K.skip rfl rfl rfl rfl (h36) rfl ?_
            refine K.skip rfl rfl rfl rfl (h36) rfl ?_
            refine K.skip rfl rfl rfl rfl (h36) rfl ?_
            refine K.skip rfl rfl rfl rfl (h36) rfl ?_
            refine K.pickT (gd0 rfl) rfl (h36) rfl rfl ?_
            refine K.move (.inr rfl) (gd0 rfl) rfl rfl ?_
            refine K.nil ?_
            refine ⟨by kernel_rfl, ?_⟩
            refine At.next ?_
            refine G.ret ?_
            refine At.done Y [(.tmp 6, .c _)] rfl ⟨.tmp rfl, trivial⟩ (to' := [(0, _)]) ⟨rfl, trivial⟩ ?_ ?_ rfl rfl rfl (.inl rfl)
            · cases H0; rfl
            · cases H0; rfl
          ·
            replace H0 := bif_f H0 h36
            obtain ⟨x22, hx22, H0⟩ := bnd H0
            obtain ⟨h37, H0⟩ := grd H0
            obtain ⟨x23, hx23, H0⟩ := bnd H0
            refine G.rd mixed ?_
            refine K.move (.inl rfl) (gd0 rfl) rfl rfl ?_
            refine K.move (.inl rfl) (gd0 rfl) rfl rfl ?_
            refine K.bin (V := .bool (decide ((gmin (gmax a1 0) (v6.2.2.2.length : Int)) > (gmin (gmax a2 0) (v6.2.2.2.length : Int))))) (gd0 rfl) rfl rfl (fun _ => rfl) rfl ?_
            refine K.move (.inl rfl) (gd0 rfl) rfl rfl ?_
            refine K.move (.inl rfl) (gd1 rfl rfl rfl (h36)) rfl rfl ?_
            refine K.move (.inl rfl) (gd1 rfl rfl rfl (h36)) rfl rfl ?_
            refine K.move (.inl rfl) (gd1 rfl rfl rfl (h36)) rfl rfl ?_
            refine K.callR [(.func 49, _), ((.tmp 192), _), ((.tmp 193), _), ((.tmp 194), _)] (Tree_BetweenM_con (k := k) hx22 137 138) (toFn_func (cf 49 rfl) rfl) (gd1 rfl rfl rfl (h36)) ⟨rfl, rfl, rfl, rfl, trivial⟩ ⟨rfl, rfl, trivial⟩ rfl rfl rfl ?_
            refine K.move (.inl rfl) (gd1 rfl rfl rfl (h36)) rfl rfl ?_
            refine K.move (.inl rfl) (gd1 rfl rfl rfl (h36)) rfl rfl ?_
            refine K.move (.inl rfl) (gd1 rfl rfl rfl (h36)) rfl rfl ?_
            refine K.partL (((gmin (gmax a1 0) (v6.2.2.2.length : Int))).toNat) (((gmin (gmax a2 0) (v6.2.2.2.length : Int))).toNat) (gd1 rfl rfl rfl (h36)) rfl (.at_ rfl h37.1 rfl) (.at_ rfl (Int.le_trans h37.1 h37.2.1) rfl) rfl Try.underlying60 el60.size_run (tn_le h37.2.1) (tn_len h37.2.2) rfl ?_
            refine K.callV [(.func 38, _), ((.tmp 195), _), ((.tmp 199), _)] [(139, lrow 139 75 eTR08Mark 8 v6.2.2.2)] [] [] (fun β => [.a (.agg ((eTSwell x22).map .v)), SV.raw ((lsubV 139 75 eTR08Mark 8 v6.2.2.2 (((gmin (gmax a1 0) (v6.2.2.2.length : Int))).toNat) (((gmin (gmax a2 0) (v6.2.2.2.length : Int))).toNat)).s.den β)]) (fun β w S2 h => Lw08_Comes_con (k := k) ((lsubV_isC eTR08Mark_len (by decide) (tn_le h37.2.1) (tn_len h37.2.2)).larg ⟨_, List.mem_cons_self⟩ h) hx23) (toFn_func (cf 38 rfl) rfl) (gd1 rfl rfl rfl (h36)) ⟨rfl, rfl, rfl, trivial⟩ (fun _ => rfl) ⟨rfl, trivial⟩ rfl rfl rfl rfl rfl rfl ?_
            refine K.pickF (gd0 rfl) rfl (h36) rfl rfl ?_
            refine K.move (.inr rfl) (gd0 rfl) rfl rfl ?_
            refine K.nil ?_
            refine ⟨by kernel_rfl, ?_⟩
            refine At.next ?_
            refine G.ret ?_
            refine At.done Y [(.tmp 6, .c _)] rfl ⟨.tmp rfl, trivial⟩ (to' := [(0, _)]) ⟨rfl, trivial⟩ ?_ ?_ rfl rfl rfl (.inl rfl)
            · cases H0; rfl
            · cases H0; rfl
theorem Lw08_WaveTrees_con {k : Nat}  {S : Foot} {W0 : World} {s0 : Value} {l0 : List TR08Mark} {a1 : Int} {a2 : Int} {r : Bool} (hL0 : LArg S W0 s0 eTR08Mark 8 l0) (H0 : Lw08_WaveTrees.f k l0 a1 a2 = some r) : SCon Try.prog 10 [SV.raw s0, .a (.c (.v (.int .i64 a1))), .a (.c (.v (.int .i64 a2)))] [(0, rd S W0)] (.a (.c (.v (.bool r)))) [(0, rd S W0)] [] :=
  SCon.ren (rn []) (Lw08_WaveTrees_con0 (k := k)  hL0 H0) ⟨(fun _ => rfl), trivial⟩ ⟨(fun _ => rfl), trivial⟩ (by simp) (by simp)
end Go.Proofs.Ytgogiehpenfdpaa


/- A law's walk. Printed by a program of mine. -/
import Derived.KernelRfl
import Derived.Test.YtjokolmijhhinaaMx
namespace Go.Proofs.Ytjokolmijhhinaa
open Go Go.Proofs.Ytjokolmijhhinaa.Sx
set_option linter.unusedVariables false
set_option linter.unusedSimpArgs false
theorem Lw07_GroveActs_con0 {k : Nat}  {S : Foot} {W0 : World} {s1 : Value} {a0 : Int} {l1 : List TL07Act} {r : Bool} (hL1 : LArg S W0 s1 eTL07Act 3 l1) (H0 : Lw07_GroveActs.f k a0 l1 = some r) : SCon Try.prog 6 [.a (.c (.v (.int .u8 a0))), SV.raw s1] [(0, rd S W0)] (.a (.c (.v (.bool r)))) [(0, rd S W0)] [] := by
  rw [Lw07_GroveActs.f] at H0
  obtain ⟨b1, o1, hI1⟩ := hL1
  refine spec_of [(0, _), (1, _)] [(0, _)] 217 Try.func6 rfl Try.ntmps6 rfl rfl rfl rfl (fun β W F => ?_)
  refine G.seq ?_
  refine G.rg ?_
  refine K.move (.inr rfl) (gd0 rfl) rfl rfl ?_
  refine K.nil ?_
  refine At.next ?_
  obtain ⟨x1, H1, H0⟩ := bnd H0
  refine G.seqJ (σ := { v : Unit // x1 = Sum.inr v }) (fun q => [(0, .a (.c (.v (.int .u8 a0)))), (1, SV.raw s1)]) (fun q => [(0, rd S W0)]) ?_ ?_
  ·
    refine G.seq ?_
    obtain ⟨x2, hx2, H1⟩ := bnd H1
    rcases Bool.eq_false_or_eq_true (!x2) with h1 | h1
    ·
      replace H1 := bif_t H1 h1
      refine G.rg ?_
      refine K.callR [(.func 11, _)] (Lw07_awake_con (k := k) hx2) (toFn_func (cf 11 rfl) rfl) (gd0 rfl) ⟨rfl, trivial⟩ trivial rfl rfl rfl ?_
      refine K.un (V := .bool (!x2)) (gd0 rfl) rfl (fun _ => rfl) rfl ?_
      refine K.move (.inl rfl) (gd0 rfl) rfl rfl ?_
      refine K.skip rfl rfl rfl rfl (h1) rfl ?_
      refine K.skip rfl rfl rfl rfl (h1) rfl ?_
      refine K.skip rfl rfl rfl rfl (h1) rfl ?_
      refine K.pickT (gd0 rfl) rfl (h1) rfl rfl ?_
      refine K.nil ?_
      refine At.next ?_
      refine G.cond rfl (fun h2 => ?_) (fun h2 => ?_)
      ·
        refine G.seq ?_
        obtain ⟨x3, hx3, H1⟩ := bnd H1
        refine G.rg ?_
        refine K.callR [(.func 11, _)] (Lw07_awake_con (k := k) hx3) (toFn_func (cf 11 rfl) rfl) (gd0 rfl) ⟨rfl, trivial⟩ trivial rfl rfl rfl ?_
        refine K.move (.inr rfl) (gd0 rfl) rfl rfl ?_
        refine K.nil ?_
        refine At.next ?_
        refine G.ret ?_
        refine At.over_ret ?_
        cases H1
        replace H0 := sum_l H0
        refine At.done Y [(.tmp 4, .c _)] rfl ⟨.tmp rfl, trivial⟩ (to' := [(0, _)]) ⟨rfl, trivial⟩ ?_ ?_ rfl rfl rfl (.inl rfl)
        · cases H0; rfl
        · cases H0; rfl
      · cases h2
    ·
      replace H1 := bif_f H1 h1
      obtain ⟨x4, hx4, H1⟩ := bnd H1
      refine G.rg ?_
      refine K.callR [(.func 11, _)] (Lw07_awake_con (k := k) hx2) (toFn_func (cf 11 rfl) rfl) (gd0 rfl) ⟨rfl, trivial⟩ trivial rfl rfl rfl ?_
      refine K.un (V := .bool (!x2)) (gd0 rfl) rfl (fun _ => rfl) rfl ?_
      refine K.move (.inl rfl) (gd0 rfl) rfl rfl ?_
      refine K.move (.inl rfl) (gd1 rfl rfl rfl (h1)) rfl rfl ?_
      refine K.callV [(.func 12, _), ((.tmp 28), _), (_, _)] [(0, rd S W0)] [] [] (fun β => [SV.raw s1, .a (.c (.v (.int .i64 60)))]) (fun β w S2 h => Lw07_small_con (k := k) ((hI1.isC 0).larg ⟨_, List.mem_cons_self⟩ h) hx4) (toFn_func (cf 12 rfl) rfl) (gd1 rfl rfl rfl (h1)) ⟨rfl, rfl, rfl, trivial⟩ (fun _ => rfl) ⟨rfl, trivial⟩ rfl rfl rfl rfl rfl rfl ?_
      refine K.un (V := .bool (!x4)) (gd1 rfl rfl rfl (h1)) rfl (fun _ => rfl) rfl ?_
      refine K.pickF (gd0 rfl) rfl (h1) rfl rfl ?_
      refine K.nil ?_
      refine At.next ?_
      refine G.cond rfl (fun h3 => ?_) (fun h3 => ?_)
      ·
        replace H1 := bif_t H1 h3
        refine G.seq ?_
        obtain ⟨x5, hx5, H1⟩ := bnd H1
        refine G.rg ?_
        refine K.callR [(.func 11, _)] (Lw07_awake_con (k := k) hx5) (toFn_func (cf 11 rfl) rfl) (gd0 rfl) ⟨rfl, trivial⟩ trivial rfl rfl rfl ?_
        refine K.move (.inr rfl) (gd0 rfl) rfl rfl ?_
        refine K.nil ?_
        refine At.next ?_
        refine G.ret ?_
        refine At.over_ret ?_
        cases H1
        replace H0 := sum_l H0
        refine At.done Y [(.tmp 4, .c _)] rfl ⟨.tmp rfl, trivial⟩ (to' := [(0, _)]) ⟨rfl, trivial⟩ ?_ ?_ rfl rfl rfl (.inl rfl)
        · cases H0; rfl
        · cases H0; rfl
      ·
        replace H1 := bif_f H1 h3
        refine G.skip ?_
        exact At.joined (σ := { v : Unit // x1 = Sum.inr v }) (Fs := fun q => [(0, .a (.c (.v (.int .u8 a0)))), (1, SV.raw s1)]) (Tl := fun q => [(0, rd S W0)]) ⟨(), (Option.some.inj H1).symm⟩ [] [_] rfl ⟨rfl, rfl, trivial⟩ ⟨rfl, (fun _ => rfl), trivial⟩ rfl
  ·
    rintro ⟨v1, rfl⟩
    replace H0 := sum_r H0
    show G _ _ [(0, .a (.c (.v (.int .u8 a0)))), (1, SV.raw s1)] [(0, some (rd S W0))] _ _
    refine G.seq ?_
    refine G.rg ?_
    refine K.move (.inl rfl) (gd0 rfl) rfl rfl ?_
    refine K.conv (V := .int .i64 (w64 a0)) (gd0 rfl) rfl (cv_int (by rw [Try.underlying5]; rfl) Try.underlying3) rfl ?_
    refine K.bin (V := .int .i64 ((w64 a0).tmod 50)) (gd0 rfl) rfl rfl (rem_run (by decide)) rfl ?_
    refine K.move (.inr rfl) (gd0 rfl) rfl rfl ?_
    refine K.nil ?_
    refine At.next ?_
    refine G.seq ?_
    obtain ⟨x6, hx6, H0⟩ := bnd H0
    refine G.rg ?_
    refine K.move (.inl rfl) (gd0 rfl) rfl rfl ?_
    refine K.call0 [(.func 18, _), ((.tmp 36), _)] (Tree_NewE_con (k := k) hx6 100 101 rfl) (toFn_func (cf 18 rfl) rfl) (gd0 rfl) ⟨rfl, rfl, trivial⟩ trivial rfl rfl rfl rfl rfl rfl ?_
    refine K.move (.inr rfl) (gd0 rfl) rfl rfl ?_
    refine K.nil ?_
    refine At.next ?_
    refine G.seq ?_
    refine G.rg ?_
    refine K.nilRow 102 54 eTR07Elem 2 (.inl rfl) (gd0 rfl) rfl rfl rfl ?_
    refine K.nil ?_
    refine At.next ?_
    obtain ⟨x7, H1, H0⟩ := bnd H0
    refine G.seqJ (σ := { v : Unit // x7 = Sum.inr v }) (fun q => []) (fun q => [(0, rd S W0)]) ?_ ?_
    ·
      refine G.seq ?_
      refine G.rg ?_
      refine K.move (.inr rfl) (gd0 rfl) rfl rfl ?_
      refine K.nil ?_
      refine At.next ?_
      refine G.block ?_
      refine G.loop (σ := { q : Nat × (Int × Pool (TNode TL07Elem TTide) × Int × Int × List TR07Elem × Int) // Lw07_GroveActs.l0 k l1 q.1 q.2 = some x7 }) (fun q => [(1, SV.raw s1), (5, .a (.c (.v (.int .i64 q.1.2.1)))), (6, .a (.c (.p 109 0))), (7, .a (.c (.nv 111))), (8, .a (.c (.v (.int .i64 q.1.2.2.2.2.2.2))))]) (fun q => [(0, rd S W0), (110, plE 110 q.1.2.2.1), (109, blk 109 [.p 110 0, .v (.int .i64 q.1.2.2.2.1), .v (.int .i64 q.1.2.2.2.2.1)] 101), (111, lrow 111 54 eTR07Elem 2 q.1.2.2.2.2.2.1)]) (fun q => q.1.1) ⟨(k, (((w64 a0).tmod 50), x6.2, x6.1.index, x6.1.gen, ([] : List TR07Elem), 0)), H1⟩ ?_ ?_
      · exact At.into [(109, 100), (110, 101), (111, 102)] [_, _, _, _] rfl ⟨rfl, rfl, rfl, rfl, rfl, trivial⟩ ⟨rfl, (fun _ => rfl), rfl, (pl_ren rfl), rfl, (blk_ren rfl rfl), rfl, (lrow_ren rfl), trivial⟩ rfl
      ·
        rintro ⟨⟨n0, v1, v2, v3, v4, v5, v6⟩, H1⟩
        show G _ _ [(1, SV.raw s1), (5, .a (.c (.v (.int .i64 v1)))), (6, .a (.c (.p 109 0))), (7, .a (.c (.nv 111))), (8, .a (.c (.v (.int .i64 v6))))] [(0, some (rd S W0)), (110, some (plE 110 v2)), (109, some (blk 109 [.p 110 0, .v (.int .i64 v3), .v (.int .i64 v4)] 101)), (111, some (lrow 111 54 eTR07Elem 2 v5))] _ _
        cases n0 with
        | zero => exact absurd H1 (by simp [Lw07_GroveActs.l0])
        | succ n0 =>
          have HL0 := H1
          rw [Lw07_GroveActs.l0] at H1
          refine G.seq ?_
          refine G.seq ?_
          refine G.rg ?_
          refine K.move (.inl rfl) (gd0 rfl) rfl rfl ?_
          refine K.move (.inl rfl) (gd0 rfl) rfl rfl ?_
          refine K.lenL (rV 0 S W0 s1 b1 o1 eTL07Act 3 l1) (hI1.is 0) (gd0 rfl) rfl rfl Try.underlying22 rfl ?_
          refine K.bin (V := .bool (decide (v6 < (l1.length : Int)))) (gd0 rfl) rfl rfl (fun _ => rfl) rfl ?_
          refine K.nil ?_
          refine At.next ?_
          refine G.cond rfl (fun h4 => ?_) (fun h4 => ?_)
          ·
            replace H1 := bif_t H1 h4
            refine G.skip ?_
            refine At.next ?_
            refine G.seq ?_
            refine G.block ?_
            refine G.seq ?_
            obtain ⟨x8, hx8, H1⟩ := bnd H1
            refine G.rg ?_
            refine K.move (.inl rfl) (gd0 rfl) rfl rfl ?_
            refine K.move (.inl rfl) (gd0 rfl) rfl rfl ?_
            refine K.idxL (rV 0 S W0 s1 b1 o1 eTL07Act 3 l1) ((v6).toNat) (hI1.is 0) (atL_get hx8) (atL_nn hx8) (gd0 rfl) rfl rfl rfl Try.underlying22 el22.size_run rfl ?_
            refine K.loadSL Y (rV 0 S W0 s1 b1 o1 eTL07Act 3 l1) ((v6).toNat) 0 [_, _, _] [_, _, _] (hI1.is 0) (atL_get hx8) (gd0 rfl) rfl rfl t41 rfl rfl rfl rfl rfl ?_
            refine K.alloc Y 112 [_, _, _] (gd0 rfl) t41 rfl rfl rfl rfl rfl ?_
            refine K.store Y [_, _, _] (gd0 rfl) rfl rfl rfl t41 rfl rfl rfl rfl rfl ?_
            refine K.nil ?_
            refine At.next ?_
            refine G.seq ?_
            refine G.seq ?_
            obtain ⟨x9, hx9, H1⟩ := bnd H1
            refine G.rg ?_
            refine K.fieldAddr Y (gd0 rfl) rfl t41 rfl rfl ?_
            refine K.load1 Y (gd0 rfl) rfl rfl t3 rfl rfl ?_
            refine K.callR [(.func 19, _), ((.tmp 49), _), (_, _)] (R01_Rest_con (k := k) hx9) (toFn_func (cf 19 rfl) rfl) (gd0 rfl) ⟨rfl, rfl, rfl, trivial⟩ trivial rfl rfl rfl ?_
            refine K.nil ?_
            refine At.next ?_
            refine G.block ?_
            refine G.seq ?_
            refine G.rg ?_
            refine K.bin (V := .bool (x9 == 0)) (gd0 rfl) rfl rfl (fun _ => rfl) rfl ?_
            refine K.move (.inr rfl) (gd0 rfl) rfl rfl ?_
            refine K.nil ?_
            refine At.next ?_
            refine G.cond rfl (fun h5 => ?_) (fun h5 => ?_)
            ·
              replace H1 := bif_t H1 h5
              refine G.seq ?_
              obtain ⟨x10, hx10, H1⟩ := bnd H1
              refine G.rg ?_
              refine K.move (.inl rfl) (gd0 rfl) rfl rfl ?_
              refine K.fieldAddr Y (gd0 rfl) rfl t41 rfl rfl ?_
              refine K.load1 Y (gd0 rfl) rfl rfl t3 rfl rfl ?_
              refine K.fieldAddr Y (gd0 rfl) rfl t41 rfl rfl ?_
              refine K.load1 Y (gd0 rfl) rfl rfl t3 rfl rfl ?_
              refine K.build Y [(0, _), (1, _)] [_, _] [((.tmp 55), _), ((.tmp 57), _)] (gd0 rfl) (AllE.spec ⟨rfl, rfl, trivial⟩) rfl rfl t35 rfl rfl ?_
              refine K.call0 [(.func 23, _), ((.tmp 53), _), ((.tmp 58), _)] (Tree_PutE_con (k := k) hx10 109 110) (toFn_func (cf 23 rfl) rfl) (gd0 rfl) ⟨rfl, rfl, rfl, trivial⟩ ⟨rfl, rfl, trivial⟩ rfl rfl rfl rfl rfl rfl ?_
              refine K.move (.inr rfl) (gd0 rfl) rfl rfl ?_
              refine K.nil ?_
              refine At.next ?_
              refine G.seq ?_
              obtain ⟨x11, hx11, H1⟩ := bnd H1
              refine G.rg ?_
              refine K.move (.inl rfl) (gd0 rfl) rfl rfl ?_
              refine K.fieldAddr Y (gd0 rfl) rfl t41 rfl rfl ?_
              refine K.load1 Y (gd0 rfl) rfl rfl t3 rfl rfl ?_
              refine K.fieldAddr Y (gd0 rfl) rfl t41 rfl rfl ?_
              refine K.load1 Y (gd0 rfl) rfl rfl t3 rfl rfl ?_
              refine K.build Y [(0, _), (1, _)] [_, _] [((.tmp 63), _), ((.tmp 65), _)] (gd0 rfl) (AllE.spec ⟨rfl, rfl, trivial⟩) rfl rfl t54 rfl rfl ?_
              refine K.move (.inl rfl) (gd0 rfl) rfl rfl ?_
              refine K.callC [(.func 32, _), ((.tmp 61), _), ((.tmp 66), _), ((.tmp 67), _)] [] [(111, _)] [(113, _)] (fun β => [.a (.c (.nv 111)), .a (.agg ((eTR07Elem (TR07Elem.mk x8.k x8.w)).map .v)), .a (.c (.v (.int .i64 v1)))]) (fun β w S2 h => SCon.rd0 (R07_Put_o0_con (k := k) hx11 111 113 rfl) S2 w h) (toFn_func (cf 32 rfl) rfl) (gd0 rfl) ⟨rfl, rfl, rfl, rfl, trivial⟩ (fun _ => rfl) ⟨rfl, trivial⟩ rfl rfl rfl rfl rfl rfl ?_
              refine K.move (.inl rfl) (gd0 rfl) rfl rfl ?_
              refine K.extract (gd0 rfl) rfl rfl rfl ?_
              refine K.extract (gd0 rfl) rfl rfl rfl ?_
              refine K.move (.inr rfl) (gd0 rfl) rfl rfl ?_
              refine K.move (.inr rfl) (gd0 rfl) rfl rfl ?_
              refine K.nil ?_
              refine At.next ?_
              refine G.seq ?_
              refine G.seq ?_
              refine G.rg ?_
              refine K.move (.inl rfl) (gd0 rfl) rfl rfl ?_
              refine K.move (.inl rfl) (gd0 rfl) rfl rfl ?_
              refine K.bin (V := .bool (!(x10.1 == x11.2))) (gd0 rfl) rfl rfl (bq_neq Try.underlying4 _ _) rfl ?_
              refine K.nil ?_
              refine At.next ?_
              refine G.cond rfl (fun h6 => ?_) (fun h6 => ?_)
              ·
                replace H1 := bif_t H1 h6
                refine G.seq ?_
                refine G.rg ?_
                refine K.move (.inr rfl) (gd0 rfl) rfl rfl ?_
                refine K.nil ?_
                refine At.next ?_
                refine G.ret ?_
                refine At.over_ret ?_
                refine At.block_ret ?_
                refine At.over_ret ?_
                refine At.block_ret ?_
                refine At.over_ret ?_
                refine At.over_ret ?_
                refine At.block_ret ?_
                refine At.over_ret ?_
                cases H1
                replace H0 := sum_l H0
                refine At.done Y [(.tmp 4, .c _)] rfl ⟨.tmp rfl, trivial⟩ (to' := [(0, _)]) ⟨rfl, trivial⟩ ?_ ?_ rfl rfl rfl (.inl rfl)
                · cases H0; rfl
                · cases H0; rfl
              ·
                replace H1 := bif_f H1 h6
                refine G.skip ?_
                refine At.next ?_
                refine G.rg ?_
                refine K.move (.inl rfl) (gd0 rfl) rfl rfl ?_
                refine K.move (.inr rfl) (gd0 rfl) rfl rfl ?_
                refine K.nil ?_
                refine At.block_normal ?_
                refine At.next ?_
                refine G.seq ?_
                obtain ⟨x12, hx12, H1⟩ := bnd H1
                refine G.rg ?_
                refine K.move (.inl rfl) (gd0 rfl) rfl rfl ?_
                refine K.move (.inl rfl) (gd0 rfl) rfl rfl ?_
                refine K.callV [(.func 36, _), ((.tmp 213), _), ((.tmp 214), _)] [(113, lrow 113 54 eTR07Elem 2 x11.1)] [(109, _), (110, _)] [(109, _), (110, _)] (fun β => [SV.p 109 0, SV.raw ((lrowV 113 54 eTR07Elem 2 x11.1).s.den β)]) (fun β w S2 h => Lw07_alike_con (k := k) ((lrowV_isC eTR07Elem_len (by decide)).larg ⟨_, List.mem_cons_self⟩ h) hx12 109 110) (toFn_func (cf 36 rfl) rfl) (gd0 rfl) ⟨rfl, rfl, rfl, trivial⟩ (fun _ => rfl) ⟨rfl, rfl, rfl, trivial⟩ rfl rfl rfl rfl rfl rfl ?_
                refine K.un (V := .bool (!x12)) (gd0 rfl) rfl (fun _ => rfl) rfl ?_
                refine K.nil ?_
                refine At.next ?_
                refine G.cond rfl (fun h7 => ?_) (fun h7 => ?_)
                ·
                  replace H1 := bif_t H1 h7
                  refine G.seq ?_
                  refine G.rg ?_
                  refine K.move (.inr rfl) (gd0 rfl) rfl rfl ?_
                  refine K.nil ?_
                  refine At.next ?_
                  refine G.ret ?_
                  refine At.block_ret ?_
                  refine At.over_ret ?_
                  refine At.over_ret ?_
                  refine At.block_ret ?_
                  refine At.over_ret ?_
                  cases H1
                  replace H0 := sum_l H0
                  refine At.done Y [(.tmp 4, .c _)] rfl ⟨.tmp rfl, trivial⟩ (to' := [(0, _)]) ⟨rfl, trivial⟩ ?_ ?_ rfl rfl rfl (.inl rfl)
                  · cases H0; rfl
                  · cases H0; rfl
                ·
                  replace H1 := bif_f H1 h7
                  refine G.skip ?_
                  refine At.block_normal ?_
                  refine At.next ?_
                  refine G.rg ?_
                  refine K.move (.inl rfl) (gd0 rfl) rfl rfl ?_
                  refine K.bin (V := .int .i64 (w64 (v6 + 1))) (gd0 rfl) rfl rfl (fun _ => rfl) rfl ?_
                  refine K.move (.inr rfl) (gd0 rfl) rfl rfl ?_
                  refine K.nil ?_
                  exact At.again (σ := { q : Nat × (Int × Pool (TNode TL07Elem TTide) × Int × Int × List TR07Elem × Int) // Lw07_GroveActs.l0 k l1 q.1 q.2 = some x7 }) (Fs := fun q => [(1, SV.raw s1), (5, .a (.c (.v (.int .i64 q.1.2.1)))), (6, .a (.c (.p 109 0))), (7, .a (.c (.nv 111))), (8, .a (.c (.v (.int .i64 q.1.2.2.2.2.2.2))))]) (Tl := fun q => [(0, rd S W0), (110, plE 110 q.1.2.2.1), (109, blk 109 [.p 110 0, .v (.int .i64 q.1.2.2.2.1), .v (.int .i64 q.1.2.2.2.2.1)] 101), (111, lrow 111 54 eTR07Elem 2 q.1.2.2.2.2.2.1)]) (μ := fun q => q.1.1) (s := ⟨(n0 + 1, (v1, v2, v3, v4, v5, v6)), HL0⟩) ⟨(n0, (v1, x10.2.2, x10.2.1.index, x10.2.1.gen, x11.1, (w64 (v6 + 1)))), H1⟩ [(111, 113)] [_, _, _, _] (Nat.lt_succ_self _) rfl ⟨rfl, rfl, rfl, rfl, rfl, trivial⟩ ⟨rfl, (fun _ => rfl), rfl, (pl_ren rfl), rfl, (blk_ren rfl rfl), rfl, (lrow_ren rfl), trivial⟩ rfl
            ·
              replace H1 := bif_f H1 h5
              refine G.seq ?_
              refine G.rg ?_
              refine K.bin (V := .bool (x9 == 1)) (gd0 rfl) rfl rfl (fun _ => rfl) rfl ?_
              refine K.move (.inr rfl) (gd0 rfl) rfl rfl ?_
              refine K.nil ?_
              refine At.next ?_
              refine G.cond rfl (fun h8 => ?_) (fun h8 => ?_)
              ·
                replace H1 := bif_t H1 h8
                refine G.seq ?_
                obtain ⟨x13, hx13, H1⟩ := bnd H1
                refine G.rg ?_
                refine K.move (.inl rfl) (gd0 rfl) rfl rfl ?_
                refine K.fieldAddr Y (gd0 rfl) rfl t41 rfl rfl ?_
                refine K.load1 Y (gd0 rfl) rfl rfl t3 rfl rfl ?_
                refine K.build Y [(0, _)] [_, _] [((.tmp 80), _)] (gd0 rfl) (AllE.spec ⟨rfl, trivial⟩) rfl rfl t35 rfl rfl ?_
                refine K.call0 [(.func 22, _), ((.tmp 78), _), ((.tmp 81), _)] (Tree_DropE_con (k := k) hx13 109 110) (toFn_func (cf 22 rfl) rfl) (gd0 rfl) ⟨rfl, rfl, rfl, trivial⟩ ⟨rfl, rfl, trivial⟩ rfl rfl rfl rfl rfl rfl ?_
                refine K.move (.inl rfl) (gd0 rfl) rfl rfl ?_
                refine K.extract (gd0 rfl) rfl rfl rfl ?_
                refine K.extract (gd0 rfl) rfl rfl rfl ?_
                refine K.alloc Y 114 [_, _] (gd0 rfl) t35 rfl rfl rfl rfl rfl ?_
                refine K.store Y [_, _] (gd0 rfl) rfl rfl rfl t35 rfl rfl rfl rfl rfl ?_
                refine K.move (.inr rfl) (gd0 rfl) rfl rfl ?_
                refine K.nil ?_
                refine At.next ?_
                refine G.seq ?_
                obtain ⟨x14, hx14, H1⟩ := bnd H1
                refine G.rg ?_
                refine K.move (.inl rfl) (gd0 rfl) rfl rfl ?_
                refine K.fieldAddr Y (gd0 rfl) rfl t41 rfl rfl ?_
                refine K.load1 Y (gd0 rfl) rfl rfl t3 rfl rfl ?_
                refine K.callC [(.func 33, _), ((.tmp 86), _), ((.tmp 88), _)] [] [(111, _)] [(115, _)] (fun β => [.a (.c (.nv 111)), .a (.c (.v (.int .i64 x8.k)))]) (fun β w S2 h => SCon.rd0 (R07_Drop_o0_con (k := k) hx14 111 115 rfl) S2 w h) (toFn_func (cf 33 rfl) rfl) (gd0 rfl) ⟨rfl, rfl, rfl, trivial⟩ (fun _ => rfl) ⟨rfl, trivial⟩ rfl rfl rfl rfl rfl rfl ?_
                refine K.move (.inl rfl) (gd0 rfl) rfl rfl ?_
                refine K.extract (gd0 rfl) rfl rfl rfl ?_
                refine K.extract (gd0 rfl) rfl rfl rfl ?_
                refine K.extract (gd0 rfl) rfl rfl rfl ?_
                refine K.alloc Y 116 [_, _] (gd0 rfl) t54 rfl rfl rfl rfl rfl ?_
                refine K.move (.inr rfl) (gd0 rfl) rfl rfl ?_
                refine K.store Y [_, _] (gd0 rfl) rfl rfl rfl t54 rfl rfl rfl rfl rfl ?_
                refine K.move (.inr rfl) (gd0 rfl) rfl rfl ?_
                refine K.nil ?_
                refine At.next ?_
                refine G.seq ?_
                refine G.seq ?_
                rcases Bool.eq_false_or_eq_true (!(x13.2.1 == x14.2.2)) with h9 | h9
                ·
                  replace H1 := bif_t H1 h9
                  refine G.rg ?_
                  refine K.move (.inl rfl) (gd0 rfl) rfl rfl ?_
                  refine K.move (.inl rfl) (gd0 rfl) rfl rfl ?_
                  refine K.bin (V := .bool (!(x13.2.1 == x14.2.2))) (gd0 rfl) rfl rfl (bq_neq Try.underlying4 _ _) rfl ?_
                  refine K.move (.inl rfl) (gd0 rfl) rfl rfl ?_
                  refine K.skip rfl rfl rfl rfl (h9) rfl ?_
                  refine K.skip rfl rfl rfl rfl (h9) rfl ?_
                  refine K.skip rfl rfl rfl rfl (h9) rfl ?_
                  refine K.skip rfl rfl rfl rfl (h9) rfl ?_
                  refine K.skip rfl rfl rfl rfl (h9) rfl ?_
                  refine K.pickT (gd0 rfl) rfl (h9) rfl rfl ?_
                  refine K.move (.inl rfl) (gd0 rfl) rfl rfl ?_
                  refine K.skip rfl rfl rfl rfl (rfl) rfl ?_
                  refine K.skip rfl rfl rfl rfl (rfl) rfl ?_
                  refine K.skip rfl rfl rfl rfl (rfl) rfl ?_
                  refine K.skip rfl rfl rfl rfl (rfl) rfl ?_
                  refine K.skip rfl rfl rfl rfl (rfl) rfl ?_
                  refine K.pickT (gd0 rfl) rfl (rfl) rfl rfl ?_
                  refine K.nil ?_
                  refine At.next ?_
                  refine G.cond rfl (fun h10 => ?_) (fun h10 => ?_)
                  ·
                    refine G.seq ?_
                    refine G.rg ?_
                    refine K.move (.inr rfl) (gd0 rfl) rfl rfl ?_
                    refine K.nil ?_
                    refine At.next ?_
                    refine G.ret ?_
                    refine At.over_ret ?_
                    refine At.block_ret ?_
                    refine At.over_ret ?_
                    refine At.block_ret ?_
                    refine At.over_ret ?_
                    refine At.over_ret ?_
                    refine At.block_ret ?_
                    refine At.over_ret ?_
                    cases H1
                    replace H0 := sum_l H0
                    refine At.done Y [(.tmp 4, .c _)] rfl ⟨.tmp rfl, trivial⟩ (to' := [(0, _)]) ⟨rfl, trivial⟩ ?_ ?_ rfl rfl rfl (.inl rfl)
                    · cases H0; rfl
                    · cases H0; rfl
                  · cases h10
                ·
                  replace H1 := bif_f H1 h9
                  rcases Bool.eq_false_or_eq_true (x13.1.k != x14.2.1.k) with h11 | h11
                  ·
                    replace H1 := bif_t H1 h11
                    refine G.rg ?_
                    refine K.move (.inl rfl) (gd0 rfl) rfl rfl ?_
                    refine K.move (.inl rfl) (gd0 rfl) rfl rfl ?_
                    refine K.bin (V := .bool (!(x13.2.1 == x14.2.2))) (gd0 rfl) rfl rfl (bq_neq Try.underlying4 _ _) rfl ?_
                    refine K.move (.inl rfl) (gd0 rfl) rfl rfl ?_
                    refine K.fieldAddr Y (gd1 rfl rfl rfl (h9)) rfl t35 rfl rfl ?_
                    refine K.load1 Y (gd1 rfl rfl rfl (h9)) rfl rfl t3 rfl rfl ?_
                    refine K.fieldAddr Y (gd1 rfl rfl rfl (h9)) rfl t54 rfl rfl ?_
                    refine K.load1 Y (gd1 rfl rfl rfl (h9)) rfl rfl t3 rfl rfl ?_
                    refine K.bin (V := .bool (x13.1.k != x14.2.1.k)) (gd1 rfl rfl rfl (h9)) rfl rfl (fun _ => rfl) rfl ?_
                    refine K.pickF (gd0 rfl) rfl (h9) rfl rfl ?_
                    refine K.move (.inl rfl) (gd0 rfl) rfl rfl ?_
                    refine K.skip rfl rfl rfl rfl (h11) rfl ?_
                    refine K.skip rfl rfl rfl rfl (h11) rfl ?_
                    refine K.skip rfl rfl rfl rfl (h11) rfl ?_
                    refine K.skip rfl rfl rfl rfl (h11) rfl ?_
                    refine K.skip rfl rfl rfl rfl (h11) rfl ?_
                    refine K.pickT (gd0 rfl) rfl (h11) rfl rfl ?_
                    refine K.nil ?_
                    refine At.next ?_
                    refine G.cond rfl (fun h12 => ?_) (fun h12 => ?_)
                    ·
                      refine G.seq ?_
                      refine G.rg ?_
                      refine K.move (.inr rfl) (gd0 rfl) rfl rfl ?_
                      refine K.nil ?_
                      refine At.next ?_
                      refine G.ret ?_
                      refine At.over_ret ?_
                      refine At.block_ret ?_
                      refine At.over_ret ?_
                      refine At.block_ret ?_
                      refine At.over_ret ?_
                      refine At.over_ret ?_
                      refine At.block_ret ?_
                      refine At.over_ret ?_
                      cases H1
                      replace H0 := sum_l H0
                      refine At.done Y [(.tmp 4, .c _)] rfl ⟨.tmp rfl, trivial⟩ (to' := [(0, _)]) ⟨rfl, trivial⟩ ?_ ?_ rfl rfl rfl (.inl rfl)
                      · cases H0; rfl
                      · cases H0; rfl
                    · cases h12
                  ·
                    replace H1 := bif_f H1 h11
                    refine G.rg ?_
                    refine K.move (.inl rfl) (gd0 rfl) rfl rfl ?_
                    refine K.move (.inl rfl) (gd0 rfl) rfl rfl ?_
                    refine K.bin (V := .bool (!(x13.2.1 == x14.2.2))) (gd0 rfl) rfl rfl (bq_neq Try.underlying4 _ _) rfl ?_
                    refine K.move (.inl rfl) (gd0 rfl) rfl rfl ?_
                    refine K.fieldAddr Y (gd1 rfl rfl rfl (h9)) rfl t35 rfl rfl ?_
                    refine K.load1 Y (gd1 rfl rfl rfl (h9)) rfl rfl t3 rfl rfl ?_
                    refine K.fieldAddr Y (gd1 rfl rfl rfl (h9)) rfl t54 rfl rfl ?_
                    refine K.load1 Y (gd1 rfl rfl rfl (h9)) rfl rfl t3 rfl rfl ?_
                    refine K.bin (V := .bool (x13.1.k != x14.2.1.k)) (gd1 rfl rfl rfl (h9)) rfl rfl (fun _ => rfl) rfl ?_
                    refine K.pickF (gd0 rfl) rfl (h9) rfl rfl ?_
                    refine K.move (.inl rfl) (gd0 rfl) rfl rfl ?_
                    refine K.fieldAddr Y (gd1 rfl rfl rfl (h11)) rfl t35 rfl rfl ?_
                    refine K.load1 Y (gd1 rfl rfl rfl (h11)) rfl rfl t3 rfl rfl ?_
                    refine K.fieldAddr Y (gd1 rfl rfl rfl (h11)) rfl t54 rfl rfl ?_
                    refine K.load1 Y (gd1 rfl rfl rfl (h11)) rfl rfl t3 rfl rfl ?_
                    refine K.bin (V := .bool (x13.1.w != x14.2.1.w)) (gd1 rfl rfl rfl (h11)) rfl rfl (fun _ => rfl) rfl ?_
                    refine K.pickF (gd0 rfl) rfl (h11) rfl rfl ?_
                    refine K.nil ?_
                    refine At.next ?_
                    refine G.cond rfl (fun h13 => ?_) (fun h13 => ?_)
                    ·
                      replace H1 := bif_t H1 h13
                      refine G.seq ?_
                      refine G.rg ?_
                      refine K.move (.inr rfl) (gd0 rfl) rfl rfl ?_
                      refine K.nil ?_
                      refine At.next ?_
                      refine G.ret ?_
                      refine At.over_ret ?_
                      refine At.block_ret ?_
                      refine At.over_ret ?_
                      refine At.block_ret ?_
                      refine At.over_ret ?_
                      refine At.over_ret ?_
                      refine At.block_ret ?_
                      refine At.over_ret ?_
                      cases H1
                      replace H0 := sum_l H0
                      refine At.done Y [(.tmp 4, .c _)] rfl ⟨.tmp rfl, trivial⟩ (to' := [(0, _)]) ⟨rfl, trivial⟩ ?_ ?_ rfl rfl rfl (.inl rfl)
                      · cases H0; rfl
                      · cases H0; rfl
                    ·
                      replace H1 := bif_f H1 h13
                      refine G.skip ?_
                      refine At.next ?_
                      refine G.rg ?_
                      refine K.move (.inl rfl) (gd0 rfl) rfl rfl ?_
                      refine K.move (.inr rfl) (gd0 rfl) rfl rfl ?_
                      refine K.nil ?_
                      refine At.block_normal ?_
                      refine At.next ?_
                      refine G.seq ?_
                      obtain ⟨x15, hx15, H1⟩ := bnd H1
                      refine G.rg ?_
                      refine K.move (.inl rfl) (gd0 rfl) rfl rfl ?_
                      refine K.move (.inl rfl) (gd0 rfl) rfl rfl ?_
                      refine K.callV [(.func 36, _), ((.tmp 213), _), ((.tmp 214), _)] [(115, lrow 115 54 eTR07Elem 2 x14.1)] [(109, _), (110, _)] [(109, _), (110, _)] (fun β => [SV.p 109 0, SV.raw ((lrowV 115 54 eTR07Elem 2 x14.1).s.den β)]) (fun β w S2 h => Lw07_alike_con (k := k) ((lrowV_isC eTR07Elem_len (by decide)).larg ⟨_, List.mem_cons_self⟩ h) hx15 109 110) (toFn_func (cf 36 rfl) rfl) (gd0 rfl) ⟨rfl, rfl, rfl, trivial⟩ (fun _ => rfl) ⟨rfl, rfl, rfl, trivial⟩ rfl rfl rfl rfl rfl rfl ?_
                      refine K.un (V := .bool (!x15)) (gd0 rfl) rfl (fun _ => rfl) rfl ?_
                      refine K.nil ?_
                      refine At.next ?_
                      refine G.cond rfl (fun h14 => ?_) (fun h14 => ?_)
                      ·
                        replace H1 := bif_t H1 h14
                        refine G.seq ?_
                        refine G.rg ?_
                        refine K.move (.inr rfl) (gd0 rfl) rfl rfl ?_
                        refine K.nil ?_
                        refine At.next ?_
                        refine G.ret ?_
                        refine At.block_ret ?_
                        refine At.over_ret ?_
                        refine At.over_ret ?_
                        refine At.block_ret ?_
                        refine At.over_ret ?_
                        cases H1
                        replace H0 := sum_l H0
                        refine At.done Y [(.tmp 4, .c _)] rfl ⟨.tmp rfl, trivial⟩ (to' := [(0, _)]) ⟨rfl, trivial⟩ ?_ ?_ rfl rfl rfl (.inl rfl)
                        · cases H0; rfl
                        · cases H0; rfl
                      ·
                        replace H1 := bif_f H1 h14
                        refine G.skip ?_
                        refine At.block_normal ?_
                        refine At.next ?_
                        refine G.rg ?_
                        refine K.move (.inl rfl) (gd0 rfl) rfl rfl ?_
                        refine K.bin (V := .int .i64 (w64 (v6 + 1))) (gd0 rfl) rfl rfl (fun _ => rfl) rfl ?_
                        refine K.move (.inr rfl) (gd0 rfl) rfl rfl ?_
                        refine K.nil ?_
                        exact At.again (σ := { q : Nat × (Int × Pool (TNode TL07Elem TTide) × Int × Int × List TR07Elem × Int) // Lw07_GroveActs.l0 k l1 q.1 q.2 = some x7 }) (Fs := fun q => [(1, SV.raw s1), (5, .a (.c (.v (.int .i64 q.1.2.1)))), (6, .a (.c (.p 109 0))), (7, .a (.c (.nv 111))), (8, .a (.c (.v (.int .i64 q.1.2.2.2.2.2.2))))]) (Tl := fun q => [(0, rd S W0), (110, plE 110 q.1.2.2.1), (109, blk 109 [.p 110 0, .v (.int .i64 q.1.2.2.2.1), .v (.int .i64 q.1.2.2.2.2.1)] 101), (111, lrow 111 54 eTR07Elem 2 q.1.2.2.2.2.2.1)]) (μ := fun q => q.1.1) (s := ⟨(n0 + 1, (v1, v2, v3, v4, v5, v6)), HL0⟩) ⟨(n0, (v1, x13.2.2.2, x13.2.2.1.index, x13.2.2.1.gen, x14.1, (w64 (v6 + 1)))), H1⟩ [(111, 115)] [_, _, _, _] (Nat.lt_succ_self _) rfl ⟨rfl, rfl, rfl, rfl, rfl, trivial⟩ ⟨rfl, (fun _ => rfl), rfl, (pl_ren rfl), rfl, (blk_ren rfl rfl), rfl, (lrow_ren rfl), trivial⟩ rfl
              ·
                replace H1 := bif_f H1 h8
                refine G.seq ?_
                refine G.rg ?_
                refine K.bin (V := .bool (x9 == 2)) (gd0 rfl) rfl rfl (fun _ => rfl) rfl ?_
                refine K.move (.inr rfl) (gd0 rfl) rfl rfl ?_
                refine K.nil ?_
                refine At.next ?_
                refine G.cond rfl (fun h15 => ?_) (fun h15 => ?_)
                ·
                  replace H1 := bif_t H1 h15
                  refine G.seq ?_
                  obtain ⟨x16, hx16, H1⟩ := bnd H1
                  refine G.rg ?_
                  refine K.move (.inl rfl) (gd0 rfl) rfl rfl ?_
                  refine K.fieldAddr Y (gd0 rfl) rfl t41 rfl rfl ?_
                  refine K.load1 Y (gd0 rfl) rfl rfl t3 rfl rfl ?_
                  refine K.build Y [(0, _)] [_, _] [((.tmp 116), _)] (gd0 rfl) (AllE.spec ⟨rfl, trivial⟩) rfl rfl t35 rfl rfl ?_
                  refine K.callR [(.func 27, _), ((.tmp 114), _), ((.tmp 117), _)] (Tree_FindE_con (k := k) hx16 109 110) (toFn_func (cf 27 rfl) rfl) (gd0 rfl) ⟨rfl, rfl, rfl, trivial⟩ ⟨rfl, rfl, trivial⟩ rfl rfl rfl ?_
                  refine K.move (.inl rfl) (gd0 rfl) rfl rfl ?_
                  refine K.extract (gd0 rfl) rfl rfl rfl ?_
                  refine K.extract (gd0 rfl) rfl rfl rfl ?_
                  refine K.alloc Y 117 [_, _] (gd0 rfl) t35 rfl rfl rfl rfl rfl ?_
                  refine K.store Y [_, _] (gd0 rfl) rfl rfl rfl t35 rfl rfl rfl rfl rfl ?_
                  refine K.move (.inr rfl) (gd0 rfl) rfl rfl ?_
                  refine K.nil ?_
                  refine At.next ?_
                  refine G.seq ?_
                  obtain ⟨x17, hx17, H1⟩ := bnd H1
                  refine G.rg ?_
                  refine K.move (.inl rfl) (gd0 rfl) rfl rfl ?_
                  refine K.fieldAddr Y (gd0 rfl) rfl t41 rfl rfl ?_
                  refine K.load1 Y (gd0 rfl) rfl rfl t3 rfl rfl ?_
                  refine K.callV [(.func 33, _), ((.tmp 122), _), ((.tmp 124), _)] [(111, lrow 111 54 eTR07Elem 2 v5)] [] [] (fun β => [SV.raw ((lrowV 111 54 eTR07Elem 2 v5).s.den β), .a (.c (.v (.int .i64 x8.k)))]) (fun β w S2 h => R07_Drop_e0_con (k := k) ((lrowV_isC eTR07Elem_len (by decide)).larg ⟨_, List.mem_cons_self⟩ h) hx17 118 rfl) (toFn_func (cf 33 rfl) rfl) (gd0 rfl) ⟨rfl, rfl, rfl, trivial⟩ (fun _ => rfl) ⟨rfl, trivial⟩ rfl rfl rfl rfl rfl rfl ?_
                  refine K.move (.inl rfl) (gd0 rfl) rfl rfl ?_
                  refine K.extract (gd0 rfl) rfl rfl rfl ?_
                  refine K.extract (gd0 rfl) rfl rfl rfl ?_
                  refine K.extract (gd0 rfl) rfl rfl rfl ?_
                  refine K.alloc Y 119 [_, _] (gd0 rfl) t54 rfl rfl rfl rfl rfl ?_
                  refine K.move (.inr rfl) (gd0 rfl) rfl rfl ?_
                  refine K.store Y [_, _] (gd0 rfl) rfl rfl rfl t54 rfl rfl rfl rfl rfl ?_
                  refine K.move (.inr rfl) (gd0 rfl) rfl rfl ?_
                  refine K.nil ?_
                  refine At.next ?_
                  refine G.seq ?_
                  rcases Bool.eq_false_or_eq_true (!(x16.2 == x17.2.2)) with h16 | h16
                  ·
                    replace H1 := bif_t H1 h16
                    refine G.rg ?_
                    refine K.move (.inl rfl) (gd0 rfl) rfl rfl ?_
                    refine K.move (.inl rfl) (gd0 rfl) rfl rfl ?_
                    refine K.bin (V := .bool (!(x16.2 == x17.2.2))) (gd0 rfl) rfl rfl (bq_neq Try.underlying4 _ _) rfl ?_
                    refine K.move (.inl rfl) (gd0 rfl) rfl rfl ?_
                    refine K.skip rfl rfl rfl rfl (h16) rfl ?_
                    refine K.skip rfl rfl rfl rfl (h16) rfl ?_
                    refine K.skip rfl rfl rfl rfl (h16) rfl ?_
                    refine K.skip rfl rfl rfl rfl (h16) rfl ?_
                    refine K.skip rfl rfl rfl rfl (h16) rfl ?_
                    refine K.pickT (gd0 rfl) rfl (h16) rfl rfl ?_
                    refine K.move (.inl rfl) (gd0 rfl) rfl rfl ?_
                    refine K.skip rfl rfl rfl rfl (rfl) rfl ?_
                    refine K.skip rfl rfl rfl rfl (rfl) rfl ?_
                    refine K.skip rfl rfl rfl rfl (rfl) rfl ?_
                    refine K.skip rfl rfl rfl rfl (rfl) rfl ?_
                    refine K.skip rfl rfl rfl rfl (rfl) rfl ?_
                    refine K.pickT (gd0 rfl) rfl (rfl) rfl rfl ?_
                    refine K.nil ?_
                    refine At.next ?_
                    refine G.cond rfl (fun h17 => ?_) (fun h17 => ?_)
                    ·
                      refine G.seq ?_
                      refine G.rg ?_
                      refine K.move (.inr rfl) (gd0 rfl) rfl rfl ?_
                      refine K.nil ?_
                      refine At.next ?_
                      refine G.ret ?_
                      refine At.block_ret ?_
                      refine At.over_ret ?_
                      refine At.block_ret ?_
                      refine At.over_ret ?_
                      refine At.over_ret ?_
                      refine At.block_ret ?_
                      refine At.over_ret ?_
                      cases H1
                      replace H0 := sum_l H0
                      refine At.done Y [(.tmp 4, .c _)] rfl ⟨.tmp rfl, trivial⟩ (to' := [(0, _)]) ⟨rfl, trivial⟩ ?_ ?_ rfl rfl rfl (.inl rfl)
                      · cases H0; rfl
                      · cases H0; rfl
                    · cases h17
                  ·
                    replace H1 := bif_f H1 h16
                    rcases Bool.eq_false_or_eq_true (x16.1.k != x17.2.1.k) with h18 | h18
                    ·
                      replace H1 := bif_t H1 h18
                      refine G.rg ?_
                      refine K.move (.inl rfl) (gd0 rfl) rfl rfl ?_
                      refine K.move (.inl rfl) (gd0 rfl) rfl rfl ?_
                      refine K.bin (V := .bool (!(x16.2 == x17.2.2))) (gd0 rfl) rfl rfl (bq_neq Try.underlying4 _ _) rfl ?_
                      refine K.move (.inl rfl) (gd0 rfl) rfl rfl ?_
                      refine K.fieldAddr Y (gd1 rfl rfl rfl (h16)) rfl t35 rfl rfl ?_
                      refine K.load1 Y (gd1 rfl rfl rfl (h16)) rfl rfl t3 rfl rfl ?_
                      refine K.fieldAddr Y (gd1 rfl rfl rfl (h16)) rfl t54 rfl rfl ?_
                      refine K.load1 Y (gd1 rfl rfl rfl (h16)) rfl rfl t3 rfl rfl ?_
                      refine K.bin (V := .bool (x16.1.k != x17.2.1.k)) (gd1 rfl rfl rfl (h16)) rfl rfl (fun _ => rfl) rfl ?_
                      refine K.pickF (gd0 rfl) rfl (h16) rfl rfl ?_
                      refine K.move (.inl rfl) (gd0 rfl) rfl rfl ?_
                      refine K.skip rfl rfl rfl rfl (h18) rfl ?_
                      refine K.skip rfl rfl rfl rfl (h18) rfl ?_
                      refine K.skip rfl rfl rfl rfl (h18) rfl ?_
                      refine K.skip rfl rfl rfl rfl (h18) rfl ?_
                      refine K.skip rfl rfl rfl rfl (h18) rfl ?_
                      refine K.pickT (gd0 rfl) rfl (h18) rfl rfl ?_
                      refine K.nil ?_
                      refine At.next ?_
                      refine G.cond rfl (fun h19 => ?_) (fun h19 => ?_)
                      ·
                        refine G.seq ?_
                        refine G.rg ?_
                        refine K.move (.inr rfl) (gd0 rfl) rfl rfl ?_
                        refine K.nil ?_
                        refine At.next ?_
                        refine G.ret ?_
                        refine At.block_ret ?_
                        refine At.over_ret ?_
                        refine At.block_ret ?_
                        refine At.over_ret ?_
                        refine At.over_ret ?_
                        refine At.block_ret ?_
                        refine At.over_ret ?_
                        cases H1
                        replace H0 := sum_l H0
                        refine At.done Y [(.tmp 4, .c _)] rfl ⟨.tmp rfl, trivial⟩ (to' := [(0, _)]) ⟨rfl, trivial⟩ ?_ ?_ rfl rfl rfl (.inl rfl)
                        · cases H0; rfl
                        · cases H0; rfl
                      · cases h19
                    ·
                      replace H1 := bif_f H1 h18
                      refine G.rg ?_
                      refine K.move (.inl rfl) (gd0 rfl) rfl rfl ?_
                      refine K.move (.inl rfl) (gd0 rfl) rfl rfl ?_
                      refine K.bin (V := .bool (!(x16.2 == x17.2.2))) (gd0 rfl) rfl rfl (bq_neq Try.underlying4 _ _) rfl ?_
                      refine K.move (.inl rfl) (gd0 rfl) rfl rfl ?_
                      refine K.fieldAddr Y (gd1 rfl rfl rfl (h16)) rfl t35 rfl rfl ?_
                      refine K.load1 Y (gd1 rfl rfl rfl (h16)) rfl rfl t3 rfl rfl ?_
                      refine K.fieldAddr Y (gd1 rfl rfl rfl (h16)) rfl t54 rfl rfl ?_
                      refine K.load1 Y (gd1 rfl rfl rfl (h16)) rfl rfl t3 rfl rfl ?_
                      refine K.bin (V := .bool (x16.1.k != x17.2.1.k)) (gd1 rfl rfl rfl (h16)) rfl rfl (fun _ => rfl) rfl ?_
                      refine K.pickF (gd0 rfl) rfl (h16) rfl rfl ?_
                      refine K.move (.inl rfl) (gd0 rfl) rfl rfl ?_
                      refine K.fieldAddr Y (gd1 rfl rfl rfl (h18)) rfl t35 rfl rfl ?_
                      refine K.load1 Y (gd1 rfl rfl rfl (h18)) rfl rfl t3 rfl rfl ?_
                      refine K.fieldAddr Y (gd1 rfl rfl rfl (h18)) rfl t54 rfl rfl ?_
                      refine K.load1 Y (gd1 rfl rfl rfl (h18)) rfl rfl t3 rfl rfl ?_
                      refine K.bin (V := .bool (x16.1.w != x17.2.1.w)) (gd1 rfl rfl rfl (h18)) rfl rfl (fun _ => rfl) rfl ?_
                      refine K.pickF (gd0 rfl) rfl (h18) rfl rfl ?_
                      refine K.nil ?_
                      refine At.next ?_
                      refine G.cond rfl (fun h20 => ?_) (fun h20 => ?_)
                      ·
                        replace H1 := bif_t H1 h20
                        refine G.seq ?_
                        refine G.rg ?_
                        refine K.move (.inr rfl) (gd0 rfl) rfl rfl ?_
                        refine K.nil ?_
                        refine At.next ?_
                        refine G.ret ?_
                        refine At.block_ret ?_
                        refine At.over_ret ?_
                        refine At.block_ret ?_
                        refine At.over_ret ?_
                        refine At.over_ret ?_
                        refine At.block_ret ?_
                        refine At.over_ret ?_
                        cases H1
                        replace H0 := sum_l H0
                        refine At.done Y [(.tmp 4, .c _)] rfl ⟨.tmp rfl, trivial⟩ (to' := [(0, _)]) ⟨rfl, trivial⟩ ?_ ?_ rfl rfl rfl (.inl rfl)
                        · cases H0; rfl
                        · cases H0; rfl
                      ·
                        replace H1 := bif_f H1 h20
                        refine G.skip ?_
                        refine At.block_normal ?_
                        refine At.next ?_
                        refine G.seq ?_
                        obtain ⟨x18, hx18, H1⟩ := bnd H1
                        refine G.rg ?_
                        refine K.move (.inl rfl) (gd0 rfl) rfl rfl ?_
                        refine K.move (.inl rfl) (gd0 rfl) rfl rfl ?_
                        refine K.callV [(.func 36, _), ((.tmp 213), _), ((.tmp 214), _)] [(111, lrow 111 54 eTR07Elem 2 v5)] [(109, _), (110, _)] [(109, _), (110, _)] (fun β => [SV.p 109 0, SV.raw ((lrowV 111 54 eTR07Elem 2 v5).s.den β)]) (fun β w S2 h => Lw07_alike_con (k := k) ((lrowV_isC eTR07Elem_len (by decide)).larg ⟨_, List.mem_cons_self⟩ h) hx18 109 110) (toFn_func (cf 36 rfl) rfl) (gd0 rfl) ⟨rfl, rfl, rfl, trivial⟩ (fun _ => rfl) ⟨rfl, rfl, rfl, trivial⟩ rfl rfl rfl rfl rfl rfl ?_
                        refine K.un (V := .bool (!x18)) (gd0 rfl) rfl (fun _ => rfl) rfl ?_
                        refine K.nil ?_
                        refine At.next ?_
                        refine G.cond rfl (fun h21 => ?_) (fun h21 => ?_)
                        ·
                          replace H1 := bif_t H1 h21
                          refine G.seq ?_
                          refine G.rg ?_
                          refine K.move (.inr rfl) (gd0 rfl) rfl rfl ?_
                          refine K.nil ?_
                          refine At.next ?_
                          refine G.ret ?_
                          refine At.block_ret ?_
                          refine At.over_ret ?_
                          refine At.over_ret ?_
                          refine At.block_ret ?_
                          refine At.over_ret ?_
                          cases H1
                          replace H0 := sum_l H0
                          refine At.done Y [(.tmp 4, .c _)] rfl ⟨.tmp rfl, trivial⟩ (to' := [(0, _)]) ⟨rfl, trivial⟩ ?_ ?_ rfl rfl rfl (.inl rfl)
                          · cases H0; rfl
                          · cases H0; rfl
                        ·
                          replace H1 := bif_f H1 h21
                          refine G.skip ?_
                          refine At.block_normal ?_
                          refine At.next ?_
                          refine G.rg ?_
                          refine K.move (.inl rfl) (gd0 rfl) rfl rfl ?_
                          refine K.bin (V := .int .i64 (w64 (v6 + 1))) (gd0 rfl) rfl rfl (fun _ => rfl) rfl ?_
                          refine K.move (.inr rfl) (gd0 rfl) rfl rfl ?_
                          refine K.nil ?_
                          exact At.again (σ := { q : Nat × (Int × Pool (TNode TL07Elem TTide) × Int × Int × List TR07Elem × Int) // Lw07_GroveActs.l0 k l1 q.1 q.2 = some x7 }) (Fs := fun q => [(1, SV.raw s1), (5, .a (.c (.v (.int .i64 q.1.2.1)))), (6, .a (.c (.p 109 0))), (7, .a (.c (.nv 111))), (8, .a (.c (.v (.int .i64 q.1.2.2.2.2.2.2))))]) (Tl := fun q => [(0, rd S W0), (110, plE 110 q.1.2.2.1), (109, blk 109 [.p 110 0, .v (.int .i64 q.1.2.2.2.1), .v (.int .i64 q.1.2.2.2.2.1)] 101), (111, lrow 111 54 eTR07Elem 2 q.1.2.2.2.2.2.1)]) (μ := fun q => q.1.1) (s := ⟨(n0 + 1, (v1, v2, v3, v4, v5, v6)), HL0⟩) ⟨(n0, (v1, v2, v3, v4, v5, (w64 (v6 + 1)))), H1⟩ [] [_, _, _, _] (Nat.lt_succ_self _) rfl ⟨rfl, rfl, rfl, rfl, rfl, trivial⟩ ⟨rfl, (fun _ => rfl), rfl, (pl_ren rfl), rfl, (blk_ren rfl rfl), rfl, (lrow_ren rfl), trivial⟩ rfl
                ·
                  replace H1 := bif_f H1 h15
                  refine G.seq ?_
                  refine G.rg ?_
                  refine K.bin (V := .bool (x9 == 3)) (gd0 rfl) rfl rfl (fun _ => rfl) rfl ?_
                  refine K.move (.inr rfl) (gd0 rfl) rfl rfl ?_
                  refine K.nil ?_
                  refine At.next ?_
                  refine G.cond rfl (fun h22 => ?_) (fun h22 => ?_)
                  ·
                    replace H1 := bif_t H1 h22
                    refine G.seq ?_
                    obtain ⟨x19, hx19, H1⟩ := bnd H1
                    obtain ⟨x20, hx20, H1⟩ := bnd H1
                    refine G.rd mixed ?_
                    refine K.move (.inl rfl) (gd0 rfl) rfl rfl ?_
                    refine K.fieldAddr Y (gd0 rfl) rfl t41 rfl rfl ?_
                    refine K.load1 Y (gd0 rfl) rfl rfl t3 rfl rfl ?_
                    refine K.build Y [(0, _)] [_, _] [((.tmp 150), _)] (gd0 rfl) (AllE.spec ⟨rfl, trivial⟩) rfl rfl t35 rfl rfl ?_
                    refine K.callR [(.func 26, _), ((.tmp 148), _), ((.tmp 151), _)] (Tree_RankE_con (k := k) hx19 109 110) (toFn_func (cf 26 rfl) rfl) (gd0 rfl) ⟨rfl, rfl, rfl, trivial⟩ ⟨rfl, rfl, trivial⟩ rfl rfl rfl ?_
                    refine K.move (.inl rfl) (gd0 rfl) rfl rfl ?_
                    refine K.fieldAddr Y (gd0 rfl) rfl t41 rfl rfl ?_
                    refine K.load1 Y (gd0 rfl) rfl rfl t3 rfl rfl ?_
                    refine K.callV [(.func 34, _), ((.tmp 153), _), ((.tmp 155), _)] [(111, lrow 111 54 eTR07Elem 2 v5)] [] [] (fun β => [SV.raw ((lrowV 111 54 eTR07Elem 2 v5).s.den β), .a (.c (.v (.int .i64 x8.k)))]) (fun β w S2 h => R07_Rank_con (k := k) ((lrowV_isC eTR07Elem_len (by decide)).larg ⟨_, List.mem_cons_self⟩ h) hx20) (toFn_func (cf 34 rfl) rfl) (gd0 rfl) ⟨rfl, rfl, rfl, trivial⟩ (fun _ => rfl) ⟨rfl, trivial⟩ rfl rfl rfl rfl rfl rfl ?_
                    refine K.bin (V := .bool (x19 != x20)) (gd0 rfl) rfl rfl (fun _ => rfl) rfl ?_
                    refine K.nil ?_
                    refine ⟨by kernel_rfl, ?_⟩
                    refine At.next ?_
                    refine G.cond rfl (fun h23 => ?_) (fun h23 => ?_)
                    ·
                      replace H1 := bif_t H1 h23
                      refine G.seq ?_
                      refine G.rg ?_
                      refine K.move (.inr rfl) (gd0 rfl) rfl rfl ?_
                      refine K.nil ?_
                      refine At.next ?_
                      refine G.ret ?_
                      refine At.block_ret ?_
                      refine At.over_ret ?_
                      refine At.block_ret ?_
                      refine At.over_ret ?_
                      refine At.over_ret ?_
                      refine At.block_ret ?_
                      refine At.over_ret ?_
                      cases H1
                      replace H0 := sum_l H0
                      refine At.done Y [(.tmp 4, .c _)] rfl ⟨.tmp rfl, trivial⟩ (to' := [(0, _)]) ⟨rfl, trivial⟩ ?_ ?_ rfl rfl rfl (.inl rfl)
                      · cases H0; rfl
                      · cases H0; rfl
                    ·
                      replace H1 := bif_f H1 h23
                      refine G.skip ?_
                      refine At.block_normal ?_
                      refine At.next ?_
                      refine G.seq ?_
                      obtain ⟨x21, hx21, H1⟩ := bnd H1
                      refine G.rg ?_
                      refine K.move (.inl rfl) (gd0 rfl) rfl rfl ?_
                      refine K.move (.inl rfl) (gd0 rfl) rfl rfl ?_
                      refine K.callV [(.func 36, _), ((.tmp 213), _), ((.tmp 214), _)] [(111, lrow 111 54 eTR07Elem 2 v5)] [(109, _), (110, _)] [(109, _), (110, _)] (fun β => [SV.p 109 0, SV.raw ((lrowV 111 54 eTR07Elem 2 v5).s.den β)]) (fun β w S2 h => Lw07_alike_con (k := k) ((lrowV_isC eTR07Elem_len (by decide)).larg ⟨_, List.mem_cons_self⟩ h) hx21 109 110) (toFn_func (cf 36 rfl) rfl) (gd0 rfl) ⟨rfl, rfl, rfl, trivial⟩ (fun _ => rfl) ⟨rfl, rfl, rfl, trivial⟩ rfl rfl rfl rfl rfl rfl ?_
                      refine K.un (V := .bool (!x21)) (gd0 rfl) rfl (fun _ => rfl) rfl ?_
                      refine K.nil ?_
                      refine At.next ?_
                      refine G.cond rfl (fun h24 => ?_) (fun h24 => ?_)
                      ·
                        replace H1 := bif_t H1 h24
                        refine G.seq ?_
                        refine G.rg ?_
                        refine K.move (.inr rfl) (gd0 rfl) rfl rfl ?_
                        refine K.nil ?_
                        refine At.next ?_
                        refine G.ret ?_
                        refine At.block_ret ?_
                        refine At.over_ret ?_
                        refine At.over_ret ?_
                        refine At.block_ret ?_
                        refine At.over_ret ?_
                        cases H1
                        replace H0 := sum_l H0
                        refine At.done Y [(.tmp 4, .c _)] rfl ⟨.tmp rfl, trivial⟩ (to' := [(0, _)]) ⟨rfl, trivial⟩ ?_ ?_ rfl rfl rfl (.inl rfl)
                        · cases H0; rfl
                        · cases H0; rfl
                      ·
                        replace H1 := bif_f H1 h24
                        refine G.skip ?_
                        refine At.block_normal ?_
                        refine At.next ?_
                        refine G.rg ?_
                        refine K.move (.inl rfl) (gd0 rfl) rfl rfl ?_
                        refine K.bin (V := .int .i64 (w64 (v6 + 1))) (gd0 rfl) rfl rfl (fun _ => rfl) rfl ?_
                        refine K.move (.inr rfl) (gd0 rfl) rfl rfl ?_
                        refine K.nil ?_
                        exact At.again (σ := { q : Nat × (Int × Pool (TNode TL07Elem TTide) × Int × Int × List TR07Elem × Int) // Lw07_GroveActs.l0 k l1 q.1 q.2 = some x7 }) (Fs := fun q => [(1, SV.raw s1), (5, .a (.c (.v (.int .i64 q.1.2.1)))), (6, .a (.c (.p 109 0))), (7, .a (.c (.nv 111))), (8, .a (.c (.v (.int .i64 q.1.2.2.2.2.2.2))))]) (Tl := fun q => [(0, rd S W0), (110, plE 110 q.1.2.2.1), (109, blk 109 [.p 110 0, .v (.int .i64 q.1.2.2.2.1), .v (.int .i64 q.1.2.2.2.2.1)] 101), (111, lrow 111 54 eTR07Elem 2 q.1.2.2.2.2.2.1)]) (μ := fun q => q.1.1) (s := ⟨(n0 + 1, (v1, v2, v3, v4, v5, v6)), HL0⟩) ⟨(n0, (v1, v2, v3, v4, v5, (w64 (v6 + 1)))), H1⟩ [] [_, _, _, _] (Nat.lt_succ_self _) rfl ⟨rfl, rfl, rfl, rfl, rfl, trivial⟩ ⟨rfl, (fun _ => rfl), rfl, (pl_ren rfl), rfl, (blk_ren rfl rfl), rfl, (lrow_ren rfl), trivial⟩ rfl
                  ·
                    replace H1 := bif_f H1 h22
                    refine G.seq ?_
                    refine G.rg ?_
                    refine K.bin (V := .bool (x9 == 4)) (gd0 rfl) rfl rfl (fun _ => rfl) rfl ?_
                    refine K.move (.inr rfl) (gd0 rfl) rfl rfl ?_
                    refine K.nil ?_
                    refine At.next ?_
                    refine G.cond rfl (fun h25 => ?_) (fun h25 => ?_)
                    ·
                      replace H1 := bif_t H1 h25
                      refine G.seq ?_
                      obtain ⟨x22, hx22, H1⟩ := bnd H1
                      refine G.rg ?_
                      refine K.move (.inl rfl) (gd0 rfl) rfl rfl ?_
                      refine K.fieldAddr Y (gd0 rfl) rfl t41 rfl rfl ?_
                      refine K.load1 Y (gd0 rfl) rfl rfl t3 rfl rfl ?_
                      refine K.callR [(.func 35, _), ((.tmp 161), _), ((.tmp 163), _)] (Tree_AtE_con (k := k) hx22 109 110) (toFn_func (cf 35 rfl) rfl) (gd0 rfl) ⟨rfl, rfl, rfl, trivial⟩ ⟨rfl, rfl, trivial⟩ rfl rfl rfl ?_
                      refine K.move (.inl rfl) (gd0 rfl) rfl rfl ?_
                      refine K.extract (gd0 rfl) rfl rfl rfl ?_
                      refine K.extract (gd0 rfl) rfl rfl rfl ?_
                      refine K.alloc Y 120 [_, _] (gd0 rfl) t35 rfl rfl rfl rfl rfl ?_
                      refine K.store Y [_, _] (gd0 rfl) rfl rfl rfl t35 rfl rfl rfl rfl rfl ?_
                      refine K.move (.inr rfl) (gd0 rfl) rfl rfl ?_
                      refine K.nil ?_
                      refine At.next ?_
                      refine G.seq ?_
                      rcases Bool.eq_false_or_eq_true (decide (x8.k ≥ 0)) with h26 | h26
                      ·
                        replace H1 := bif_t H1 h26
                        rcases Bool.eq_false_or_eq_true (!(x22.2 == (decide (x8.k < (v5.length : Int))))) with h27 | h27
                        ·
                          replace H1 := bif_t H1 h27
                          refine G.rd mixed ?_
                          refine K.move (.inl rfl) (gd0 rfl) rfl rfl ?_
                          refine K.fieldAddr Y (gd0 rfl) rfl t41 rfl rfl ?_
                          refine K.load1 Y (gd0 rfl) rfl rfl t3 rfl rfl ?_
                          refine K.bin (V := .bool (decide (x8.k ≥ 0))) (gd0 rfl) rfl rfl (fun _ => rfl) rfl ?_
                          refine K.move (.inl rfl) (gd0 rfl) rfl rfl ?_
                          refine K.fieldAddr Y (gd1 rfl rfl rfl (h26)) rfl t41 rfl rfl ?_
                          refine K.load1 Y (gd1 rfl rfl rfl (h26)) rfl rfl t3 rfl rfl ?_
                          refine K.move (.inl rfl) (gd1 rfl rfl rfl (h26)) rfl rfl ?_
                          refine K.lenL (lrowV 111 54 eTR07Elem 2 v5) (lrowV_is eTR07Elem_len (by decide)) (gd1 rfl rfl rfl (h26)) rfl rfl Try.underlying26 rfl ?_
                          refine K.bin (V := .bool (decide (x8.k < (v5.length : Int)))) (gd1 rfl rfl rfl (h26)) rfl rfl (fun _ => rfl) rfl ?_
                          refine K.pickT (gd0 rfl) rfl (h26) rfl rfl ?_
                          refine K.bin (V := .bool (!(x22.2 == (decide (x8.k < (v5.length : Int)))))) (gd0 rfl) rfl rfl (bq_neq Try.underlying4 _ _) rfl ?_
                          refine K.move (.inl rfl) (gd0 rfl) rfl rfl ?_
                          refine K.skip rfl rfl rfl rfl (h27) rfl ?_
                          refine K.skip rfl rfl rfl rfl (h27) rfl ?_
                          refine K.skipU rfl rfl rfl rfl rfl ?_
                          refine K.skipU rfl rfl rfl rfl rfl ?_
                          refine K.skipU rfl rfl rfl rfl rfl ?_
                          refine K.skipU rfl rfl rfl rfl rfl ?_
                          refine K.skipU rfl rfl rfl rfl rfl ?_
                          refine K.skipU rfl rfl rfl rfl rfl ?_
                          refine K.skipU rfl rfl rfl rfl rfl ?_
                          refine K.skipU rfl rfl rfl rfl rfl ?_
                          refine K.skipU rfl rfl rfl rfl rfl ?_
                          refine K.skipU rfl rfl rfl rfl rfl ?_
                          refine K.skipU rfl rfl rfl rfl rfl ?_
                          refine K.skipU rfl rfl rfl rfl rfl ?_
                          refine K.skipU rfl rfl rfl rfl rfl ?_
                          refine K.skipU rfl rfl rfl rfl rfl ?_
                          refine K.skipU rfl rfl rfl rfl rfl ?_
                          refine K.skipU rfl rfl rfl rfl rfl ?_
                          refine K.skipU rfl rfl rfl rfl rfl ?_
                          refine K.skipU rfl rfl rfl rfl rfl ?_
                          refine K.skipU rfl rfl rfl rfl rfl ?_
                          refine K.skipU rfl rfl rfl rfl rfl ?_
                          refine K.skip rfl rfl rfl rfl (h27) rfl ?_
                          refine K.pickT (gd0 rfl) rfl (h27) rfl rfl ?_
                          refine K.move (.inl rfl) (gd0 rfl) rfl rfl ?_
                          refine K.skip rfl rfl rfl rfl (rfl) rfl ?_
                          refine K.skip rfl rfl rfl rfl (rfl) rfl ?_
                          refine K.skip rfl rfl rfl rfl (rfl) rfl ?_
                          refine K.skipU rfl rfl rfl rfl rfl ?_
                          refine K.skipU rfl rfl rfl rfl rfl ?_
                          refine K.skipU rfl rfl rfl rfl rfl ?_
                          refine K.skip rfl rfl rfl rfl (rfl) rfl ?_
                          refine K.pickT (gd0 rfl) rfl (rfl) rfl rfl ?_
                          refine K.nil ?_
                          refine ⟨by kernel_rfl, ?_⟩
                          refine At.next ?_
                          refine G.cond rfl (fun h28 => ?_) (fun h28 => ?_)
                          ·
                            refine G.seq ?_
                            refine G.rg ?_
                            refine K.move (.inr rfl) (gd0 rfl) rfl rfl ?_
                            refine K.nil ?_
                            refine At.next ?_
                            refine G.ret ?_
                            refine At.block_ret ?_
                            refine At.over_ret ?_
                            refine At.block_ret ?_
                            refine At.over_ret ?_
                            refine At.over_ret ?_
                            refine At.block_ret ?_
                            refine At.over_ret ?_
                            cases H1
                            replace H0 := sum_l H0
                            refine At.done Y [(.tmp 4, .c _)] rfl ⟨.tmp rfl, trivial⟩ (to' := [(0, _)]) ⟨rfl, trivial⟩ ?_ ?_ rfl rfl rfl (.inl rfl)
                            · cases H0; rfl
                            · cases H0; rfl
                          · cases h28
                        ·
                          replace H1 := bif_f H1 h27
                          rcases Bool.eq_false_or_eq_true x22.2 with h29 | h29
                          ·
                            replace H1 := bif_t H1 h29
                            obtain ⟨x23, hx23, H1⟩ := bnd H1
                            rcases Bool.eq_false_or_eq_true (x22.1.k != x23.k) with h30 | h30
                            ·
                              replace H1 := bif_t H1 h30
                              refine G.rd mixed ?_
                              refine K.move (.inl rfl) (gd0 rfl) rfl rfl ?_
                              refine K.fieldAddr Y (gd0 rfl) rfl t41 rfl rfl ?_
                              refine K.load1 Y (gd0 rfl) rfl rfl t3 rfl rfl ?_
                              refine K.bin (V := .bool (decide (x8.k ≥ 0))) (gd0 rfl) rfl rfl (fun _ => rfl) rfl ?_
                              refine K.move (.inl rfl) (gd0 rfl) rfl rfl ?_
                              refine K.fieldAddr Y (gd1 rfl rfl rfl (h26)) rfl t41 rfl rfl ?_
                              refine K.load1 Y (gd1 rfl rfl rfl (h26)) rfl rfl t3 rfl rfl ?_
                              refine K.move (.inl rfl) (gd1 rfl rfl rfl (h26)) rfl rfl ?_
                              refine K.lenL (lrowV 111 54 eTR07Elem 2 v5) (lrowV_is eTR07Elem_len (by decide)) (gd1 rfl rfl rfl (h26)) rfl rfl Try.underlying26 rfl ?_
                              refine K.bin (V := .bool (decide (x8.k < (v5.length : Int)))) (gd1 rfl rfl rfl (h26)) rfl rfl (fun _ => rfl) rfl ?_
                              refine K.pickT (gd0 rfl) rfl (h26) rfl rfl ?_
                              refine K.bin (V := .bool (!(x22.2 == (decide (x8.k < (v5.length : Int)))))) (gd0 rfl) rfl rfl (bq_neq Try.underlying4 _ _) rfl ?_
                              refine K.move (.inl rfl) (gd0 rfl) rfl rfl ?_
                              refine K.move (.inl rfl) (gd1 rfl rfl rfl (h27)) rfl rfl ?_
                              refine K.move (.inl rfl) (gd1 rfl rfl rfl (h27)) rfl rfl ?_
                              refine K.fieldAddr Y (gd1 rfl rfl rfl (h29)) rfl t35 rfl rfl ?_
                              refine K.load1 Y (gd1 rfl rfl rfl (h29)) rfl rfl t3 rfl rfl ?_
                              refine K.move (.inl rfl) (gd1 rfl rfl rfl (h29)) rfl rfl ?_
                              refine K.fieldAddr Y (gd1 rfl rfl rfl (h29)) rfl t41 rfl rfl ?_
                              refine K.load1 Y (gd1 rfl rfl rfl (h29)) rfl rfl t3 rfl rfl ?_
                              refine K.idxL (lrowV 111 54 eTR07Elem 2 v5) ((x8.k).toNat) (lrowV_is eTR07Elem_len (by decide)) (atL_get hx23) (atL_nn hx23) (gd1 rfl rfl rfl (h29)) rfl rfl rfl Try.underlying26 el26.size_run rfl ?_
                              refine K.fieldL Y (lrowV 111 54 eTR07Elem 2 v5) ((x8.k).toNat) 0 0 (lrowV_is eTR07Elem_len (by decide)) (atL_get hx23) (gd1 rfl rfl rfl (h29)) rfl rfl t54 rfl rfl rfl rfl ?_
                              refine K.load1L Y (lrowV 111 54 eTR07Elem 2 v5) ((x8.k).toNat) 0 (lrowV_is eTR07Elem_len (by decide)) (atL_get hx23) (gd1 rfl rfl rfl (h29)) rfl rfl t3 rfl rfl ?_
                              refine K.bin (V := .bool (x22.1.k != x23.k)) (gd1 rfl rfl rfl (h29)) rfl rfl (fun _ => rfl) rfl ?_
                              refine K.move (.inl rfl) (gd1 rfl rfl rfl (h29)) rfl rfl ?_
                              refine K.skip rfl rfl rfl rfl (h30) rfl ?_
                              refine K.skip rfl rfl rfl rfl (h30) rfl ?_
                              refine K.skip rfl rfl rfl rfl (h30) rfl ?_
                              refine K.skip rfl rfl rfl rfl (h30) rfl ?_
                              refine K.skip rfl rfl rfl rfl (h30) rfl ?_
                              refine K.skip rfl rfl rfl rfl (h30) rfl ?_
                              refine K.skip rfl rfl rfl rfl (h30) rfl ?_
                              refine K.skip rfl rfl rfl rfl (h30) rfl ?_
                              refine K.skip rfl rfl rfl rfl (h30) rfl ?_
                              refine K.pickT (gd1 rfl rfl rfl (h29)) rfl (h30) rfl rfl ?_
                              refine K.pickT (gd1 rfl rfl rfl (h27)) rfl (h29) rfl rfl ?_
                              refine K.pickF (gd0 rfl) rfl (h27) rfl rfl ?_
                              refine K.move (.inl rfl) (gd0 rfl) rfl rfl ?_
                              refine K.skip rfl rfl rfl rfl (rfl) rfl ?_
                              refine K.skip rfl rfl rfl rfl (rfl) rfl ?_
                              refine K.skip rfl rfl rfl rfl (rfl) rfl ?_
                              refine K.skipU rfl rfl rfl rfl rfl ?_
                              refine K.skipU rfl rfl rfl rfl rfl ?_
                              refine K.skipU rfl rfl rfl rfl rfl ?_
                              refine K.skip rfl rfl rfl rfl (rfl) rfl ?_
                              refine K.pickT (gd0 rfl) rfl (rfl) rfl rfl ?_
                              refine K.nil ?_
                              refine ⟨by kernel_rfl, ?_⟩
                              refine At.next ?_
                              refine G.cond rfl (fun h31 => ?_) (fun h31 => ?_)
                              ·
                                refine G.seq ?_
                                refine G.rg ?_
                                refine K.move (.inr rfl) (gd0 rfl) rfl rfl ?_
                                refine K.nil ?_
                                refine At.next ?_
                                refine G.ret ?_
                                refine At.block_ret ?_
                                refine At.over_ret ?_
                                refine At.block_ret ?_
                                refine At.over_ret ?_
                                refine At.over_ret ?_
                                refine At.block_ret ?_
                                refine At.over_ret ?_
                                cases H1
                                replace H0 := sum_l H0
                                refine At.done Y [(.tmp 4, .c _)] rfl ⟨.tmp rfl, trivial⟩ (to' := [(0, _)]) ⟨rfl, trivial⟩ ?_ ?_ rfl rfl rfl (.inl rfl)
                                · cases H0; rfl
                                · cases H0; rfl
                              · cases h31
                            ·
                              replace H1 := bif_f H1 h30
                              rcases Bool.eq_false_or_eq_true (x22.1.w != x23.w) with h32 | h32
                              ·
                                replace H1 := bif_t H1 h32
                                refine G.rd mixed ?_
                                refine K.move (.inl rfl) (gd0 rfl) rfl rfl ?_
                                refine K.fieldAddr Y (gd0 rfl) rfl t41 rfl rfl ?_
                                refine K.load1 Y (gd0 rfl) rfl rfl t3 rfl rfl ?_
                                refine K.bin (V := .bool (decide (x8.k ≥ 0))) (gd0 rfl) rfl rfl (fun _ => rfl) rfl ?_
                                refine K.move (.inl rfl) (gd0 rfl) rfl rfl ?_
                                refine K.fieldAddr Y (gd1 rfl rfl rfl (h26)) rfl t41 rfl rfl ?_
                                refine K.load1 Y (gd1 rfl rfl rfl (h26)) rfl rfl t3 rfl rfl ?_
                                refine K.move (.inl rfl) (gd1 rfl rfl rfl (h26)) rfl rfl ?_
                                refine K.lenL (lrowV 111 54 eTR07Elem 2 v5) (lrowV_is eTR07Elem_len (by decide)) (gd1 rfl rfl rfl (h26)) rfl rfl Try.underlying26 rfl ?_
                                refine K.bin (V := .bool (decide (x8.k < (v5.length : Int)))) (gd1 rfl rfl rfl (h26)) rfl rfl (fun _ => rfl) rfl ?_
                                refine K.pickT (gd0 rfl) rfl (h26) rfl rfl ?_
                                refine K.bin (V := .bool (!(x22.2 == (decide (x8.k < (v5.length : Int)))))) (gd0 rfl) rfl rfl (bq_neq Try.underlying4 _ _) rfl ?_
                                refine K.move (.inl rfl) (gd0 rfl) rfl rfl ?_
                                refine K.move (.inl rfl) (gd1 rfl rfl rfl (h27)) rfl rfl ?_
                                refine K.move (.inl rfl) (gd1 rfl rfl rfl (h27)) rfl rfl ?_
                                refine K.fieldAddr Y (gd1 rfl rfl rfl (h29)) rfl t35 rfl rfl ?_
                                refine K.load1 Y (gd1 rfl rfl rfl (h29)) rfl rfl t3 rfl rfl ?_
                                refine K.move (.inl rfl) (gd1 rfl rfl rfl (h29)) rfl rfl ?_
                                refine K.fieldAddr Y (gd1 rfl rfl rfl (h29)) rfl t41 rfl rfl ?_
                                refine K.load1 Y (gd1 rfl rfl rfl (h29)) rfl rfl t3 rfl rfl ?_
                                refine K.idxL (lrowV 111 54 eTR07Elem 2 v5) ((x8.k).toNat) (lrowV_is eTR07Elem_len (by decide)) (atL_get hx23) (atL_nn hx23) (gd1 rfl rfl rfl (h29)) rfl rfl rfl Try.underlying26 el26.size_run rfl ?_
                                refine K.fieldL Y (lrowV 111 54 eTR07Elem 2 v5) ((x8.k).toNat) 0 0 (lrowV_is eTR07Elem_len (by decide)) (atL_get hx23) (gd1 rfl rfl rfl (h29)) rfl rfl t54 rfl rfl rfl rfl ?_
                                refine K.load1L Y (lrowV 111 54 eTR07Elem 2 v5) ((x8.k).toNat) 0 (lrowV_is eTR07Elem_len (by decide)) (atL_get hx23) (gd1 rfl rfl rfl (h29)) rfl rfl t3 rfl rfl ?_
                                refine K.bin (V := .bool (x22.1.k != x23.k)) (gd1 rfl rfl rfl (h29)) rfl rfl (fun _ => rfl) rfl ?_
                                refine K.move (.inl rfl) (gd1 rfl rfl rfl (h29)) rfl rfl ?_
                                refine K.fieldAddr Y (gd1 rfl rfl rfl (h30)) rfl t35 rfl rfl ?_
                                refine K.load1 Y (gd1 rfl rfl rfl (h30)) rfl rfl t3 rfl rfl ?_
                                refine K.move (.inl rfl) (gd1 rfl rfl rfl (h30)) rfl rfl ?_
                                refine K.fieldAddr Y (gd1 rfl rfl rfl (h30)) rfl t41 rfl rfl ?_
                                refine K.load1 Y (gd1 rfl rfl rfl (h30)) rfl rfl t3 rfl rfl ?_
                                refine K.idxL (lrowV 111 54 eTR07Elem 2 v5) ((x8.k).toNat) (lrowV_is eTR07Elem_len (by decide)) (atL_get hx23) (atL_nn hx23) (gd1 rfl rfl rfl (h30)) rfl rfl rfl Try.underlying26 el26.size_run rfl ?_
                                refine K.fieldL Y (lrowV 111 54 eTR07Elem 2 v5) ((x8.k).toNat) 0 1 (lrowV_is eTR07Elem_len (by decide)) (atL_get hx23) (gd1 rfl rfl rfl (h30)) rfl rfl t54 rfl rfl rfl rfl ?_
                                refine K.load1L Y (lrowV 111 54 eTR07Elem 2 v5) ((x8.k).toNat) 1 (lrowV_is eTR07Elem_len (by decide)) (atL_get hx23) (gd1 rfl rfl rfl (h30)) rfl rfl t3 rfl rfl ?_
                                refine K.bin (V := .bool (x22.1.w != x23.w)) (gd1 rfl rfl rfl (h30)) rfl rfl (fun _ => rfl) rfl ?_
                                refine K.pickF (gd1 rfl rfl rfl (h29)) rfl (h30) rfl rfl ?_
                                refine K.pickT (gd1 rfl rfl rfl (h27)) rfl (h29) rfl rfl ?_
                                refine K.pickF (gd0 rfl) rfl (h27) rfl rfl ?_
                                refine K.move (.inl rfl) (gd0 rfl) rfl rfl ?_
                                refine K.skip rfl rfl rfl rfl (h32) rfl ?_
                                refine K.skip rfl rfl rfl rfl (h32) rfl ?_
                                refine K.skip rfl rfl rfl rfl (h32) rfl ?_
                                refine K.skipU rfl rfl rfl rfl rfl ?_
                                refine K.skipU rfl rfl rfl rfl rfl ?_
                                refine K.skipU rfl rfl rfl rfl rfl ?_
                                refine K.skip rfl rfl rfl rfl (h32) rfl ?_
                                refine K.pickT (gd0 rfl) rfl (h32) rfl rfl ?_
                                refine K.nil ?_
                                refine ⟨by kernel_rfl, ?_⟩
                                refine At.next ?_
                                refine G.cond rfl (fun h33 => ?_) (fun h33 => ?_)
                                ·
                                  refine G.seq ?_
                                  refine G.rg ?_
                                  refine K.move (.inr rfl) (gd0 rfl) rfl rfl ?_
                                  refine K.nil ?_
                                  refine At.next ?_
                                  refine G.ret ?_
                                  refine At.block_ret ?_
                                  refine At.over_ret ?_
                                  refine At.block_ret ?_
                                  refine At.over_ret ?_
                                  refine At.over_ret ?_
                                  refine At.block_ret ?_
                                  refine At.over_ret ?_
                                  cases H1
                                  replace H0 := sum_l H0
                                  refine At.done Y [(.tmp 4, .c _)] rfl ⟨.tmp rfl, trivial⟩ (to' := [(0, _)]) ⟨rfl, trivial⟩ ?_ ?_ rfl rfl rfl (.inl rfl)
                                  · cases H0; rfl
                                  · cases H0; rfl
                                · cases h33
                              ·
                                replace H1 := bif_f H1 h32
                                rcases Bool.eq_false_or_eq_true (!x22.2) with h34 | h34
                                ·
                                  replace H1 := bif_t H1 h34
                                  refine G.rd mixed ?_
                                  refine K.move (.inl rfl) (gd0 rfl) rfl rfl ?_
                                  refine K.fieldAddr Y (gd0 rfl) rfl t41 rfl rfl ?_
                                  refine K.load1 Y (gd0 rfl) rfl rfl t3 rfl rfl ?_
                                  refine K.bin (V := .bool (decide (x8.k ≥ 0))) (gd0 rfl) rfl rfl (fun _ => rfl) rfl ?_
                                  refine K.move (.inl rfl) (gd0 rfl) rfl rfl ?_
                                  refine K.fieldAddr Y (gd1 rfl rfl rfl (h26)) rfl t41 rfl rfl ?_
                                  refine K.load1 Y (gd1 rfl rfl rfl (h26)) rfl rfl t3 rfl rfl ?_
                                  refine K.move (.inl rfl) (gd1 rfl rfl rfl (h26)) rfl rfl ?_
                                  refine K.lenL (lrowV 111 54 eTR07Elem 2 v5) (lrowV_is eTR07Elem_len (by decide)) (gd1 rfl rfl rfl (h26)) rfl rfl Try.underlying26 rfl ?_
                                  refine K.bin (V := .bool (decide (x8.k < (v5.length : Int)))) (gd1 rfl rfl rfl (h26)) rfl rfl (fun _ => rfl) rfl ?_
                                  refine K.pickT (gd0 rfl) rfl (h26) rfl rfl ?_
                                  refine K.bin (V := .bool (!(x22.2 == (decide (x8.k < (v5.length : Int)))))) (gd0 rfl) rfl rfl (bq_neq Try.underlying4 _ _) rfl ?_
                                  refine K.move (.inl rfl) (gd0 rfl) rfl rfl ?_
                                  refine K.move (.inl rfl) (gd1 rfl rfl rfl (h27)) rfl rfl ?_
                                  refine K.move (.inl rfl) (gd1 rfl rfl rfl (h27)) rfl rfl ?_
                                  refine K.fieldAddr Y (gd1 rfl rfl rfl (h29)) rfl t35 rfl rfl ?_
                                  refine K.load1 Y (gd1 rfl rfl rfl (h29)) rfl rfl t3 rfl rfl ?_
                                  refine K.move (.inl rfl) (gd1 rfl rfl rfl (h29)) rfl rfl ?_
                                  refine K.fieldAddr Y (gd1 rfl rfl rfl (h29)) rfl t41 rfl rfl ?_
                                  refine K.load1 Y (gd1 rfl rfl rfl (h29)) rfl rfl t3 rfl rfl ?_
                                  refine K.idxL (lrowV 111 54 eTR07Elem 2 v5) ((x8.k).toNat) (lrowV_is eTR07Elem_len (by decide)) (atL_get hx23) (atL_nn hx23) (gd1 rfl rfl rfl (h29)) rfl rfl rfl Try.underlying26 el26.size_run rfl ?_
                                  refine K.fieldL Y (lrowV 111 54 eTR07Elem 2 v5) ((x8.k).toNat) 0 0 (lrowV_is eTR07Elem_len (by decide)) (atL_get hx23) (gd1 rfl rfl rfl (h29)) rfl rfl t54 rfl rfl rfl rfl ?_
                                  refine K.load1L Y (lrowV 111 54 eTR07Elem 2 v5) ((x8.k).toNat) 0 (lrowV_is eTR07Elem_len (by decide)) (atL_get hx23) (gd1 rfl rfl rfl (h29)) rfl rfl t3 rfl rfl ?_
                                  refine K.bin (V := .bool (x22.1.k != x23.k)) (gd1 rfl rfl rfl (h29)) rfl rfl (fun _ => rfl) rfl ?_
                                  refine K.move (.inl rfl) (gd1 rfl rfl rfl (h29)) rfl rfl ?_
                                  refine K.fieldAddr Y (gd1 rfl rfl rfl (h30)) rfl t35 rfl rfl ?_
                                  refine K.load1 Y (gd1 rfl rfl rfl (h30)) rfl rfl t3 rfl rfl ?_
                                  refine K.move (.inl rfl) (gd1 rfl rfl rfl (h30)) rfl rfl ?_
                                  refine K.fieldAddr Y (gd1 rfl rfl rfl (h30)) rfl t41 rfl rfl ?_
                                  refine K.load1 Y (gd1 rfl rfl rfl (h30)) rfl rfl t3 rfl rfl ?_
                                  refine K.idxL (lrowV 111 54 eTR07Elem 2 v5) ((x8.k).toNat) (lrowV_is eTR07Elem_len (by decide)) (atL_get hx23) (atL_nn hx23) (gd1 rfl rfl rfl (h30)) rfl rfl rfl Try.underlying26 el26.size_run rfl ?_
                                  refine K.fieldL Y (lrowV 111 54 eTR07Elem 2 v5) ((x8.k).toNat) 0 1 (lrowV_is eTR07Elem_len (by decide)) (atL_get hx23) (gd1 rfl rfl rfl (h30)) rfl rfl t54 rfl rfl rfl rfl ?_
                                  refine K.load1L Y (lrowV 111 54 eTR07Elem 2 v5) ((x8.k).toNat) 1 (lrowV_is eTR07Elem_len (by decide)) (atL_get hx23) (gd1 rfl rfl rfl (h30)) rfl rfl t3 rfl rfl ?_
                                  refine K.bin (V := .bool (x22.1.w != x23.w)) (gd1 rfl rfl rfl (h30)) rfl rfl (fun _ => rfl) rfl ?_
                                  refine K.pickF (gd1 rfl rfl rfl (h29)) rfl (h30) rfl rfl ?_
                                  refine K.pickT (gd1 rfl rfl rfl (h27)) rfl (h29) rfl rfl ?_
                                  refine K.pickF (gd0 rfl) rfl (h27) rfl rfl ?_
                                  refine K.move (.inl rfl) (gd0 rfl) rfl rfl ?_
                                  refine K.move (.inl rfl) (gd1 rfl rfl rfl (h32)) rfl rfl ?_
                                  refine K.un (V := .bool (!x22.2)) (gd1 rfl rfl rfl (h32)) rfl (fun _ => rfl) rfl ?_
                                  refine K.move (.inl rfl) (gd1 rfl rfl rfl (h32)) rfl rfl ?_
                                  refine K.loadS Y [_, _] (gd1 rfl rfl rfl (h34)) rfl rfl t35 rfl rfl rfl ?_
                                  refine K.build Y [] [_, _] [] (gd1 rfl rfl rfl (h34)) (AllE.spec trivial) rfl rfl t35 rfl rfl ?_
                                  refine K.eqS [_, _] [_, _] (gd1 rfl rfl rfl (h34)) rfl rfl cmp35 rfl (.inr rfl) (!((x22.1.k == 0) && ((x22.1.w == 0) && true))) rfl rfl ?_
                                  refine K.pickT (gd1 rfl rfl rfl (h32)) rfl (h34) rfl rfl ?_
                                  refine K.pickF (gd0 rfl) rfl (h32) rfl rfl ?_
                                  refine K.nil ?_
                                  refine ⟨by kernel_rfl, ?_⟩
                                  refine At.next ?_
                                  refine G.cond rfl (fun h35 => ?_) (fun h35 => ?_)
                                  ·
                                    replace H1 := bif_t H1 h35
                                    refine G.seq ?_
                                    refine G.rg ?_
                                    refine K.move (.inr rfl) (gd0 rfl) rfl rfl ?_
                                    refine K.nil ?_
                                    refine At.next ?_
                                    refine G.ret ?_
                                    refine At.block_ret ?_
                                    refine At.over_ret ?_
                                    refine At.block_ret ?_
                                    refine At.over_ret ?_
                                    refine At.over_ret ?_
                                    refine At.block_ret ?_
                                    refine At.over_ret ?_
                                    cases H1
                                    replace H0 := sum_l H0
                                    refine At.done Y [(.tmp 4, .c _)] rfl ⟨.tmp rfl, trivial⟩ (to' := [(0, _)]) ⟨rfl, trivial⟩ ?_ ?_ rfl rfl rfl (.inl rfl)
                                    · cases H0; rfl
                                    · cases H0; rfl
                                  ·
                                    replace H1 := bif_f H1 h35
                                    refine G.skip ?_
                                    refine At.block_normal ?_
                                    refine At.next ?_
                                    refine G.seq ?_
                                    obtain ⟨x24, hx24, H1⟩ := bnd H1
                                    refine G.rg ?_
                                    refine K.move (.inl rfl) (gd0 rfl) rfl rfl ?_
                                    refine K.move (.inl rfl) (gd0 rfl) rfl rfl ?_
                                    refine K.callV [(.func 36, _), ((.tmp 213), _), ((.tmp 214), _)] [(111, lrow 111 54 eTR07Elem 2 v5)] [(109, _), (110, _)] [(109, _), (110, _)] (fun β => [SV.p 109 0, SV.raw ((lrowV 111 54 eTR07Elem 2 v5).s.den β)]) (fun β w S2 h => Lw07_alike_con (k := k) ((lrowV_isC eTR07Elem_len (by decide)).larg ⟨_, List.mem_cons_self⟩ h) hx24 109 110) (toFn_func (cf 36 rfl) rfl) (gd0 rfl) ⟨rfl, rfl, rfl, trivial⟩ (fun _ => rfl) ⟨rfl, rfl, rfl, trivial⟩ rfl rfl rfl rfl rfl rfl ?_
                                    refine K.un (V := .bool (!x24)) (gd0 rfl) rfl (fun _ => rfl) rfl ?_
                                    refine K.nil ?_
                                    refine At.next ?_
                                    refine G.cond rfl (fun h36 => ?_) (fun h36 => ?_)
                                    ·
                                      replace H1 := bif_t H1 h36
                                      refine G.seq ?_
                                      refine G.rg ?_
                                      refine K.move (.inr rfl) (gd0 rfl) rfl rfl ?_
                                      refine K.nil ?_
                                      refine At.next ?_
                                      refine G.ret ?_
                                      refine At.block_ret ?_
                                      refine At.over_ret ?_
                                      refine At.over_ret ?_
                                      refine At.block_ret ?_
                                      refine At.over_ret ?_
                                      cases H1
                                      replace H0 := sum_l H0
                                      refine At.done Y [(.tmp 4, .c _)] rfl ⟨.tmp rfl, trivial⟩ (to' := [(0, _)]) ⟨rfl, trivial⟩ ?_ ?_ rfl rfl rfl (.inl rfl)
                                      · cases H0; rfl
                                      · cases H0; rfl
                                    ·
                                      replace H1 := bif_f H1 h36
                                      refine G.skip ?_
                                      refine At.block_normal ?_
                                      refine At.next ?_
                                      refine G.rg ?_
                                      refine K.move (.inl rfl) (gd0 rfl) rfl rfl ?_
                                      refine K.bin (V := .int .i64 (w64 (v6 + 1))) (gd0 rfl) rfl rfl (fun _ => rfl) rfl ?_
                                      refine K.move (.inr rfl) (gd0 rfl) rfl rfl ?_
                                      refine K.nil ?_
                                      exact At.again (σ := { q : Nat × (Int × Pool (TNode TL07Elem TTide) × Int × Int × List TR07Elem × Int) // Lw07_GroveActs.l0 k l1 q.1 q.2 = some x7 }) (Fs := fun q => [(1, SV.raw s1), (5, .a (.c (.v (.int .i64 q.1.2.1)))), (6, .a (.c (.p 109 0))), (7, .a (.c (.nv 111))), (8, .a (.c (.v (.int .i64 q.1.2.2.2.2.2.2))))]) (Tl := fun q => [(0, rd S W0), (110, plE 110 q.1.2.2.1), (109, blk 109 [.p 110 0, .v (.int .i64 q.1.2.2.2.1), .v (.int .i64 q.1.2.2.2.2.1)] 101), (111, lrow 111 54 eTR07Elem 2 q.1.2.2.2.2.2.1)]) (μ := fun q => q.1.1) (s := ⟨(n0 + 1, (v1, v2, v3, v4, v5, v6)), HL0⟩) ⟨(n0, (v1, v2, v3, v4, v5, (w64 (v6 + 1)))), H1⟩ [] [_, _, _, _] (Nat.lt_succ_self _) rfl ⟨rfl, rfl, rfl, rfl, rfl, trivial⟩ ⟨rfl, (fun _ => rfl), rfl, (pl_ren rfl), rfl, (blk_ren rfl rfl), rfl, (lrow_ren rfl), trivial⟩ rfl
                                ·
                                  replace H1 := bif_f H1 h34
                                  refine G.rd mixed ?_
                                  refine K.move (.inl rfl) (gd0 rfl) rfl rfl ?_
                                  refine K.fieldAddr Y (gd0 rfl) rfl t41 rfl rfl ?_
                                  refine K.load1 Y (gd0 rfl) rfl rfl t3 rfl rfl ?_
                                  refine K.bin (V := .bool (decide (x8.k ≥ 0))) (gd0 rfl) rfl rfl (fun _ => rfl) rfl ?_
                                  refine K.move (.inl rfl) (gd0 rfl) rfl rfl ?_
                                  refine K.fieldAddr Y (gd1 rfl rfl rfl (h26)) rfl t41 rfl rfl ?_
                                  refine K.load1 Y (gd1 rfl rfl rfl (h26)) rfl rfl t3 rfl rfl ?_
                                  refine K.move (.inl rfl) (gd1 rfl rfl rfl (h26)) rfl rfl ?_
                                  refine K.lenL (lrowV 111 54 eTR07Elem 2 v5) (lrowV_is eTR07Elem_len (by decide)) (gd1 rfl rfl rfl (h26)) rfl rfl Try.underlying26 rfl ?_
                                  refine K.bin (V := .bool (decide (x8.k < (v5.length : Int)))) (gd1 rfl rfl rfl (h26)) rfl rfl (fun _ => rfl) rfl ?_
                                  refine K.pickT (gd0 rfl) rfl (h26) rfl rfl ?_
                                  refine K.bin (V := .bool (!(x22.2 == (decide (x8.k < (v5.length : Int)))))) (gd0 rfl) rfl rfl (bq_neq Try.underlying4 _ _) rfl ?_
                                  refine K.move (.inl rfl) (gd0 rfl) rfl rfl ?_
                                  refine K.move (.inl rfl) (gd1 rfl rfl rfl (h27)) rfl rfl ?_
                                  refine K.move (.inl rfl) (gd1 rfl rfl rfl (h27)) rfl rfl ?_
                                  refine K.fieldAddr Y (gd1 rfl rfl rfl (h29)) rfl t35 rfl rfl ?_
                                  refine K.load1 Y (gd1 rfl rfl rfl (h29)) rfl rfl t3 rfl rfl ?_
                                  refine K.move (.inl rfl) (gd1 rfl rfl rfl (h29)) rfl rfl ?_
                                  refine K.fieldAddr Y (gd1 rfl rfl rfl (h29)) rfl t41 rfl rfl ?_
                                  refine K.load1 Y (gd1 rfl rfl rfl (h29)) rfl rfl t3 rfl rfl ?_
                                  refine K.idxL (lrowV 111 54 eTR07Elem 2 v5) ((x8.k).toNat) (lrowV_is eTR07Elem_len (by decide)) (atL_get hx23) (atL_nn hx23) (gd1 rfl rfl rfl (h29)) rfl rfl rfl Try.underlying26 el26.size_run rfl ?_
                                  refine K.fieldL Y (lrowV 111 54 eTR07Elem 2 v5) ((x8.k).toNat) 0 0 (lrowV_is eTR07Elem_len (by decide)) (atL_get hx23) (gd1 rfl rfl rfl (h29)) rfl rfl t54 rfl rfl rfl rfl ?_
                                  refine K.load1L Y (lrowV 111 54 eTR07Elem 2 v5) ((x8.k).toNat) 0 (lrowV_is eTR07Elem_len (by decide)) (atL_get hx23) (gd1 rfl rfl rfl (h29)) rfl rfl t3 rfl rfl ?_
                                  refine K.bin (V := .bool (x22.1.k != x23.k)) (gd1 rfl rfl rfl (h29)) rfl rfl (fun _ => rfl) rfl ?_
                                  refine K.move (.inl rfl) (gd1 rfl rfl rfl (h29)) rfl rfl ?_
                                  refine K.fieldAddr Y (gd1 rfl rfl rfl (h30)) rfl t35 rfl rfl ?_
                                  refine K.load1 Y (gd1 rfl rfl rfl (h30)) rfl rfl t3 rfl rfl ?_
                                  refine K.move (.inl rfl) (gd1 rfl rfl rfl (h30)) rfl rfl ?_
                                  refine K.fieldAddr Y (gd1 rfl rfl rfl (h30)) rfl t41 rfl rfl ?_
                                  refine K.load1 Y (gd1 rfl rfl rfl (h30)) rfl rfl t3 rfl rfl ?_
                                  refine K.idxL (lrowV 111 54 eTR07Elem 2 v5) ((x8.k).toNat) (lrowV_is eTR07Elem_len (by decide)) (atL_get hx23) (atL_nn hx23) (gd1 rfl rfl rfl (h30)) rfl rfl rfl Try.underlying26 el26.size_run rfl ?_
                                  refine K.fieldL Y (lrowV 111 54 eTR07Elem 2 v5) ((x8.k).toNat) 0 1 (lrowV_is eTR07Elem_len (by decide)) (atL_get hx23) (gd1 rfl rfl rfl (h30)) rfl rfl t54 rfl rfl rfl rfl ?_
                                  refine K.load1L Y (lrowV 111 54 eTR07Elem 2 v5) ((x8.k).toNat) 1 (lrowV_is eTR07Elem_len (by decide)) (atL_get hx23) (gd1 rfl rfl rfl (h30)) rfl rfl t3 rfl rfl ?_
                                  refine K.bin (V := .bool (x22.1.w != x23.w)) (gd1 rfl rfl rfl (h30)) rfl rfl (fun _ => rfl) rfl ?_
                                  refine K.pickF (gd1 rfl rfl rfl (h29)) rfl (h30) rfl rfl ?_
                                  refine K.pickT (gd1 rfl rfl rfl (h27)) rfl (h29) rfl rfl ?_
                                  refine K.pickF (gd0 rfl) rfl (h27) rfl rfl ?_
                                  refine K.move (.inl rfl) (gd0 rfl) rfl rfl ?_
                                  refine K.move (.inl rfl) (gd1 rfl rfl rfl (h32)) rfl rfl ?_
                                  refine K.un (V := .bool (!x22.2)) (gd1 rfl rfl rfl (h32)) rfl (fun _ => rfl) rfl ?_
                                  refine K.move (.inl rfl) (gd1 rfl rfl rfl (h32)) rfl rfl ?_
                                  refine K.skip rfl rfl rfl rfl (h34) rfl ?_
                                  refine K.skip rfl rfl rfl rfl (h34) rfl ?_
                                  refine K.skip rfl rfl rfl rfl (h34) rfl ?_
                                  refine K.pickF (gd1 rfl rfl rfl (h32)) rfl (h34) rfl rfl ?_
                                  refine K.pickF (gd0 rfl) rfl (h32) rfl rfl ?_
                                  refine K.nil ?_
                                  refine ⟨by kernel_rfl, ?_⟩
                                  refine At.next ?_
                                  refine G.cond rfl (fun h37 => ?_) (fun h37 => ?_)
                                  · cases h37
                                  ·
                                    refine G.skip ?_
                                    refine At.block_normal ?_
                                    refine At.next ?_
                                    refine G.seq ?_
                                    obtain ⟨x25, hx25, H1⟩ := bnd H1
                                    refine G.rg ?_
                                    refine K.move (.inl rfl) (gd0 rfl) rfl rfl ?_
                                    refine K.move (.inl rfl) (gd0 rfl) rfl rfl ?_
                                    refine K.callV [(.func 36, _), ((.tmp 213), _), ((.tmp 214), _)] [(111, lrow 111 54 eTR07Elem 2 v5)] [(109, _), (110, _)] [(109, _), (110, _)] (fun β => [SV.p 109 0, SV.raw ((lrowV 111 54 eTR07Elem 2 v5).s.den β)]) (fun β w S2 h => Lw07_alike_con (k := k) ((lrowV_isC eTR07Elem_len (by decide)).larg ⟨_, List.mem_cons_self⟩ h) hx25 109 110) (toFn_func (cf 36 rfl) rfl) (gd0 rfl) ⟨rfl, rfl, rfl, trivial⟩ (fun _ => rfl) ⟨rfl, rfl, rfl, trivial⟩ rfl rfl rfl rfl rfl rfl ?_
                                    refine K.un (V := .bool (!x25)) (gd0 rfl) rfl (fun _ => rfl) rfl ?_
                                    refine K.nil ?_
                                    refine At.next ?_
                                    refine G.cond rfl (fun h38 => ?_) (fun h38 => ?_)
                                    ·
                                      replace H1 := bif_t H1 h38
                                      refine G.seq ?_
                                      refine G.rg ?_
                                      refine K.move (.inr rfl) (gd0 rfl) rfl rfl ?_
                                      refine K.nil ?_
                                      refine At.next ?_
                                      refine G.ret ?_
                                      refine At.block_ret ?_
                                      refine At.over_ret ?_
                                      refine At.over_ret ?_
                                      refine At.block_ret ?_
                                      refine At.over_ret ?_
                                      cases H1
                                      replace H0 := sum_l H0
                                      refine At.done Y [(.tmp 4, .c _)] rfl ⟨.tmp rfl, trivial⟩ (to' := [(0, _)]) ⟨rfl, trivial⟩ ?_ ?_ rfl rfl rfl (.inl rfl)
                                      · cases H0; rfl
                                      · cases H0; rfl
                                    ·
                                      replace H1 := bif_f H1 h38
                                      refine G.skip ?_
                                      refine At.block_normal ?_
                                      refine At.next ?_
                                      refine G.rg ?_
                                      refine K.move (.inl rfl) (gd0 rfl) rfl rfl ?_
                                      refine K.bin (V := .int .i64 (w64 (v6 + 1))) (gd0 rfl) rfl rfl (fun _ => rfl) rfl ?_
                                      refine K.move (.inr rfl) (gd0 rfl) rfl rfl ?_
                                      refine K.nil ?_
                                      exact At.again (σ := { q : Nat × (Int × Pool (TNode TL07Elem TTide) × Int × Int × List TR07Elem × Int) // Lw07_GroveActs.l0 k l1 q.1 q.2 = some x7 }) (Fs := fun q => [(1, SV.raw s1), (5, .a (.c (.v (.int .i64 q.1.2.1)))), (6, .a (.c (.p 109 0))), (7, .a (.c (.nv 111))), (8, .a (.c (.v (.int .i64 q.1.2.2.2.2.2.2))))]) (Tl := fun q => [(0, rd S W0), (110, plE 110 q.1.2.2.1), (109, blk 109 [.p 110 0, .v (.int .i64 q.1.2.2.2.1), .v (.int .i64 q.1.2.2.2.2.1)] 101), (111, lrow 111 54 eTR07Elem 2 q.1.2.2.2.2.2.1)]) (μ := fun q => q.1.1) (s := ⟨(n0 + 1, (v1, v2, v3, v4, v5, v6)), HL0⟩) ⟨(n0, (v1, v2, v3, v4, v5, (w64 (v6 + 1)))), H1⟩ [] [_, _, _, _] (Nat.lt_succ_self _) rfl ⟨rfl, rfl, rfl, rfl, rfl, trivial⟩ ⟨rfl, (fun _ => rfl), rfl, (pl_ren rfl), rfl, (blk_ren rfl rfl), rfl, (lrow_ren rfl), trivial⟩ rfl
                          ·
                            replace H1 := bif_f H1 h29
                            rcases Bool.eq_false_or_eq_true (!x22.2) with h39 | h39
                            ·
                              replace H1 := bif_t H1 h39
                              refine G.rd mixed ?_
                              refine K.move (.inl rfl) (gd0 rfl) rfl rfl ?_
                              refine K.fieldAddr Y (gd0 rfl) rfl t41 rfl rfl ?_
                              refine K.load1 Y (gd0 rfl) rfl rfl t3 rfl rfl ?_
                              refine K.bin (V := .bool (decide (x8.k ≥ 0))) (gd0 rfl) rfl rfl (fun _ => rfl) rfl ?_
                              refine K.move (.inl rfl) (gd0 rfl) rfl rfl ?_
                              refine K.fieldAddr Y (gd1 rfl rfl rfl (h26)) rfl t41 rfl rfl ?_
                              refine K.load1 Y (gd1 rfl rfl rfl (h26)) rfl rfl t3 rfl rfl ?_
                              refine K.move (.inl rfl) (gd1 rfl rfl rfl (h26)) rfl rfl ?_
                              refine K.lenL (lrowV 111 54 eTR07Elem 2 v5) (lrowV_is eTR07Elem_len (by decide)) (gd1 rfl rfl rfl (h26)) rfl rfl Try.underlying26 rfl ?_
                              refine K.bin (V := .bool (decide (x8.k < (v5.length : Int)))) (gd1 rfl rfl rfl (h26)) rfl rfl (fun _ => rfl) rfl ?_
                              refine K.pickT (gd0 rfl) rfl (h26) rfl rfl ?_
                              refine K.bin (V := .bool (!(x22.2 == (decide (x8.k < (v5.length : Int)))))) (gd0 rfl) rfl rfl (bq_neq Try.underlying4 _ _) rfl ?_
                              refine K.move (.inl rfl) (gd0 rfl) rfl rfl ?_
                              refine K.move (.inl rfl) (gd1 rfl rfl rfl (h27)) rfl rfl ?_
                              refine K.move (.inl rfl) (gd1 rfl rfl rfl (h27)) rfl rfl ?_
                              refine K.skip rfl rfl rfl rfl (h29) rfl ?_
                              refine K.skip rfl rfl rfl rfl (h29) rfl ?_
                              refine K.skip rfl rfl rfl rfl (h29) rfl ?_
                              refine K.skip rfl rfl rfl rfl (h29) rfl ?_
                              refine K.skip rfl rfl rfl rfl (h29) rfl ?_
                              refine K.skip rfl rfl rfl rfl (h29) rfl ?_
                              refine K.skip rfl rfl rfl rfl (h29) rfl ?_
                              refine K.skip rfl rfl rfl rfl (h29) rfl ?_
                              refine K.skip rfl rfl rfl rfl (h29) rfl ?_
                              refine K.skip rfl rfl rfl rfl (h29) rfl ?_
                              refine K.skipU rfl rfl rfl rfl rfl ?_
                              refine K.skipU rfl rfl rfl rfl rfl ?_
                              refine K.skipU rfl rfl rfl rfl rfl ?_
                              refine K.skipU rfl rfl rfl rfl rfl ?_
                              refine K.skipU rfl rfl rfl rfl rfl ?_
                              refine K.skipU rfl rfl rfl rfl rfl ?_
                              refine K.skipU rfl rfl rfl rfl rfl ?_
                              refine K.skipU rfl rfl rfl rfl rfl ?_
                              refine K.skipU rfl rfl rfl rfl rfl ?_
                              refine K.skip rfl rfl rfl rfl (h29) rfl ?_
                              refine K.pickF (gd1 rfl rfl rfl (h27)) rfl (h29) rfl rfl ?_
                              refine K.pickF (gd0 rfl) rfl (h27) rfl rfl ?_
                              refine K.move (.inl rfl) (gd0 rfl) rfl rfl ?_
                              refine K.move (.inl rfl) (gd1 rfl rfl rfl (rfl)) rfl rfl ?_
                              refine K.un (V := .bool (!x22.2)) (gd1 rfl rfl rfl (rfl)) rfl (fun _ => rfl) rfl ?_
                              refine K.move (.inl rfl) (gd1 rfl rfl rfl (rfl)) rfl rfl ?_
                              refine K.loadS Y [_, _] (gd1 rfl rfl rfl (h39)) rfl rfl t35 rfl rfl rfl ?_
                              refine K.build Y [] [_, _] [] (gd1 rfl rfl rfl (h39)) (AllE.spec trivial) rfl rfl t35 rfl rfl ?_
                              refine K.eqS [_, _] [_, _] (gd1 rfl rfl rfl (h39)) rfl rfl cmp35 rfl (.inr rfl) (!((x22.1.k == 0) && ((x22.1.w == 0) && true))) rfl rfl ?_
                              refine K.pickT (gd1 rfl rfl rfl (rfl)) rfl (h39) rfl rfl ?_
                              refine K.pickF (gd0 rfl) rfl (rfl) rfl rfl ?_
                              refine K.nil ?_
                              refine ⟨by kernel_rfl, ?_⟩
                              refine At.next ?_
                              refine G.cond rfl (fun h40 => ?_) (fun h40 => ?_)
                              ·
                                replace H1 := bif_t H1 h40
                                refine G.seq ?_
                                refine G.rg ?_
                                refine K.move (.inr rfl) (gd0 rfl) rfl rfl ?_
                                refine K.nil ?_
                                refine At.next ?_
                                refine G.ret ?_
                                refine At.block_ret ?_
                                refine At.over_ret ?_
                                refine At.block_ret ?_
                                refine At.over_ret ?_
                                refine At.over_ret ?_
                                refine At.block_ret ?_
                                refine At.over_ret ?_
                                cases H1
                                replace H0 := sum_l H0
                                refine At.done Y [(.tmp 4, .c _)] rfl ⟨.tmp rfl, trivial⟩ (to' := [(0, _)]) ⟨rfl, trivial⟩ ?_ ?_ rfl rfl rfl (.inl rfl)
                                · cases H0; rfl
                                · cases H0; rfl
                              ·
                                replace H1 := bif_f H1 h40
                                refine G.skip ?_
                                refine At.block_normal ?_
                                refine At.next ?_
                                refine G.seq ?_
                                obtain ⟨x26, hx26, H1⟩ := bnd H1
                                refine G.rg ?_
                                refine K.move (.inl rfl) (gd0 rfl) rfl rfl ?_
                                refine K.move (.inl rfl) (gd0 rfl) rfl rfl ?_
                                refine K.callV [(.func 36, _), ((.tmp 213), _), ((.tmp 214), _)] [(111, lrow 111 54 eTR07Elem 2 v5)] [(109, _), (110, _)] [(109, _), (110, _)] (fun β => [SV.p 109 0, SV.raw ((lrowV 111 54 eTR07Elem 2 v5).s.den β)]) (fun β w S2 h => Lw07_alike_con (k := k) ((lrowV_isC eTR07Elem_len (by decide)).larg ⟨_, List.mem_cons_self⟩ h) hx26 109 110) (toFn_func (cf 36 rfl) rfl) (gd0 rfl) ⟨rfl, rfl, rfl, trivial⟩ (fun _ => rfl) ⟨rfl, rfl, rfl, trivial⟩ rfl rfl rfl rfl rfl rfl ?_
                                refine K.un (V := .bool (!x26)) (gd0 rfl) rfl (fun _ => rfl) rfl ?_
                                refine K.nil ?_
                                refine At.next ?_
                                refine G.cond rfl (fun h41 => ?_) (fun h41 => ?_)
                                ·
                                  replace H1 := bif_t H1 h41
                                  refine G.seq ?_
                                  refine G.rg ?_
                                  refine K.move (.inr rfl) (gd0 rfl) rfl rfl ?_
                                  refine K.nil ?_
                                  refine At.next ?_
                                  refine G.ret ?_
                                  refine At.block_ret ?_
                                  refine At.over_ret ?_
                                  refine At.over_ret ?_
                                  refine At.block_ret ?_
                                  refine At.over_ret ?_
                                  cases H1
                                  replace H0 := sum_l H0
                                  refine At.done Y [(.tmp 4, .c _)] rfl ⟨.tmp rfl, trivial⟩ (to' := [(0, _)]) ⟨rfl, trivial⟩ ?_ ?_ rfl rfl rfl (.inl rfl)
                                  · cases H0; rfl
                                  · cases H0; rfl
                                ·
                                  replace H1 := bif_f H1 h41
                                  refine G.skip ?_
                                  refine At.block_normal ?_
                                  refine At.next ?_
                                  refine G.rg ?_
                                  refine K.move (.inl rfl) (gd0 rfl) rfl rfl ?_
                                  refine K.bin (V := .int .i64 (w64 (v6 + 1))) (gd0 rfl) rfl rfl (fun _ => rfl) rfl ?_
                                  refine K.move (.inr rfl) (gd0 rfl) rfl rfl ?_
                                  refine K.nil ?_
                                  exact At.again (σ := { q : Nat × (Int × Pool (TNode TL07Elem TTide) × Int × Int × List TR07Elem × Int) // Lw07_GroveActs.l0 k l1 q.1 q.2 = some x7 }) (Fs := fun q => [(1, SV.raw s1), (5, .a (.c (.v (.int .i64 q.1.2.1)))), (6, .a (.c (.p 109 0))), (7, .a (.c (.nv 111))), (8, .a (.c (.v (.int .i64 q.1.2.2.2.2.2.2))))]) (Tl := fun q => [(0, rd S W0), (110, plE 110 q.1.2.2.1), (109, blk 109 [.p 110 0, .v (.int .i64 q.1.2.2.2.1), .v (.int .i64 q.1.2.2.2.2.1)] 101), (111, lrow 111 54 eTR07Elem 2 q.1.2.2.2.2.2.1)]) (μ := fun q => q.1.1) (s := ⟨(n0 + 1, (v1, v2, v3, v4, v5, v6)), HL0⟩) ⟨(n0, (v1, v2, v3, v4, v5, (w64 (v6 + 1)))), H1⟩ [] [_, _, _, _] (Nat.lt_succ_self _) rfl ⟨rfl, rfl, rfl, rfl, rfl, trivial⟩ ⟨rfl, (fun _ => rfl), rfl, (pl_ren rfl), rfl, (blk_ren rfl rfl), rfl, (lrow_ren rfl), trivial⟩ rfl
                            ·
                              replace H1 := bif_f H1 h39
                              refine G.rd mixed ?_
                              refine K.move (.inl rfl) (gd0 rfl) rfl rfl ?_
                              refine K.fieldAddr Y (gd0 rfl) rfl t41 rfl rfl ?_
                              refine K.load1 Y (gd0 rfl) rfl rfl t3 rfl rfl ?_
                              refine K.bin (V := .bool (decide (x8.k ≥ 0))) (gd0 rfl) rfl rfl (fun _ => rfl) rfl ?_
                              refine K.move (.inl rfl) (gd0 rfl) rfl rfl ?_
                              refine K.fieldAddr Y (gd1 rfl rfl rfl (h26)) rfl t41 rfl rfl ?_
                              refine K.load1 Y (gd1 rfl rfl rfl (h26)) rfl rfl t3 rfl rfl ?_
                              refine K.move (.inl rfl) (gd1 rfl rfl rfl (h26)) rfl rfl ?_
                              refine K.lenL (lrowV 111 54 eTR07Elem 2 v5) (lrowV_is eTR07Elem_len (by decide)) (gd1 rfl rfl rfl (h26)) rfl rfl Try.underlying26 rfl ?_
                              refine K.bin (V := .bool (decide (x8.k < (v5.length : Int)))) (gd1 rfl rfl rfl (h26)) rfl rfl (fun _ => rfl) rfl ?_
                              refine K.pickT (gd0 rfl) rfl (h26) rfl rfl ?_
                              refine K.bin (V := .bool (!(x22.2 == (decide (x8.k < (v5.length : Int)))))) (gd0 rfl) rfl rfl (bq_neq Try.underlying4 _ _) rfl ?_
                              refine K.move (.inl rfl) (gd0 rfl) rfl rfl ?_
                              refine K.move (.inl rfl) (gd1 rfl rfl rfl (h27)) rfl rfl ?_
                              refine K.move (.inl rfl) (gd1 rfl rfl rfl (h27)) rfl rfl ?_
                              refine K.skip rfl rfl rfl rfl (h29) rfl ?_
                              refine K.skip rfl rfl rfl rfl (h29) rfl ?_
                              refine K.skip rfl rfl rfl rfl (h29) rfl ?_
                              refine K.skip rfl rfl rfl rfl (h29) rfl ?_
                              refine K.skip rfl rfl rfl rfl (h29) rfl ?_
                              refine K.skip rfl rfl rfl rfl (h29) rfl ?_
                              refine K.skip rfl rfl rfl rfl (h29) rfl ?_
                              refine K.skip rfl rfl rfl rfl (h29) rfl ?_
                              refine K.skip rfl rfl rfl rfl (h29) rfl ?_
                              refine K.skip rfl rfl rfl rfl (h29) rfl ?_
                              refine K.skipU rfl rfl rfl rfl rfl ?_
                              refine K.skipU rfl rfl rfl rfl rfl ?_
                              refine K.skipU rfl rfl rfl rfl rfl ?_
                              refine K.skipU rfl rfl rfl rfl rfl ?_
                              refine K.skipU rfl rfl rfl rfl rfl ?_
                              refine K.skipU rfl rfl rfl rfl rfl ?_
                              refine K.skipU rfl rfl rfl rfl rfl ?_
                              refine K.skipU rfl rfl rfl rfl rfl ?_
                              refine K.skipU rfl rfl rfl rfl rfl ?_
                              refine K.skip rfl rfl rfl rfl (h29) rfl ?_
                              refine K.pickF (gd1 rfl rfl rfl (h27)) rfl (h29) rfl rfl ?_
                              refine K.pickF (gd0 rfl) rfl (h27) rfl rfl ?_
                              refine K.move (.inl rfl) (gd0 rfl) rfl rfl ?_
                              refine K.move (.inl rfl) (gd1 rfl rfl rfl (rfl)) rfl rfl ?_
                              refine K.un (V := .bool (!x22.2)) (gd1 rfl rfl rfl (rfl)) rfl (fun _ => rfl) rfl ?_
                              refine K.move (.inl rfl) (gd1 rfl rfl rfl (rfl)) rfl rfl ?_
                              refine K.skip rfl rfl rfl rfl (h39) rfl ?_
                              refine K.skip rfl rfl rfl rfl (h39) rfl ?_
                              refine K.skip rfl rfl rfl rfl (h39) rfl ?_
                              refine K.pickF (gd1 rfl rfl rfl (rfl)) rfl (h39) rfl rfl ?_
                              refine K.pickF (gd0 rfl) rfl (rfl) rfl rfl ?_
                              refine K.nil ?_
                              refine ⟨by kernel_rfl, ?_⟩
                              refine At.next ?_
                              refine G.cond rfl (fun h42 => ?_) (fun h42 => ?_)
                              · cases h42
                              ·
                                refine G.skip ?_
                                refine At.block_normal ?_
                                refine At.next ?_
                                refine G.seq ?_
                                obtain ⟨x27, hx27, H1⟩ := bnd H1
                                refine G.rg ?_
                                refine K.move (.inl rfl) (gd0 rfl) rfl rfl ?_
                                refine K.move (.inl rfl) (gd0 rfl) rfl rfl ?_
                                refine K.callV [(.func 36, _), ((.tmp 213), _), ((.tmp 214), _)] [(111, lrow 111 54 eTR07Elem 2 v5)] [(109, _), (110, _)] [(109, _), (110, _)] (fun β => [SV.p 109 0, SV.raw ((lrowV 111 54 eTR07Elem 2 v5).s.den β)]) (fun β w S2 h => Lw07_alike_con (k := k) ((lrowV_isC eTR07Elem_len (by decide)).larg ⟨_, List.mem_cons_self⟩ h) hx27 109 110) (toFn_func (cf 36 rfl) rfl) (gd0 rfl) ⟨rfl, rfl, rfl, trivial⟩ (fun _ => rfl) ⟨rfl, rfl, rfl, trivial⟩ rfl rfl rfl rfl rfl rfl ?_
                                refine K.un (V := .bool (!x27)) (gd0 rfl) rfl (fun _ => rfl) rfl ?_
                                refine K.nil ?_
                                refine At.next ?_
                                refine G.cond rfl (fun h43 => ?_) (fun h43 => ?_)
                                ·
                                  replace H1 := bif_t H1 h43
                                  refine G.seq ?_
                                  refine G.rg ?_
                                  refine K.move (.inr rfl) (gd0 rfl) rfl rfl ?_
                                  refine K.nil ?_
                                  refine At.next ?_
                                  refine G.ret ?_
                                  refine At.block_ret ?_
                                  refine At.over_ret ?_
                                  refine At.over_ret ?_
                                  refine At.block_ret ?_
                                  refine At.over_ret ?_
                                  cases H1
                                  replace H0 := sum_l H0
                                  refine At.done Y [(.tmp 4, .c _)] rfl ⟨.tmp rfl, trivial⟩ (to' := [(0, _)]) ⟨rfl, trivial⟩ ?_ ?_ rfl rfl rfl (.inl rfl)
                                  · cases H0; rfl
                                  · cases H0; rfl
                                ·
                                  replace H1 := bif_f H1 h43
                                  refine G.skip ?_
                                  refine At.block_normal ?_
                                  refine At.next ?_
                                  refine G.rg ?_
                                  refine K.move (.inl rfl) (gd0 rfl) rfl rfl ?_
                                  refine K.bin (V := .int .i64 (w64 (v6 + 1))) (gd0 rfl) rfl rfl (fun _ => rfl) rfl ?_
                                  refine K.move (.inr rfl) (gd0 rfl) rfl rfl ?_
                                  refine K.nil ?_
                                  exact At.again (σ := { q : Nat × (Int × Pool (TNode TL07Elem TTide) × Int × Int × List TR07Elem × Int) // Lw07_GroveActs.l0 k l1 q.1 q.2 = some x7 }) (Fs := fun q => [(1, SV.raw s1), (5, .a (.c (.v (.int .i64 q.1.2.1)))), (6, .a (.c (.p 109 0))), (7, .a (.c (.nv 111))), (8, .a (.c (.v (.int .i64 q.1.2.2.2.2.2.2))))]) (Tl := fun q => [(0, rd S W0), (110, plE 110 q.1.2.2.1), (109, blk 109 [.p 110 0, .v (.int .i64 q.1.2.2.2.1), .v (.int .i64 q.1.2.2.2.2.1)] 101), (111, lrow 111 54 eTR07Elem 2 q.1.2.2.2.2.2.1)]) (μ := fun q => q.1.1) (s := ⟨(n0 + 1, (v1, v2, v3, v4, v5, v6)), HL0⟩) ⟨(n0, (v1, v2, v3, v4, v5, (w64 (v6 + 1)))), H1⟩ [] [_, _, _, _] (Nat.lt_succ_self _) rfl ⟨rfl, rfl, rfl, rfl, rfl, trivial⟩ ⟨rfl, (fun _ => rfl), rfl, (pl_ren rfl), rfl, (blk_ren rfl rfl), rfl, (lrow_ren rfl), trivial⟩ rfl
                      ·
                        replace H1 := bif_f H1 h26
                        rcases Bool.eq_false_or_eq_true (!(x22.2 == false)) with h44 | h44
                        ·
                          replace H1 := bif_t H1 h44
                          refine G.rd mixed ?_
                          refine K.move (.inl rfl) (gd0 rfl) rfl rfl ?_
                          refine K.fieldAddr Y (gd0 rfl) rfl t41 rfl rfl ?_
                          refine K.load1 Y (gd0 rfl) rfl rfl t3 rfl rfl ?_
                          refine K.bin (V := .bool (decide (x8.k ≥ 0))) (gd0 rfl) rfl rfl (fun _ => rfl) rfl ?_
                          refine K.move (.inl rfl) (gd0 rfl) rfl rfl ?_
                          refine K.skip rfl rfl rfl rfl (h26) rfl ?_
                          refine K.skip rfl rfl rfl rfl (h26) rfl ?_
                          refine K.skip rfl rfl rfl rfl (h26) rfl ?_
                          refine K.skip rfl rfl rfl rfl (h26) rfl ?_
                          refine K.skip rfl rfl rfl rfl (h26) rfl ?_
                          refine K.pickF (gd0 rfl) rfl (h26) rfl rfl ?_
                          refine K.bin (V := .bool (!(x22.2 == false))) (gd0 rfl) rfl rfl (bq_neq Try.underlying4 _ _) rfl ?_
                          refine K.move (.inl rfl) (gd0 rfl) rfl rfl ?_
                          refine K.skip rfl rfl rfl rfl (h44) rfl ?_
                          refine K.skip rfl rfl rfl rfl (h44) rfl ?_
                          refine K.skipU rfl rfl rfl rfl rfl ?_
                          refine K.skipU rfl rfl rfl rfl rfl ?_
                          refine K.skipU rfl rfl rfl rfl rfl ?_
                          refine K.skipU rfl rfl rfl rfl rfl ?_
                          refine K.skipU rfl rfl rfl rfl rfl ?_
                          refine K.skipU rfl rfl rfl rfl rfl ?_
                          refine K.skipU rfl rfl rfl rfl rfl ?_
                          refine K.skipU rfl rfl rfl rfl rfl ?_
                          refine K.skipU rfl rfl rfl rfl rfl ?_
                          refine K.skipU rfl rfl rfl rfl rfl ?_
                          refine K.skipU rfl rfl rfl rfl rfl ?_
                          refine K.skipU rfl rfl rfl rfl rfl ?_
                          refine K.skipU rfl rfl rfl rfl rfl ?_
                          refine K.skipU rfl rfl rfl rfl rfl ?_
                          refine K.skipU rfl rfl rfl rfl rfl ?_
                          refine K.skipU rfl rfl rfl rfl rfl ?_
                          refine K.skipU rfl rfl rfl rfl rfl ?_
                          refine K.skipU rfl rfl rfl rfl rfl ?_
                          refine K.skipU rfl rfl rfl rfl rfl ?_
                          refine K.skipU rfl rfl rfl rfl rfl ?_
                          refine K.skip rfl rfl rfl rfl (h44) rfl ?_
                          refine K.pickT (gd0 rfl) rfl (h44) rfl rfl ?_
                          refine K.move (.inl rfl) (gd0 rfl) rfl rfl ?_
                          refine K.skip rfl rfl rfl rfl (rfl) rfl ?_
                          refine K.skip rfl rfl rfl rfl (rfl) rfl ?_
                          refine K.skip rfl rfl rfl rfl (rfl) rfl ?_
                          refine K.skipU rfl rfl rfl rfl rfl ?_
                          refine K.skipU rfl rfl rfl rfl rfl ?_
                          refine K.skipU rfl rfl rfl rfl rfl ?_
                          refine K.skip rfl rfl rfl rfl (rfl) rfl ?_
                          refine K.pickT (gd0 rfl) rfl (rfl) rfl rfl ?_
                          refine K.nil ?_
                          refine ⟨by kernel_rfl, ?_⟩
                          refine At.next ?_
                          refine G.cond rfl (fun h45 => ?_) (fun h45 => ?_)
                          ·
                            refine G.seq ?_
                            refine G.rg ?_
                            refine K.move (.inr rfl) (gd0 rfl) rfl rfl ?_
                            refine K.nil ?_
                            refine At.next ?_
                            refine G.ret ?_
                            refine At.block_ret ?_
                            refine At.over_ret ?_
                            refine At.block_ret ?_
                            refine At.over_ret ?_
                            refine At.over_ret ?_
                            refine At.block_ret ?_
                            refine At.over_ret ?_
                            cases H1
                            replace H0 := sum_l H0
                            refine At.done Y [(.tmp 4, .c _)] rfl ⟨.tmp rfl, trivial⟩ (to' := [(0, _)]) ⟨rfl, trivial⟩ ?_ ?_ rfl rfl rfl (.inl rfl)
                            · cases H0; rfl
                            · cases H0; rfl
                          · cases h45
                        ·
                          replace H1 := bif_f H1 h44
                          rcases Bool.eq_false_or_eq_true x22.2 with h46 | h46
                          ·
                            replace H1 := bif_t H1 h46
                            obtain ⟨x28, hx28, H1⟩ := bnd H1
                            rcases Bool.eq_false_or_eq_true (x22.1.k != x28.k) with h47 | h47
                            ·
                              replace H1 := bif_t H1 h47
                              refine G.rd mixed ?_
                              refine K.move (.inl rfl) (gd0 rfl) rfl rfl ?_
                              refine K.fieldAddr Y (gd0 rfl) rfl t41 rfl rfl ?_
                              refine K.load1 Y (gd0 rfl) rfl rfl t3 rfl rfl ?_
                              refine K.bin (V := .bool (decide (x8.k ≥ 0))) (gd0 rfl) rfl rfl (fun _ => rfl) rfl ?_
                              refine K.move (.inl rfl) (gd0 rfl) rfl rfl ?_
                              refine K.skip rfl rfl rfl rfl (h26) rfl ?_
                              refine K.skip rfl rfl rfl rfl (h26) rfl ?_
                              refine K.skip rfl rfl rfl rfl (h26) rfl ?_
                              refine K.skip rfl rfl rfl rfl (h26) rfl ?_
                              refine K.skip rfl rfl rfl rfl (h26) rfl ?_
                              refine K.pickF (gd0 rfl) rfl (h26) rfl rfl ?_
                              refine K.bin (V := .bool (!(x22.2 == false))) (gd0 rfl) rfl rfl (bq_neq Try.underlying4 _ _) rfl ?_
                              refine K.move (.inl rfl) (gd0 rfl) rfl rfl ?_
                              refine K.move (.inl rfl) (gd1 rfl rfl rfl (h44)) rfl rfl ?_
                              refine K.move (.inl rfl) (gd1 rfl rfl rfl (h44)) rfl rfl ?_
                              refine K.fieldAddr Y (gd1 rfl rfl rfl (h46)) rfl t35 rfl rfl ?_
                              refine K.load1 Y (gd1 rfl rfl rfl (h46)) rfl rfl t3 rfl rfl ?_
                              refine K.move (.inl rfl) (gd1 rfl rfl rfl (h46)) rfl rfl ?_
                              refine K.fieldAddr Y (gd1 rfl rfl rfl (h46)) rfl t41 rfl rfl ?_
                              refine K.load1 Y (gd1 rfl rfl rfl (h46)) rfl rfl t3 rfl rfl ?_
                              refine K.idxL (lrowV 111 54 eTR07Elem 2 v5) ((x8.k).toNat) (lrowV_is eTR07Elem_len (by decide)) (atL_get hx28) (atL_nn hx28) (gd1 rfl rfl rfl (h46)) rfl rfl rfl Try.underlying26 el26.size_run rfl ?_
                              refine K.fieldL Y (lrowV 111 54 eTR07Elem 2 v5) ((x8.k).toNat) 0 0 (lrowV_is eTR07Elem_len (by decide)) (atL_get hx28) (gd1 rfl rfl rfl (h46)) rfl rfl t54 rfl rfl rfl rfl ?_
                              refine K.load1L Y (lrowV 111 54 eTR07Elem 2 v5) ((x8.k).toNat) 0 (lrowV_is eTR07Elem_len (by decide)) (atL_get hx28) (gd1 rfl rfl rfl (h46)) rfl rfl t3 rfl rfl ?_
                              refine K.bin (V := .bool (x22.1.k != x28.k)) (gd1 rfl rfl rfl (h46)) rfl rfl (fun _ => rfl) rfl ?_
                              refine K.move (.inl rfl) (gd1 rfl rfl rfl (h46)) rfl rfl ?_
                              refine K.skip rfl rfl rfl rfl (h47) rfl ?_
                              refine K.skip rfl rfl rfl rfl (h47) rfl ?_
                              refine K.skip rfl rfl rfl rfl (h47) rfl ?_
                              refine K.skip rfl rfl rfl rfl (h47) rfl ?_
                              refine K.skip rfl rfl rfl rfl (h47) rfl ?_
                              refine K.skip rfl rfl rfl rfl (h47) rfl ?_
                              refine K.skip rfl rfl rfl rfl (h47) rfl ?_
                              refine K.skip rfl rfl rfl rfl (h47) rfl ?_
                              refine K.skip rfl rfl rfl rfl (h47) rfl ?_
                              refine K.pickT (gd1 rfl rfl rfl (h46)) rfl (h47) rfl rfl ?_
                              refine K.pickT (gd1 rfl rfl rfl (h44)) rfl (h46) rfl rfl ?_
                              refine K.pickF (gd0 rfl) rfl (h44) rfl rfl ?_
                              refine K.move (.inl rfl) (gd0 rfl) rfl rfl ?_
                              refine K.skip rfl rfl rfl rfl (rfl) rfl ?_
                              refine K.skip rfl rfl rfl rfl (rfl) rfl ?_
                              refine K.skip rfl rfl rfl rfl (rfl) rfl ?_
                              refine K.skipU rfl rfl rfl rfl rfl ?_
                              refine K.skipU rfl rfl rfl rfl rfl ?_
                              refine K.skipU rfl rfl rfl rfl rfl ?_
                              refine K.skip rfl rfl rfl rfl (rfl) rfl ?_
                              refine K.pickT (gd0 rfl) rfl (rfl) rfl rfl ?_
                              refine K.nil ?_
                              refine ⟨by kernel_rfl, ?_⟩
                              refine At.next ?_
                              refine G.cond rfl (fun h48 => ?_) (fun h48 => ?_)
                              ·
                                refine G.seq ?_
                                refine G.rg ?_
                                refine K.move (.inr rfl) (gd0 rfl) rfl rfl ?_
                                refine K.nil ?_
                                refine At.next ?_
                                refine G.ret ?_
                                refine At.block_ret ?_
                                refine At.over_ret ?_
                                refine At.block_ret ?_
                                refine At.over_ret ?_
                                refine At.over_ret ?_
                                refine At.block_ret ?_
                                refine At.over_ret ?_
                                cases H1
                                replace H0 := sum_l H0
                                refine At.done Y [(.tmp 4, .c _)] rfl ⟨.tmp rfl, trivial⟩ (to' := [(0, _)]) ⟨rfl, trivial⟩ ?_ ?_ rfl rfl rfl (.inl rfl)
                                · cases H0; rfl
                                · cases H0; rfl
                              · cases h48
                            ·
                              replace H1 := bif_f H1 h47
                              rcases Bool.eq_false_or_eq_true (x22.1.w != x28.w) with h49 | h49
                              ·
                                replace H1 := bif_t H1 h49
                                refine G.rd mixed ?_
                                refine K.move (.inl rfl) (gd0 rfl) rfl rfl ?_
                                refine K.fieldAddr Y (gd0 rfl) rfl t41 rfl rfl ?_
                                refine K.load1 Y (gd0 rfl) rfl rfl t3 rfl rfl ?_
                                refine K.bin (V := .bool (decide (x8.k ≥ 0))) (gd0 rfl) rfl rfl (fun _ => rfl) rfl ?_
                                refine K.move (.inl rfl) (gd0 rfl) rfl rfl ?_
                                refine K.skip rfl rfl rfl rfl (h26) rfl ?_
                                refine K.skip rfl rfl rfl rfl (h26) rfl ?_
                                refine K.skip rfl rfl rfl rfl (h26) rfl ?_
                                refine K.skip rfl rfl rfl rfl (h26) rfl ?_
                                refine K.skip rfl rfl rfl rfl (h26) rfl ?_
                                refine K.pickF (gd0 rfl) rfl (h26) rfl rfl ?_
                                refine K.bin (V := .bool (!(x22.2 == false))) (gd0 rfl) rfl rfl (bq_neq Try.underlying4 _ _) rfl ?_
                                refine K.move (.inl rfl) (gd0 rfl) rfl rfl ?_
                                refine K.move (.inl rfl) (gd1 rfl rfl rfl (h44)) rfl rfl ?_
                                refine K.move (.inl rfl) (gd1 rfl rfl rfl (h44)) rfl rfl ?_
                                refine K.fieldAddr Y (gd1 rfl rfl rfl (h46)) rfl t35 rfl rfl ?_
                                refine K.load1 Y (gd1 rfl rfl rfl (h46)) rfl rfl t3 rfl rfl ?_
                                refine K.move (.inl rfl) (gd1 rfl rfl rfl (h46)) rfl rfl ?_
                                refine K.fieldAddr Y (gd1 rfl rfl rfl (h46)) rfl t41 rfl rfl ?_
                                refine K.load1 Y (gd1 rfl rfl rfl (h46)) rfl rfl t3 rfl rfl ?_
                                refine K.idxL (lrowV 111 54 eTR07Elem 2 v5) ((x8.k).toNat) (lrowV_is eTR07Elem_len (by decide)) (atL_get hx28) (atL_nn hx28) (gd1 rfl rfl rfl (h46)) rfl rfl rfl Try.underlying26 el26.size_run rfl ?_
                                refine K.fieldL Y (lrowV 111 54 eTR07Elem 2 v5) ((x8.k).toNat) 0 0 (lrowV_is eTR07Elem_len (by decide)) (atL_get hx28) (gd1 rfl rfl rfl (h46)) rfl rfl t54 rfl rfl rfl rfl ?_
                                refine K.load1L Y (lrowV 111 54 eTR07Elem 2 v5) ((x8.k).toNat) 0 (lrowV_is eTR07Elem_len (by decide)) (atL_get hx28) (gd1 rfl rfl rfl (h46)) rfl rfl t3 rfl rfl ?_
                                refine K.bin (V := .bool (x22.1.k != x28.k)) (gd1 rfl rfl rfl (h46)) rfl rfl (fun _ => rfl) rfl ?_
                                refine K.move (.inl rfl) (gd1 rfl rfl rfl (h46)) rfl rfl ?_
                                refine K.fieldAddr Y (gd1 rfl rfl rfl (h47)) rfl t35 rfl rfl ?_
                                refine K.load1 Y (gd1 rfl rfl rfl (h47)) rfl rfl t3 rfl rfl ?_
                                refine K.move (.inl rfl) (gd1 rfl rfl rfl (h47)) rfl rfl ?_
                                refine K.fieldAddr Y (gd1 rfl rfl rfl (h47)) rfl t41 rfl rfl ?_
                                refine K.load1 Y (gd1 rfl rfl rfl (h47)) rfl rfl t3 rfl rfl ?_
                                refine K.idxL (lrowV 111 54 eTR07Elem 2 v5) ((x8.k).toNat) (lrowV_is eTR07Elem_len (by decide)) (atL_get hx28) (atL_nn hx28) (gd1 rfl rfl rfl (h47)) rfl rfl rfl Try.underlying26 el26.size_run rfl ?_
                                refine K.fieldL Y (lrowV 111 54 eTR07Elem 2 v5) ((x8.k).toNat) 0 1 (lrowV_is eTR07Elem_len (by decide)) (atL_get hx28) (gd1 rfl rfl rfl (h47)) rfl rfl t54 rfl rfl rfl rfl ?_
                                refine K.load1L Y (lrowV 111 54 eTR07Elem 2 v5) ((x8.k).toNat) 1 (lrowV_is eTR07Elem_len (by decide)) (atL_get hx28) (gd1 rfl rfl rfl (h47)) rfl rfl t3 rfl rfl ?_
                                refine K.bin (V := .bool (x22.1.w != x28.w)) (gd1 rfl rfl rfl (h47)) rfl rfl (fun _ => rfl) rfl ?_
                                refine K.pickF (gd1 rfl rfl rfl (h46)) rfl (h47) rfl rfl ?_
                                refine K.pickT (gd1 rfl rfl rfl (h44)) rfl (h46) rfl rfl ?_
                                refine K.pickF (gd0 rfl) rfl (h44) rfl rfl ?_
                                refine K.move (.inl rfl) (gd0 rfl) rfl rfl ?_
                                refine K.skip rfl rfl rfl rfl (h49) rfl ?_
                                refine K.skip rfl rfl rfl rfl (h49) rfl ?_
                                refine K.skip rfl rfl rfl rfl (h49) rfl ?_
                                refine K.skipU rfl rfl rfl rfl rfl ?_
                                refine K.skipU rfl rfl rfl rfl rfl ?_
                                refine K.skipU rfl rfl rfl rfl rfl ?_
                                refine K.skip rfl rfl rfl rfl (h49) rfl ?_
                                refine K.pickT (gd0 rfl) rfl (h49) rfl rfl ?_
                                refine K.nil ?_
                                refine ⟨by kernel_rfl, ?_⟩
                                refine At.next ?_
                                refine G.cond rfl (fun h50 => ?_) (fun h50 => ?_)
                                ·
                                  refine G.seq ?_
                                  refine G.rg ?_
                                  refine K.move (.inr rfl) (gd0 rfl) rfl rfl ?_
                                  refine K.nil ?_
                                  refine At.next ?_
                                  refine G.ret ?_
                                  refine At.block_ret ?_
                                  refine At.over_ret ?_
                                  refine At.block_ret ?_
                                  refine At.over_ret ?_
                                  refine At.over_ret ?_
                                  refine At.block_ret ?_
                                  refine At.over_ret ?_
                                  cases H1
                                  replace H0 := sum_l H0
                                  refine At.done Y [(.tmp 4, .c _)] rfl ⟨.tmp rfl, trivial⟩ (to' := [(0, _)]) ⟨rfl, trivial⟩ ?_ ?_ rfl rfl rfl (.inl rfl)
                                  · cases H0; rfl
                                  · cases H0; rfl
                                · cases h50
                              ·
                                replace H1 := bif_f H1 h49
                                rcases Bool.eq_false_or_eq_true (!x22.2) with h51 | h51
                                ·
                                  replace H1 := bif_t H1 h51
                                  refine G.rd mixed ?_
                                  refine K.move (.inl rfl) (gd0 rfl) rfl rfl ?_
                                  refine K.fieldAddr Y (gd0 rfl) rfl t41 rfl rfl ?_
                                  refine K.load1 Y (gd0 rfl) rfl rfl t3 rfl rfl ?_
                                  refine K.bin (V := .bool (decide (x8.k ≥ 0))) (gd0 rfl) rfl rfl (fun _ => rfl) rfl ?_
                                  refine K.move (.inl rfl) (gd0 rfl) rfl rfl ?_
                                  refine K.skip rfl rfl rfl rfl (h26) rfl ?_
                                  refine K.skip rfl rfl rfl rfl (h26) rfl ?_
                                  refine K.skip rfl rfl rfl rfl (h26) rfl ?_
                                  refine K.skip rfl rfl rfl rfl (h26) rfl ?_
                                  refine K.skip rfl rfl rfl rfl (h26) rfl ?_
                                  refine K.pickF (gd0 rfl) rfl (h26) rfl rfl ?_
                                  refine K.bin (V := .bool (!(x22.2 == false))) (gd0 rfl) rfl rfl (bq_neq Try.underlying4 _ _) rfl ?_
                                  refine K.move (.inl rfl) (gd0 rfl) rfl rfl ?_
                                  refine K.move (.inl rfl) (gd1 rfl rfl rfl (h44)) rfl rfl ?_
                                  refine K.move (.inl rfl) (gd1 rfl rfl rfl (h44)) rfl rfl ?_
                                  refine K.fieldAddr Y (gd1 rfl rfl rfl (h46)) rfl t35 rfl rfl ?_
                                  refine K.load1 Y (gd1 rfl rfl rfl (h46)) rfl rfl t3 rfl rfl ?_
                                  refine K.move (.inl rfl) (gd1 rfl rfl rfl (h46)) rfl rfl ?_
                                  refine K.fieldAddr Y (gd1 rfl rfl rfl (h46)) rfl t41 rfl rfl ?_
                                  refine K.load1 Y (gd1 rfl rfl rfl (h46)) rfl rfl t3 rfl rfl ?_
                                  refine K.idxL (lrowV 111 54 eTR07Elem 2 v5) ((x8.k).toNat) (lrowV_is eTR07Elem_len (by decide)) (atL_get hx28) (atL_nn hx28) (gd1 rfl rfl rfl (h46)) rfl rfl rfl Try.underlying26 el26.size_run rfl ?_
                                  refine K.fieldL Y (lrowV 111 54 eTR07Elem 2 v5) ((x8.k).toNat) 0 0 (lrowV_is eTR07Elem_len (by decide)) (atL_get hx28) (gd1 rfl rfl rfl (h46)) rfl rfl t54 rfl rfl rfl rfl ?_
                                  refine K.load1L Y (lrowV 111 54 eTR07Elem 2 v5) ((x8.k).toNat) 0 (lrowV_is eTR07Elem_len (by decide)) (atL_get hx28) (gd1 rfl rfl rfl (h46)) rfl rfl t3 rfl rfl ?_
                                  refine K.bin (V := .bool (x22.1.k != x28.k)) (gd1 rfl rfl rfl (h46)) rfl rfl (fun _ => rfl) rfl ?_
                                  refine K.move (.inl rfl) (gd1 rfl rfl rfl (h46)) rfl rfl ?_
                                  refine K.fieldAddr Y (gd1 rfl rfl rfl (h47)) rfl t35 rfl rfl ?_
                                  refine K.load1 Y (gd1 rfl rfl rfl (h47)) rfl rfl t3 rfl rfl ?_
                                  refine K.move (.inl rfl) (gd1 rfl rfl rfl (h47)) rfl rfl ?_
                                  refine K.fieldAddr Y (gd1 rfl rfl rfl (h47)) rfl t41 rfl rfl ?_
                                  refine K.load1 Y (gd1 rfl rfl rfl (h47)) rfl rfl t3 rfl rfl ?_
                                  refine K.idxL (lrowV 111 54 eTR07Elem 2 v5) ((x8.k).toNat) (lrowV_is eTR07Elem_len (by decide)) (atL_get hx28) (atL_nn hx28) (gd1 rfl rfl rfl (h47)) rfl rfl rfl Try.underlying26 el26.size_run rfl ?_
                                  refine K.fieldL Y (lrowV 111 54 eTR07Elem 2 v5) ((x8.k).toNat) 0 1 (lrowV_is eTR07Elem_len (by decide)) (atL_get hx28) (gd1 rfl rfl rfl (h47)) rfl rfl t54 rfl rfl rfl rfl ?_
                                  refine K.load1L Y (lrowV 111 54 eTR07Elem 2 v5) ((x8.k).toNat) 1 (lrowV_is eTR07Elem_len (by decide)) (atL_get hx28) (gd1 rfl rfl rfl (h47)) rfl rfl t3 rfl rfl ?_
                                  refine K.bin (V := .bool (x22.1.w != x28.w)) (gd1 rfl rfl rfl (h47)) rfl rfl (fun _ => rfl) rfl ?_
                                  refine K.pickF (gd1 rfl rfl rfl (h46)) rfl (h47) rfl rfl ?_
                                  refine K.pickT (gd1 rfl rfl rfl (h44)) rfl (h46) rfl rfl ?_
                                  refine K.pickF (gd0 rfl) rfl (h44) rfl rfl ?_
                                  refine K.move (.inl rfl) (gd0 rfl) rfl rfl ?_
                                  refine K.move (.inl rfl) (gd1 rfl rfl rfl (h49)) rfl rfl ?_
                                  refine K.un (V := .bool (!x22.2)) (gd1 rfl rfl rfl (h49)) rfl (fun _ => rfl) rfl ?_
                                  refine K.move (.inl rfl) (gd1 rfl rfl rfl (h49)) rfl rfl ?_
                                  refine K.loadS Y [_, _] (gd1 rfl rfl rfl (h51)) rfl rfl t35 rfl rfl rfl ?_
                                  refine K.build Y [] [_, _] [] (gd1 rfl rfl rfl (h51)) (AllE.spec trivial) rfl rfl t35 rfl rfl ?_
                                  refine K.eqS [_, _] [_, _] (gd1 rfl rfl rfl (h51)) rfl rfl cmp35 rfl (.inr rfl) (!((x22.1.k == 0) && ((x22.1.w == 0) && true))) rfl rfl ?_
                                  refine K.pickT (gd1 rfl rfl rfl (h49)) rfl (h51) rfl rfl ?_
                                  refine K.pickF (gd0 rfl) rfl (h49) rfl rfl ?_
                                  refine K.nil ?_
                                  refine ⟨by kernel_rfl, ?_⟩
                                  refine At.next ?_
                                  refine G.cond rfl (fun h52 => ?_) (fun h52 => ?_)
                                  ·
                                    replace H1 := bif_t H1 h52
                                    refine G.seq ?_
                                    refine G.rg ?_
                                    refine K.move (.inr rfl) (gd0 rfl) rfl rfl ?_
                                    refine K.nil ?_
                                    refine At.next ?_
                                    refine G.ret ?_
                                    refine At.block_ret ?_
                                    refine At.over_ret ?_
                                    refine At.block_ret ?_
                                    refine At.over_ret ?_
                                    refine At.over_ret ?_
                                    refine At.block_ret ?_
                                    refine At.over_ret ?_
                                    cases H1
                                    replace H0 := sum_l H0
                                    refine At.done Y [(.tmp 4, .c _)] rfl ⟨.tmp rfl, trivial⟩ (to' := [(0, _)]) ⟨rfl, trivial⟩ ?_ ?_ rfl rfl rfl (.inl rfl)
                                    · cases H0; rfl
                                    · cases H0; rfl
                                  ·
                                    replace H1 := bif_f H1 h52
                                    refine G.skip ?_
                                    refine At.block_normal ?_
                                    refine At.next ?_
                                    refine G.seq ?_
                                    obtain ⟨x29, hx29, H1⟩ := bnd H1
                                    refine G.rg ?_
                                    refine K.move (.inl rfl) (gd0 rfl) rfl rfl ?_
                                    refine K.move (.inl rfl) (gd0 rfl) rfl rfl ?_
                                    refine K.callV [(.func 36, _), ((.tmp 213), _), ((.tmp 214), _)] [(111, lrow 111 54 eTR07Elem 2 v5)] [(109, _), (110, _)] [(109, _), (110, _)] (fun β => [SV.p 109 0, SV.raw ((lrowV 111 54 eTR07Elem 2 v5).s.den β)]) (fun β w S2 h => Lw07_alike_con (k := k) ((lrowV_isC eTR07Elem_len (by decide)).larg ⟨_, List.mem_cons_self⟩ h) hx29 109 110) (toFn_func (cf 36 rfl) rfl) (gd0 rfl) ⟨rfl, rfl, rfl, trivial⟩ (fun _ => rfl) ⟨rfl, rfl, rfl, trivial⟩ rfl rfl rfl rfl rfl rfl ?_
                                    refine K.un (V := .bool (!x29)) (gd0 rfl) rfl (fun _ => rfl) rfl ?_
                                    refine K.nil ?_
                                    refine At.next ?_
                                    refine G.cond rfl (fun h53 => ?_) (fun h53 => ?_)
                                    ·
                                      replace H1 := bif_t H1 h53
                                      refine G.seq ?_
                                      refine G.rg ?_
                                      refine K.move (.inr rfl) (gd0 rfl) rfl rfl ?_
                                      refine K.nil ?_
                                      refine At.next ?_
                                      refine G.ret ?_
                                      refine At.block_ret ?_
                                      refine At.over_ret ?_
                                      refine At.over_ret ?_
                                      refine At.block_ret ?_
                                      refine At.over_ret ?_
                                      cases H1
                                      replace H0 := sum_l H0
                                      refine At.done Y [(.tmp 4, .c _)] rfl ⟨.tmp rfl, trivial⟩ (to' := [(0, _)]) ⟨rfl, trivial⟩ ?_ ?_ rfl rfl rfl (.inl rfl)
                                      · cases H0; rfl
                                      · cases H0; rfl
                                    ·
                                      replace H1 := bif_f H1 h53
                                      refine G.skip ?_
                                      refine At.block_normal ?_
                                      refine At.next ?_
                                      refine G.rg ?_
                                      refine K.move (.inl rfl) (gd0 rfl) rfl rfl ?_
                                      refine K.bin (V := .int .i64 (w64 (v6 + 1))) (gd0 rfl) rfl rfl (fun _ => rfl) rfl ?_
                                      refine K.move (.inr rfl) (gd0 rfl) rfl rfl ?_
                                      refine K.nil ?_
                                      exact At.again (σ := { q : Nat × (Int × Pool (TNode TL07Elem TTide) × Int × Int × List TR07Elem × Int) // Lw07_GroveActs.l0 k l1 q.1 q.2 = some x7 }) (Fs := fun q => [(1, SV.raw s1), (5, .a (.c (.v (.int .i64 q.1.2.1)))), (6, .a (.c (.p 109 0))), (7, .a (.c (.nv 111))), (8, .a (.c (.v (.int .i64 q.1.2.2.2.2.2.2))))]) (Tl := fun q => [(0, rd S W0), (110, plE 110 q.1.2.2.1), (109, blk 109 [.p 110 0, .v (.int .i64 q.1.2.2.2.1), .v (.int .i64 q.1.2.2.2.2.1)] 101), (111, lrow 111 54 eTR07Elem 2 q.1.2.2.2.2.2.1)]) (μ := fun q => q.1.1) (s := ⟨(n0 + 1, (v1, v2, v3, v4, v5, v6)), HL0⟩) ⟨(n0, (v1, v2, v3, v4, v5, (w64 (v6 + 1)))), H1⟩ [] [_, _, _, _] (Nat.lt_succ_self _) rfl ⟨rfl, rfl, rfl, rfl, rfl, trivial⟩ ⟨rfl, (fun _ => rfl), rfl, (pl_ren rfl), rfl, (blk_ren rfl rfl), rfl, (lrow_ren rfl), trivial⟩ rfl
                                ·
                                  replace H1 := bif_f H1 h51
                                  refine G.rd mixed ?_
                                  refine K.move (.inl rfl) (gd0 rfl) rfl rfl ?_
                                  refine K.fieldAddr Y (gd0 rfl) rfl t41 rfl rfl ?_
                                  refine K.load1 Y (gd0 rfl) rfl rfl t3 rfl rfl ?_
                                  refine K.bin (V := .bool (decide (x8.k ≥ 0))) (gd0 rfl) rfl rfl (fun _ => rfl) rfl ?_
                                  refine K.move (.inl rfl) (gd0 rfl) rfl rfl ?_
                                  refine K.skip rfl rfl rfl rfl (h26) rfl ?_
                                  refine K.skip rfl rfl rfl rfl (h26) rfl ?_
                                  refine K.skip rfl rfl rfl rfl (h26) rfl ?_
                                  refine K.skip rfl rfl rfl rfl (h26) rfl ?_
                                  refine K.skip rfl rfl rfl rfl (h26) rfl ?_
                                  refine K.pickF (gd0 rfl) rfl (h26) rfl rfl ?_
                                  refine K.bin (V := .bool (!(x22.2 == false))) (gd0 rfl) rfl rfl (bq_neq Try.underlying4 _ _) rfl ?_
                                  refine K.move (.inl rfl) (gd0 rfl) rfl rfl ?_
                                  refine K.move (.inl rfl) (gd1 rfl rfl rfl (h44)) rfl rfl ?_
                                  refine K.move (.inl rfl) (gd1 rfl rfl rfl (h44)) rfl rfl ?_
                                  refine K.fieldAddr Y (gd1 rfl rfl rfl (h46)) rfl t35 rfl rfl ?_
                                  refine K.load1 Y (gd1 rfl rfl rfl (h46)) rfl rfl t3 rfl rfl ?_
                                  refine K.move (.inl rfl) (gd1 rfl rfl rfl (h46)) rfl rfl ?_
                                  refine K.fieldAddr Y (gd1 rfl rfl rfl (h46)) rfl t41 rfl rfl ?_
                                  refine K.load1 Y (gd1 rfl rfl rfl (h46)) rfl rfl t3 rfl rfl ?_
                                  refine K.idxL (lrowV 111 54 eTR07Elem 2 v5) ((x8.k).toNat) (lrowV_is eTR07Elem_len (by decide)) (atL_get hx28) (atL_nn hx28) (gd1 rfl rfl rfl (h46)) rfl rfl rfl Try.underlying26 el26.size_run rfl ?_
                                  refine K.fieldL Y (lrowV 111 54 eTR07Elem 2 v5) ((x8.k).toNat) 0 0 (lrowV_is eTR07Elem_len (by decide)) (atL_get hx28) (gd1 rfl rfl rfl (h46)) rfl rfl t54 rfl rfl rfl rfl ?_
                                  refine K.load1L Y (lrowV 111 54 eTR07Elem 2 v5) ((x8.k).toNat) 0 (lrowV_is eTR07Elem_len (by decide)) (atL_get hx28) (gd1 rfl rfl rfl (h46)) rfl rfl t3 rfl rfl ?_
                                  refine K.bin (V := .bool (x22.1.k != x28.k)) (gd1 rfl rfl rfl (h46)) rfl rfl (fun _ => rfl) rfl ?_
                                  refine K.move (.inl rfl) (gd1 rfl rfl rfl (h46)) rfl rfl ?_
                                  refine K.fieldAddr Y (gd1 rfl rfl rfl (h47)) rfl t35 rfl rfl ?_
                                  refine K.load1 Y (gd1 rfl rfl rfl (h47)) rfl rfl t3 rfl rfl ?_
                                  refine K.move (.inl rfl) (gd1 rfl rfl rfl (h47)) rfl rfl ?_
                                  refine K.fieldAddr Y (gd1 rfl rfl rfl (h47)) rfl t41 rfl rfl ?_
                                  refine K.load1 Y (gd1 rfl rfl rfl (h47)) rfl rfl t3 rfl rfl ?_
                                  refine K.idxL (lrowV 111 54 eTR07Elem 2 v5) ((x8.k).toNat) (lrowV_is eTR07Elem_len (by decide)) (atL_get hx28) (atL_nn hx28) (gd1 rfl rfl rfl (h47)) rfl rfl rfl Try.underlying26 el26.size_run rfl ?_
                                  refine K.fieldL Y (lrowV 111 54 eTR07Elem 2 v5) ((x8.k).toNat) 0 1 (lrowV_is eTR07Elem_len (by decide)) (atL_get hx28) (gd1 rfl rfl rfl (h47)) rfl rfl t54 rfl rfl rfl rfl ?_
                                  refine K.load1L Y (lrowV 111 54 eTR07Elem 2 v5) ((x8.k).toNat) 1 (lrowV_is eTR07Elem_len (by decide)) (atL_get hx28) (gd1 rfl rfl rfl (h47)) rfl rfl t3 rfl rfl ?_
                                  refine K.bin (V := .bool (x22.1.w != x28.w)) (gd1 rfl rfl rfl (h47)) rfl rfl (fun _ => rfl) rfl ?_
                                  refine K.pickF (gd1 rfl rfl rfl (h46)) rfl (h47) rfl rfl ?_
                                  refine K.pickT (gd1 rfl rfl rfl (h44)) rfl (h46) rfl rfl ?_
                                  refine K.pickF (gd0 rfl) rfl (h44) rfl rfl ?_
                                  refine K.move (.inl rfl) (gd0 rfl) rfl rfl ?_
                                  refine K.move (.inl rfl) (gd1 rfl rfl rfl (h49)) rfl rfl ?_
                                  refine K.un (V := .bool (!x22.2)) (gd1 rfl rfl rfl (h49)) rfl (fun _ => rfl) rfl ?_
                                  refine K.move (.inl rfl) (gd1 rfl rfl rfl (h49)) rfl rfl ?_
                                  refine K.skip rfl rfl rfl rfl (h51) rfl ?_
                                  refine K.skip rfl rfl rfl rfl (h51) rfl ?_
                                  refine K.skip rfl rfl rfl rfl (h51) rfl ?_
                                  refine K.pickF (gd1 rfl rfl rfl (h49)) rfl (h51) rfl rfl ?_
                                  refine K.pickF (gd0 rfl) rfl (h49) rfl rfl ?_
                                  refine K.nil ?_
                                  refine ⟨by kernel_rfl, ?_⟩
                                  refine At.next ?_
                                  refine G.cond rfl (fun h54 => ?_) (fun h54 => ?_)
                                  · cases h54
                                  ·
                                    refine G.skip ?_
                                    refine At.block_normal ?_
                                    refine At.next ?_
                                    refine G.seq ?_
                                    obtain ⟨x30, hx30, H1⟩ := bnd H1
                                    refine G.rg ?_
                                    refine K.move (.inl rfl) (gd0 rfl) rfl rfl ?_
                                    refine K.move (.inl rfl) (gd0 rfl) rfl rfl ?_
                                    refine K.callV [(.func 36, _), ((.tmp 213), _), ((.tmp 214), _)] [(111, lrow 111 54 eTR07Elem 2 v5)] [(109, _), (110, _)] [(109, _), (110, _)] (fun β => [SV.p 109 0, SV.raw ((lrowV 111 54 eTR07Elem 2 v5).s.den β)]) (fun β w S2 h => Lw07_alike_con (k := k) ((lrowV_isC eTR07Elem_len (by decide)).larg ⟨_, List.mem_cons_self⟩ h) hx30 109 110) (toFn_func (cf 36 rfl) rfl) (gd0 rfl) ⟨rfl, rfl, rfl, trivial⟩ (fun _ => rfl) ⟨rfl, rfl, rfl, trivial⟩ rfl rfl rfl rfl rfl rfl ?_
                                    refine K.un (V := .bool (!x30)) (gd0 rfl) rfl (fun _ => rfl) rfl ?_
                                    refine K.nil ?_
                                    refine At.next ?_
                                    refine G.cond rfl (fun h55 => ?_) (fun h55 => ?_)
                                    ·
                                      replace H1 := bif_t H1 h55
                                      refine G.seq ?_
                                      refine G.rg ?_
                                      refine K.move (.inr rfl) (gd0 rfl) rfl rfl ?_
                                      refine K.nil ?_
                                      refine At.next ?_
                                      refine G.ret ?_
                                      refine At.block_ret ?_
                                      refine At.over_ret ?_
                                      refine At.over_ret ?_
                                      refine At.block_ret ?_
                                      refine At.over_ret ?_
                                      cases H1
                                      replace H0 := sum_l H0
                                      refine At.done Y [(.tmp 4, .c _)] rfl ⟨.tmp rfl, trivial⟩ (to' := [(0, _)]) ⟨rfl, trivial⟩ ?_ ?_ rfl rfl rfl (.inl rfl)
                                      · cases H0; rfl
                                      · cases H0; rfl
                                    ·
                                      replace H1 := bif_f H1 h55
                                      refine G.skip ?_
                                      refine At.block_normal ?_
                                      refine At.next ?_
                                      refine G.rg ?_
                                      refine K.move (.inl rfl) (gd0 rfl) rfl rfl ?_
                                      refine K.bin (V := .int .i64 (w64 (v6 + 1))) (gd0 rfl) rfl rfl (fun _ => rfl) rfl ?_
                                      refine K.move (.inr rfl) (gd0 rfl) rfl rfl ?_
                                      refine K.nil ?_
                                      exact At.again (σ := { q : Nat × (Int × Pool (TNode TL07Elem TTide) × Int × Int × List TR07Elem × Int) // Lw07_GroveActs.l0 k l1 q.1 q.2 = some x7 }) (Fs := fun q => [(1, SV.raw s1), (5, .a (.c (.v (.int .i64 q.1.2.1)))), (6, .a (.c (.p 109 0))), (7, .a (.c (.nv 111))), (8, .a (.c (.v (.int .i64 q.1.2.2.2.2.2.2))))]) (Tl := fun q => [(0, rd S W0), (110, plE 110 q.1.2.2.1), (109, blk 109 [.p 110 0, .v (.int .i64 q.1.2.2.2.1), .v (.int .i64 q.1.2.2.2.2.1)] 101), (111, lrow 111 54 eTR07Elem 2 q.1.2.2.2.2.2.1)]) (μ := fun q => q.1.1) (s := ⟨(n0 + 1, (v1, v2, v3, v4, v5, v6)), HL0⟩) ⟨(n0, (v1, v2, v3, v4, v5, (w64 (v6 + 1)))), H1⟩ [] [_, _, _, _] (Nat.lt_succ_self _) rfl ⟨rfl, rfl, rfl, rfl, rfl, trivial⟩ ⟨rfl, (fun _ => rfl), rfl, (pl_ren rfl), rfl, (blk_ren rfl rfl), rfl, (lrow_ren rfl), trivial⟩ rfl
                          ·
                            replace H1 := bif_f H1 h46
                            rcases Bool.eq_false_or_eq_true (!x22.2) with h56 | h56
                            ·
                              replace H1 := bif_t H1 h56
                              refine G.rd mixed ?_
                              refine K.move (.inl rfl) (gd0 rfl) rfl rfl ?_
                              refine K.fieldAddr Y (gd0 rfl) rfl t41 rfl rfl ?_
                              refine K.load1 Y (gd0 rfl) rfl rfl t3 rfl rfl ?_
                              refine K.bin (V := .bool (decide (x8.k ≥ 0))) (gd0 rfl) rfl rfl (fun _ => rfl) rfl ?_
                              refine K.move (.inl rfl) (gd0 rfl) rfl rfl ?_
                              refine K.skip rfl rfl rfl rfl (h26) rfl ?_
                              refine K.skip rfl rfl rfl rfl (h26) rfl ?_
                              refine K.skip rfl rfl rfl rfl (h26) rfl ?_
                              refine K.skip rfl rfl rfl rfl (h26) rfl ?_
                              refine K.skip rfl rfl rfl rfl (h26) rfl ?_
                              refine K.pickF (gd0 rfl) rfl (h26) rfl rfl ?_
                              refine K.bin (V := .bool (!(x22.2 == false))) (gd0 rfl) rfl rfl (bq_neq Try.underlying4 _ _) rfl ?_
                              refine K.move (.inl rfl) (gd0 rfl) rfl rfl ?_
                              refine K.move (.inl rfl) (gd1 rfl rfl rfl (h44)) rfl rfl ?_
                              refine K.move (.inl rfl) (gd1 rfl rfl rfl (h44)) rfl rfl ?_
                              refine K.skip rfl rfl rfl rfl (h46) rfl ?_
                              refine K.skip rfl rfl rfl rfl (h46) rfl ?_
                              refine K.skip rfl rfl rfl rfl (h46) rfl ?_
                              refine K.skip rfl rfl rfl rfl (h46) rfl ?_
                              refine K.skip rfl rfl rfl rfl (h46) rfl ?_
                              refine K.skip rfl rfl rfl rfl (h46) rfl ?_
                              refine K.skip rfl rfl rfl rfl (h46) rfl ?_
                              refine K.skip rfl rfl rfl rfl (h46) rfl ?_
                              refine K.skip rfl rfl rfl rfl (h46) rfl ?_
                              refine K.skip rfl rfl rfl rfl (h46) rfl ?_
                              refine K.skipU rfl rfl rfl rfl rfl ?_
                              refine K.skipU rfl rfl rfl rfl rfl ?_
                              refine K.skipU rfl rfl rfl rfl rfl ?_
                              refine K.skipU rfl rfl rfl rfl rfl ?_
                              refine K.skipU rfl rfl rfl rfl rfl ?_
                              refine K.skipU rfl rfl rfl rfl rfl ?_
                              refine K.skipU rfl rfl rfl rfl rfl ?_
                              refine K.skipU rfl rfl rfl rfl rfl ?_
                              refine K.skipU rfl rfl rfl rfl rfl ?_
                              refine K.skip rfl rfl rfl rfl (h46) rfl ?_
                              refine K.pickF (gd1 rfl rfl rfl (h44)) rfl (h46) rfl rfl ?_
                              refine K.pickF (gd0 rfl) rfl (h44) rfl rfl ?_
                              refine K.move (.inl rfl) (gd0 rfl) rfl rfl ?_
                              refine K.move (.inl rfl) (gd1 rfl rfl rfl (rfl)) rfl rfl ?_
                              refine K.un (V := .bool (!x22.2)) (gd1 rfl rfl rfl (rfl)) rfl (fun _ => rfl) rfl ?_
                              refine K.move (.inl rfl) (gd1 rfl rfl rfl (rfl)) rfl rfl ?_
                              refine K.loadS Y [_, _] (gd1 rfl rfl rfl (h56)) rfl rfl t35 rfl rfl rfl ?_
                              refine K.build Y [] [_, _] [] (gd1 rfl rfl rfl (h56)) (AllE.spec trivial) rfl rfl t35 rfl rfl ?_
                              refine K.eqS [_, _] [_, _] (gd1 rfl rfl rfl (h56)) rfl rfl cmp35 rfl (.inr rfl) (!((x22.1.k == 0) && ((x22.1.w == 0) && true))) rfl rfl ?_
                              refine K.pickT (gd1 rfl rfl rfl (rfl)) rfl (h56) rfl rfl ?_
                              refine K.pickF (gd0 rfl) rfl (rfl) rfl rfl ?_
                              refine K.nil ?_
                              refine ⟨by kernel_rfl, ?_⟩
                              refine At.next ?_
                              refine G.cond rfl (fun h57 => ?_) (fun h57 => ?_)
                              ·
                                replace H1 := bif_t H1 h57
                                refine G.seq ?_
                                refine G.rg ?_
                                refine K.move (.inr rfl) (gd0 rfl) rfl rfl ?_
                                refine K.nil ?_
                                refine At.next ?_
                                refine G.ret ?_
                                refine At.block_ret ?_
                                refine At.over_ret ?_
                                refine At.block_ret ?_
                                refine At.over_ret ?_
                                refine At.over_ret ?_
                                refine At.block_ret ?_
                                refine At.over_ret ?_
                                cases H1
                                replace H0 := sum_l H0
                                refine At.done Y [(.tmp 4, .c _)] rfl ⟨.tmp rfl, trivial⟩ (to' := [(0, _)]) ⟨rfl, trivial⟩ ?_ ?_ rfl rfl rfl (.inl rfl)
                                · cases H0; rfl
                                · cases H0; rfl
                              ·
                                replace H1 := bif_f H1 h57
                                refine G.skip ?_
                                refine At.block_normal ?_
                                refine At.next ?_
                                refine G.seq ?_
                                obtain ⟨x31, hx31, H1⟩ := bnd H1
                                refine G.rg ?_
                                refine K.move (.inl rfl) (gd0 rfl) rfl rfl ?_
                                refine K.move (.inl rfl) (gd0 rfl) rfl rfl ?_
                                refine K.callV [(.func 36, _), ((.tmp 213), _), ((.tmp 214), _)] [(111, lrow 111 54 eTR07Elem 2 v5)] [(109, _), (110, _)] [(109, _), (110, _)] (fun β => [SV.p 109 0, SV.raw ((lrowV 111 54 eTR07Elem 2 v5).s.den β)]) (fun β w S2 h => Lw07_alike_con (k := k) ((lrowV_isC eTR07Elem_len (by decide)).larg ⟨_, List.mem_cons_self⟩ h) hx31 109 110) (toFn_func (cf 36 rfl) rfl) (gd0 rfl) ⟨rfl, rfl, rfl, trivial⟩ (fun _ => rfl) ⟨rfl, rfl, rfl, trivial⟩ rfl rfl rfl rfl rfl rfl ?_
                                refine K.un (V := .bool (!x31)) (gd0 rfl) rfl (fun _ => rfl) rfl ?_
                                refine K.nil ?_
                                refine At.next ?_
                                refine G.cond rfl (fun h58 => ?_) (fun h58 => ?_)
                                ·
                                  replace H1 := bif_t H1 h58
                                  refine G.seq ?_
                                  refine G.rg ?_
                                  refine K.move (.inr rfl) (gd0 rfl) rfl rfl ?_
                                  refine K.nil ?_
                                  refine At.next ?_
                                  refine G.ret ?_
                                  refine At.block_ret ?_
                                  refine At.over_ret ?_
                                  refine At.over_ret ?_
                                  refine At.block_ret ?_
                                  refine At.over_ret ?_
                                  cases H1
                                  replace H0 := sum_l H0
                                  refine At.done Y [(.tmp 4, .c _)] rfl ⟨.tmp rfl, trivial⟩ (to' := [(0, _)]) ⟨rfl, trivial⟩ ?_ ?_ rfl rfl rfl (.inl rfl)
                                  · cases H0; rfl
                                  · cases H0; rfl
                                ·
                                  replace H1 := bif_f H1 h58
                                  refine G.skip ?_
                                  refine At.block_normal ?_
                                  refine At.next ?_
                                  refine G.rg ?_
                                  refine K.move (.inl rfl) (gd0 rfl) rfl rfl ?_
                                  refine K.bin (V := .int .i64 (w64 (v6 + 1))) (gd0 rfl) rfl rfl (fun _ => rfl) rfl ?_
                                  refine K.move (.inr rfl) (gd0 rfl) rfl rfl ?_
                                  refine K.nil ?_
                                  exact At.again (σ := { q : Nat × (Int × Pool (TNode TL07Elem TTide) × Int × Int × List TR07Elem × Int) // Lw07_GroveActs.l0 k l1 q.1 q.2 = some x7 }) (Fs := fun q => [(1, SV.raw s1), (5, .a (.c (.v (.int .i64 q.1.2.1)))), (6, .a (.c (.p 109 0))), (7, .a (.c (.nv 111))), (8, .a (.c (.v (.int .i64 q.1.2.2.2.2.2.2))))]) (Tl := fun q => [(0, rd S W0), (110, plE 110 q.1.2.2.1), (109, blk 109 [.p 110 0, .v (.int .i64 q.1.2.2.2.1), .v (.int .i64 q.1.2.2.2.2.1)] 101), (111, lrow 111 54 eTR07Elem 2 q.1.2.2.2.2.2.1)]) (μ := fun q => q.1.1) (s := ⟨(n0 + 1, (v1, v2, v3, v4, v5, v6)), HL0⟩) ⟨(n0, (v1, v2, v3, v4, v5, (w64 (v6 + 1)))), H1⟩ [] [_, _, _, _] (Nat.lt_succ_self _) rfl ⟨rfl, rfl, rfl, rfl, rfl, trivial⟩ ⟨rfl, (fun _ => rfl), rfl, (pl_ren rfl), rfl, (blk_ren rfl rfl), rfl, (lrow_ren rfl), trivial⟩ rfl
                            ·
                              replace H1 := bif_f H1 h56
                              refine G.rd mixed ?_
                              refine K.move (.inl rfl) (gd0 rfl) rfl rfl ?_
                              refine K.fieldAddr Y (gd0 rfl) rfl t41 rfl rfl ?_
                              refine K.load1 Y (gd0 rfl) rfl rfl t3 rfl rfl ?_
                              refine K.bin (V := .bool (decide (x8.k ≥ 0))) (gd0 rfl) rfl rfl (fun _ => rfl) rfl ?_
                              refine K.move (.inl rfl) (gd0 rfl) rfl rfl ?_
                              refine K.skip rfl rfl rfl rfl (h26) rfl ?_
                              refine K.skip rfl rfl rfl rfl (h26) rfl ?_
                              refine K.skip rfl rfl rfl rfl (h26) rfl ?_
                              refine K.skip rfl rfl rfl rfl (h26) rfl ?_
                              refine K.skip rfl rfl rfl rfl (h26) rfl ?_
                              refine K.pickF (gd0 rfl) rfl (h26) rfl rfl ?_
                              refine K.bin (V := .bool (!(x22.2 == false))) (gd0 rfl) rfl rfl (bq_neq Try.underlying4 _ _) rfl ?_
                              refine K.move (.inl rfl) (gd0 rfl) rfl rfl ?_
                              refine K.move (.inl rfl) (gd1 rfl rfl rfl (h44)) rfl rfl ?_
                              refine K.move (.inl rfl) (gd1 rfl rfl rfl (h44)) rfl rfl ?_
                              refine K.skip rfl rfl rfl rfl (h46) rfl ?_
                              refine K.skip rfl rfl rfl rfl (h46) rfl ?_
                              refine K.skip rfl rfl rfl rfl (h46) rfl ?_
                              refine K.skip rfl rfl rfl rfl (h46) rfl ?_
                              refine K.skip rfl rfl rfl rfl (h46) rfl ?_
                              refine K.skip rfl rfl rfl rfl (h46) rfl ?_
                              refine K.skip rfl rfl rfl rfl (h46) rfl ?_
                              refine K.skip rfl rfl rfl rfl (h46) rfl ?_
                              refine K.skip rfl rfl rfl rfl (h46) rfl ?_
                              refine K.skip rfl rfl rfl rfl (h46) rfl ?_
                              refine K.skipU rfl rfl rfl rfl rfl ?_
                              refine K.skipU rfl rfl rfl rfl rfl ?_
                              refine K.skipU rfl rfl rfl rfl rfl ?_
                              refine K.skipU rfl rfl rfl rfl rfl ?_
                              refine K.skipU rfl rfl rfl rfl rfl ?_
                              refine K.skipU rfl rfl rfl rfl rfl ?_
                              refine K.skipU rfl rfl rfl rfl rfl ?_
                              refine K.skipU rfl rfl rfl rfl rfl ?_
                              refine K.skipU rfl rfl rfl rfl rfl ?_
                              refine K.skip rfl rfl rfl rfl (h46) rfl ?_
                              refine K.pickF (gd1 rfl rfl rfl (h44)) rfl (h46) rfl rfl ?_
                              refine K.pickF (gd0 rfl) rfl (h44) rfl rfl ?_
                              refine K.move (.inl rfl) (gd0 rfl) rfl rfl ?_
                              refine K.move (.inl rfl) (gd1 rfl rfl rfl (rfl)) rfl rfl ?_
                              refine K.un (V := .bool (!x22.2)) (gd1 rfl rfl rfl (rfl)) rfl (fun _ => rfl) rfl ?_
                              refine K.move (.inl rfl) (gd1 rfl rfl rfl (rfl)) rfl rfl ?_
                              refine K.skip rfl rfl rfl rfl (h56) rfl ?_
                              refine K.skip rfl rfl rfl rfl (h56) rfl ?_
                              refine K.skip rfl rfl rfl rfl (h56) rfl ?_
                              refine K.pickF (gd1 rfl rfl rfl (rfl)) rfl (h56) rfl rfl ?_
                              refine K.pickF (gd0 rfl) rfl (rfl) rfl rfl ?_
                              refine K.nil ?_
                              refine ⟨by kernel_rfl, ?_⟩
                              refine At.next ?_
                              refine G.cond rfl (fun h59 => ?_) (fun h59 => ?_)
                              · cases h59
                              ·
                                refine G.skip ?_
                                refine At.block_normal ?_
                                refine At.next ?_
                                refine G.seq ?_
                                obtain ⟨x32, hx32, H1⟩ := bnd H1
                                refine G.rg ?_
                                refine K.move (.inl rfl) (gd0 rfl) rfl rfl ?_
                                refine K.move (.inl rfl) (gd0 rfl) rfl rfl ?_
                                refine K.callV [(.func 36, _), ((.tmp 213), _), ((.tmp 214), _)] [(111, lrow 111 54 eTR07Elem 2 v5)] [(109, _), (110, _)] [(109, _), (110, _)] (fun β => [SV.p 109 0, SV.raw ((lrowV 111 54 eTR07Elem 2 v5).s.den β)]) (fun β w S2 h => Lw07_alike_con (k := k) ((lrowV_isC eTR07Elem_len (by decide)).larg ⟨_, List.mem_cons_self⟩ h) hx32 109 110) (toFn_func (cf 36 rfl) rfl) (gd0 rfl) ⟨rfl, rfl, rfl, trivial⟩ (fun _ => rfl) ⟨rfl, rfl, rfl, trivial⟩ rfl rfl rfl rfl rfl rfl ?_
                                refine K.un (V := .bool (!x32)) (gd0 rfl) rfl (fun _ => rfl) rfl ?_
                                refine K.nil ?_
                                refine At.next ?_
                                refine G.cond rfl (fun h60 => ?_) (fun h60 => ?_)
                                ·
                                  replace H1 := bif_t H1 h60
                                  refine G.seq ?_
                                  refine G.rg ?_
                                  refine K.move (.inr rfl) (gd0 rfl) rfl rfl ?_
                                  refine K.nil ?_
                                  refine At.next ?_
                                  refine G.ret ?_
                                  refine At.block_ret ?_
                                  refine At.over_ret ?_
                                  refine At.over_ret ?_
                                  refine At.block_ret ?_
                                  refine At.over_ret ?_
                                  cases H1
                                  replace H0 := sum_l H0
                                  refine At.done Y [(.tmp 4, .c _)] rfl ⟨.tmp rfl, trivial⟩ (to' := [(0, _)]) ⟨rfl, trivial⟩ ?_ ?_ rfl rfl rfl (.inl rfl)
                                  · cases H0; rfl
                                  · cases H0; rfl
                                ·
                                  replace H1 := bif_f H1 h60
                                  refine G.skip ?_
                                  refine At.block_normal ?_
                                  refine At.next ?_
                                  refine G.rg ?_
                                  refine K.move (.inl rfl) (gd0 rfl) rfl rfl ?_
                                  refine K.bin (V := .int .i64 (w64 (v6 + 1))) (gd0 rfl) rfl rfl (fun _ => rfl) rfl ?_
                                  refine K.move (.inr rfl) (gd0 rfl) rfl rfl ?_
                                  refine K.nil ?_
                                  exact At.again (σ := { q : Nat × (Int × Pool (TNode TL07Elem TTide) × Int × Int × List TR07Elem × Int) // Lw07_GroveActs.l0 k l1 q.1 q.2 = some x7 }) (Fs := fun q => [(1, SV.raw s1), (5, .a (.c (.v (.int .i64 q.1.2.1)))), (6, .a (.c (.p 109 0))), (7, .a (.c (.nv 111))), (8, .a (.c (.v (.int .i64 q.1.2.2.2.2.2.2))))]) (Tl := fun q => [(0, rd S W0), (110, plE 110 q.1.2.2.1), (109, blk 109 [.p 110 0, .v (.int .i64 q.1.2.2.2.1), .v (.int .i64 q.1.2.2.2.2.1)] 101), (111, lrow 111 54 eTR07Elem 2 q.1.2.2.2.2.2.1)]) (μ := fun q => q.1.1) (s := ⟨(n0 + 1, (v1, v2, v3, v4, v5, v6)), HL0⟩) ⟨(n0, (v1, v2, v3, v4, v5, (w64 (v6 + 1)))), H1⟩ [] [_, _, _, _] (Nat.lt_succ_self _) rfl ⟨rfl, rfl, rfl, rfl, rfl, trivial⟩ ⟨rfl, (fun _ => rfl), rfl, (pl_ren rfl), rfl, (blk_ren rfl rfl), rfl, (lrow_ren rfl), trivial⟩ rfl
                    ·
                      replace H1 := bif_f H1 h25
                      refine G.skip ?_
                      refine At.block_normal ?_
                      refine At.next ?_
                      refine G.seq ?_
                      obtain ⟨x33, hx33, H1⟩ := bnd H1
                      refine G.rg ?_
                      refine K.move (.inl rfl) (gd0 rfl) rfl rfl ?_
                      refine K.move (.inl rfl) (gd0 rfl) rfl rfl ?_
                      refine K.callV [(.func 36, _), ((.tmp 213), _), ((.tmp 214), _)] [(111, lrow 111 54 eTR07Elem 2 v5)] [(109, _), (110, _)] [(109, _), (110, _)] (fun β => [SV.p 109 0, SV.raw ((lrowV 111 54 eTR07Elem 2 v5).s.den β)]) (fun β w S2 h => Lw07_alike_con (k := k) ((lrowV_isC eTR07Elem_len (by decide)).larg ⟨_, List.mem_cons_self⟩ h) hx33 109 110) (toFn_func (cf 36 rfl) rfl) (gd0 rfl) ⟨rfl, rfl, rfl, trivial⟩ (fun _ => rfl) ⟨rfl, rfl, rfl, trivial⟩ rfl rfl rfl rfl rfl rfl ?_
                      refine K.un (V := .bool (!x33)) (gd0 rfl) rfl (fun _ => rfl) rfl ?_
                      refine K.nil ?_
                      refine At.next ?_
                      refine G.cond rfl (fun h61 => ?_) (fun h61 => ?_)
                      ·
                        replace H1 := bif_t H1 h61
                        refine G.seq ?_
                        refine G.rg ?_
                        refine K.move (.inr rfl) (gd0 rfl) rfl rfl ?_
                        refine K.nil ?_
                        refine At.next ?_
                        refine G.ret ?_
                        refine At.block_ret ?_
                        refine At.over_ret ?_
                        refine At.over_ret ?_
                        refine At.block_ret ?_
                        refine At.over_ret ?_
                        cases H1
                        replace H0 := sum_l H0
                        refine At.done Y [(.tmp 4, .c _)] rfl ⟨.tmp rfl, trivial⟩ (to' := [(0, _)]) ⟨rfl, trivial⟩ ?_ ?_ rfl rfl rfl (.inl rfl)
                        · cases H0; rfl
                        · cases H0; rfl
                      ·
                        replace H1 := bif_f H1 h61
                        refine G.skip ?_
                        refine At.block_normal ?_
                        refine At.next ?_
                        refine G.rg ?_
                        refine K.move (.inl rfl) (gd0 rfl) rfl rfl ?_
                        refine K.bin (V := .int .i64 (w64 (v6 + 1))) (gd0 rfl) rfl rfl (fun _ => rfl) rfl ?_
                        refine K.move (.inr rfl) (gd0 rfl) rfl rfl ?_
                        refine K.nil ?_
                        exact At.again (σ := { q : Nat × (Int × Pool (TNode TL07Elem TTide) × Int × Int × List TR07Elem × Int) // Lw07_GroveActs.l0 k l1 q.1 q.2 = some x7 }) (Fs := fun q => [(1, SV.raw s1), (5, .a (.c (.v (.int .i64 q.1.2.1)))), (6, .a (.c (.p 109 0))), (7, .a (.c (.nv 111))), (8, .a (.c (.v (.int .i64 q.1.2.2.2.2.2.2))))]) (Tl := fun q => [(0, rd S W0), (110, plE 110 q.1.2.2.1), (109, blk 109 [.p 110 0, .v (.int .i64 q.1.2.2.2.1), .v (.int .i64 q.1.2.2.2.2.1)] 101), (111, lrow 111 54 eTR07Elem 2 q.1.2.2.2.2.2.1)]) (μ := fun q => q.1.1) (s := ⟨(n0 + 1, (v1, v2, v3, v4, v5, v6)), HL0⟩) ⟨(n0, (v1, v2, v3, v4, v5, (w64 (v6 + 1)))), H1⟩ [] [_, _, _, _] (Nat.lt_succ_self _) rfl ⟨rfl, rfl, rfl, rfl, rfl, trivial⟩ ⟨rfl, (fun _ => rfl), rfl, (pl_ren rfl), rfl, (blk_ren rfl rfl), rfl, (lrow_ren rfl), trivial⟩ rfl
          ·
            replace H1 := bif_f H1 h4
            refine G.exit ?_
            refine At.over_exit ?_
            refine At.over_exit ?_
            refine At.block_hit ?_
            exact At.joined (σ := { v : Unit // x7 = Sum.inr v }) (Fs := fun q => []) (Tl := fun q => [(0, rd S W0)]) ⟨(), (Option.some.inj H1).symm⟩ [] [_] rfl trivial ⟨rfl, (fun _ => rfl), trivial⟩ rfl
    ·
      rintro ⟨v7, rfl⟩
      replace H0 := sum_r H0
      show G _ _ [] [(0, some (rd S W0))] _ _
      refine G.seq ?_
      refine G.rg ?_
      refine K.move (.inr rfl) (gd0 rfl) rfl rfl ?_
      refine K.nil ?_
      refine At.next ?_
      refine G.ret ?_
      refine At.done Y [(.tmp 4, .c _)] rfl ⟨.tmp rfl, trivial⟩ (to' := [(0, _)]) ⟨rfl, trivial⟩ ?_ ?_ rfl rfl rfl (.inl rfl)
      · cases H0; rfl
      · cases H0; rfl
theorem Lw07_GroveActs_con {k : Nat}  {S : Foot} {W0 : World} {s1 : Value} {a0 : Int} {l1 : List TL07Act} {r : Bool} (hL1 : LArg S W0 s1 eTL07Act 3 l1) (H0 : Lw07_GroveActs.f k a0 l1 = some r) : SCon Try.prog 6 [.a (.c (.v (.int .u8 a0))), SV.raw s1] [(0, rd S W0)] (.a (.c (.v (.bool r)))) [(0, rd S W0)] [] :=
  SCon.ren (rn []) (Lw07_GroveActs_con0 (k := k)  hL1 H0) ⟨(fun _ => rfl), trivial⟩ ⟨(fun _ => rfl), trivial⟩ (by simp) (by simp)
end Go.Proofs.Ytjokolmijhhinaa


/- A law's walk. Printed by a program of mine. -/
import Derived.KernelRfl
import Derived.Test.YtjokolmijhhinaaMx
namespace Go.Proofs.Ytjokolmijhhinaa
open Go Go.Proofs.Ytjokolmijhhinaa.Sx
set_option linter.unusedVariables false
set_option linter.unusedSimpArgs false
theorem Lw09_ShelfActs_con0 {k : Nat}  {S : Foot} {W0 : World} {s0 : Value} {l0 : List TL09Act} {a1 : TItem} {r : Bool} (hL0 : LArg S W0 s0 eTL09Act 3 l0) (H0 : Lw09_ShelfActs.f k l0 a1 = some r) : SCon Try.prog 10 [SV.raw s0, .a (.agg ((eTItem a1).map .v))] [(0, rd S W0)] (.a (.c (.v (.bool r)))) [(0, rd S W0)] [] := by
  rw [Lw09_ShelfActs.f] at H0
  obtain ⟨b0, o0, hI0⟩ := hL0
  refine spec_of [(0, _), (1, _)] [(0, _)] 118 Try.func10 rfl Try.ntmps10 rfl rfl rfl rfl (fun β W F => ?_)
  refine G.seq ?_
  refine G.rg ?_
  refine K.box Y 100 [_, _] (gd0 rfl) rfl rfl rfl rfl rfl rfl ?_
  refine K.move (.inr rfl) (gd0 rfl) rfl rfl ?_
  refine K.nil ?_
  refine At.next ?_
  obtain ⟨x1, H1, H0⟩ := bnd H0
  refine G.seqJ (σ := { v : Unit // x1 = Sum.inr v }) (fun q => [(0, SV.raw s0), (3, .a (.c (.p 101 0)))]) (fun q => [(0, rd S W0), (101, blk 101 [.v (.int .i64 a1.key), .v (.int .i64 a1.id)] 68)]) ?_ ?_
  ·
    refine G.seq ?_
    obtain ⟨x2, hx2, H1⟩ := bnd H1
    rcases Bool.eq_false_or_eq_true (!x2) with h1 | h1
    ·
      replace H1 := bif_t H1 h1
      refine G.rg ?_
      refine K.callR [(.func 40, _)] (Lw09_awake_con (k := k) hx2) (toFn_func (cf 40 rfl) rfl) (gd0 rfl) ⟨rfl, trivial⟩ trivial rfl rfl rfl ?_
      refine K.un (V := .bool (!x2)) (gd0 rfl) rfl (fun _ => rfl) rfl ?_
      refine K.move (.inl rfl) (gd0 rfl) rfl rfl ?_
      refine K.skip rfl rfl rfl rfl (h1) rfl ?_
      refine K.skip rfl rfl rfl rfl (h1) rfl ?_
      refine K.skip rfl rfl rfl rfl (h1) rfl ?_
      refine K.pickT (gd0 rfl) rfl (h1) rfl rfl ?_
      refine K.nil ?_
      refine At.next ?_
      refine G.cond rfl (fun h2 => ?_) (fun h2 => ?_)
      ·
        refine G.seq ?_
        obtain ⟨x3, hx3, H1⟩ := bnd H1
        refine G.rg ?_
        refine K.callR [(.func 40, _)] (Lw09_awake_con (k := k) hx3) (toFn_func (cf 40 rfl) rfl) (gd0 rfl) ⟨rfl, trivial⟩ trivial rfl rfl rfl ?_
        refine K.move (.inr rfl) (gd0 rfl) rfl rfl ?_
        refine K.nil ?_
        refine At.next ?_
        refine G.ret ?_
        refine At.over_ret ?_
        cases H1
        replace H0 := sum_l H0
        refine At.done Y [(.tmp 4, .c _)] rfl ⟨.tmp rfl, trivial⟩ (to' := [(0, _)]) ⟨rfl, trivial⟩ ?_ ?_ rfl rfl rfl (.inl rfl)
        · cases H0; rfl
        · cases H0; rfl
      · cases h2
    ·
      replace H1 := bif_f H1 h1
      refine G.rg ?_
      refine K.callR [(.func 40, _)] (Lw09_awake_con (k := k) hx2) (toFn_func (cf 40 rfl) rfl) (gd0 rfl) ⟨rfl, trivial⟩ trivial rfl rfl rfl ?_
      refine K.un (V := .bool (!x2)) (gd0 rfl) rfl (fun _ => rfl) rfl ?_
      refine K.move (.inl rfl) (gd0 rfl) rfl rfl ?_
      refine K.move (.inl rfl) (gd1 rfl rfl rfl (h1)) rfl rfl ?_
      refine K.lenL (rV 0 S W0 s0 b0 o0 eTL09Act 3 l0) (hI0.is 0) (gd1 rfl rfl rfl (h1)) rfl rfl Try.underlying85 rfl ?_
      refine K.bin (V := .bool (decide ((l0.length : Int) > 60))) (gd1 rfl rfl rfl (h1)) rfl rfl (fun _ => rfl) rfl ?_
      refine K.pickF (gd0 rfl) rfl (h1) rfl rfl ?_
      refine K.nil ?_
      refine At.next ?_
      refine G.cond rfl (fun h3 => ?_) (fun h3 => ?_)
      ·
        replace H1 := bif_t H1 h3
        refine G.seq ?_
        obtain ⟨x4, hx4, H1⟩ := bnd H1
        refine G.rg ?_
        refine K.callR [(.func 40, _)] (Lw09_awake_con (k := k) hx4) (toFn_func (cf 40 rfl) rfl) (gd0 rfl) ⟨rfl, trivial⟩ trivial rfl rfl rfl ?_
        refine K.move (.inr rfl) (gd0 rfl) rfl rfl ?_
        refine K.nil ?_
        refine At.next ?_
        refine G.ret ?_
        refine At.over_ret ?_
        cases H1
        replace H0 := sum_l H0
        refine At.done Y [(.tmp 4, .c _)] rfl ⟨.tmp rfl, trivial⟩ (to' := [(0, _)]) ⟨rfl, trivial⟩ ?_ ?_ rfl rfl rfl (.inl rfl)
        · cases H0; rfl
        · cases H0; rfl
      ·
        replace H1 := bif_f H1 h3
        refine G.skip ?_
        exact At.joined (σ := { v : Unit // x1 = Sum.inr v }) (Fs := fun q => [(0, SV.raw s0), (3, .a (.c (.p 101 0)))]) (Tl := fun q => [(0, rd S W0), (101, blk 101 [.v (.int .i64 a1.key), .v (.int .i64 a1.id)] 68)]) ⟨(), (Option.some.inj H1).symm⟩ [(101, 100)] [_, _] rfl ⟨rfl, rfl, trivial⟩ ⟨rfl, (fun _ => rfl), rfl, (blk_ren rfl rfl), trivial⟩ rfl
  ·
    rintro ⟨v1, rfl⟩
    replace H0 := sum_r H0
    show G _ _ [(0, SV.raw s0), (3, .a (.c (.p 101 0)))] [(0, some (rd S W0)), (101, some (blk 101 [.v (.int .i64 a1.key), .v (.int .i64 a1.id)] 68))] _ _
    refine G.seq ?_
    obtain ⟨x5, hx5, H0⟩ := bnd H0
    refine G.rg ?_
    refine K.call0 [(.func 41, _), (_, _)] (shelf_New_con (k := k) hx5 102 103 rfl) (toFn_func (cf 41 rfl) rfl) (gd0 rfl) ⟨rfl, rfl, trivial⟩ trivial rfl rfl rfl rfl rfl rfl ?_
    refine K.move (.inr rfl) (gd0 rfl) rfl rfl ?_
    refine K.nil ?_
    refine At.next ?_
    refine G.seq ?_
    refine G.rg ?_
    refine K.nilRow 104 68 eTItem 2 (.inl rfl) (gd0 rfl) rfl rfl rfl ?_
    refine K.nil ?_
    refine At.next ?_
    obtain ⟨x6, H1, H0⟩ := bnd H0
    refine G.seqJ (σ := { v : Unit // x6 = Sum.inr v }) (fun q => [(3, .a (.c (.p 105 0)))]) (fun q => [(0, rd S W0), (105, blk 105 [.v (.int .i64 a1.key), .v (.int .i64 a1.id)] 68)]) ?_ ?_
    ·
      refine G.seq ?_
      refine G.rg ?_
      refine K.move (.inr rfl) (gd0 rfl) rfl rfl ?_
      refine K.nil ?_
      refine At.next ?_
      refine G.block ?_
      refine G.loop (σ := { q : Nat × (Pool (TNode TSlot TSize) × Int × Int × List TItem × Int) // Lw09_ShelfActs.l0 k l0 a1 q.1 q.2 = some x6 }) (fun q => [(0, SV.raw s0), (3, .a (.c (.p 114 0))), (5, .a (.c (.p 115 0))), (6, .a (.c (.nv 117))), (7, .a (.c (.v (.int .i64 q.1.2.2.2.2.2))))]) (fun q => [(0, rd S W0), (114, blk 114 [.v (.int .i64 a1.key), .v (.int .i64 a1.id)] 68), (116, plS 116 q.1.2.1), (115, blk 115 [.p 116 0, .v (.int .i64 q.1.2.2.1), .v (.int .i64 q.1.2.2.2.1)] 122), (117, lrow 117 68 eTItem 2 q.1.2.2.2.2.1)]) (fun q => q.1.1) ⟨(k, (x5.2, x5.1.index, x5.1.gen, ([] : List TItem), 0)), H1⟩ ?_ ?_
      · exact At.into [(114, 101), (115, 102), (116, 103), (117, 104)] [_, _, _, _, _] rfl ⟨rfl, rfl, rfl, rfl, rfl, trivial⟩ ⟨rfl, (fun _ => rfl), rfl, (blk_ren rfl rfl), rfl, (pl_ren rfl), rfl, (blk_ren rfl rfl), rfl, (lrow_ren rfl), trivial⟩ rfl
      ·
        rintro ⟨⟨n0, v1, v2, v3, v4, v5⟩, H1⟩
        show G _ _ [(0, SV.raw s0), (3, .a (.c (.p 114 0))), (5, .a (.c (.p 115 0))), (6, .a (.c (.nv 117))), (7, .a (.c (.v (.int .i64 v5))))] [(0, some (rd S W0)), (114, some (blk 114 [.v (.int .i64 a1.key), .v (.int .i64 a1.id)] 68)), (116, some (plS 116 v1)), (115, some (blk 115 [.p 116 0, .v (.int .i64 v2), .v (.int .i64 v3)] 122)), (117, some (lrow 117 68 eTItem 2 v4))] _ _
        cases n0 with
        | zero => exact absurd H1 (by simp [Lw09_ShelfActs.l0])
        | succ n0 =>
          have HL0 := H1
          rw [Lw09_ShelfActs.l0] at H1
          refine G.seq ?_
          refine G.seq ?_
          refine G.rg ?_
          refine K.move (.inl rfl) (gd0 rfl) rfl rfl ?_
          refine K.move (.inl rfl) (gd0 rfl) rfl rfl ?_
          refine K.lenL (rV 0 S W0 s0 b0 o0 eTL09Act 3 l0) (hI0.is 0) (gd0 rfl) rfl rfl Try.underlying85 rfl ?_
          refine K.bin (V := .bool (decide (v5 < (l0.length : Int)))) (gd0 rfl) rfl rfl (fun _ => rfl) rfl ?_
          refine K.nil ?_
          refine At.next ?_
          refine G.cond rfl (fun h4 => ?_) (fun h4 => ?_)
          ·
            replace H1 := bif_t H1 h4
            refine G.skip ?_
            refine At.next ?_
            refine G.seq ?_
            refine G.block ?_
            obtain ⟨x7, H2, H1⟩ := bnd H1
            refine G.seqJ (σ := { v : Pool (TNode TSlot TSize) × Int × Int × List TItem // x7 = Sum.inr v }) (fun q => [(0, SV.raw s0), (3, .a (.c (.p 118 0))), (5, .a (.c (.p 119 0))), (6, .a (.c (.nv 121))), (7, .a (.c (.v (.int .i64 v5))))]) (fun q => [(0, rd S W0), (118, blk 118 [.v (.int .i64 a1.key), .v (.int .i64 a1.id)] 68), (120, plS 120 q.1.1), (119, blk 119 [.p 120 0, .v (.int .i64 q.1.2.1), .v (.int .i64 q.1.2.2.1)] 122), (121, lrow 121 68 eTItem 2 q.1.2.2.2)]) ?_ ?_
            ·
              refine G.seq ?_
              obtain ⟨x8, hx8, H2⟩ := bnd H2
              refine G.rg ?_
              refine K.move (.inl rfl) (gd0 rfl) rfl rfl ?_
              refine K.move (.inl rfl) (gd0 rfl) rfl rfl ?_
              refine K.idxL (rV 0 S W0 s0 b0 o0 eTL09Act 3 l0) ((v5).toNat) (hI0.is 0) (atL_get hx8) (atL_nn hx8) (gd0 rfl) rfl rfl rfl Try.underlying85 el85.size_run rfl ?_
              refine K.fieldL Y (rV 0 S W0 s0 b0 o0 eTL09Act 3 l0) ((v5).toNat) 0 0 (hI0.is 0) (atL_get hx8) (gd0 rfl) rfl rfl t88 rfl rfl rfl rfl ?_
              refine K.load1L Y (rV 0 S W0 s0 b0 o0 eTL09Act 3 l0) ((v5).toNat) 0 (hI0.is 0) (atL_get hx8) (gd0 rfl) rfl rfl t4 rfl rfl ?_
              refine K.nil ?_
              refine At.next ?_
              refine G.cond rfl (fun h5 => ?_) (fun h5 => ?_)
              ·
                replace H2 := bif_t H2 h5
                refine G.seq ?_
                obtain ⟨x9, hx9, H2⟩ := bnd H2
                obtain ⟨x10, hx10, H2⟩ := bnd H2
                refine G.rg ?_
                refine K.move (.inl rfl) (gd0 rfl) rfl rfl ?_
                refine K.move (.inl rfl) (gd0 rfl) rfl rfl ?_
                refine K.move (.inl rfl) (gd0 rfl) rfl rfl ?_
                refine K.idxL (rV 0 S W0 s0 b0 o0 eTL09Act 3 l0) ((v5).toNat) (hI0.is 0) (atL_get hx8) (atL_nn hx8) (gd0 rfl) rfl rfl rfl Try.underlying85 el85.size_run rfl ?_
                refine K.fieldL Y (rV 0 S W0 s0 b0 o0 eTL09Act 3 l0) ((v5).toNat) 0 1 (hI0.is 0) (atL_get hx8) (gd0 rfl) rfl rfl t88 rfl rfl rfl rfl ?_
                refine K.loadSL Y (rV 0 S W0 s0 b0 o0 eTL09Act 3 l0) ((v5).toNat) 1 [_, _] [_, _] (hI0.is 0) (atL_get hx8) (gd0 rfl) rfl rfl t68 rfl rfl rfl rfl rfl ?_
                refine K.callR [(.func 44, _), ((.tmp 36), _)] (shelf_Of_con (k := k) hx9) (toFn_func (cf 44 rfl) rfl) (gd0 rfl) ⟨rfl, rfl, trivial⟩ trivial rfl rfl rfl ?_
                refine K.call0 [(.func 49, _), ((.tmp 31), _), ((.tmp 37), _)] (Tree_DropS_con (k := k) hx10 115 116) (toFn_func (cf 49 rfl) rfl) (gd0 rfl) ⟨rfl, rfl, rfl, trivial⟩ ⟨rfl, rfl, trivial⟩ rfl rfl rfl rfl rfl rfl ?_
                refine K.move (.inl rfl) (gd0 rfl) rfl rfl ?_
                refine K.extract (gd0 rfl) rfl rfl rfl ?_
                refine K.extract (gd0 rfl) rfl rfl rfl ?_
                refine K.alloc Y 122 [_, _, _, _] (gd0 rfl) t72 rfl rfl rfl rfl rfl ?_
                refine K.store Y [_, _, _, _] (gd0 rfl) rfl rfl rfl t72 rfl rfl rfl rfl rfl ?_
                refine K.move (.inr rfl) (gd0 rfl) rfl rfl ?_
                refine K.nil ?_
                refine At.next ?_
                refine G.seq ?_
                refine G.seq ?_
                obtain ⟨x11, hx11, H2⟩ := bnd H2
                rcases Bool.eq_false_or_eq_true (!(x10.2.1 == (decide (x11 ≥ 0)))) with h6 | h6
                ·
                  replace H2 := bif_t H2 h6
                  refine G.rd mixed ?_
                  refine K.move (.inl rfl) (gd0 rfl) rfl rfl ?_
                  refine K.move (.inl rfl) (gd0 rfl) rfl rfl ?_
                  refine K.move (.inl rfl) (gd0 rfl) rfl rfl ?_
                  refine K.move (.inl rfl) (gd0 rfl) rfl rfl ?_
                  refine K.idxL (rV 0 S W0 s0 b0 o0 eTL09Act 3 l0) ((v5).toNat) (hI0.is 0) (atL_get hx8) (atL_nn hx8) (gd0 rfl) rfl rfl rfl Try.underlying85 el85.size_run rfl ?_
                  refine K.fieldL Y (rV 0 S W0 s0 b0 o0 eTL09Act 3 l0) ((v5).toNat) 0 1 (hI0.is 0) (atL_get hx8) (gd0 rfl) rfl rfl t88 rfl rfl rfl rfl ?_
                  refine K.loadSL Y (rV 0 S W0 s0 b0 o0 eTL09Act 3 l0) ((v5).toNat) 1 [_, _] [_, _] (hI0.is 0) (atL_get hx8) (gd0 rfl) rfl rfl t68 rfl rfl rfl rfl rfl ?_
                  refine K.callV [(.func 50, _), ((.tmp 42), _), ((.tmp 47), _)] [(117, lrow 117 68 eTItem 2 v4)] [] [] (fun β => [SV.raw ((lrowV 117 68 eTItem 2 v4).s.den β), .a (.agg ((eTItem x8.x).map .v))]) (fun β w S2 h => R09_At_con (k := k) ((lrowV_isC eTItem_len (by decide)).larg ⟨_, List.mem_cons_self⟩ h) hx11) (toFn_func (cf 50 rfl) rfl) (gd0 rfl) ⟨rfl, rfl, rfl, trivial⟩ (fun _ => rfl) ⟨rfl, trivial⟩ rfl rfl rfl rfl rfl rfl ?_
                  refine K.bin (V := .bool (decide (x11 ≥ 0))) (gd0 rfl) rfl rfl (fun _ => rfl) rfl ?_
                  refine K.bin (V := .bool (!(x10.2.1 == (decide (x11 ≥ 0))))) (gd0 rfl) rfl rfl (bq_neq Try.underlying4 _ _) rfl ?_
                  refine K.move (.inl rfl) (gd0 rfl) rfl rfl ?_
                  refine K.skip rfl rfl rfl rfl (h6) rfl ?_
                  refine K.skip rfl rfl rfl rfl (h6) rfl ?_
                  refine K.skipU rfl rfl rfl rfl rfl ?_
                  refine K.skipU rfl rfl rfl rfl rfl ?_
                  refine K.skipU rfl rfl rfl rfl rfl ?_
                  refine K.skipU rfl rfl rfl rfl rfl ?_
                  refine K.skipU rfl rfl rfl rfl rfl ?_
                  refine K.skipU rfl rfl rfl rfl rfl ?_
                  refine K.skipU rfl rfl rfl rfl rfl ?_
                  refine K.skipU rfl rfl rfl rfl rfl ?_
                  refine K.skip rfl rfl rfl rfl (h6) rfl ?_
                  refine K.pickT (gd0 rfl) rfl (h6) rfl rfl ?_
                  refine K.nil ?_
                  refine ⟨by kernel_rfl, ?_⟩
                  refine At.next ?_
                  refine G.cond rfl (fun h7 => ?_) (fun h7 => ?_)
                  ·
                    refine G.seq ?_
                    refine G.rg ?_
                    refine K.move (.inr rfl) (gd0 rfl) rfl rfl ?_
                    refine K.nil ?_
                    refine At.next ?_
                    refine G.ret ?_
                    refine At.over_ret ?_
                    refine At.over_ret ?_
                    cases H2
                    replace H1 := sum_l H1
                    refine At.block_ret ?_
                    refine At.over_ret ?_
                    refine At.over_ret ?_
                    refine At.block_ret ?_
                    refine At.over_ret ?_
                    cases H1
                    replace H0 := sum_l H0
                    refine At.done Y [(.tmp 4, .c _)] rfl ⟨.tmp rfl, trivial⟩ (to' := [(0, _)]) ⟨rfl, trivial⟩ ?_ ?_ rfl rfl rfl (.inl rfl)
                    · cases H0; rfl
                    · cases H0; rfl
                  · cases h7
                ·
                  replace H2 := bif_f H2 h6
                  rcases Bool.eq_false_or_eq_true x10.2.1 with h8 | h8
                  ·
                    replace H2 := bif_t H2 h8
                    obtain ⟨x12, hx12, H2⟩ := bnd H2
                    refine G.rd mixed ?_
                    refine K.move (.inl rfl) (gd0 rfl) rfl rfl ?_
                    refine K.move (.inl rfl) (gd0 rfl) rfl rfl ?_
                    refine K.move (.inl rfl) (gd0 rfl) rfl rfl ?_
                    refine K.move (.inl rfl) (gd0 rfl) rfl rfl ?_
                    refine K.idxL (rV 0 S W0 s0 b0 o0 eTL09Act 3 l0) ((v5).toNat) (hI0.is 0) (atL_get hx8) (atL_nn hx8) (gd0 rfl) rfl rfl rfl Try.underlying85 el85.size_run rfl ?_
                    refine K.fieldL Y (rV 0 S W0 s0 b0 o0 eTL09Act 3 l0) ((v5).toNat) 0 1 (hI0.is 0) (atL_get hx8) (gd0 rfl) rfl rfl t88 rfl rfl rfl rfl ?_
                    refine K.loadSL Y (rV 0 S W0 s0 b0 o0 eTL09Act 3 l0) ((v5).toNat) 1 [_, _] [_, _] (hI0.is 0) (atL_get hx8) (gd0 rfl) rfl rfl t68 rfl rfl rfl rfl rfl ?_
                    refine K.callV [(.func 50, _), ((.tmp 42), _), ((.tmp 47), _)] [(117, lrow 117 68 eTItem 2 v4)] [] [] (fun β => [SV.raw ((lrowV 117 68 eTItem 2 v4).s.den β), .a (.agg ((eTItem x8.x).map .v))]) (fun β w S2 h => R09_At_con (k := k) ((lrowV_isC eTItem_len (by decide)).larg ⟨_, List.mem_cons_self⟩ h) hx11) (toFn_func (cf 50 rfl) rfl) (gd0 rfl) ⟨rfl, rfl, rfl, trivial⟩ (fun _ => rfl) ⟨rfl, trivial⟩ rfl rfl rfl rfl rfl rfl ?_
                    refine K.bin (V := .bool (decide (x11 ≥ 0))) (gd0 rfl) rfl rfl (fun _ => rfl) rfl ?_
                    refine K.bin (V := .bool (!(x10.2.1 == (decide (x11 ≥ 0))))) (gd0 rfl) rfl rfl (bq_neq Try.underlying4 _ _) rfl ?_
                    refine K.move (.inl rfl) (gd0 rfl) rfl rfl ?_
                    refine K.move (.inl rfl) (gd1 rfl rfl rfl (h6)) rfl rfl ?_
                    refine K.move (.inl rfl) (gd1 rfl rfl rfl (h6)) rfl rfl ?_
                    refine K.loadS Y [_, _, _, _] (gd1 rfl rfl rfl (h8)) rfl rfl t72 rfl rfl rfl ?_
                    refine K.move (.inl rfl) (gd1 rfl rfl rfl (h8)) rfl rfl ?_
                    refine K.move (.inl rfl) (gd1 rfl rfl rfl (h8)) rfl rfl ?_
                    refine K.idxL (rV 0 S W0 s0 b0 o0 eTL09Act 3 l0) ((v5).toNat) (hI0.is 0) (atL_get hx8) (atL_nn hx8) (gd1 rfl rfl rfl (h8)) rfl rfl rfl Try.underlying85 el85.size_run rfl ?_
                    refine K.fieldL Y (rV 0 S W0 s0 b0 o0 eTL09Act 3 l0) ((v5).toNat) 0 1 (hI0.is 0) (atL_get hx8) (gd1 rfl rfl rfl (h8)) rfl rfl t88 rfl rfl rfl rfl ?_
                    refine K.loadSL Y (rV 0 S W0 s0 b0 o0 eTL09Act 3 l0) ((v5).toNat) 1 [_, _] [_, _] (hI0.is 0) (atL_get hx8) (gd1 rfl rfl rfl (h8)) rfl rfl t68 rfl rfl rfl rfl rfl ?_
                    refine K.callR [(.func 44, _), ((.tmp 59), _)] (shelf_Of_con (k := k) hx12) (toFn_func (cf 44 rfl) rfl) (gd1 rfl rfl rfl (h8)) ⟨rfl, rfl, trivial⟩ trivial rfl rfl rfl ?_
                    refine K.eqS [_, _, _, _] [_, _, _, _] (gd1 rfl rfl rfl (h8)) rfl rfl cmp72 rfl (.inr rfl) (!((x10.1.item.key == x12.item.key) && ((x10.1.item.id == x12.item.id) && ((x10.1.eaten == x12.eaten) && ((x10.1.time == x12.time) && true))))) rfl rfl ?_
                    refine K.pickT (gd1 rfl rfl rfl (h6)) rfl (h8) rfl rfl ?_
                    refine K.pickF (gd0 rfl) rfl (h6) rfl rfl ?_
                    refine K.nil ?_
                    refine ⟨by kernel_rfl, ?_⟩
                    refine At.next ?_
                    refine G.cond rfl (fun h9 => ?_) (fun h9 => ?_)
                    ·
                      replace H2 := bif_t H2 h9
                      refine G.seq ?_
                      refine G.rg ?_
                      refine K.move (.inr rfl) (gd0 rfl) rfl rfl ?_
                      refine K.nil ?_
                      refine At.next ?_
                      refine G.ret ?_
                      refine At.over_ret ?_
                      refine At.over_ret ?_
                      cases H2
                      replace H1 := sum_l H1
                      refine At.block_ret ?_
                      refine At.over_ret ?_
                      refine At.over_ret ?_
                      refine At.block_ret ?_
                      refine At.over_ret ?_
                      cases H1
                      replace H0 := sum_l H0
                      refine At.done Y [(.tmp 4, .c _)] rfl ⟨.tmp rfl, trivial⟩ (to' := [(0, _)]) ⟨rfl, trivial⟩ ?_ ?_ rfl rfl rfl (.inl rfl)
                      · cases H0; rfl
                      · cases H0; rfl
                    ·
                      replace H2 := bif_f H2 h9
                      refine G.skip ?_
                      refine At.next ?_
                      obtain ⟨x13, hx13, H2⟩ := bnd H2
                      refine G.rg ?_
                      refine K.move (.inl rfl) (gd0 rfl) rfl rfl ?_
                      refine K.move (.inl rfl) (gd0 rfl) rfl rfl ?_
                      refine K.move (.inl rfl) (gd0 rfl) rfl rfl ?_
                      refine K.idxL (rV 0 S W0 s0 b0 o0 eTL09Act 3 l0) ((v5).toNat) (hI0.is 0) (atL_get hx8) (atL_nn hx8) (gd0 rfl) rfl rfl rfl Try.underlying85 el85.size_run rfl ?_
                      refine K.fieldL Y (rV 0 S W0 s0 b0 o0 eTL09Act 3 l0) ((v5).toNat) 0 1 (hI0.is 0) (atL_get hx8) (gd0 rfl) rfl rfl t88 rfl rfl rfl rfl ?_
                      refine K.loadSL Y (rV 0 S W0 s0 b0 o0 eTL09Act 3 l0) ((v5).toNat) 1 [_, _] [_, _] (hI0.is 0) (atL_get hx8) (gd0 rfl) rfl rfl t68 rfl rfl rfl rfl rfl ?_
                      refine K.callC [(.func 51, _), ((.tmp 64), _), ((.tmp 69), _)] [] [(117, _)] [(123, _)] (fun β => [.a (.c (.nv 117)), .a (.agg ((eTItem x8.x).map .v))]) (fun β w S2 h => SCon.rd0 (R09_Drop_o0_con (k := k) hx13 117 123 rfl) S2 w h) (toFn_func (cf 51 rfl) rfl) (gd0 rfl) ⟨rfl, rfl, rfl, trivial⟩ (fun _ => rfl) ⟨rfl, trivial⟩ rfl rfl rfl rfl rfl rfl ?_
                      refine K.move (.inr rfl) (gd0 rfl) rfl rfl ?_
                      refine K.nil ?_
                      exact At.joined (σ := { v : Pool (TNode TSlot TSize) × Int × Int × List TItem // x7 = Sum.inr v }) (Fs := fun q => [(0, SV.raw s0), (3, .a (.c (.p 118 0))), (5, .a (.c (.p 119 0))), (6, .a (.c (.nv 121))), (7, .a (.c (.v (.int .i64 v5))))]) (Tl := fun q => [(0, rd S W0), (118, blk 118 [.v (.int .i64 a1.key), .v (.int .i64 a1.id)] 68), (120, plS 120 q.1.1), (119, blk 119 [.p 120 0, .v (.int .i64 q.1.2.1), .v (.int .i64 q.1.2.2.1)] 122), (121, lrow 121 68 eTItem 2 q.1.2.2.2)]) ⟨(x10.2.2.2, x10.2.2.1.index, x10.2.2.1.gen, x13), (Option.some.inj H2).symm⟩ [(118, 114), (119, 115), (120, 116), (121, 123)] [_, _, _, _, _] rfl ⟨rfl, rfl, rfl, rfl, rfl, trivial⟩ ⟨rfl, (fun _ => rfl), rfl, (blk_ren rfl rfl), rfl, (pl_ren rfl), rfl, (blk_ren rfl rfl), rfl, (lrow_ren rfl), trivial⟩ rfl
                  ·
                    replace H2 := bif_f H2 h8
                    refine G.rd mixed ?_
                    refine K.move (.inl rfl) (gd0 rfl) rfl rfl ?_
                    refine K.move (.inl rfl) (gd0 rfl) rfl rfl ?_
                    refine K.move (.inl rfl) (gd0 rfl) rfl rfl ?_
                    refine K.move (.inl rfl) (gd0 rfl) rfl rfl ?_
                    refine K.idxL (rV 0 S W0 s0 b0 o0 eTL09Act 3 l0) ((v5).toNat) (hI0.is 0) (atL_get hx8) (atL_nn hx8) (gd0 rfl) rfl rfl rfl Try.underlying85 el85.size_run rfl ?_
                    refine K.fieldL Y (rV 0 S W0 s0 b0 o0 eTL09Act 3 l0) ((v5).toNat) 0 1 (hI0.is 0) (atL_get hx8) (gd0 rfl) rfl rfl t88 rfl rfl rfl rfl ?_
                    refine K.loadSL Y (rV 0 S W0 s0 b0 o0 eTL09Act 3 l0) ((v5).toNat) 1 [_, _] [_, _] (hI0.is 0) (atL_get hx8) (gd0 rfl) rfl rfl t68 rfl rfl rfl rfl rfl ?_
                    refine K.callV [(.func 50, _), ((.tmp 42), _), ((.tmp 47), _)] [(117, lrow 117 68 eTItem 2 v4)] [] [] (fun β => [SV.raw ((lrowV 117 68 eTItem 2 v4).s.den β), .a (.agg ((eTItem x8.x).map .v))]) (fun β w S2 h => R09_At_con (k := k) ((lrowV_isC eTItem_len (by decide)).larg ⟨_, List.mem_cons_self⟩ h) hx11) (toFn_func (cf 50 rfl) rfl) (gd0 rfl) ⟨rfl, rfl, rfl, trivial⟩ (fun _ => rfl) ⟨rfl, trivial⟩ rfl rfl rfl rfl rfl rfl ?_
                    refine K.bin (V := .bool (decide (x11 ≥ 0))) (gd0 rfl) rfl rfl (fun _ => rfl) rfl ?_
                    refine K.bin (V := .bool (!(x10.2.1 == (decide (x11 ≥ 0))))) (gd0 rfl) rfl rfl (bq_neq Try.underlying4 _ _) rfl ?_
                    refine K.move (.inl rfl) (gd0 rfl) rfl rfl ?_
                    refine K.move (.inl rfl) (gd1 rfl rfl rfl (h6)) rfl rfl ?_
                    refine K.move (.inl rfl) (gd1 rfl rfl rfl (h6)) rfl rfl ?_
                    refine K.skip rfl rfl rfl rfl (h8) rfl ?_
                    refine K.skip rfl rfl rfl rfl (h8) rfl ?_
                    refine K.skip rfl rfl rfl rfl (h8) rfl ?_
                    refine K.skip rfl rfl rfl rfl (h8) rfl ?_
                    refine K.skip rfl rfl rfl rfl (h8) rfl ?_
                    refine K.skip rfl rfl rfl rfl (h8) rfl ?_
                    refine K.skip rfl rfl rfl rfl (h8) rfl ?_
                    refine K.skip rfl rfl rfl rfl (h8) rfl ?_
                    refine K.pickF (gd1 rfl rfl rfl (h6)) rfl (h8) rfl rfl ?_
                    refine K.pickF (gd0 rfl) rfl (h6) rfl rfl ?_
                    refine K.nil ?_
                    refine ⟨by kernel_rfl, ?_⟩
                    refine At.next ?_
                    refine G.cond rfl (fun h10 => ?_) (fun h10 => ?_)
                    · cases h10
                    ·
                      refine G.skip ?_
                      refine At.next ?_
                      obtain ⟨x14, hx14, H2⟩ := bnd H2
                      refine G.rg ?_
                      refine K.move (.inl rfl) (gd0 rfl) rfl rfl ?_
                      refine K.move (.inl rfl) (gd0 rfl) rfl rfl ?_
                      refine K.move (.inl rfl) (gd0 rfl) rfl rfl ?_
                      refine K.idxL (rV 0 S W0 s0 b0 o0 eTL09Act 3 l0) ((v5).toNat) (hI0.is 0) (atL_get hx8) (atL_nn hx8) (gd0 rfl) rfl rfl rfl Try.underlying85 el85.size_run rfl ?_
                      refine K.fieldL Y (rV 0 S W0 s0 b0 o0 eTL09Act 3 l0) ((v5).toNat) 0 1 (hI0.is 0) (atL_get hx8) (gd0 rfl) rfl rfl t88 rfl rfl rfl rfl ?_
                      refine K.loadSL Y (rV 0 S W0 s0 b0 o0 eTL09Act 3 l0) ((v5).toNat) 1 [_, _] [_, _] (hI0.is 0) (atL_get hx8) (gd0 rfl) rfl rfl t68 rfl rfl rfl rfl rfl ?_
                      refine K.callC [(.func 51, _), ((.tmp 64), _), ((.tmp 69), _)] [] [(117, _)] [(124, _)] (fun β => [.a (.c (.nv 117)), .a (.agg ((eTItem x8.x).map .v))]) (fun β w S2 h => SCon.rd0 (R09_Drop_o0_con (k := k) hx14 117 124 rfl) S2 w h) (toFn_func (cf 51 rfl) rfl) (gd0 rfl) ⟨rfl, rfl, rfl, trivial⟩ (fun _ => rfl) ⟨rfl, trivial⟩ rfl rfl rfl rfl rfl rfl ?_
                      refine K.move (.inr rfl) (gd0 rfl) rfl rfl ?_
                      refine K.nil ?_
                      exact At.joined (σ := { v : Pool (TNode TSlot TSize) × Int × Int × List TItem // x7 = Sum.inr v }) (Fs := fun q => [(0, SV.raw s0), (3, .a (.c (.p 118 0))), (5, .a (.c (.p 119 0))), (6, .a (.c (.nv 121))), (7, .a (.c (.v (.int .i64 v5))))]) (Tl := fun q => [(0, rd S W0), (118, blk 118 [.v (.int .i64 a1.key), .v (.int .i64 a1.id)] 68), (120, plS 120 q.1.1), (119, blk 119 [.p 120 0, .v (.int .i64 q.1.2.1), .v (.int .i64 q.1.2.2.1)] 122), (121, lrow 121 68 eTItem 2 q.1.2.2.2)]) ⟨(x10.2.2.2, x10.2.2.1.index, x10.2.2.1.gen, x14), (Option.some.inj H2).symm⟩ [(118, 114), (119, 115), (120, 116), (121, 124)] [_, _, _, _, _] rfl ⟨rfl, rfl, rfl, rfl, rfl, trivial⟩ ⟨rfl, (fun _ => rfl), rfl, (blk_ren rfl rfl), rfl, (pl_ren rfl), rfl, (blk_ren rfl rfl), rfl, (lrow_ren rfl), trivial⟩ rfl
              ·
                replace H2 := bif_f H2 h5
                refine G.seq ?_
                refine G.seq ?_
                obtain ⟨x15, hx15, H2⟩ := bnd H2
                obtain ⟨x16, hx16, H2⟩ := bnd H2
                refine G.rg ?_
                refine K.move (.inl rfl) (gd0 rfl) rfl rfl ?_
                refine K.move (.inl rfl) (gd0 rfl) rfl rfl ?_
                refine K.move (.inl rfl) (gd0 rfl) rfl rfl ?_
                refine K.idxL (rV 0 S W0 s0 b0 o0 eTL09Act 3 l0) ((v5).toNat) (hI0.is 0) (atL_get hx8) (atL_nn hx8) (gd0 rfl) rfl rfl rfl Try.underlying85 el85.size_run rfl ?_
                refine K.fieldL Y (rV 0 S W0 s0 b0 o0 eTL09Act 3 l0) ((v5).toNat) 0 1 (hI0.is 0) (atL_get hx8) (gd0 rfl) rfl rfl t88 rfl rfl rfl rfl ?_
                refine K.loadSL Y (rV 0 S W0 s0 b0 o0 eTL09Act 3 l0) ((v5).toNat) 1 [_, _] [_, _] (hI0.is 0) (atL_get hx8) (gd0 rfl) rfl rfl t68 rfl rfl rfl rfl rfl ?_
                refine K.callR [(.func 44, _), ((.tmp 76), _)] (shelf_Of_con (k := k) hx15) (toFn_func (cf 44 rfl) rfl) (gd0 rfl) ⟨rfl, rfl, trivial⟩ trivial rfl rfl rfl ?_
                refine K.call0 [(.func 42, _), ((.tmp 71), _), ((.tmp 77), _)] (Tree_PutS_con (k := k) hx16 115 116) (toFn_func (cf 42 rfl) rfl) (gd0 rfl) ⟨rfl, rfl, rfl, trivial⟩ ⟨rfl, rfl, trivial⟩ rfl rfl rfl rfl rfl rfl ?_
                refine K.un (V := .bool (!x16.1)) (gd0 rfl) rfl (fun _ => rfl) rfl ?_
                refine K.nil ?_
                refine At.next ?_
                refine G.cond rfl (fun h11 => ?_) (fun h11 => ?_)
                ·
                  replace H2 := bif_t H2 h11
                  refine G.seq ?_
                  refine G.rg ?_
                  refine K.move (.inr rfl) (gd0 rfl) rfl rfl ?_
                  refine K.nil ?_
                  refine At.next ?_
                  refine G.ret ?_
                  refine At.over_ret ?_
                  refine At.over_ret ?_
                  cases H2
                  replace H1 := sum_l H1
                  refine At.block_ret ?_
                  refine At.over_ret ?_
                  refine At.over_ret ?_
                  refine At.block_ret ?_
                  refine At.over_ret ?_
                  cases H1
                  replace H0 := sum_l H0
                  refine At.done Y [(.tmp 4, .c _)] rfl ⟨.tmp rfl, trivial⟩ (to' := [(0, _)]) ⟨rfl, trivial⟩ ?_ ?_ rfl rfl rfl (.inl rfl)
                  · cases H0; rfl
                  · cases H0; rfl
                ·
                  replace H2 := bif_f H2 h11
                  refine G.skip ?_
                  refine At.next ?_
                  obtain ⟨x17, hx17, H2⟩ := bnd H2
                  refine G.rg ?_
                  refine K.move (.inl rfl) (gd0 rfl) rfl rfl ?_
                  refine K.move (.inl rfl) (gd0 rfl) rfl rfl ?_
                  refine K.move (.inl rfl) (gd0 rfl) rfl rfl ?_
                  refine K.idxL (rV 0 S W0 s0 b0 o0 eTL09Act 3 l0) ((v5).toNat) (hI0.is 0) (atL_get hx8) (atL_nn hx8) (gd0 rfl) rfl rfl rfl Try.underlying85 el85.size_run rfl ?_
                  refine K.fieldL Y (rV 0 S W0 s0 b0 o0 eTL09Act 3 l0) ((v5).toNat) 0 1 (hI0.is 0) (atL_get hx8) (gd0 rfl) rfl rfl t88 rfl rfl rfl rfl ?_
                  refine K.loadSL Y (rV 0 S W0 s0 b0 o0 eTL09Act 3 l0) ((v5).toNat) 1 [_, _] [_, _] (hI0.is 0) (atL_get hx8) (gd0 rfl) rfl rfl t68 rfl rfl rfl rfl rfl ?_
                  refine K.callC [(.func 52, _), ((.tmp 80), _), ((.tmp 85), _)] [] [(117, _)] [(125, _)] (fun β => [.a (.c (.nv 117)), .a (.agg ((eTItem x8.x).map .v))]) (fun β w S2 h => SCon.rd0 (R09_Put_o0_con (k := k) hx17 117 125 rfl) S2 w h) (toFn_func (cf 52 rfl) rfl) (gd0 rfl) ⟨rfl, rfl, rfl, trivial⟩ (fun _ => rfl) ⟨rfl, trivial⟩ rfl rfl rfl rfl rfl rfl ?_
                  refine K.move (.inr rfl) (gd0 rfl) rfl rfl ?_
                  refine K.nil ?_
                  exact At.joined (σ := { v : Pool (TNode TSlot TSize) × Int × Int × List TItem // x7 = Sum.inr v }) (Fs := fun q => [(0, SV.raw s0), (3, .a (.c (.p 118 0))), (5, .a (.c (.p 119 0))), (6, .a (.c (.nv 121))), (7, .a (.c (.v (.int .i64 v5))))]) (Tl := fun q => [(0, rd S W0), (118, blk 118 [.v (.int .i64 a1.key), .v (.int .i64 a1.id)] 68), (120, plS 120 q.1.1), (119, blk 119 [.p 120 0, .v (.int .i64 q.1.2.1), .v (.int .i64 q.1.2.2.1)] 122), (121, lrow 121 68 eTItem 2 q.1.2.2.2)]) ⟨(x16.2.2, x16.2.1.index, x16.2.1.gen, x17), (Option.some.inj H2).symm⟩ [(118, 114), (119, 115), (120, 116), (121, 125)] [_, _, _, _, _] rfl ⟨rfl, rfl, rfl, rfl, rfl, trivial⟩ ⟨rfl, (fun _ => rfl), rfl, (blk_ren rfl rfl), rfl, (pl_ren rfl), rfl, (blk_ren rfl rfl), rfl, (lrow_ren rfl), trivial⟩ rfl
            ·
              rintro ⟨v7, rfl⟩
              replace H1 := sum_r H1
              show G _ _ [(0, SV.raw s0), (3, .a (.c (.p 118 0))), (5, .a (.c (.p 119 0))), (6, .a (.c (.nv 121))), (7, .a (.c (.v (.int .i64 v5))))] [(0, some (rd S W0)), (118, some (blk 118 [.v (.int .i64 a1.key), .v (.int .i64 a1.id)] 68)), (120, some (plS 120 v7.1)), (119, some (blk 119 [.p 120 0, .v (.int .i64 v7.2.1), .v (.int .i64 v7.2.2.1)] 122)), (121, some (lrow 121 68 eTItem 2 v7.2.2.2))] _ _
              refine G.seq ?_
              obtain ⟨x18, hx18, H1⟩ := bnd H1
              obtain ⟨x19, hx19, H1⟩ := bnd H1
              rcases Bool.eq_false_or_eq_true (!x19) with h12 | h12
              ·
                replace H1 := bif_t H1 h12
                refine G.rd mixed ?_
                refine K.move (.inl rfl) (gd0 rfl) rfl rfl ?_
                refine K.call0 [(.func 54, _), ((.tmp 87), _)] (shelf_Items_con (k := k) hx18 119 120 126 rfl) (toFn_func (cf 54 rfl) rfl) (gd0 rfl) ⟨rfl, rfl, trivial⟩ ⟨rfl, rfl, trivial⟩ rfl rfl rfl rfl rfl rfl ?_
                refine K.move (.inl rfl) (gd0 rfl) rfl rfl ?_
                refine K.callV [(.func 53, _), ((.tmp 88), _), ((.tmp 89), _)] [(126, lrow 126 68 eTItem 2 x18), (121, lrow 121 68 eTItem 2 v7.2.2.2)] [] [] (fun β => [SV.raw ((lrowV 126 68 eTItem 2 x18).s.den β), SV.raw ((lrowV 121 68 eTItem 2 v7.2.2.2).s.den β)]) (fun β w S2 h => R02_Same_con (k := k) ((lrowV_isC eTItem_len (by decide)).larg ⟨_, List.mem_cons_self⟩ h) ((lrowV_isC eTItem_len (by decide)).larg ⟨_, (List.mem_cons_of_mem _ List.mem_cons_self)⟩ h) hx19) (toFn_func (cf 53 rfl) rfl) (gd0 rfl) ⟨rfl, rfl, rfl, trivial⟩ (fun _ => rfl) ⟨rfl, rfl, trivial⟩ rfl rfl rfl rfl rfl rfl ?_
                refine K.un (V := .bool (!x19)) (gd0 rfl) rfl (fun _ => rfl) rfl ?_
                refine K.move (.inl rfl) (gd0 rfl) rfl rfl ?_
                refine K.skip rfl rfl rfl rfl (h12) rfl ?_
                refine K.skip rfl rfl rfl rfl (h12) rfl ?_
                refine K.skip rfl rfl rfl rfl (h12) rfl ?_
                refine K.skip rfl rfl rfl rfl (h12) rfl ?_
                refine K.skip rfl rfl rfl rfl (h12) rfl ?_
                refine K.skip rfl rfl rfl rfl (h12) rfl ?_
                refine K.skip rfl rfl rfl rfl (h12) rfl ?_
                refine K.pickT (gd0 rfl) rfl (h12) rfl rfl ?_
                refine K.move (.inl rfl) (gd0 rfl) rfl rfl ?_
                refine K.skip rfl rfl rfl rfl (rfl) rfl ?_
                refine K.skip rfl rfl rfl rfl (rfl) rfl ?_
                refine K.skip rfl rfl rfl rfl (rfl) rfl ?_
                refine K.skip rfl rfl rfl rfl (rfl) rfl ?_
                refine K.skip rfl rfl rfl rfl (rfl) rfl ?_
                refine K.skip rfl rfl rfl rfl (rfl) rfl ?_
                refine K.skip rfl rfl rfl rfl (rfl) rfl ?_
                refine K.pickT (gd0 rfl) rfl (rfl) rfl rfl ?_
                refine K.nil ?_
                refine ⟨by kernel_rfl, ?_⟩
                refine At.next ?_
                refine G.cond rfl (fun h13 => ?_) (fun h13 => ?_)
                ·
                  refine G.seq ?_
                  refine G.rg ?_
                  refine K.move (.inr rfl) (gd0 rfl) rfl rfl ?_
                  refine K.nil ?_
                  refine At.next ?_
                  refine G.ret ?_
                  refine At.block_ret ?_
                  refine At.over_ret ?_
                  refine At.over_ret ?_
                  refine At.block_ret ?_
                  refine At.over_ret ?_
                  cases H1
                  replace H0 := sum_l H0
                  refine At.done Y [(.tmp 4, .c _)] rfl ⟨.tmp rfl, trivial⟩ (to' := [(0, _)]) ⟨rfl, trivial⟩ ?_ ?_ rfl rfl rfl (.inl rfl)
                  · cases H0; rfl
                  · cases H0; rfl
                · cases h13
              ·
                replace H1 := bif_f H1 h12
                obtain ⟨x20, hx20, H1⟩ := bnd H1
                obtain ⟨x21, hx21, H1⟩ := bnd H1
                rcases Bool.eq_false_or_eq_true (x21 != (v7.2.2.2.length : Int)) with h14 | h14
                ·
                  replace H1 := bif_t H1 h14
                  refine G.rd mixed ?_
                  refine K.move (.inl rfl) (gd0 rfl) rfl rfl ?_
                  refine K.call0 [(.func 54, _), ((.tmp 87), _)] (shelf_Items_con (k := k) hx18 119 120 126 rfl) (toFn_func (cf 54 rfl) rfl) (gd0 rfl) ⟨rfl, rfl, trivial⟩ ⟨rfl, rfl, trivial⟩ rfl rfl rfl rfl rfl rfl ?_
                  refine K.move (.inl rfl) (gd0 rfl) rfl rfl ?_
                  refine K.callV [(.func 53, _), ((.tmp 88), _), ((.tmp 89), _)] [(126, lrow 126 68 eTItem 2 x18), (121, lrow 121 68 eTItem 2 v7.2.2.2)] [] [] (fun β => [SV.raw ((lrowV 126 68 eTItem 2 x18).s.den β), SV.raw ((lrowV 121 68 eTItem 2 v7.2.2.2).s.den β)]) (fun β w S2 h => R02_Same_con (k := k) ((lrowV_isC eTItem_len (by decide)).larg ⟨_, List.mem_cons_self⟩ h) ((lrowV_isC eTItem_len (by decide)).larg ⟨_, (List.mem_cons_of_mem _ List.mem_cons_self)⟩ h) hx19) (toFn_func (cf 53 rfl) rfl) (gd0 rfl) ⟨rfl, rfl, rfl, trivial⟩ (fun _ => rfl) ⟨rfl, rfl, trivial⟩ rfl rfl rfl rfl rfl rfl ?_
                  refine K.un (V := .bool (!x19)) (gd0 rfl) rfl (fun _ => rfl) rfl ?_
                  refine K.move (.inl rfl) (gd0 rfl) rfl rfl ?_
                  refine K.move (.inl rfl) (gd1 rfl rfl rfl (h12)) rfl rfl ?_
                  refine K.move (.inl rfl) (gd1 rfl rfl rfl (h12)) rfl rfl ?_
                  refine K.callR [(.func 56, _), ((.tmp 94), _)] (Tree_LenS_con (k := k) hx20 119 120) (toFn_func (cf 56 rfl) rfl) (gd1 rfl rfl rfl (h12)) ⟨rfl, rfl, trivial⟩ ⟨rfl, rfl, trivial⟩ rfl rfl rfl ?_
                  refine K.callR [(.func 55, _), ((.tmp 93), _), (_, _), ((.tmp 95), _)] (Tree_BetweenS_con (k := k) hx21 119 120) (toFn_func (cf 55 rfl) rfl) (gd1 rfl rfl rfl (h12)) ⟨rfl, rfl, rfl, rfl, trivial⟩ ⟨rfl, rfl, trivial⟩ rfl rfl rfl ?_
                  refine K.move (.inl rfl) (gd1 rfl rfl rfl (h12)) rfl rfl ?_
                  refine K.lenL (lrowV 121 68 eTItem 2 v7.2.2.2) (lrowV_is eTItem_len (by decide)) (gd1 rfl rfl rfl (h12)) rfl rfl Try.underlying86 rfl ?_
                  refine K.bin (V := .bool (x21 != (v7.2.2.2.length : Int))) (gd1 rfl rfl rfl (h12)) rfl rfl (fun _ => rfl) rfl ?_
                  refine K.pickF (gd0 rfl) rfl (h12) rfl rfl ?_
                  refine K.move (.inl rfl) (gd0 rfl) rfl rfl ?_
                  refine K.skip rfl rfl rfl rfl (h14) rfl ?_
                  refine K.skip rfl rfl rfl rfl (h14) rfl ?_
                  refine K.skip rfl rfl rfl rfl (h14) rfl ?_
                  refine K.skip rfl rfl rfl rfl (h14) rfl ?_
                  refine K.skip rfl rfl rfl rfl (h14) rfl ?_
                  refine K.skip rfl rfl rfl rfl (h14) rfl ?_
                  refine K.skip rfl rfl rfl rfl (h14) rfl ?_
                  refine K.pickT (gd0 rfl) rfl (h14) rfl rfl ?_
                  refine K.nil ?_
                  refine ⟨by kernel_rfl, ?_⟩
                  refine At.next ?_
                  refine G.cond rfl (fun h15 => ?_) (fun h15 => ?_)
                  ·
                    refine G.seq ?_
                    refine G.rg ?_
                    refine K.move (.inr rfl) (gd0 rfl) rfl rfl ?_
                    refine K.nil ?_
                    refine At.next ?_
                    refine G.ret ?_
                    refine At.block_ret ?_
                    refine At.over_ret ?_
                    refine At.over_ret ?_
                    refine At.block_ret ?_
                    refine At.over_ret ?_
                    cases H1
                    replace H0 := sum_l H0
                    refine At.done Y [(.tmp 4, .c _)] rfl ⟨.tmp rfl, trivial⟩ (to' := [(0, _)]) ⟨rfl, trivial⟩ ?_ ?_ rfl rfl rfl (.inl rfl)
                    · cases H0; rfl
                    · cases H0; rfl
                  · cases h15
                ·
                  replace H1 := bif_f H1 h14
                  obtain ⟨x22, hx22, H1⟩ := bnd H1
                  obtain ⟨x23, hx23, H1⟩ := bnd H1
                  refine G.rd mixed ?_
                  refine K.move (.inl rfl) (gd0 rfl) rfl rfl ?_
                  refine K.call0 [(.func 54, _), ((.tmp 87), _)] (shelf_Items_con (k := k) hx18 119 120 126 rfl) (toFn_func (cf 54 rfl) rfl) (gd0 rfl) ⟨rfl, rfl, trivial⟩ ⟨rfl, rfl, trivial⟩ rfl rfl rfl rfl rfl rfl ?_
                  refine K.move (.inl rfl) (gd0 rfl) rfl rfl ?_
                  refine K.callV [(.func 53, _), ((.tmp 88), _), ((.tmp 89), _)] [(126, lrow 126 68 eTItem 2 x18), (121, lrow 121 68 eTItem 2 v7.2.2.2)] [] [] (fun β => [SV.raw ((lrowV 126 68 eTItem 2 x18).s.den β), SV.raw ((lrowV 121 68 eTItem 2 v7.2.2.2).s.den β)]) (fun β w S2 h => R02_Same_con (k := k) ((lrowV_isC eTItem_len (by decide)).larg ⟨_, List.mem_cons_self⟩ h) ((lrowV_isC eTItem_len (by decide)).larg ⟨_, (List.mem_cons_of_mem _ List.mem_cons_self)⟩ h) hx19) (toFn_func (cf 53 rfl) rfl) (gd0 rfl) ⟨rfl, rfl, rfl, trivial⟩ (fun _ => rfl) ⟨rfl, rfl, trivial⟩ rfl rfl rfl rfl rfl rfl ?_
                  refine K.un (V := .bool (!x19)) (gd0 rfl) rfl (fun _ => rfl) rfl ?_
                  refine K.move (.inl rfl) (gd0 rfl) rfl rfl ?_
                  refine K.move (.inl rfl) (gd1 rfl rfl rfl (h12)) rfl rfl ?_
                  refine K.move (.inl rfl) (gd1 rfl rfl rfl (h12)) rfl rfl ?_
                  refine K.callR [(.func 56, _), ((.tmp 94), _)] (Tree_LenS_con (k := k) hx20 119 120) (toFn_func (cf 56 rfl) rfl) (gd1 rfl rfl rfl (h12)) ⟨rfl, rfl, trivial⟩ ⟨rfl, rfl, trivial⟩ rfl rfl rfl ?_
                  refine K.callR [(.func 55, _), ((.tmp 93), _), (_, _), ((.tmp 95), _)] (Tree_BetweenS_con (k := k) hx21 119 120) (toFn_func (cf 55 rfl) rfl) (gd1 rfl rfl rfl (h12)) ⟨rfl, rfl, rfl, rfl, trivial⟩ ⟨rfl, rfl, trivial⟩ rfl rfl rfl ?_
                  refine K.move (.inl rfl) (gd1 rfl rfl rfl (h12)) rfl rfl ?_
                  refine K.lenL (lrowV 121 68 eTItem 2 v7.2.2.2) (lrowV_is eTItem_len (by decide)) (gd1 rfl rfl rfl (h12)) rfl rfl Try.underlying86 rfl ?_
                  refine K.bin (V := .bool (x21 != (v7.2.2.2.length : Int))) (gd1 rfl rfl rfl (h12)) rfl rfl (fun _ => rfl) rfl ?_
                  refine K.pickF (gd0 rfl) rfl (h12) rfl rfl ?_
                  refine K.move (.inl rfl) (gd0 rfl) rfl rfl ?_
                  refine K.move (.inl rfl) (gd1 rfl rfl rfl (h14)) rfl rfl ?_
                  refine K.loadS Y [_, _] (gd1 rfl rfl rfl (h14)) rfl rfl t68 rfl rfl rfl ?_
                  refine K.callR [(.func 57, _), ((.tmp 102), _), ((.tmp 103), _)] (shelf_Above_con (k := k) hx22 119 120) (toFn_func (cf 57 rfl) rfl) (gd1 rfl rfl rfl (h14)) ⟨rfl, rfl, rfl, trivial⟩ ⟨rfl, rfl, trivial⟩ rfl rfl rfl ?_
                  refine K.move (.inl rfl) (gd1 rfl rfl rfl (h14)) rfl rfl ?_
                  refine K.loadS Y [_, _] (gd1 rfl rfl rfl (h14)) rfl rfl t68 rfl rfl rfl ?_
                  refine K.callV [(.func 58, _), ((.tmp 105), _), ((.tmp 106), _)] [(121, lrow 121 68 eTItem 2 v7.2.2.2)] [] [] (fun β => [SV.raw ((lrowV 121 68 eTItem 2 v7.2.2.2).s.den β), .a (.agg ((eTItem a1).map .v))]) (fun β w S2 h => R09_Above_con (k := k) ((lrowV_isC eTItem_len (by decide)).larg ⟨_, List.mem_cons_self⟩ h) hx23) (toFn_func (cf 58 rfl) rfl) (gd1 rfl rfl rfl (h14)) ⟨rfl, rfl, rfl, trivial⟩ (fun _ => rfl) ⟨rfl, trivial⟩ rfl rfl rfl rfl rfl rfl ?_
                  refine K.bin (V := .bool (x22 != x23)) (gd1 rfl rfl rfl (h14)) rfl rfl (fun _ => rfl) rfl ?_
                  refine K.pickF (gd0 rfl) rfl (h14) rfl rfl ?_
                  refine K.nil ?_
                  refine ⟨by kernel_rfl, ?_⟩
                  refine At.next ?_
                  refine G.cond rfl (fun h16 => ?_) (fun h16 => ?_)
                  ·
                    replace H1 := bif_t H1 h16
                    refine G.seq ?_
                    refine G.rg ?_
                    refine K.move (.inr rfl) (gd0 rfl) rfl rfl ?_
                    refine K.nil ?_
                    refine At.next ?_
                    refine G.ret ?_
                    refine At.block_ret ?_
                    refine At.over_ret ?_
                    refine At.over_ret ?_
                    refine At.block_ret ?_
                    refine At.over_ret ?_
                    cases H1
                    replace H0 := sum_l H0
                    refine At.done Y [(.tmp 4, .c _)] rfl ⟨.tmp rfl, trivial⟩ (to' := [(0, _)]) ⟨rfl, trivial⟩ ?_ ?_ rfl rfl rfl (.inl rfl)
                    · cases H0; rfl
                    · cases H0; rfl
                  ·
                    replace H1 := bif_f H1 h16
                    refine G.skip ?_
                    refine At.block_normal ?_
                    refine At.next ?_
                    refine G.rg ?_
                    refine K.move (.inl rfl) (gd0 rfl) rfl rfl ?_
                    refine K.bin (V := .int .i64 (w64 (v5 + 1))) (gd0 rfl) rfl rfl (fun _ => rfl) rfl ?_
                    refine K.move (.inr rfl) (gd0 rfl) rfl rfl ?_
                    refine K.nil ?_
                    exact At.again (σ := { q : Nat × (Pool (TNode TSlot TSize) × Int × Int × List TItem × Int) // Lw09_ShelfActs.l0 k l0 a1 q.1 q.2 = some x6 }) (Fs := fun q => [(0, SV.raw s0), (3, .a (.c (.p 114 0))), (5, .a (.c (.p 115 0))), (6, .a (.c (.nv 117))), (7, .a (.c (.v (.int .i64 q.1.2.2.2.2.2))))]) (Tl := fun q => [(0, rd S W0), (114, blk 114 [.v (.int .i64 a1.key), .v (.int .i64 a1.id)] 68), (116, plS 116 q.1.2.1), (115, blk 115 [.p 116 0, .v (.int .i64 q.1.2.2.1), .v (.int .i64 q.1.2.2.2.1)] 122), (117, lrow 117 68 eTItem 2 q.1.2.2.2.2.1)]) (μ := fun q => q.1.1) (s := ⟨(n0 + 1, (v1, v2, v3, v4, v5)), HL0⟩) ⟨(n0, (v7.1, v7.2.1, v7.2.2.1, v7.2.2.2, (w64 (v5 + 1)))), H1⟩ [(114, 118), (115, 119), (116, 120), (117, 121)] [_, _, _, _, _] (Nat.lt_succ_self _) rfl ⟨rfl, rfl, rfl, rfl, rfl, trivial⟩ ⟨rfl, (fun _ => rfl), rfl, (blk_ren rfl rfl), rfl, (pl_ren rfl), rfl, (blk_ren rfl rfl), rfl, (lrow_ren rfl), trivial⟩ rfl
          ·
            replace H1 := bif_f H1 h4
            refine G.exit ?_
            refine At.over_exit ?_
            refine At.over_exit ?_
            refine At.block_hit ?_
            exact At.joined (σ := { v : Unit // x6 = Sum.inr v }) (Fs := fun q => [(3, .a (.c (.p 105 0)))]) (Tl := fun q => [(0, rd S W0), (105, blk 105 [.v (.int .i64 a1.key), .v (.int .i64 a1.id)] 68)]) ⟨(), (Option.some.inj H1).symm⟩ [(105, 114)] [_, _] rfl ⟨rfl, trivial⟩ ⟨rfl, (fun _ => rfl), rfl, (blk_ren rfl rfl), trivial⟩ rfl
    ·
      rintro ⟨v6, rfl⟩
      replace H0 := sum_r H0
      show G _ _ [(3, .a (.c (.p 105 0)))] [(0, some (rd S W0)), (105, some (blk 105 [.v (.int .i64 a1.key), .v (.int .i64 a1.id)] 68))] _ _
      refine G.seq ?_
      obtain ⟨x24, hx24, H0⟩ := bnd H0
      rcases Bool.eq_false_or_eq_true ((x24.length : Int) == 0) with h17 | h17
      ·
        replace H0 := bif_t H0 h17
        obtain ⟨x25, hx25, H0⟩ := bnd H0
        refine G.rg ?_
        refine K.call0 [(.func 54, _), (_, _)] (shelf_Items_z_z0_con (k := k) hx24 127 rfl) (toFn_func (cf 54 rfl) rfl) (gd0 rfl) ⟨rfl, rfl, trivial⟩ trivial rfl rfl rfl rfl rfl rfl ?_
        refine K.lenL (lrowV 127 68 eTItem 2 x24) (lrowV_is eTItem_len (by decide)) (gd0 rfl) rfl rfl Try.underlying86 rfl ?_
        refine K.bin (V := .bool ((x24.length : Int) == 0)) (gd0 rfl) rfl rfl (fun _ => rfl) rfl ?_
        refine K.move (.inl rfl) (gd0 rfl) rfl rfl ?_
        refine K.loadS Y [_, _] (gd1 rfl rfl rfl (h17)) rfl rfl t68 rfl rfl rfl ?_
        refine K.callR [(.func 57, _), (_, _), ((.tmp 114), _)] (shelf_Above_z_z0_con (k := k) hx25) (toFn_func (cf 57 rfl) rfl) (gd1 rfl rfl rfl (h17)) ⟨rfl, rfl, rfl, trivial⟩ trivial rfl rfl rfl ?_
        refine K.bin (V := .bool (x25 == 0)) (gd1 rfl rfl rfl (h17)) rfl rfl (fun _ => rfl) rfl ?_
        refine K.pickT (gd0 rfl) rfl (h17) rfl rfl ?_
        refine K.move (.inr rfl) (gd0 rfl) rfl rfl ?_
        refine K.nil ?_
        refine At.next ?_
        refine G.ret ?_
        refine At.done Y [(.tmp 4, .c _)] rfl ⟨.tmp rfl, trivial⟩ (to' := [(0, _)]) ⟨rfl, trivial⟩ ?_ ?_ rfl rfl rfl (.inl rfl)
        · cases H0; rfl
        · cases H0; rfl
      ·
        replace H0 := bif_f H0 h17
        refine G.rg ?_
        refine K.call0 [(.func 54, _), (_, _)] (shelf_Items_z_z0_con (k := k) hx24 127 rfl) (toFn_func (cf 54 rfl) rfl) (gd0 rfl) ⟨rfl, rfl, trivial⟩ trivial rfl rfl rfl rfl rfl rfl ?_
        refine K.lenL (lrowV 127 68 eTItem 2 x24) (lrowV_is eTItem_len (by decide)) (gd0 rfl) rfl rfl Try.underlying86 rfl ?_
        refine K.bin (V := .bool ((x24.length : Int) == 0)) (gd0 rfl) rfl rfl (fun _ => rfl) rfl ?_
        refine K.move (.inl rfl) (gd0 rfl) rfl rfl ?_
        refine K.skip rfl rfl rfl rfl (h17) rfl ?_
        refine K.skip rfl rfl rfl rfl (h17) rfl ?_
        refine K.skip rfl rfl rfl rfl (h17) rfl ?_
        refine K.pickF (gd0 rfl) rfl (h17) rfl rfl ?_
        refine K.move (.inr rfl) (gd0 rfl) rfl rfl ?_
        refine K.nil ?_
        refine At.next ?_
        refine G.ret ?_
        refine At.done Y [(.tmp 4, .c _)] rfl ⟨.tmp rfl, trivial⟩ (to' := [(0, _)]) ⟨rfl, trivial⟩ ?_ ?_ rfl rfl rfl (.inl rfl)
        · cases H0; rfl
        · cases H0; rfl
theorem Lw09_ShelfActs_con {k : Nat}  {S : Foot} {W0 : World} {s0 : Value} {l0 : List TL09Act} {a1 : TItem} {r : Bool} (hL0 : LArg S W0 s0 eTL09Act 3 l0) (H0 : Lw09_ShelfActs.f k l0 a1 = some r) : SCon Try.prog 10 [SV.raw s0, .a (.agg ((eTItem a1).map .v))] [(0, rd S W0)] (.a (.c (.v (.bool r)))) [(0, rd S W0)] [] :=
  SCon.ren (rn []) (Lw09_ShelfActs_con0 (k := k)  hL0 H0) ⟨(fun _ => rfl), trivial⟩ ⟨(fun _ => rfl), trivial⟩ (by simp) (by simp)
end Go.Proofs.Ytjokolmijhhinaa


/- A law's walk. Printed by a program of mine. -/
import Derived.KernelRfl
import Derived.Test.YtjokolmijhhinaaMx
namespace Go.Proofs.Ytjokolmijhhinaa
open Go Go.Proofs.Ytjokolmijhhinaa.Sx
set_option linter.unusedVariables false
set_option linter.unusedSimpArgs false
theorem Lw07_GroveOrder_con0 {k : Nat}  {S : Foot} {W0 : World} {s0 : Value} {l0 : List TL07Act} {r : Bool} (hL0 : LArg S W0 s0 eTL07Act 3 l0) (H0 : Lw07_GroveOrder.f k l0 = some r) : SCon Try.prog 7 [SV.raw s0] [(0, rd S W0)] (.a (.c (.v (.bool r)))) [(0, rd S W0)] [] := by
  rw [Lw07_GroveOrder.f] at H0
  obtain ⟨b0, o0, hI0⟩ := hL0
  refine spec_of [(0, _)] [(0, _)] 110 Try.func7 rfl Try.ntmps7 rfl rfl rfl rfl (fun β W F => ?_)
  refine G.seq ?_
  refine G.rg ?_
  refine K.move (.inr rfl) (gd0 rfl) rfl rfl ?_
  refine K.nil ?_
  refine At.next ?_
  obtain ⟨x1, H1, H0⟩ := bnd H0
  refine G.seqJ (σ := { v : Unit // x1 = Sum.inr v }) (fun q => [(0, SV.raw s0)]) (fun q => [(0, rd S W0)]) ?_ ?_
  ·
    refine G.seq ?_
    obtain ⟨x2, hx2, H1⟩ := bnd H1
    rcases Bool.eq_false_or_eq_true (!x2) with h1 | h1
    ·
      replace H1 := bif_t H1 h1
      refine G.rg ?_
      refine K.callR [(.func 11, _)] (Lw07_awake_con (k := k) hx2) (toFn_func (cf 11 rfl) rfl) (gd0 rfl) ⟨rfl, trivial⟩ trivial rfl rfl rfl ?_
      refine K.un (V := .bool (!x2)) (gd0 rfl) rfl (fun _ => rfl) rfl ?_
      refine K.move (.inl rfl) (gd0 rfl) rfl rfl ?_
      refine K.skip rfl rfl rfl rfl (h1) rfl ?_
      refine K.skip rfl rfl rfl rfl (h1) rfl ?_
      refine K.skip rfl rfl rfl rfl (h1) rfl ?_
      refine K.pickT (gd0 rfl) rfl (h1) rfl rfl ?_
      refine K.nil ?_
      refine At.next ?_
      refine G.cond rfl (fun h2 => ?_) (fun h2 => ?_)
      ·
        refine G.seq ?_
        obtain ⟨x3, hx3, H1⟩ := bnd H1
        refine G.rg ?_
        refine K.callR [(.func 11, _)] (Lw07_awake_con (k := k) hx3) (toFn_func (cf 11 rfl) rfl) (gd0 rfl) ⟨rfl, trivial⟩ trivial rfl rfl rfl ?_
        refine K.move (.inr rfl) (gd0 rfl) rfl rfl ?_
        refine K.nil ?_
        refine At.next ?_
        refine G.ret ?_
        refine At.over_ret ?_
        cases H1
        replace H0 := sum_l H0
        refine At.done Y [(.tmp 2, .c _)] rfl ⟨.tmp rfl, trivial⟩ (to' := [(0, _)]) ⟨rfl, trivial⟩ ?_ ?_ rfl rfl rfl (.inl rfl)
        · cases H0; rfl
        · cases H0; rfl
      · cases h2
    ·
      replace H1 := bif_f H1 h1
      obtain ⟨x4, hx4, H1⟩ := bnd H1
      refine G.rg ?_
      refine K.callR [(.func 11, _)] (Lw07_awake_con (k := k) hx2) (toFn_func (cf 11 rfl) rfl) (gd0 rfl) ⟨rfl, trivial⟩ trivial rfl rfl rfl ?_
      refine K.un (V := .bool (!x2)) (gd0 rfl) rfl (fun _ => rfl) rfl ?_
      refine K.move (.inl rfl) (gd0 rfl) rfl rfl ?_
      refine K.move (.inl rfl) (gd1 rfl rfl rfl (h1)) rfl rfl ?_
      refine K.callV [(.func 12, _), ((.tmp 15), _), (_, _)] [(0, rd S W0)] [] [] (fun β => [SV.raw s0, .a (.c (.v (.int .i64 60)))]) (fun β w S2 h => Lw07_small_con (k := k) ((hI0.isC 0).larg ⟨_, List.mem_cons_self⟩ h) hx4) (toFn_func (cf 12 rfl) rfl) (gd1 rfl rfl rfl (h1)) ⟨rfl, rfl, rfl, trivial⟩ (fun _ => rfl) ⟨rfl, trivial⟩ rfl rfl rfl rfl rfl rfl ?_
      refine K.un (V := .bool (!x4)) (gd1 rfl rfl rfl (h1)) rfl (fun _ => rfl) rfl ?_
      refine K.pickF (gd0 rfl) rfl (h1) rfl rfl ?_
      refine K.nil ?_
      refine At.next ?_
      refine G.cond rfl (fun h3 => ?_) (fun h3 => ?_)
      ·
        replace H1 := bif_t H1 h3
        refine G.seq ?_
        obtain ⟨x5, hx5, H1⟩ := bnd H1
        refine G.rg ?_
        refine K.callR [(.func 11, _)] (Lw07_awake_con (k := k) hx5) (toFn_func (cf 11 rfl) rfl) (gd0 rfl) ⟨rfl, trivial⟩ trivial rfl rfl rfl ?_
        refine K.move (.inr rfl) (gd0 rfl) rfl rfl ?_
        refine K.nil ?_
        refine At.next ?_
        refine G.ret ?_
        refine At.over_ret ?_
        cases H1
        replace H0 := sum_l H0
        refine At.done Y [(.tmp 2, .c _)] rfl ⟨.tmp rfl, trivial⟩ (to' := [(0, _)]) ⟨rfl, trivial⟩ ?_ ?_ rfl rfl rfl (.inl rfl)
        · cases H0; rfl
        · cases H0; rfl
      ·
        replace H1 := bif_f H1 h3
        refine G.skip ?_
        exact At.joined (σ := { v : Unit // x1 = Sum.inr v }) (Fs := fun q => [(0, SV.raw s0)]) (Tl := fun q => [(0, rd S W0)]) ⟨(), (Option.some.inj H1).symm⟩ [] [_] rfl ⟨rfl, trivial⟩ ⟨rfl, (fun _ => rfl), trivial⟩ rfl
  ·
    rintro ⟨v1, rfl⟩
    replace H0 := sum_r H0
    show G _ _ [(0, SV.raw s0)] [(0, some (rd S W0))] _ _
    refine G.seq ?_
    obtain ⟨x6, hx6, H0⟩ := bnd H0
    refine G.rg ?_
    refine K.move (.inl rfl) (gd0 rfl) rfl rfl ?_
    refine K.callV [(.func 13, _), ((.tmp 21), _), (_, _)] [(0, rd S W0)] [] [(100, _), (101, _), (102, _)] (fun β => [SV.raw s0, .a (.c (.v (.int .i64 50)))]) (fun β w S2 h => Lw07_made_con (k := k) ((hI0.isC 0).larg ⟨_, List.mem_cons_self⟩ h) hx6 100 101 102 rfl) (toFn_func (cf 13 rfl) rfl) (gd0 rfl) ⟨rfl, rfl, rfl, trivial⟩ (fun _ => rfl) ⟨rfl, trivial⟩ rfl rfl rfl rfl rfl rfl ?_
    refine K.move (.inl rfl) (gd0 rfl) rfl rfl ?_
    refine K.extract (gd0 rfl) rfl rfl rfl ?_
    refine K.extract (gd0 rfl) rfl rfl rfl ?_
    refine K.extract (gd0 rfl) rfl rfl rfl ?_
    refine K.move (.inr rfl) (gd0 rfl) rfl rfl ?_
    refine K.move (.inr rfl) (gd0 rfl) rfl rfl ?_
    refine K.move (.inr rfl) (gd0 rfl) rfl rfl ?_
    refine K.nil ?_
    refine At.next ?_
    refine G.seq ?_
    obtain ⟨x7, hx7, H0⟩ := bnd H0
    refine G.rg ?_
    refine K.move (.inl rfl) (gd0 rfl) rfl rfl ?_
    refine K.call0 [(.func 37, _), ((.tmp 26), _)] (Tree_AllE_con (k := k) hx7 100 101 103 rfl) (toFn_func (cf 37 rfl) rfl) (gd0 rfl) ⟨rfl, rfl, trivial⟩ ⟨rfl, rfl, trivial⟩ rfl rfl rfl rfl rfl rfl ?_
    refine K.move (.inr rfl) (gd0 rfl) rfl rfl ?_
    refine K.nil ?_
    refine At.next ?_
    obtain ⟨x8, H1, H0⟩ := bnd H0
    refine G.seqJ (σ := { v : Unit // x8 = Sum.inr v }) (fun q => [(3, .a (.c (.p 104 0))), (5, .a (.c (.v (.bool x6.2.2.2)))), (6, .a (.c (.nv 106)))]) (fun q => [(0, rd S W0), (105, plE 105 x6.2.1), (104, blk 104 [.p 105 0, .v (.int .i64 x6.1.index), .v (.int .i64 x6.1.gen)] 101), (106, lrow 106 35 eTL07Elem 2 x7)]) ?_ ?_
    ·
      refine G.seq ?_
      refine G.rg ?_
      refine K.move (.inr rfl) (gd0 rfl) rfl rfl ?_
      refine K.nil ?_
      refine At.next ?_
      refine G.block ?_
      refine G.loop (σ := { q : Nat × (Int) // Lw07_GroveOrder.l0 k x6 x7 q.1 q.2 = some x8 }) (fun q => [(3, .a (.c (.p 113 0))), (5, .a (.c (.v (.bool x6.2.2.2)))), (6, .a (.c (.nv 115))), (7, .a (.c (.v (.int .i64 q.1.2))))]) (fun q => [(0, rd S W0), (114, plE 114 x6.2.1), (113, blk 113 [.p 114 0, .v (.int .i64 x6.1.index), .v (.int .i64 x6.1.gen)] 101), (115, lrow 115 35 eTL07Elem 2 x7)]) (fun q => q.1.1) ⟨(k, 0), H1⟩ ?_ ?_
      · exact At.into [(113, 100), (114, 101), (115, 103)] [_, _, _, _] rfl ⟨rfl, rfl, rfl, rfl, trivial⟩ ⟨rfl, (fun _ => rfl), rfl, (pl_ren rfl), rfl, (blk_ren rfl rfl), rfl, (lrow_ren rfl), trivial⟩ rfl
      ·
        rintro ⟨⟨n0, v1⟩, H1⟩
        show G _ _ [(3, .a (.c (.p 113 0))), (5, .a (.c (.v (.bool x6.2.2.2)))), (6, .a (.c (.nv 115))), (7, .a (.c (.v (.int .i64 v1))))] [(0, some (rd S W0)), (114, some (plE 114 x6.2.1)), (113, some (blk 113 [.p 114 0, .v (.int .i64 x6.1.index), .v (.int .i64 x6.1.gen)] 101)), (115, some (lrow 115 35 eTL07Elem 2 x7))] _ _
        cases n0 with
        | zero => exact absurd H1 (by simp [Lw07_GroveOrder.l0])
        | succ n0 =>
          have HL0 := H1
          rw [Lw07_GroveOrder.l0] at H1
          refine G.seq ?_
          refine G.seq ?_
          refine G.rg ?_
          refine K.move (.inl rfl) (gd0 rfl) rfl rfl ?_
          refine K.move (.inl rfl) (gd0 rfl) rfl rfl ?_
          refine K.lenL (lrowV 115 35 eTL07Elem 2 x7) (lrowV_is eTL07Elem_len (by decide)) (gd0 rfl) rfl rfl Try.underlying61 rfl ?_
          refine K.bin (V := .bool (decide (v1 < (x7.length : Int)))) (gd0 rfl) rfl rfl (fun _ => rfl) rfl ?_
          refine K.nil ?_
          refine At.next ?_
          refine G.cond rfl (fun h4 => ?_) (fun h4 => ?_)
          ·
            replace H1 := bif_t H1 h4
            refine G.skip ?_
            refine At.next ?_
            refine G.seq ?_
            refine G.block ?_
            refine G.seq ?_
            obtain ⟨x9, hx9, H1⟩ := bnd H1
            refine G.rg ?_
            refine K.move (.inl rfl) (gd0 rfl) rfl rfl ?_
            refine K.move (.inl rfl) (gd0 rfl) rfl rfl ?_
            refine K.callR [(.func 35, _), ((.tmp 35), _), ((.tmp 36), _)] (Tree_AtE_con (k := k) hx9 113 114) (toFn_func (cf 35 rfl) rfl) (gd0 rfl) ⟨rfl, rfl, rfl, trivial⟩ ⟨rfl, rfl, trivial⟩ rfl rfl rfl ?_
            refine K.move (.inl rfl) (gd0 rfl) rfl rfl ?_
            refine K.extract (gd0 rfl) rfl rfl rfl ?_
            refine K.extract (gd0 rfl) rfl rfl rfl ?_
            refine K.alloc Y 116 [_, _] (gd0 rfl) t35 rfl rfl rfl rfl rfl ?_
            refine K.store Y [_, _] (gd0 rfl) rfl rfl rfl t35 rfl rfl rfl rfl rfl ?_
            refine K.move (.inr rfl) (gd0 rfl) rfl rfl ?_
            refine K.nil ?_
            refine At.next ?_
            refine G.seq ?_
            obtain ⟨x10, hx10, H1⟩ := bnd H1
            obtain ⟨x11, hx11, H1⟩ := bnd H1
            refine G.rg ?_
            refine K.move (.inl rfl) (gd0 rfl) rfl rfl ?_
            refine K.move (.inl rfl) (gd0 rfl) rfl rfl ?_
            refine K.move (.inl rfl) (gd0 rfl) rfl rfl ?_
            refine K.idxL (lrowV 115 35 eTL07Elem 2 x7) ((v1).toNat) (lrowV_is eTL07Elem_len (by decide)) (atL_get hx10) (atL_nn hx10) (gd0 rfl) rfl rfl rfl Try.underlying61 el61.size_run rfl ?_
            refine K.fieldL Y (lrowV 115 35 eTL07Elem 2 x7) ((v1).toNat) 0 0 (lrowV_is eTL07Elem_len (by decide)) (atL_get hx10) (gd0 rfl) rfl rfl t35 rfl rfl rfl rfl ?_
            refine K.load1L Y (lrowV 115 35 eTL07Elem 2 x7) ((v1).toNat) 0 (lrowV_is eTL07Elem_len (by decide)) (atL_get hx10) (gd0 rfl) rfl rfl t3 rfl rfl ?_
            refine K.build Y [(0, _)] [_, _] [((.tmp 46), _)] (gd0 rfl) (AllE.spec ⟨rfl, trivial⟩) rfl rfl t35 rfl rfl ?_
            refine K.callR [(.func 27, _), ((.tmp 41), _), ((.tmp 47), _)] (Tree_FindE_con (k := k) hx11 113 114) (toFn_func (cf 27 rfl) rfl) (gd0 rfl) ⟨rfl, rfl, rfl, trivial⟩ ⟨rfl, rfl, trivial⟩ rfl rfl rfl ?_
            refine K.move (.inl rfl) (gd0 rfl) rfl rfl ?_
            refine K.extract (gd0 rfl) rfl rfl rfl ?_
            refine K.extract (gd0 rfl) rfl rfl rfl ?_
            refine K.alloc Y 117 [_, _] (gd0 rfl) t35 rfl rfl rfl rfl rfl ?_
            refine K.store Y [_, _] (gd0 rfl) rfl rfl rfl t35 rfl rfl rfl rfl rfl ?_
            refine K.move (.inr rfl) (gd0 rfl) rfl rfl ?_
            refine K.nil ?_
            refine At.next ?_
            refine G.seq ?_
            rcases Bool.eq_false_or_eq_true (!x9.2) with h5 | h5
            ·
              replace H1 := bif_t H1 h5
              refine G.rd mixed ?_
              refine K.move (.inl rfl) (gd0 rfl) rfl rfl ?_
              refine K.un (V := .bool (!x9.2)) (gd0 rfl) rfl (fun _ => rfl) rfl ?_
              refine K.move (.inl rfl) (gd0 rfl) rfl rfl ?_
              refine K.skip rfl rfl rfl rfl (h5) rfl ?_
              refine K.skip rfl rfl rfl rfl (h5) rfl ?_
              refine K.pickT (gd0 rfl) rfl (h5) rfl rfl ?_
              refine K.move (.inl rfl) (gd0 rfl) rfl rfl ?_
              refine K.skip rfl rfl rfl rfl (rfl) rfl ?_
              refine K.skip rfl rfl rfl rfl (rfl) rfl ?_
              refine K.skip rfl rfl rfl rfl (rfl) rfl ?_
              refine K.skip rfl rfl rfl rfl (rfl) rfl ?_
              refine K.skip rfl rfl rfl rfl (rfl) rfl ?_
              refine K.skip rfl rfl rfl rfl (rfl) rfl ?_
              refine K.pickT (gd0 rfl) rfl (rfl) rfl rfl ?_
              refine K.move (.inl rfl) (gd0 rfl) rfl rfl ?_
              refine K.skip rfl rfl rfl rfl (rfl) rfl ?_
              refine K.skip rfl rfl rfl rfl (rfl) rfl ?_
              refine K.skip rfl rfl rfl rfl (rfl) rfl ?_
              refine K.pickT (gd0 rfl) rfl (rfl) rfl rfl ?_
              refine K.move (.inl rfl) (gd0 rfl) rfl rfl ?_
              refine K.skip rfl rfl rfl rfl (rfl) rfl ?_
              refine K.skip rfl rfl rfl rfl (rfl) rfl ?_
              refine K.skip rfl rfl rfl rfl (rfl) rfl ?_
              refine K.skip rfl rfl rfl rfl (rfl) rfl ?_
              refine K.skip rfl rfl rfl rfl (rfl) rfl ?_
              refine K.pickT (gd0 rfl) rfl (rfl) rfl rfl ?_
              refine K.move (.inl rfl) (gd0 rfl) rfl rfl ?_
              refine K.skip rfl rfl rfl rfl (rfl) rfl ?_
              refine K.skip rfl rfl rfl rfl (rfl) rfl ?_
              refine K.skip rfl rfl rfl rfl (rfl) rfl ?_
              refine K.skipU rfl rfl rfl rfl rfl ?_
              refine K.skipU rfl rfl rfl rfl rfl ?_
              refine K.skipU rfl rfl rfl rfl rfl ?_
              refine K.skipU rfl rfl rfl rfl rfl ?_
              refine K.skipU rfl rfl rfl rfl rfl ?_
              refine K.skipU rfl rfl rfl rfl rfl ?_
              refine K.skipU rfl rfl rfl rfl rfl ?_
              refine K.skipU rfl rfl rfl rfl rfl ?_
              refine K.skipU rfl rfl rfl rfl rfl ?_
              refine K.skip rfl rfl rfl rfl (rfl) rfl ?_
              refine K.pickT (gd0 rfl) rfl (rfl) rfl rfl ?_
              refine K.nil ?_
              refine ⟨by kernel_rfl, ?_⟩
              refine At.next ?_
              refine G.cond rfl (fun h6 => ?_) (fun h6 => ?_)
              ·
                refine G.seq ?_
                refine G.rg ?_
                refine K.move (.inr rfl) (gd0 rfl) rfl rfl ?_
                refine K.nil ?_
                refine At.next ?_
                refine G.ret ?_
                refine At.block_ret ?_
                refine At.over_ret ?_
                refine At.over_ret ?_
                refine At.block_ret ?_
                refine At.over_ret ?_
                cases H1
                replace H0 := sum_l H0
                refine At.done Y [(.tmp 2, .c _)] rfl ⟨.tmp rfl, trivial⟩ (to' := [(0, _)]) ⟨rfl, trivial⟩ ?_ ?_ rfl rfl rfl (.inl rfl)
                · cases H0; rfl
                · cases H0; rfl
              · cases h6
            ·
              replace H1 := bif_f H1 h5
              rcases Bool.eq_false_or_eq_true (!x11.2) with h7 | h7
              ·
                replace H1 := bif_t H1 h7
                refine G.rd mixed ?_
                refine K.move (.inl rfl) (gd0 rfl) rfl rfl ?_
                refine K.un (V := .bool (!x9.2)) (gd0 rfl) rfl (fun _ => rfl) rfl ?_
                refine K.move (.inl rfl) (gd0 rfl) rfl rfl ?_
                refine K.move (.inl rfl) (gd1 rfl rfl rfl (h5)) rfl rfl ?_
                refine K.un (V := .bool (!x11.2)) (gd1 rfl rfl rfl (h5)) rfl (fun _ => rfl) rfl ?_
                refine K.pickF (gd0 rfl) rfl (h5) rfl rfl ?_
                refine K.move (.inl rfl) (gd0 rfl) rfl rfl ?_
                refine K.skip rfl rfl rfl rfl (h7) rfl ?_
                refine K.skip rfl rfl rfl rfl (h7) rfl ?_
                refine K.skip rfl rfl rfl rfl (h7) rfl ?_
                refine K.skip rfl rfl rfl rfl (h7) rfl ?_
                refine K.skip rfl rfl rfl rfl (h7) rfl ?_
                refine K.skip rfl rfl rfl rfl (h7) rfl ?_
                refine K.pickT (gd0 rfl) rfl (h7) rfl rfl ?_
                refine K.move (.inl rfl) (gd0 rfl) rfl rfl ?_
                refine K.skip rfl rfl rfl rfl (rfl) rfl ?_
                refine K.skip rfl rfl rfl rfl (rfl) rfl ?_
                refine K.skip rfl rfl rfl rfl (rfl) rfl ?_
                refine K.pickT (gd0 rfl) rfl (rfl) rfl rfl ?_
                refine K.move (.inl rfl) (gd0 rfl) rfl rfl ?_
                refine K.skip rfl rfl rfl rfl (rfl) rfl ?_
                refine K.skip rfl rfl rfl rfl (rfl) rfl ?_
                refine K.skip rfl rfl rfl rfl (rfl) rfl ?_
                refine K.skip rfl rfl rfl rfl (rfl) rfl ?_
                refine K.skip rfl rfl rfl rfl (rfl) rfl ?_
                refine K.pickT (gd0 rfl) rfl (rfl) rfl rfl ?_
                refine K.move (.inl rfl) (gd0 rfl) rfl rfl ?_
                refine K.skip rfl rfl rfl rfl (rfl) rfl ?_
                refine K.skip rfl rfl rfl rfl (rfl) rfl ?_
                refine K.skip rfl rfl rfl rfl (rfl) rfl ?_
                refine K.skipU rfl rfl rfl rfl rfl ?_
                refine K.skipU rfl rfl rfl rfl rfl ?_
                refine K.skipU rfl rfl rfl rfl rfl ?_
                refine K.skipU rfl rfl rfl rfl rfl ?_
                refine K.skipU rfl rfl rfl rfl rfl ?_
                refine K.skipU rfl rfl rfl rfl rfl ?_
                refine K.skipU rfl rfl rfl rfl rfl ?_
                refine K.skipU rfl rfl rfl rfl rfl ?_
                refine K.skipU rfl rfl rfl rfl rfl ?_
                refine K.skip rfl rfl rfl rfl (rfl) rfl ?_
                refine K.pickT (gd0 rfl) rfl (rfl) rfl rfl ?_
                refine K.nil ?_
                refine ⟨by kernel_rfl, ?_⟩
                refine At.next ?_
                refine G.cond rfl (fun h8 => ?_) (fun h8 => ?_)
                ·
                  refine G.seq ?_
                  refine G.rg ?_
                  refine K.move (.inr rfl) (gd0 rfl) rfl rfl ?_
                  refine K.nil ?_
                  refine At.next ?_
                  refine G.ret ?_
                  refine At.block_ret ?_
                  refine At.over_ret ?_
                  refine At.over_ret ?_
                  refine At.block_ret ?_
                  refine At.over_ret ?_
                  cases H1
                  replace H0 := sum_l H0
                  refine At.done Y [(.tmp 2, .c _)] rfl ⟨.tmp rfl, trivial⟩ (to' := [(0, _)]) ⟨rfl, trivial⟩ ?_ ?_ rfl rfl rfl (.inl rfl)
                  · cases H0; rfl
                  · cases H0; rfl
                · cases h8
              ·
                replace H1 := bif_f H1 h7
                rcases Bool.eq_false_or_eq_true (!((x9.1.k == x10.k) && ((x9.1.w == x10.w) && true))) with h9 | h9
                ·
                  replace H1 := bif_t H1 h9
                  refine G.rd mixed ?_
                  refine K.move (.inl rfl) (gd0 rfl) rfl rfl ?_
                  refine K.un (V := .bool (!x9.2)) (gd0 rfl) rfl (fun _ => rfl) rfl ?_
                  refine K.move (.inl rfl) (gd0 rfl) rfl rfl ?_
                  refine K.move (.inl rfl) (gd1 rfl rfl rfl (h5)) rfl rfl ?_
                  refine K.un (V := .bool (!x11.2)) (gd1 rfl rfl rfl (h5)) rfl (fun _ => rfl) rfl ?_
                  refine K.pickF (gd0 rfl) rfl (h5) rfl rfl ?_
                  refine K.move (.inl rfl) (gd0 rfl) rfl rfl ?_
                  refine K.loadS Y [_, _] (gd1 rfl rfl rfl (h7)) rfl rfl t35 rfl rfl rfl ?_
                  refine K.move (.inl rfl) (gd1 rfl rfl rfl (h7)) rfl rfl ?_
                  refine K.move (.inl rfl) (gd1 rfl rfl rfl (h7)) rfl rfl ?_
                  refine K.idxL (lrowV 115 35 eTL07Elem 2 x7) ((v1).toNat) (lrowV_is eTL07Elem_len (by decide)) (atL_get hx10) (atL_nn hx10) (gd1 rfl rfl rfl (h7)) rfl rfl rfl Try.underlying61 el61.size_run rfl ?_
                  refine K.loadSL Y (lrowV 115 35 eTL07Elem 2 x7) ((v1).toNat) 0 [_, _] [_, _] (lrowV_is eTL07Elem_len (by decide)) (atL_get hx10) (gd1 rfl rfl rfl (h7)) rfl rfl t35 rfl rfl rfl rfl rfl ?_
                  refine K.eqS [_, _] [_, _] (gd1 rfl rfl rfl (h7)) rfl rfl cmp35 rfl (.inr rfl) (!((x9.1.k == x10.k) && ((x9.1.w == x10.w) && true))) rfl rfl ?_
                  refine K.pickF (gd0 rfl) rfl (h7) rfl rfl ?_
                  refine K.move (.inl rfl) (gd0 rfl) rfl rfl ?_
                  refine K.skip rfl rfl rfl rfl (h9) rfl ?_
                  refine K.skip rfl rfl rfl rfl (h9) rfl ?_
                  refine K.skip rfl rfl rfl rfl (h9) rfl ?_
                  refine K.pickT (gd0 rfl) rfl (h9) rfl rfl ?_
                  refine K.move (.inl rfl) (gd0 rfl) rfl rfl ?_
                  refine K.skip rfl rfl rfl rfl (rfl) rfl ?_
                  refine K.skip rfl rfl rfl rfl (rfl) rfl ?_
                  refine K.skip rfl rfl rfl rfl (rfl) rfl ?_
                  refine K.skip rfl rfl rfl rfl (rfl) rfl ?_
                  refine K.skip rfl rfl rfl rfl (rfl) rfl ?_
                  refine K.pickT (gd0 rfl) rfl (rfl) rfl rfl ?_
                  refine K.move (.inl rfl) (gd0 rfl) rfl rfl ?_
                  refine K.skip rfl rfl rfl rfl (rfl) rfl ?_
                  refine K.skip rfl rfl rfl rfl (rfl) rfl ?_
                  refine K.skip rfl rfl rfl rfl (rfl) rfl ?_
                  refine K.skipU rfl rfl rfl rfl rfl ?_
                  refine K.skipU rfl rfl rfl rfl rfl ?_
                  refine K.skipU rfl rfl rfl rfl rfl ?_
                  refine K.skipU rfl rfl rfl rfl rfl ?_
                  refine K.skipU rfl rfl rfl rfl rfl ?_
                  refine K.skipU rfl rfl rfl rfl rfl ?_
                  refine K.skipU rfl rfl rfl rfl rfl ?_
                  refine K.skipU rfl rfl rfl rfl rfl ?_
                  refine K.skipU rfl rfl rfl rfl rfl ?_
                  refine K.skip rfl rfl rfl rfl (rfl) rfl ?_
                  refine K.pickT (gd0 rfl) rfl (rfl) rfl rfl ?_
                  refine K.nil ?_
                  refine ⟨by kernel_rfl, ?_⟩
                  refine At.next ?_
                  refine G.cond rfl (fun h10 => ?_) (fun h10 => ?_)
                  ·
                    refine G.seq ?_
                    refine G.rg ?_
                    refine K.move (.inr rfl) (gd0 rfl) rfl rfl ?_
                    refine K.nil ?_
                    refine At.next ?_
                    refine G.ret ?_
                    refine At.block_ret ?_
                    refine At.over_ret ?_
                    refine At.over_ret ?_
                    refine At.block_ret ?_
                    refine At.over_ret ?_
                    cases H1
                    replace H0 := sum_l H0
                    refine At.done Y [(.tmp 2, .c _)] rfl ⟨.tmp rfl, trivial⟩ (to' := [(0, _)]) ⟨rfl, trivial⟩ ?_ ?_ rfl rfl rfl (.inl rfl)
                    · cases H0; rfl
                    · cases H0; rfl
                  · cases h10
                ·
                  replace H1 := bif_f H1 h9
                  rcases Bool.eq_false_or_eq_true (!((x11.1.k == x9.1.k) && ((x11.1.w == x9.1.w) && true))) with h11 | h11
                  ·
                    replace H1 := bif_t H1 h11
                    refine G.rd mixed ?_
                    refine K.move (.inl rfl) (gd0 rfl) rfl rfl ?_
                    refine K.un (V := .bool (!x9.2)) (gd0 rfl) rfl (fun _ => rfl) rfl ?_
                    refine K.move (.inl rfl) (gd0 rfl) rfl rfl ?_
                    refine K.move (.inl rfl) (gd1 rfl rfl rfl (h5)) rfl rfl ?_
                    refine K.un (V := .bool (!x11.2)) (gd1 rfl rfl rfl (h5)) rfl (fun _ => rfl) rfl ?_
                    refine K.pickF (gd0 rfl) rfl (h5) rfl rfl ?_
                    refine K.move (.inl rfl) (gd0 rfl) rfl rfl ?_
                    refine K.loadS Y [_, _] (gd1 rfl rfl rfl (h7)) rfl rfl t35 rfl rfl rfl ?_
                    refine K.move (.inl rfl) (gd1 rfl rfl rfl (h7)) rfl rfl ?_
                    refine K.move (.inl rfl) (gd1 rfl rfl rfl (h7)) rfl rfl ?_
                    refine K.idxL (lrowV 115 35 eTL07Elem 2 x7) ((v1).toNat) (lrowV_is eTL07Elem_len (by decide)) (atL_get hx10) (atL_nn hx10) (gd1 rfl rfl rfl (h7)) rfl rfl rfl Try.underlying61 el61.size_run rfl ?_
                    refine K.loadSL Y (lrowV 115 35 eTL07Elem 2 x7) ((v1).toNat) 0 [_, _] [_, _] (lrowV_is eTL07Elem_len (by decide)) (atL_get hx10) (gd1 rfl rfl rfl (h7)) rfl rfl t35 rfl rfl rfl rfl rfl ?_
                    refine K.eqS [_, _] [_, _] (gd1 rfl rfl rfl (h7)) rfl rfl cmp35 rfl (.inr rfl) (!((x9.1.k == x10.k) && ((x9.1.w == x10.w) && true))) rfl rfl ?_
                    refine K.pickF (gd0 rfl) rfl (h7) rfl rfl ?_
                    refine K.move (.inl rfl) (gd0 rfl) rfl rfl ?_
                    refine K.loadS Y [_, _] (gd1 rfl rfl rfl (h9)) rfl rfl t35 rfl rfl rfl ?_
                    refine K.loadS Y [_, _] (gd1 rfl rfl rfl (h9)) rfl rfl t35 rfl rfl rfl ?_
                    refine K.eqS [_, _] [_, _] (gd1 rfl rfl rfl (h9)) rfl rfl cmp35 rfl (.inr rfl) (!((x11.1.k == x9.1.k) && ((x11.1.w == x9.1.w) && true))) rfl rfl ?_
                    refine K.pickF (gd0 rfl) rfl (h9) rfl rfl ?_
                    refine K.move (.inl rfl) (gd0 rfl) rfl rfl ?_
                    refine K.skip rfl rfl rfl rfl (h11) rfl ?_
                    refine K.skip rfl rfl rfl rfl (h11) rfl ?_
                    refine K.skip rfl rfl rfl rfl (h11) rfl ?_
                    refine K.skip rfl rfl rfl rfl (h11) rfl ?_
                    refine K.skip rfl rfl rfl rfl (h11) rfl ?_
                    refine K.pickT (gd0 rfl) rfl (h11) rfl rfl ?_
                    refine K.move (.inl rfl) (gd0 rfl) rfl rfl ?_
                    refine K.skip rfl rfl rfl rfl (rfl) rfl ?_
                    refine K.skip rfl rfl rfl rfl (rfl) rfl ?_
                    refine K.skip rfl rfl rfl rfl (rfl) rfl ?_
                    refine K.skipU rfl rfl rfl rfl rfl ?_
                    refine K.skipU rfl rfl rfl rfl rfl ?_
                    refine K.skipU rfl rfl rfl rfl rfl ?_
                    refine K.skipU rfl rfl rfl rfl rfl ?_
                    refine K.skipU rfl rfl rfl rfl rfl ?_
                    refine K.skipU rfl rfl rfl rfl rfl ?_
                    refine K.skipU rfl rfl rfl rfl rfl ?_
                    refine K.skipU rfl rfl rfl rfl rfl ?_
                    refine K.skipU rfl rfl rfl rfl rfl ?_
                    refine K.skip rfl rfl rfl rfl (rfl) rfl ?_
                    refine K.pickT (gd0 rfl) rfl (rfl) rfl rfl ?_
                    refine K.nil ?_
                    refine ⟨by kernel_rfl, ?_⟩
                    refine At.next ?_
                    refine G.cond rfl (fun h12 => ?_) (fun h12 => ?_)
                    ·
                      refine G.seq ?_
                      refine G.rg ?_
                      refine K.move (.inr rfl) (gd0 rfl) rfl rfl ?_
                      refine K.nil ?_
                      refine At.next ?_
                      refine G.ret ?_
                      refine At.block_ret ?_
                      refine At.over_ret ?_
                      refine At.over_ret ?_
                      refine At.block_ret ?_
                      refine At.over_ret ?_
                      cases H1
                      replace H0 := sum_l H0
                      refine At.done Y [(.tmp 2, .c _)] rfl ⟨.tmp rfl, trivial⟩ (to' := [(0, _)]) ⟨rfl, trivial⟩ ?_ ?_ rfl rfl rfl (.inl rfl)
                      · cases H0; rfl
                      · cases H0; rfl
                    · cases h12
                  ·
                    replace H1 := bif_f H1 h11
                    obtain ⟨x12, hx12, H1⟩ := bnd H1
                    rcases Bool.eq_false_or_eq_true (x12 != v1) with h13 | h13
                    ·
                      replace H1 := bif_t H1 h13
                      refine G.rd mixed ?_
                      refine K.move (.inl rfl) (gd0 rfl) rfl rfl ?_
                      refine K.un (V := .bool (!x9.2)) (gd0 rfl) rfl (fun _ => rfl) rfl ?_
                      refine K.move (.inl rfl) (gd0 rfl) rfl rfl ?_
                      refine K.move (.inl rfl) (gd1 rfl rfl rfl (h5)) rfl rfl ?_
                      refine K.un (V := .bool (!x11.2)) (gd1 rfl rfl rfl (h5)) rfl (fun _ => rfl) rfl ?_
                      refine K.pickF (gd0 rfl) rfl (h5) rfl rfl ?_
                      refine K.move (.inl rfl) (gd0 rfl) rfl rfl ?_
                      refine K.loadS Y [_, _] (gd1 rfl rfl rfl (h7)) rfl rfl t35 rfl rfl rfl ?_
                      refine K.move (.inl rfl) (gd1 rfl rfl rfl (h7)) rfl rfl ?_
                      refine K.move (.inl rfl) (gd1 rfl rfl rfl (h7)) rfl rfl ?_
                      refine K.idxL (lrowV 115 35 eTL07Elem 2 x7) ((v1).toNat) (lrowV_is eTL07Elem_len (by decide)) (atL_get hx10) (atL_nn hx10) (gd1 rfl rfl rfl (h7)) rfl rfl rfl Try.underlying61 el61.size_run rfl ?_
                      refine K.loadSL Y (lrowV 115 35 eTL07Elem 2 x7) ((v1).toNat) 0 [_, _] [_, _] (lrowV_is eTL07Elem_len (by decide)) (atL_get hx10) (gd1 rfl rfl rfl (h7)) rfl rfl t35 rfl rfl rfl rfl rfl ?_
                      refine K.eqS [_, _] [_, _] (gd1 rfl rfl rfl (h7)) rfl rfl cmp35 rfl (.inr rfl) (!((x9.1.k == x10.k) && ((x9.1.w == x10.w) && true))) rfl rfl ?_
                      refine K.pickF (gd0 rfl) rfl (h7) rfl rfl ?_
                      refine K.move (.inl rfl) (gd0 rfl) rfl rfl ?_
                      refine K.loadS Y [_, _] (gd1 rfl rfl rfl (h9)) rfl rfl t35 rfl rfl rfl ?_
                      refine K.loadS Y [_, _] (gd1 rfl rfl rfl (h9)) rfl rfl t35 rfl rfl rfl ?_
                      refine K.eqS [_, _] [_, _] (gd1 rfl rfl rfl (h9)) rfl rfl cmp35 rfl (.inr rfl) (!((x11.1.k == x9.1.k) && ((x11.1.w == x9.1.w) && true))) rfl rfl ?_
                      refine K.pickF (gd0 rfl) rfl (h9) rfl rfl ?_
                      refine K.move (.inl rfl) (gd0 rfl) rfl rfl ?_
                      refine K.move (.inl rfl) (gd1 rfl rfl rfl (h11)) rfl rfl ?_
                      refine K.loadS Y [_, _] (gd1 rfl rfl rfl (h11)) rfl rfl t35 rfl rfl rfl ?_
                      refine K.callR [(.func 26, _), ((.tmp 71), _), ((.tmp 72), _)] (Tree_RankE_con (k := k) hx12 113 114) (toFn_func (cf 26 rfl) rfl) (gd1 rfl rfl rfl (h11)) ⟨rfl, rfl, rfl, trivial⟩ ⟨rfl, rfl, trivial⟩ rfl rfl rfl ?_
                      refine K.move (.inl rfl) (gd1 rfl rfl rfl (h11)) rfl rfl ?_
                      refine K.bin (V := .bool (x12 != v1)) (gd1 rfl rfl rfl (h11)) rfl rfl (fun _ => rfl) rfl ?_
                      refine K.pickF (gd0 rfl) rfl (h11) rfl rfl ?_
                      refine K.move (.inl rfl) (gd0 rfl) rfl rfl ?_
                      refine K.skip rfl rfl rfl rfl (h13) rfl ?_
                      refine K.skip rfl rfl rfl rfl (h13) rfl ?_
                      refine K.skip rfl rfl rfl rfl (h13) rfl ?_
                      refine K.skipU rfl rfl rfl rfl rfl ?_
                      refine K.skipU rfl rfl rfl rfl rfl ?_
                      refine K.skipU rfl rfl rfl rfl rfl ?_
                      refine K.skipU rfl rfl rfl rfl rfl ?_
                      refine K.skipU rfl rfl rfl rfl rfl ?_
                      refine K.skipU rfl rfl rfl rfl rfl ?_
                      refine K.skipU rfl rfl rfl rfl rfl ?_
                      refine K.skipU rfl rfl rfl rfl rfl ?_
                      refine K.skipU rfl rfl rfl rfl rfl ?_
                      refine K.skip rfl rfl rfl rfl (h13) rfl ?_
                      refine K.pickT (gd0 rfl) rfl (h13) rfl rfl ?_
                      refine K.nil ?_
                      refine ⟨by kernel_rfl, ?_⟩
                      refine At.next ?_
                      refine G.cond rfl (fun h14 => ?_) (fun h14 => ?_)
                      ·
                        refine G.seq ?_
                        refine G.rg ?_
                        refine K.move (.inr rfl) (gd0 rfl) rfl rfl ?_
                        refine K.nil ?_
                        refine At.next ?_
                        refine G.ret ?_
                        refine At.block_ret ?_
                        refine At.over_ret ?_
                        refine At.over_ret ?_
                        refine At.block_ret ?_
                        refine At.over_ret ?_
                        cases H1
                        replace H0 := sum_l H0
                        refine At.done Y [(.tmp 2, .c _)] rfl ⟨.tmp rfl, trivial⟩ (to' := [(0, _)]) ⟨rfl, trivial⟩ ?_ ?_ rfl rfl rfl (.inl rfl)
                        · cases H0; rfl
                        · cases H0; rfl
                      · cases h14
                    ·
                      replace H1 := bif_f H1 h13
                      rcases Bool.eq_false_or_eq_true (decide (v1 > 0)) with h15 | h15
                      ·
                        replace H1 := bif_t H1 h15
                        obtain ⟨x13, hx13, H1⟩ := bnd H1
                        refine G.rd mixed ?_
                        refine K.move (.inl rfl) (gd0 rfl) rfl rfl ?_
                        refine K.un (V := .bool (!x9.2)) (gd0 rfl) rfl (fun _ => rfl) rfl ?_
                        refine K.move (.inl rfl) (gd0 rfl) rfl rfl ?_
                        refine K.move (.inl rfl) (gd1 rfl rfl rfl (h5)) rfl rfl ?_
                        refine K.un (V := .bool (!x11.2)) (gd1 rfl rfl rfl (h5)) rfl (fun _ => rfl) rfl ?_
                        refine K.pickF (gd0 rfl) rfl (h5) rfl rfl ?_
                        refine K.move (.inl rfl) (gd0 rfl) rfl rfl ?_
                        refine K.loadS Y [_, _] (gd1 rfl rfl rfl (h7)) rfl rfl t35 rfl rfl rfl ?_
                        refine K.move (.inl rfl) (gd1 rfl rfl rfl (h7)) rfl rfl ?_
                        refine K.move (.inl rfl) (gd1 rfl rfl rfl (h7)) rfl rfl ?_
                        refine K.idxL (lrowV 115 35 eTL07Elem 2 x7) ((v1).toNat) (lrowV_is eTL07Elem_len (by decide)) (atL_get hx10) (atL_nn hx10) (gd1 rfl rfl rfl (h7)) rfl rfl rfl Try.underlying61 el61.size_run rfl ?_
                        refine K.loadSL Y (lrowV 115 35 eTL07Elem 2 x7) ((v1).toNat) 0 [_, _] [_, _] (lrowV_is eTL07Elem_len (by decide)) (atL_get hx10) (gd1 rfl rfl rfl (h7)) rfl rfl t35 rfl rfl rfl rfl rfl ?_
                        refine K.eqS [_, _] [_, _] (gd1 rfl rfl rfl (h7)) rfl rfl cmp35 rfl (.inr rfl) (!((x9.1.k == x10.k) && ((x9.1.w == x10.w) && true))) rfl rfl ?_
                        refine K.pickF (gd0 rfl) rfl (h7) rfl rfl ?_
                        refine K.move (.inl rfl) (gd0 rfl) rfl rfl ?_
                        refine K.loadS Y [_, _] (gd1 rfl rfl rfl (h9)) rfl rfl t35 rfl rfl rfl ?_
                        refine K.loadS Y [_, _] (gd1 rfl rfl rfl (h9)) rfl rfl t35 rfl rfl rfl ?_
                        refine K.eqS [_, _] [_, _] (gd1 rfl rfl rfl (h9)) rfl rfl cmp35 rfl (.inr rfl) (!((x11.1.k == x9.1.k) && ((x11.1.w == x9.1.w) && true))) rfl rfl ?_
                        refine K.pickF (gd0 rfl) rfl (h9) rfl rfl ?_
                        refine K.move (.inl rfl) (gd0 rfl) rfl rfl ?_
                        refine K.move (.inl rfl) (gd1 rfl rfl rfl (h11)) rfl rfl ?_
                        refine K.loadS Y [_, _] (gd1 rfl rfl rfl (h11)) rfl rfl t35 rfl rfl rfl ?_
                        refine K.callR [(.func 26, _), ((.tmp 71), _), ((.tmp 72), _)] (Tree_RankE_con (k := k) hx12 113 114) (toFn_func (cf 26 rfl) rfl) (gd1 rfl rfl rfl (h11)) ⟨rfl, rfl, rfl, trivial⟩ ⟨rfl, rfl, trivial⟩ rfl rfl rfl ?_
                        refine K.move (.inl rfl) (gd1 rfl rfl rfl (h11)) rfl rfl ?_
                        refine K.bin (V := .bool (x12 != v1)) (gd1 rfl rfl rfl (h11)) rfl rfl (fun _ => rfl) rfl ?_
                        refine K.pickF (gd0 rfl) rfl (h11) rfl rfl ?_
                        refine K.move (.inl rfl) (gd0 rfl) rfl rfl ?_
                        refine K.move (.inl rfl) (gd1 rfl rfl rfl (h13)) rfl rfl ?_
                        refine K.bin (V := .bool (decide (v1 > 0))) (gd1 rfl rfl rfl (h13)) rfl rfl (fun _ => rfl) rfl ?_
                        refine K.move (.inl rfl) (gd1 rfl rfl rfl (h13)) rfl rfl ?_
                        refine K.move (.inl rfl) (gd1 rfl rfl rfl (h15)) rfl rfl ?_
                        refine K.move (.inl rfl) (gd1 rfl rfl rfl (h15)) rfl rfl ?_
                        refine K.bin (V := .int .i64 (w64 (v1 - 1))) (gd1 rfl rfl rfl (h15)) rfl rfl (fun _ => rfl) rfl ?_
                        refine K.idxL (lrowV 115 35 eTL07Elem 2 x7) (((w64 (v1 - 1))).toNat) (lrowV_is eTL07Elem_len (by decide)) (atL_get hx13) (atL_nn hx13) (gd1 rfl rfl rfl (h15)) rfl rfl rfl Try.underlying61 el61.size_run rfl ?_
                        refine K.fieldL Y (lrowV 115 35 eTL07Elem 2 x7) (((w64 (v1 - 1))).toNat) 0 0 (lrowV_is eTL07Elem_len (by decide)) (atL_get hx13) (gd1 rfl rfl rfl (h15)) rfl rfl t35 rfl rfl rfl rfl ?_
                        refine K.load1L Y (lrowV 115 35 eTL07Elem 2 x7) (((w64 (v1 - 1))).toNat) 0 (lrowV_is eTL07Elem_len (by decide)) (atL_get hx13) (gd1 rfl rfl rfl (h15)) rfl rfl t3 rfl rfl ?_
                        refine K.fieldAddr Y (gd1 rfl rfl rfl (h15)) rfl t35 rfl rfl ?_
                        refine K.load1 Y (gd1 rfl rfl rfl (h15)) rfl rfl t3 rfl rfl ?_
                        refine K.bin (V := .bool (decide (x13.k ≥ x9.1.k))) (gd1 rfl rfl rfl (h15)) rfl rfl (fun _ => rfl) rfl ?_
                        refine K.pickT (gd1 rfl rfl rfl (h13)) rfl (h15) rfl rfl ?_
                        refine K.pickF (gd0 rfl) rfl (h13) rfl rfl ?_
                        refine K.nil ?_
                        refine ⟨by kernel_rfl, ?_⟩
                        refine At.next ?_
                        refine G.cond rfl (fun h16 => ?_) (fun h16 => ?_)
                        ·
                          replace H1 := bif_t H1 h16
                          refine G.seq ?_
                          refine G.rg ?_
                          refine K.move (.inr rfl) (gd0 rfl) rfl rfl ?_
                          refine K.nil ?_
                          refine At.next ?_
                          refine G.ret ?_
                          refine At.block_ret ?_
                          refine At.over_ret ?_
                          refine At.over_ret ?_
                          refine At.block_ret ?_
                          refine At.over_ret ?_
                          cases H1
                          replace H0 := sum_l H0
                          refine At.done Y [(.tmp 2, .c _)] rfl ⟨.tmp rfl, trivial⟩ (to' := [(0, _)]) ⟨rfl, trivial⟩ ?_ ?_ rfl rfl rfl (.inl rfl)
                          · cases H0; rfl
                          · cases H0; rfl
                        ·
                          replace H1 := bif_f H1 h16
                          refine G.skip ?_
                          refine At.block_normal ?_
                          refine At.next ?_
                          refine G.rg ?_
                          refine K.move (.inl rfl) (gd0 rfl) rfl rfl ?_
                          refine K.bin (V := .int .i64 (w64 (v1 + 1))) (gd0 rfl) rfl rfl (fun _ => rfl) rfl ?_
                          refine K.move (.inr rfl) (gd0 rfl) rfl rfl ?_
                          refine K.nil ?_
                          exact At.again (σ := { q : Nat × (Int) // Lw07_GroveOrder.l0 k x6 x7 q.1 q.2 = some x8 }) (Fs := fun q => [(3, .a (.c (.p 113 0))), (5, .a (.c (.v (.bool x6.2.2.2)))), (6, .a (.c (.nv 115))), (7, .a (.c (.v (.int .i64 q.1.2))))]) (Tl := fun q => [(0, rd S W0), (114, plE 114 x6.2.1), (113, blk 113 [.p 114 0, .v (.int .i64 x6.1.index), .v (.int .i64 x6.1.gen)] 101), (115, lrow 115 35 eTL07Elem 2 x7)]) (μ := fun q => q.1.1) (s := ⟨(n0 + 1, v1), HL0⟩) ⟨(n0, (w64 (v1 + 1))), H1⟩ [] [_, _, _, _] (Nat.lt_succ_self _) rfl ⟨rfl, rfl, rfl, rfl, trivial⟩ ⟨rfl, (fun _ => rfl), rfl, (pl_ren rfl), rfl, (blk_ren rfl rfl), rfl, (lrow_ren rfl), trivial⟩ rfl
                      ·
                        replace H1 := bif_f H1 h15
                        refine G.rd mixed ?_
                        refine K.move (.inl rfl) (gd0 rfl) rfl rfl ?_
                        refine K.un (V := .bool (!x9.2)) (gd0 rfl) rfl (fun _ => rfl) rfl ?_
                        refine K.move (.inl rfl) (gd0 rfl) rfl rfl ?_
                        refine K.move (.inl rfl) (gd1 rfl rfl rfl (h5)) rfl rfl ?_
                        refine K.un (V := .bool (!x11.2)) (gd1 rfl rfl rfl (h5)) rfl (fun _ => rfl) rfl ?_
                        refine K.pickF (gd0 rfl) rfl (h5) rfl rfl ?_
                        refine K.move (.inl rfl) (gd0 rfl) rfl rfl ?_
                        refine K.loadS Y [_, _] (gd1 rfl rfl rfl (h7)) rfl rfl t35 rfl rfl rfl ?_
                        refine K.move (.inl rfl) (gd1 rfl rfl rfl (h7)) rfl rfl ?_
                        refine K.move (.inl rfl) (gd1 rfl rfl rfl (h7)) rfl rfl ?_
                        refine K.idxL (lrowV 115 35 eTL07Elem 2 x7) ((v1).toNat) (lrowV_is eTL07Elem_len (by decide)) (atL_get hx10) (atL_nn hx10) (gd1 rfl rfl rfl (h7)) rfl rfl rfl Try.underlying61 el61.size_run rfl ?_
                        refine K.loadSL Y (lrowV 115 35 eTL07Elem 2 x7) ((v1).toNat) 0 [_, _] [_, _] (lrowV_is eTL07Elem_len (by decide)) (atL_get hx10) (gd1 rfl rfl rfl (h7)) rfl rfl t35 rfl rfl rfl rfl rfl ?_
                        refine K.eqS [_, _] [_, _] (gd1 rfl rfl rfl (h7)) rfl rfl cmp35 rfl (.inr rfl) (!((x9.1.k == x10.k) && ((x9.1.w == x10.w) && true))) rfl rfl ?_
                        refine K.pickF (gd0 rfl) rfl (h7) rfl rfl ?_
                        refine K.move (.inl rfl) (gd0 rfl) rfl rfl ?_
                        refine K.loadS Y [_, _] (gd1 rfl rfl rfl (h9)) rfl rfl t35 rfl rfl rfl ?_
                        refine K.loadS Y [_, _] (gd1 rfl rfl rfl (h9)) rfl rfl t35 rfl rfl rfl ?_
                        refine K.eqS [_, _] [_, _] (gd1 rfl rfl rfl (h9)) rfl rfl cmp35 rfl (.inr rfl) (!((x11.1.k == x9.1.k) && ((x11.1.w == x9.1.w) && true))) rfl rfl ?_
                        refine K.pickF (gd0 rfl) rfl (h9) rfl rfl ?_
                        refine K.move (.inl rfl) (gd0 rfl) rfl rfl ?_
                        refine K.move (.inl rfl) (gd1 rfl rfl rfl (h11)) rfl rfl ?_
                        refine K.loadS Y [_, _] (gd1 rfl rfl rfl (h11)) rfl rfl t35 rfl rfl rfl ?_
                        refine K.callR [(.func 26, _), ((.tmp 71), _), ((.tmp 72), _)] (Tree_RankE_con (k := k) hx12 113 114) (toFn_func (cf 26 rfl) rfl) (gd1 rfl rfl rfl (h11)) ⟨rfl, rfl, rfl, trivial⟩ ⟨rfl, rfl, trivial⟩ rfl rfl rfl ?_
                        refine K.move (.inl rfl) (gd1 rfl rfl rfl (h11)) rfl rfl ?_
                        refine K.bin (V := .bool (x12 != v1)) (gd1 rfl rfl rfl (h11)) rfl rfl (fun _ => rfl) rfl ?_
                        refine K.pickF (gd0 rfl) rfl (h11) rfl rfl ?_
                        refine K.move (.inl rfl) (gd0 rfl) rfl rfl ?_
                        refine K.move (.inl rfl) (gd1 rfl rfl rfl (h13)) rfl rfl ?_
                        refine K.bin (V := .bool (decide (v1 > 0))) (gd1 rfl rfl rfl (h13)) rfl rfl (fun _ => rfl) rfl ?_
                        refine K.move (.inl rfl) (gd1 rfl rfl rfl (h13)) rfl rfl ?_
                        refine K.skip rfl rfl rfl rfl (h15) rfl ?_
                        refine K.skip rfl rfl rfl rfl (h15) rfl ?_
                        refine K.skip rfl rfl rfl rfl (h15) rfl ?_
                        refine K.skip rfl rfl rfl rfl (h15) rfl ?_
                        refine K.skip rfl rfl rfl rfl (h15) rfl ?_
                        refine K.skip rfl rfl rfl rfl (h15) rfl ?_
                        refine K.skip rfl rfl rfl rfl (h15) rfl ?_
                        refine K.skip rfl rfl rfl rfl (h15) rfl ?_
                        refine K.skip rfl rfl rfl rfl (h15) rfl ?_
                        refine K.pickF (gd1 rfl rfl rfl (h13)) rfl (h15) rfl rfl ?_
                        refine K.pickF (gd0 rfl) rfl (h13) rfl rfl ?_
                        refine K.nil ?_
                        refine ⟨by kernel_rfl, ?_⟩
                        refine At.next ?_
                        refine G.cond rfl (fun h17 => ?_) (fun h17 => ?_)
                        · cases h17
                        ·
                          refine G.skip ?_
                          refine At.block_normal ?_
                          refine At.next ?_
                          refine G.rg ?_
                          refine K.move (.inl rfl) (gd0 rfl) rfl rfl ?_
                          refine K.bin (V := .int .i64 (w64 (v1 + 1))) (gd0 rfl) rfl rfl (fun _ => rfl) rfl ?_
                          refine K.move (.inr rfl) (gd0 rfl) rfl rfl ?_
                          refine K.nil ?_
                          exact At.again (σ := { q : Nat × (Int) // Lw07_GroveOrder.l0 k x6 x7 q.1 q.2 = some x8 }) (Fs := fun q => [(3, .a (.c (.p 113 0))), (5, .a (.c (.v (.bool x6.2.2.2)))), (6, .a (.c (.nv 115))), (7, .a (.c (.v (.int .i64 q.1.2))))]) (Tl := fun q => [(0, rd S W0), (114, plE 114 x6.2.1), (113, blk 113 [.p 114 0, .v (.int .i64 x6.1.index), .v (.int .i64 x6.1.gen)] 101), (115, lrow 115 35 eTL07Elem 2 x7)]) (μ := fun q => q.1.1) (s := ⟨(n0 + 1, v1), HL0⟩) ⟨(n0, (w64 (v1 + 1))), H1⟩ [] [_, _, _, _] (Nat.lt_succ_self _) rfl ⟨rfl, rfl, rfl, rfl, trivial⟩ ⟨rfl, (fun _ => rfl), rfl, (pl_ren rfl), rfl, (blk_ren rfl rfl), rfl, (lrow_ren rfl), trivial⟩ rfl
          ·
            replace H1 := bif_f H1 h4
            refine G.exit ?_
            refine At.over_exit ?_
            refine At.over_exit ?_
            refine At.block_hit ?_
            exact At.joined (σ := { v : Unit // x8 = Sum.inr v }) (Fs := fun q => [(3, .a (.c (.p 104 0))), (5, .a (.c (.v (.bool x6.2.2.2)))), (6, .a (.c (.nv 106)))]) (Tl := fun q => [(0, rd S W0), (105, plE 105 x6.2.1), (104, blk 104 [.p 105 0, .v (.int .i64 x6.1.index), .v (.int .i64 x6.1.gen)] 101), (106, lrow 106 35 eTL07Elem 2 x7)]) ⟨(), (Option.some.inj H1).symm⟩ [(104, 113), (105, 114), (106, 115)] [_, _, _, _] rfl ⟨rfl, rfl, rfl, trivial⟩ ⟨rfl, (fun _ => rfl), rfl, (pl_ren rfl), rfl, (blk_ren rfl rfl), rfl, (lrow_ren rfl), trivial⟩ rfl
    ·
      rintro ⟨v8, rfl⟩
      replace H0 := sum_r H0
      show G _ _ [(3, .a (.c (.p 104 0))), (5, .a (.c (.v (.bool x6.2.2.2)))), (6, .a (.c (.nv 106)))] [(0, some (rd S W0)), (105, some (plE 105 x6.2.1)), (104, some (blk 104 [.p 105 0, .v (.int .i64 x6.1.index), .v (.int .i64 x6.1.gen)] 101)), (106, some (lrow 106 35 eTL07Elem 2 x7))] _ _
      refine G.seq ?_
      rcases Bool.eq_false_or_eq_true x6.2.2.2 with h18 | h18
      ·
        replace H0 := bif_t H0 h18
        obtain ⟨x14, hx14, H0⟩ := bnd H0
        rcases Bool.eq_false_or_eq_true (x14 == (x7.length : Int)) with h19 | h19
        ·
          replace H0 := bif_t H0 h19
          obtain ⟨x15, hx15, H0⟩ := bnd H0
          refine G.rg ?_
          refine K.move (.inl rfl) (gd0 rfl) rfl rfl ?_
          refine K.move (.inl rfl) (gd0 rfl) rfl rfl ?_
          refine K.move (.inl rfl) (gd1 rfl rfl rfl (h18)) rfl rfl ?_
          refine K.callR [(.func 20, _), ((.tmp 94), _)] (Tree_LenE_con (k := k) hx14 104 105) (toFn_func (cf 20 rfl) rfl) (gd1 rfl rfl rfl (h18)) ⟨rfl, rfl, trivial⟩ ⟨rfl, rfl, trivial⟩ rfl rfl rfl ?_
          refine K.move (.inl rfl) (gd1 rfl rfl rfl (h18)) rfl rfl ?_
          refine K.lenL (lrowV 106 35 eTL07Elem 2 x7) (lrowV_is eTL07Elem_len (by decide)) (gd1 rfl rfl rfl (h18)) rfl rfl Try.underlying61 rfl ?_
          refine K.bin (V := .bool (x14 == (x7.length : Int))) (gd1 rfl rfl rfl (h18)) rfl rfl (fun _ => rfl) rfl ?_
          refine K.pickT (gd0 rfl) rfl (h18) rfl rfl ?_
          refine K.move (.inl rfl) (gd0 rfl) rfl rfl ?_
          refine K.move (.inl rfl) (gd1 rfl rfl rfl (h19)) rfl rfl ?_
          refine K.move (.inl rfl) (gd1 rfl rfl rfl (h19)) rfl rfl ?_
          refine K.lenL (lrowV 106 35 eTL07Elem 2 x7) (lrowV_is eTL07Elem_len (by decide)) (gd1 rfl rfl rfl (h19)) rfl rfl Try.underlying61 rfl ?_
          refine K.callR [(.func 15, _), ((.tmp 101), _), (_, _), ((.tmp 103), _)] (Tree_BetweenE_con (k := k) hx15 104 105) (toFn_func (cf 15 rfl) rfl) (gd1 rfl rfl rfl (h19)) ⟨rfl, rfl, rfl, rfl, trivial⟩ ⟨rfl, rfl, trivial⟩ rfl rfl rfl ?_
          refine K.field1 Y (gd1 rfl rfl rfl (h19)) rfl t32 rfl t3 rfl rfl ?_
          refine K.move (.inl rfl) (gd1 rfl rfl rfl (h19)) rfl rfl ?_
          refine K.lenL (lrowV 106 35 eTL07Elem 2 x7) (lrowV_is eTL07Elem_len (by decide)) (gd1 rfl rfl rfl (h19)) rfl rfl Try.underlying61 rfl ?_
          refine K.bin (V := .bool (x15.n == (x7.length : Int))) (gd1 rfl rfl rfl (h19)) rfl rfl (fun _ => rfl) rfl ?_
          refine K.pickT (gd0 rfl) rfl (h19) rfl rfl ?_
          refine K.move (.inr rfl) (gd0 rfl) rfl rfl ?_
          refine K.nil ?_
          refine At.next ?_
          refine G.ret ?_
          refine At.done Y [(.tmp 2, .c _)] rfl ⟨.tmp rfl, trivial⟩ (to' := [(0, _)]) ⟨rfl, trivial⟩ ?_ ?_ rfl rfl rfl (.inl rfl)
          · cases H0; rfl
          · cases H0; rfl
        ·
          replace H0 := bif_f H0 h19
          refine G.rg ?_
          refine K.move (.inl rfl) (gd0 rfl) rfl rfl ?_
          refine K.move (.inl rfl) (gd0 rfl) rfl rfl ?_
          refine K.move (.inl rfl) (gd1 rfl rfl rfl (h18)) rfl rfl ?_
          refine K.callR [(.func 20, _), ((.tmp 94), _)] (Tree_LenE_con (k := k) hx14 104 105) (toFn_func (cf 20 rfl) rfl) (gd1 rfl rfl rfl (h18)) ⟨rfl, rfl, trivial⟩ ⟨rfl, rfl, trivial⟩ rfl rfl rfl ?_
          refine K.move (.inl rfl) (gd1 rfl rfl rfl (h18)) rfl rfl ?_
          refine K.lenL (lrowV 106 35 eTL07Elem 2 x7) (lrowV_is eTL07Elem_len (by decide)) (gd1 rfl rfl rfl (h18)) rfl rfl Try.underlying61 rfl ?_
          refine K.bin (V := .bool (x14 == (x7.length : Int))) (gd1 rfl rfl rfl (h18)) rfl rfl (fun _ => rfl) rfl ?_
          refine K.pickT (gd0 rfl) rfl (h18) rfl rfl ?_
          refine K.move (.inl rfl) (gd0 rfl) rfl rfl ?_
          refine K.skip rfl rfl rfl rfl (h19) rfl ?_
          refine K.skip rfl rfl rfl rfl (h19) rfl ?_
          refine K.skip rfl rfl rfl rfl (h19) rfl ?_
          refine K.skip rfl rfl rfl rfl (h19) rfl ?_
          refine K.skip rfl rfl rfl rfl (h19) rfl ?_
          refine K.skip rfl rfl rfl rfl (h19) rfl ?_
          refine K.skip rfl rfl rfl rfl (h19) rfl ?_
          refine K.skip rfl rfl rfl rfl (h19) rfl ?_
          refine K.pickF (gd0 rfl) rfl (h19) rfl rfl ?_
          refine K.move (.inr rfl) (gd0 rfl) rfl rfl ?_
          refine K.nil ?_
          refine At.next ?_
          refine G.ret ?_
          refine At.done Y [(.tmp 2, .c _)] rfl ⟨.tmp rfl, trivial⟩ (to' := [(0, _)]) ⟨rfl, trivial⟩ ?_ ?_ rfl rfl rfl (.inl rfl)
          · cases H0; rfl
          · cases H0; rfl
      ·
        replace H0 := bif_f H0 h18
        refine G.rg ?_
        refine K.move (.inl rfl) (gd0 rfl) rfl rfl ?_
        refine K.move (.inl rfl) (gd0 rfl) rfl rfl ?_
        refine K.skip rfl rfl rfl rfl (h18) rfl ?_
        refine K.skip rfl rfl rfl rfl (h18) rfl ?_
        refine K.skip rfl rfl rfl rfl (h18) rfl ?_
        refine K.skip rfl rfl rfl rfl (h18) rfl ?_
        refine K.skip rfl rfl rfl rfl (h18) rfl ?_
        refine K.pickF (gd0 rfl) rfl (h18) rfl rfl ?_
        refine K.move (.inl rfl) (gd0 rfl) rfl rfl ?_
        refine K.skip rfl rfl rfl rfl (rfl) rfl ?_
        refine K.skip rfl rfl rfl rfl (rfl) rfl ?_
        refine K.skip rfl rfl rfl rfl (rfl) rfl ?_
        refine K.skip rfl rfl rfl rfl (rfl) rfl ?_
        refine K.skip rfl rfl rfl rfl (rfl) rfl ?_
        refine K.skip rfl rfl rfl rfl (rfl) rfl ?_
        refine K.skip rfl rfl rfl rfl (rfl) rfl ?_
        refine K.skip rfl rfl rfl rfl (rfl) rfl ?_
        refine K.pickF (gd0 rfl) rfl (rfl) rfl rfl ?_
        refine K.move (.inr rfl) (gd0 rfl) rfl rfl ?_
        refine K.nil ?_
        refine At.next ?_
        refine G.ret ?_
        refine At.done Y [(.tmp 2, .c _)] rfl ⟨.tmp rfl, trivial⟩ (to' := [(0, _)]) ⟨rfl, trivial⟩ ?_ ?_ rfl rfl rfl (.inl rfl)
        · cases H0; rfl
        · cases H0; rfl
theorem Lw07_GroveOrder_con {k : Nat}  {S : Foot} {W0 : World} {s0 : Value} {l0 : List TL07Act} {r : Bool} (hL0 : LArg S W0 s0 eTL07Act 3 l0) (H0 : Lw07_GroveOrder.f k l0 = some r) : SCon Try.prog 7 [SV.raw s0] [(0, rd S W0)] (.a (.c (.v (.bool r)))) [(0, rd S W0)] [] :=
  SCon.ren (rn []) (Lw07_GroveOrder_con0 (k := k)  hL0 H0) ⟨(fun _ => rfl), trivial⟩ ⟨(fun _ => rfl), trivial⟩ (by simp) (by simp)
end Go.Proofs.Ytjokolmijhhinaa


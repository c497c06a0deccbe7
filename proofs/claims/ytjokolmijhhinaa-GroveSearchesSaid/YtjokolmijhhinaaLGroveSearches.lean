/- A law's walk. Printed by a program of mine. -/
import Derived.KernelRfl
import Derived.Test.YtjokolmijhhinaaMx
namespace Go.Proofs.Ytjokolmijhhinaa
open Go Go.Proofs.Ytjokolmijhhinaa.Sx
set_option linter.unusedVariables false
set_option linter.unusedSimpArgs false
theorem Lw07_GroveSearches_con0 {k : Nat}  {S : Foot} {W0 : World} {s0 : Value} {l0 : List TL07Act} {a1 : Int} {a2 : Int} {r : Bool} (hL0 : LArg S W0 s0 eTL07Act 3 l0) (H0 : Lw07_GroveSearches.f k l0 a1 a2 = some r) : SCon Try.prog 5 [SV.raw s0, .a (.c (.v (.int .i64 a1))), .a (.c (.v (.int .i64 a2)))] [(0, rd S W0)] (.a (.c (.v (.bool r)))) [(0, rd S W0)] [] := by
  rw [Lw07_GroveSearches.f] at H0
  obtain ⟨b0, o0, hI0⟩ := hL0
  refine spec_of [(0, _), (1, _), (2, _)] [(0, _)] 75 Try.func5 rfl Try.ntmps5 rfl rfl rfl rfl (fun β W F => ?_)
  refine G.seq ?_
  refine G.rg ?_
  refine K.box Y 100 [_] (gd0 rfl) rfl rfl rfl rfl rfl rfl ?_
  refine K.move (.inr rfl) (gd0 rfl) rfl rfl ?_
  refine K.nil ?_
  refine At.next ?_
  obtain ⟨x1, H1, H0⟩ := bnd H0
  refine G.seqJ (σ := { v : Unit // x1 = Sum.inr v }) (fun q => [(0, SV.raw s0), (1, .a (.c (.v (.int .i64 a1)))), (5, .a (.c (.p 101 0)))]) (fun q => [(0, rd S W0), (101, blk 101 [.v (.int .i64 a2)] 3)]) ?_ ?_
  ·
    refine G.seq ?_
    obtain ⟨x2, hx2, H1⟩ := bnd H1
    rcases Bool.eq_false_or_eq_true (!x2) with h1 | h1
    ·
      replace H1 := bif_t H1 h1
      refine G.rg ?_
      refine K.callR [(.func 11, _)] (Lw07_awake_con (k := k) hx2) (toFn_func (cf 11 rfl) rfl) (gd0 rfl) ⟨rfl, trivial⟩ trivial rfl rfl rfl ?_
      refine K.un (V := .bool (!x2)) (gd0 rfl) rfl (fun _ => rfl) rfl ?_
      refine K.move (.inl rfl) (gd0 rfl) rfl rfl ?_
      refine K.skip rfl rfl rfl rfl (h1) rfl ?_
      refine K.skip rfl rfl rfl rfl (h1) rfl ?_
      refine K.skip rfl rfl rfl rfl (h1) rfl ?_
      refine K.pickT (gd0 rfl) rfl (h1) rfl rfl ?_
      refine K.move (.inl rfl) (gd0 rfl) rfl rfl ?_
      refine K.skip rfl rfl rfl rfl (rfl) rfl ?_
      refine K.skip rfl rfl rfl rfl (rfl) rfl ?_
      refine K.pickT (gd0 rfl) rfl (rfl) rfl rfl ?_
      refine K.move (.inl rfl) (gd0 rfl) rfl rfl ?_
      refine K.skip rfl rfl rfl rfl (rfl) rfl ?_
      refine K.skip rfl rfl rfl rfl (rfl) rfl ?_
      refine K.pickT (gd0 rfl) rfl (rfl) rfl rfl ?_
      refine K.nil ?_
      refine At.next ?_
      refine G.cond rfl (fun h2 => ?_) (fun h2 => ?_)
      ·
        refine G.seq ?_
        obtain ⟨x3, hx3, H1⟩ := bnd H1
        refine G.rg ?_
        refine K.callR [(.func 11, _)] (Lw07_awake_con (k := k) hx3) (toFn_func (cf 11 rfl) rfl) (gd0 rfl) ⟨rfl, trivial⟩ trivial rfl rfl rfl ?_
        refine K.move (.inr rfl) (gd0 rfl) rfl rfl ?_
        refine K.nil ?_
        refine At.next ?_
        refine G.ret ?_
        refine At.over_ret ?_
        cases H1
        replace H0 := sum_l H0
        refine At.done Y [(.tmp 6, .c _)] rfl ⟨.tmp rfl, trivial⟩ (to' := [(0, _)]) ⟨rfl, trivial⟩ ?_ ?_ rfl rfl rfl (.inl rfl)
        · cases H0; rfl
        · cases H0; rfl
      · cases h2
    ·
      replace H1 := bif_f H1 h1
      obtain ⟨x4, hx4, H1⟩ := bnd H1
      rcases Bool.eq_false_or_eq_true (!x4) with h3 | h3
      ·
        replace H1 := bif_t H1 h3
        refine G.rg ?_
        refine K.callR [(.func 11, _)] (Lw07_awake_con (k := k) hx2) (toFn_func (cf 11 rfl) rfl) (gd0 rfl) ⟨rfl, trivial⟩ trivial rfl rfl rfl ?_
        refine K.un (V := .bool (!x2)) (gd0 rfl) rfl (fun _ => rfl) rfl ?_
        refine K.move (.inl rfl) (gd0 rfl) rfl rfl ?_
        refine K.move (.inl rfl) (gd1 rfl rfl rfl (h1)) rfl rfl ?_
        refine K.callV [(.func 12, _), ((.tmp 17), _), (_, _)] [(0, rd S W0)] [] [] (fun β => [SV.raw s0, .a (.c (.v (.int .i64 60)))]) (fun β w S2 h => Lw07_small_con (k := k) ((hI0.isC 0).larg ⟨_, List.mem_cons_self⟩ h) hx4) (toFn_func (cf 12 rfl) rfl) (gd1 rfl rfl rfl (h1)) ⟨rfl, rfl, rfl, trivial⟩ (fun _ => rfl) ⟨rfl, trivial⟩ rfl rfl rfl rfl rfl rfl ?_
        refine K.un (V := .bool (!x4)) (gd1 rfl rfl rfl (h1)) rfl (fun _ => rfl) rfl ?_
        refine K.pickF (gd0 rfl) rfl (h1) rfl rfl ?_
        refine K.move (.inl rfl) (gd0 rfl) rfl rfl ?_
        refine K.skip rfl rfl rfl rfl (h3) rfl ?_
        refine K.skip rfl rfl rfl rfl (h3) rfl ?_
        refine K.pickT (gd0 rfl) rfl (h3) rfl rfl ?_
        refine K.move (.inl rfl) (gd0 rfl) rfl rfl ?_
        refine K.skip rfl rfl rfl rfl (rfl) rfl ?_
        refine K.skip rfl rfl rfl rfl (rfl) rfl ?_
        refine K.pickT (gd0 rfl) rfl (rfl) rfl rfl ?_
        refine K.nil ?_
        refine At.next ?_
        refine G.cond rfl (fun h4 => ?_) (fun h4 => ?_)
        ·
          refine G.seq ?_
          obtain ⟨x5, hx5, H1⟩ := bnd H1
          refine G.rg ?_
          refine K.callR [(.func 11, _)] (Lw07_awake_con (k := k) hx5) (toFn_func (cf 11 rfl) rfl) (gd0 rfl) ⟨rfl, trivial⟩ trivial rfl rfl rfl ?_
          refine K.move (.inr rfl) (gd0 rfl) rfl rfl ?_
          refine K.nil ?_
          refine At.next ?_
          refine G.ret ?_
          refine At.over_ret ?_
          cases H1
          replace H0 := sum_l H0
          refine At.done Y [(.tmp 6, .c _)] rfl ⟨.tmp rfl, trivial⟩ (to' := [(0, _)]) ⟨rfl, trivial⟩ ?_ ?_ rfl rfl rfl (.inl rfl)
          · cases H0; rfl
          · cases H0; rfl
        · cases h4
      ·
        replace H1 := bif_f H1 h3
        rcases Bool.eq_false_or_eq_true (decide (a2 < (-1000000000))) with h5 | h5
        ·
          replace H1 := bif_t H1 h5
          refine G.rg ?_
          refine K.callR [(.func 11, _)] (Lw07_awake_con (k := k) hx2) (toFn_func (cf 11 rfl) rfl) (gd0 rfl) ⟨rfl, trivial⟩ trivial rfl rfl rfl ?_
          refine K.un (V := .bool (!x2)) (gd0 rfl) rfl (fun _ => rfl) rfl ?_
          refine K.move (.inl rfl) (gd0 rfl) rfl rfl ?_
          refine K.move (.inl rfl) (gd1 rfl rfl rfl (h1)) rfl rfl ?_
          refine K.callV [(.func 12, _), ((.tmp 17), _), (_, _)] [(0, rd S W0)] [] [] (fun β => [SV.raw s0, .a (.c (.v (.int .i64 60)))]) (fun β w S2 h => Lw07_small_con (k := k) ((hI0.isC 0).larg ⟨_, List.mem_cons_self⟩ h) hx4) (toFn_func (cf 12 rfl) rfl) (gd1 rfl rfl rfl (h1)) ⟨rfl, rfl, rfl, trivial⟩ (fun _ => rfl) ⟨rfl, trivial⟩ rfl rfl rfl rfl rfl rfl ?_
          refine K.un (V := .bool (!x4)) (gd1 rfl rfl rfl (h1)) rfl (fun _ => rfl) rfl ?_
          refine K.pickF (gd0 rfl) rfl (h1) rfl rfl ?_
          refine K.move (.inl rfl) (gd0 rfl) rfl rfl ?_
          refine K.load1 Y (gd1 rfl rfl rfl (h3)) rfl rfl t3 rfl rfl ?_
          refine K.bin (V := .bool (decide (a2 < (-1000000000)))) (gd1 rfl rfl rfl (h3)) rfl rfl (fun _ => rfl) rfl ?_
          refine K.pickF (gd0 rfl) rfl (h3) rfl rfl ?_
          refine K.move (.inl rfl) (gd0 rfl) rfl rfl ?_
          refine K.skip rfl rfl rfl rfl (h5) rfl ?_
          refine K.skip rfl rfl rfl rfl (h5) rfl ?_
          refine K.pickT (gd0 rfl) rfl (h5) rfl rfl ?_
          refine K.nil ?_
          refine At.next ?_
          refine G.cond rfl (fun h6 => ?_) (fun h6 => ?_)
          ·
            refine G.seq ?_
            obtain ⟨x6, hx6, H1⟩ := bnd H1
            refine G.rg ?_
            refine K.callR [(.func 11, _)] (Lw07_awake_con (k := k) hx6) (toFn_func (cf 11 rfl) rfl) (gd0 rfl) ⟨rfl, trivial⟩ trivial rfl rfl rfl ?_
            refine K.move (.inr rfl) (gd0 rfl) rfl rfl ?_
            refine K.nil ?_
            refine At.next ?_
            refine G.ret ?_
            refine At.over_ret ?_
            cases H1
            replace H0 := sum_l H0
            refine At.done Y [(.tmp 6, .c _)] rfl ⟨.tmp rfl, trivial⟩ (to' := [(0, _)]) ⟨rfl, trivial⟩ ?_ ?_ rfl rfl rfl (.inl rfl)
            · cases H0; rfl
            · cases H0; rfl
          · cases h6
        ·
          replace H1 := bif_f H1 h5
          refine G.rg ?_
          refine K.callR [(.func 11, _)] (Lw07_awake_con (k := k) hx2) (toFn_func (cf 11 rfl) rfl) (gd0 rfl) ⟨rfl, trivial⟩ trivial rfl rfl rfl ?_
          refine K.un (V := .bool (!x2)) (gd0 rfl) rfl (fun _ => rfl) rfl ?_
          refine K.move (.inl rfl) (gd0 rfl) rfl rfl ?_
          refine K.move (.inl rfl) (gd1 rfl rfl rfl (h1)) rfl rfl ?_
          refine K.callV [(.func 12, _), ((.tmp 17), _), (_, _)] [(0, rd S W0)] [] [] (fun β => [SV.raw s0, .a (.c (.v (.int .i64 60)))]) (fun β w S2 h => Lw07_small_con (k := k) ((hI0.isC 0).larg ⟨_, List.mem_cons_self⟩ h) hx4) (toFn_func (cf 12 rfl) rfl) (gd1 rfl rfl rfl (h1)) ⟨rfl, rfl, rfl, trivial⟩ (fun _ => rfl) ⟨rfl, trivial⟩ rfl rfl rfl rfl rfl rfl ?_
          refine K.un (V := .bool (!x4)) (gd1 rfl rfl rfl (h1)) rfl (fun _ => rfl) rfl ?_
          refine K.pickF (gd0 rfl) rfl (h1) rfl rfl ?_
          refine K.move (.inl rfl) (gd0 rfl) rfl rfl ?_
          refine K.load1 Y (gd1 rfl rfl rfl (h3)) rfl rfl t3 rfl rfl ?_
          refine K.bin (V := .bool (decide (a2 < (-1000000000)))) (gd1 rfl rfl rfl (h3)) rfl rfl (fun _ => rfl) rfl ?_
          refine K.pickF (gd0 rfl) rfl (h3) rfl rfl ?_
          refine K.move (.inl rfl) (gd0 rfl) rfl rfl ?_
          refine K.load1 Y (gd1 rfl rfl rfl (h5)) rfl rfl t3 rfl rfl ?_
          refine K.bin (V := .bool (decide (a2 > 1000000000))) (gd1 rfl rfl rfl (h5)) rfl rfl (fun _ => rfl) rfl ?_
          refine K.pickF (gd0 rfl) rfl (h5) rfl rfl ?_
          refine K.nil ?_
          refine At.next ?_
          refine G.cond rfl (fun h7 => ?_) (fun h7 => ?_)
          ·
            replace H1 := bif_t H1 h7
            refine G.seq ?_
            obtain ⟨x7, hx7, H1⟩ := bnd H1
            refine G.rg ?_
            refine K.callR [(.func 11, _)] (Lw07_awake_con (k := k) hx7) (toFn_func (cf 11 rfl) rfl) (gd0 rfl) ⟨rfl, trivial⟩ trivial rfl rfl rfl ?_
            refine K.move (.inr rfl) (gd0 rfl) rfl rfl ?_
            refine K.nil ?_
            refine At.next ?_
            refine G.ret ?_
            refine At.over_ret ?_
            cases H1
            replace H0 := sum_l H0
            refine At.done Y [(.tmp 6, .c _)] rfl ⟨.tmp rfl, trivial⟩ (to' := [(0, _)]) ⟨rfl, trivial⟩ ?_ ?_ rfl rfl rfl (.inl rfl)
            · cases H0; rfl
            · cases H0; rfl
          ·
            replace H1 := bif_f H1 h7
            refine G.skip ?_
            exact At.joined (σ := { v : Unit // x1 = Sum.inr v }) (Fs := fun q => [(0, SV.raw s0), (1, .a (.c (.v (.int .i64 a1)))), (5, .a (.c (.p 101 0)))]) (Tl := fun q => [(0, rd S W0), (101, blk 101 [.v (.int .i64 a2)] 3)]) ⟨(), (Option.some.inj H1).symm⟩ [(101, 100)] [_, _] rfl ⟨rfl, rfl, rfl, trivial⟩ ⟨rfl, (fun _ => rfl), rfl, (blk_ren rfl rfl), trivial⟩ rfl
  ·
    rintro ⟨v1, rfl⟩
    replace H0 := sum_r H0
    show G _ _ [(0, SV.raw s0), (1, .a (.c (.v (.int .i64 a1)))), (5, .a (.c (.p 101 0)))] [(0, some (rd S W0)), (101, some (blk 101 [.v (.int .i64 a2)] 3))] _ _
    refine G.seq ?_
    obtain ⟨x8, hx8, H0⟩ := bnd H0
    refine G.rg ?_
    refine K.move (.inl rfl) (gd0 rfl) rfl rfl ?_
    refine K.callV [(.func 13, _), ((.tmp 31), _), (_, _)] [(0, rd S W0)] [] [(102, _), (103, _), (104, _)] (fun β => [SV.raw s0, .a (.c (.v (.int .i64 50)))]) (fun β w S2 h => Lw07_made_con (k := k) ((hI0.isC 0).larg ⟨_, List.mem_cons_self⟩ h) hx8 102 103 104 rfl) (toFn_func (cf 13 rfl) rfl) (gd0 rfl) ⟨rfl, rfl, rfl, trivial⟩ (fun _ => rfl) ⟨rfl, trivial⟩ rfl rfl rfl rfl rfl rfl ?_
    refine K.move (.inl rfl) (gd0 rfl) rfl rfl ?_
    refine K.extract (gd0 rfl) rfl rfl rfl ?_
    refine K.extract (gd0 rfl) rfl rfl rfl ?_
    refine K.extract (gd0 rfl) rfl rfl rfl ?_
    refine K.move (.inr rfl) (gd0 rfl) rfl rfl ?_
    refine K.move (.inr rfl) (gd0 rfl) rfl rfl ?_
    refine K.move (.inr rfl) (gd0 rfl) rfl rfl ?_
    refine K.nil ?_
    refine At.next ?_
    refine G.seq ?_
    refine G.seq ?_
    refine G.rg ?_
    refine K.move (.inl rfl) (gd0 rfl) rfl rfl ?_
    refine K.un (V := .bool (!x8.2.2.2)) (gd0 rfl) rfl (fun _ => rfl) rfl ?_
    refine K.nil ?_
    refine At.next ?_
    refine G.cond rfl (fun h8 => ?_) (fun h8 => ?_)
    ·
      replace H0 := bif_t H0 h8
      refine G.seq ?_
      refine G.rg ?_
      refine K.move (.inr rfl) (gd0 rfl) rfl rfl ?_
      refine K.nil ?_
      refine At.next ?_
      refine G.ret ?_
      refine At.over_ret ?_
      refine At.done Y [(.tmp 6, .c _)] rfl ⟨.tmp rfl, trivial⟩ (to' := [(0, _)]) ⟨rfl, trivial⟩ ?_ ?_ rfl rfl rfl (.inl rfl)
      · cases H0; rfl
      · cases H0; rfl
    ·
      replace H0 := bif_f H0 h8
      refine G.skip ?_
      refine At.next ?_
      refine G.seq ?_
      refine G.rg ?_
      refine K.mkFn1 (gd0 rfl) rfl rfl ?_
      refine K.move (.inr rfl) (gd0 rfl) rfl rfl ?_
      refine K.nil ?_
      refine At.next ?_
      refine G.seq ?_
      refine G.rg ?_
      refine K.move (.inr rfl) (gd0 rfl) rfl rfl ?_
      refine K.move (.inr rfl) (gd0 rfl) rfl rfl ?_
      refine K.nil ?_
      refine At.next ?_
      obtain ⟨x9, H1, H0⟩ := bnd H0
      refine G.seqJ (σ := { v : Int × Int // x9 = v }) (fun q => [(1, .a (.c (.v (.int .i64 a1)))), (7, .a (.c (.p 105 0))), (10, .a (.c (.fn (.func 28) [107]))), (11, .a (.c (.v (.int .i64 q.1.1)))), (12, .a (.c (.v (.int .i64 q.1.2))))]) (fun q => [(0, rd S W0), (106, plE 106 x8.2.1), (105, blk 105 [.p 106 0, .v (.int .i64 x8.1.index), .v (.int .i64 x8.1.gen)] 101), (107, blk 107 [.v (.int .i64 a2)] 3)]) ?_ ?_
      ·
        refine G.seq ?_
        refine G.rg ?_
        refine K.move (.inr rfl) (gd0 rfl) rfl rfl ?_
        refine K.nil ?_
        refine At.next ?_
        refine G.block ?_
        refine G.loop (σ := { q : Nat × (Int × Int × Int) // Lw07_GroveSearches.l0 k a1 a2 x8 q.1 q.2 = some x9 }) (fun q => [(1, .a (.c (.v (.int .i64 a1)))), (5, .a (.c (.p 116 0))), (7, .a (.c (.p 117 0))), (8, .a (.c (.nv 119))), (10, .a (.c (.fn (.func 28) [116]))), (11, .a (.c (.v (.int .i64 q.1.2.1)))), (12, .a (.c (.v (.int .i64 q.1.2.2.1)))), (13, .a (.c (.v (.int .i64 q.1.2.2.2))))]) (fun q => [(0, rd S W0), (116, blk 116 [.v (.int .i64 a2)] 3), (118, plE 118 x8.2.1), (117, blk 117 [.p 118 0, .v (.int .i64 x8.1.index), .v (.int .i64 x8.1.gen)] 101), (119, lrow 119 54 eTR07Elem 2 x8.2.2.1)]) (fun q => q.1.1) ⟨(k, ((-1), (-1), 0)), H1⟩ ?_ ?_
        · exact At.into [(116, 101), (117, 102), (118, 103), (119, 104)] [_, _, _, _, _] rfl ⟨rfl, rfl, rfl, rfl, rfl, rfl, rfl, rfl, trivial⟩ ⟨rfl, (fun _ => rfl), rfl, (blk_ren rfl rfl), rfl, (pl_ren rfl), rfl, (blk_ren rfl rfl), rfl, (lrow_ren rfl), trivial⟩ rfl
        ·
          rintro ⟨⟨n0, v1, v2, v3⟩, H1⟩
          show G _ _ [(1, .a (.c (.v (.int .i64 a1)))), (5, .a (.c (.p 116 0))), (7, .a (.c (.p 117 0))), (8, .a (.c (.nv 119))), (10, .a (.c (.fn (.func 28) [116]))), (11, .a (.c (.v (.int .i64 v1)))), (12, .a (.c (.v (.int .i64 v2)))), (13, .a (.c (.v (.int .i64 v3))))] [(0, some (rd S W0)), (116, some (blk 116 [.v (.int .i64 a2)] 3)), (118, some (plE 118 x8.2.1)), (117, some (blk 117 [.p 118 0, .v (.int .i64 x8.1.index), .v (.int .i64 x8.1.gen)] 101)), (119, some (lrow 119 54 eTR07Elem 2 x8.2.2.1))] _ _
          cases n0 with
          | zero => exact absurd H1 (by simp [Lw07_GroveSearches.l0])
          | succ n0 =>
            have HL0 := H1
            rw [Lw07_GroveSearches.l0] at H1
            refine G.seq ?_
            refine G.seq ?_
            refine G.rg ?_
            refine K.move (.inl rfl) (gd0 rfl) rfl rfl ?_
            refine K.move (.inl rfl) (gd0 rfl) rfl rfl ?_
            refine K.lenL (lrowV 119 54 eTR07Elem 2 x8.2.2.1) (lrowV_is eTR07Elem_len (by decide)) (gd0 rfl) rfl rfl Try.underlying26 rfl ?_
            refine K.bin (V := .bool (decide (v3 < (x8.2.2.1.length : Int)))) (gd0 rfl) rfl rfl (fun _ => rfl) rfl ?_
            refine K.nil ?_
            refine At.next ?_
            refine G.cond rfl (fun h9 => ?_) (fun h9 => ?_)
            ·
              replace H1 := bif_t H1 h9
              refine G.skip ?_
              refine At.next ?_
              refine G.seq ?_
              refine G.block ?_
              refine G.seq ?_
              obtain ⟨x10, hx10, H1⟩ := bnd H1
              refine G.rg ?_
              refine K.move (.inl rfl) (gd0 rfl) rfl rfl ?_
              refine K.move (.inl rfl) (gd0 rfl) rfl rfl ?_
              refine K.load1 Y (gd0 rfl) rfl rfl t3 rfl rfl ?_
              refine K.callV [(.func 29, _), ((.tmp 45), _), ((.tmp 46), _), ((.tmp 47), _)] [(119, lrow 119 54 eTR07Elem 2 x8.2.2.1)] [] [] (fun β => [SV.raw ((lrowV 119 54 eTR07Elem 2 x8.2.2.1).s.den β), .a (.c (.v (.int .i64 v3))), .a (.c (.v (.int .i64 a2)))]) (fun β w S2 h => R07_Falls_con (k := k) ((lrowV_isC eTR07Elem_len (by decide)).larg ⟨_, List.mem_cons_self⟩ h) hx10) (toFn_func (cf 29 rfl) rfl) (gd0 rfl) ⟨rfl, rfl, rfl, rfl, trivial⟩ (fun _ => rfl) ⟨rfl, trivial⟩ rfl rfl rfl rfl rfl rfl ?_
              refine K.nil ?_
              refine At.next ?_
              refine G.cond rfl (fun h10 => ?_) (fun h10 => ?_)
              ·
                replace H1 := bif_t H1 h10
                refine G.seq ?_
                refine G.seq ?_
                rcases Bool.eq_false_or_eq_true (decide (v1 < 0)) with h11 | h11
                ·
                  replace H1 := bif_t H1 h11
                  refine G.rg ?_
                  refine K.move (.inl rfl) (gd0 rfl) rfl rfl ?_
                  refine K.bin (V := .bool (decide (v1 < 0))) (gd0 rfl) rfl rfl (fun _ => rfl) rfl ?_
                  refine K.move (.inl rfl) (gd0 rfl) rfl rfl ?_
                  refine K.move (.inl rfl) (gd1 rfl rfl rfl (h11)) rfl rfl ?_
                  refine K.move (.inl rfl) (gd1 rfl rfl rfl (h11)) rfl rfl ?_
                  refine K.bin (V := .bool (decide (v3 ≥ a1))) (gd1 rfl rfl rfl (h11)) rfl rfl (fun _ => rfl) rfl ?_
                  refine K.pickT (gd0 rfl) rfl (h11) rfl rfl ?_
                  refine K.nil ?_
                  refine At.next ?_
                  refine G.cond rfl (fun h12 => ?_) (fun h12 => ?_)
                  ·
                    replace H1 := bif_t H1 h12
                    refine G.rg ?_
                    refine K.move (.inl rfl) (gd0 rfl) rfl rfl ?_
                    refine K.move (.inr rfl) (gd0 rfl) rfl rfl ?_
                    refine K.nil ?_
                    refine At.next ?_
                    refine G.seq ?_
                    refine G.rg ?_
                    refine K.move (.inl rfl) (gd0 rfl) rfl rfl ?_
                    refine K.move (.inl rfl) (gd0 rfl) rfl rfl ?_
                    refine K.bin (V := .bool (decide (v3 < a1))) (gd0 rfl) rfl rfl (fun _ => rfl) rfl ?_
                    refine K.nil ?_
                    refine At.next ?_
                    refine G.cond rfl (fun h13 => ?_) (fun h13 => ?_)
                    ·
                      replace H1 := bif_t H1 h13
                      refine G.rg ?_
                      refine K.move (.inl rfl) (gd0 rfl) rfl rfl ?_
                      refine K.move (.inr rfl) (gd0 rfl) rfl rfl ?_
                      refine K.nil ?_
                      refine At.block_normal ?_
                      refine At.next ?_
                      refine G.rg ?_
                      refine K.move (.inl rfl) (gd0 rfl) rfl rfl ?_
                      refine K.bin (V := .int .i64 (w64 (v3 + 1))) (gd0 rfl) rfl rfl (fun _ => rfl) rfl ?_
                      refine K.move (.inr rfl) (gd0 rfl) rfl rfl ?_
                      refine K.nil ?_
                      exact At.again (σ := { q : Nat × (Int × Int × Int) // Lw07_GroveSearches.l0 k a1 a2 x8 q.1 q.2 = some x9 }) (Fs := fun q => [(1, .a (.c (.v (.int .i64 a1)))), (5, .a (.c (.p 116 0))), (7, .a (.c (.p 117 0))), (8, .a (.c (.nv 119))), (10, .a (.c (.fn (.func 28) [116]))), (11, .a (.c (.v (.int .i64 q.1.2.1)))), (12, .a (.c (.v (.int .i64 q.1.2.2.1)))), (13, .a (.c (.v (.int .i64 q.1.2.2.2))))]) (Tl := fun q => [(0, rd S W0), (116, blk 116 [.v (.int .i64 a2)] 3), (118, plE 118 x8.2.1), (117, blk 117 [.p 118 0, .v (.int .i64 x8.1.index), .v (.int .i64 x8.1.gen)] 101), (119, lrow 119 54 eTR07Elem 2 x8.2.2.1)]) (μ := fun q => q.1.1) (s := ⟨(n0 + 1, (v1, v2, v3)), HL0⟩) ⟨(n0, (v3, v3, (w64 (v3 + 1)))), H1⟩ [] [_, _, _, _, _] (Nat.lt_succ_self _) rfl ⟨rfl, rfl, rfl, rfl, rfl, rfl, rfl, rfl, trivial⟩ ⟨rfl, (fun _ => rfl), rfl, (blk_ren rfl rfl), rfl, (pl_ren rfl), rfl, (blk_ren rfl rfl), rfl, (lrow_ren rfl), trivial⟩ rfl
                    ·
                      replace H1 := bif_f H1 h13
                      refine G.skip ?_
                      refine At.block_normal ?_
                      refine At.next ?_
                      refine G.rg ?_
                      refine K.move (.inl rfl) (gd0 rfl) rfl rfl ?_
                      refine K.bin (V := .int .i64 (w64 (v3 + 1))) (gd0 rfl) rfl rfl (fun _ => rfl) rfl ?_
                      refine K.move (.inr rfl) (gd0 rfl) rfl rfl ?_
                      refine K.nil ?_
                      exact At.again (σ := { q : Nat × (Int × Int × Int) // Lw07_GroveSearches.l0 k a1 a2 x8 q.1 q.2 = some x9 }) (Fs := fun q => [(1, .a (.c (.v (.int .i64 a1)))), (5, .a (.c (.p 116 0))), (7, .a (.c (.p 117 0))), (8, .a (.c (.nv 119))), (10, .a (.c (.fn (.func 28) [116]))), (11, .a (.c (.v (.int .i64 q.1.2.1)))), (12, .a (.c (.v (.int .i64 q.1.2.2.1)))), (13, .a (.c (.v (.int .i64 q.1.2.2.2))))]) (Tl := fun q => [(0, rd S W0), (116, blk 116 [.v (.int .i64 a2)] 3), (118, plE 118 x8.2.1), (117, blk 117 [.p 118 0, .v (.int .i64 x8.1.index), .v (.int .i64 x8.1.gen)] 101), (119, lrow 119 54 eTR07Elem 2 x8.2.2.1)]) (μ := fun q => q.1.1) (s := ⟨(n0 + 1, (v1, v2, v3)), HL0⟩) ⟨(n0, (v3, v2, (w64 (v3 + 1)))), H1⟩ [] [_, _, _, _, _] (Nat.lt_succ_self _) rfl ⟨rfl, rfl, rfl, rfl, rfl, rfl, rfl, rfl, trivial⟩ ⟨rfl, (fun _ => rfl), rfl, (blk_ren rfl rfl), rfl, (pl_ren rfl), rfl, (blk_ren rfl rfl), rfl, (lrow_ren rfl), trivial⟩ rfl
                  ·
                    replace H1 := bif_f H1 h12
                    refine G.skip ?_
                    refine At.next ?_
                    refine G.seq ?_
                    refine G.rg ?_
                    refine K.move (.inl rfl) (gd0 rfl) rfl rfl ?_
                    refine K.move (.inl rfl) (gd0 rfl) rfl rfl ?_
                    refine K.bin (V := .bool (decide (v3 < a1))) (gd0 rfl) rfl rfl (fun _ => rfl) rfl ?_
                    refine K.nil ?_
                    refine At.next ?_
                    refine G.cond rfl (fun h14 => ?_) (fun h14 => ?_)
                    ·
                      replace H1 := bif_t H1 h14
                      refine G.rg ?_
                      refine K.move (.inl rfl) (gd0 rfl) rfl rfl ?_
                      refine K.move (.inr rfl) (gd0 rfl) rfl rfl ?_
                      refine K.nil ?_
                      refine At.block_normal ?_
                      refine At.next ?_
                      refine G.rg ?_
                      refine K.move (.inl rfl) (gd0 rfl) rfl rfl ?_
                      refine K.bin (V := .int .i64 (w64 (v3 + 1))) (gd0 rfl) rfl rfl (fun _ => rfl) rfl ?_
                      refine K.move (.inr rfl) (gd0 rfl) rfl rfl ?_
                      refine K.nil ?_
                      exact At.again (σ := { q : Nat × (Int × Int × Int) // Lw07_GroveSearches.l0 k a1 a2 x8 q.1 q.2 = some x9 }) (Fs := fun q => [(1, .a (.c (.v (.int .i64 a1)))), (5, .a (.c (.p 116 0))), (7, .a (.c (.p 117 0))), (8, .a (.c (.nv 119))), (10, .a (.c (.fn (.func 28) [116]))), (11, .a (.c (.v (.int .i64 q.1.2.1)))), (12, .a (.c (.v (.int .i64 q.1.2.2.1)))), (13, .a (.c (.v (.int .i64 q.1.2.2.2))))]) (Tl := fun q => [(0, rd S W0), (116, blk 116 [.v (.int .i64 a2)] 3), (118, plE 118 x8.2.1), (117, blk 117 [.p 118 0, .v (.int .i64 x8.1.index), .v (.int .i64 x8.1.gen)] 101), (119, lrow 119 54 eTR07Elem 2 x8.2.2.1)]) (μ := fun q => q.1.1) (s := ⟨(n0 + 1, (v1, v2, v3)), HL0⟩) ⟨(n0, (v1, v3, (w64 (v3 + 1)))), H1⟩ [] [_, _, _, _, _] (Nat.lt_succ_self _) rfl ⟨rfl, rfl, rfl, rfl, rfl, rfl, rfl, rfl, trivial⟩ ⟨rfl, (fun _ => rfl), rfl, (blk_ren rfl rfl), rfl, (pl_ren rfl), rfl, (blk_ren rfl rfl), rfl, (lrow_ren rfl), trivial⟩ rfl
                    ·
                      replace H1 := bif_f H1 h14
                      refine G.skip ?_
                      refine At.block_normal ?_
                      refine At.next ?_
                      refine G.rg ?_
                      refine K.move (.inl rfl) (gd0 rfl) rfl rfl ?_
                      refine K.bin (V := .int .i64 (w64 (v3 + 1))) (gd0 rfl) rfl rfl (fun _ => rfl) rfl ?_
                      refine K.move (.inr rfl) (gd0 rfl) rfl rfl ?_
                      refine K.nil ?_
                      exact At.again (σ := { q : Nat × (Int × Int × Int) // Lw07_GroveSearches.l0 k a1 a2 x8 q.1 q.2 = some x9 }) (Fs := fun q => [(1, .a (.c (.v (.int .i64 a1)))), (5, .a (.c (.p 116 0))), (7, .a (.c (.p 117 0))), (8, .a (.c (.nv 119))), (10, .a (.c (.fn (.func 28) [116]))), (11, .a (.c (.v (.int .i64 q.1.2.1)))), (12, .a (.c (.v (.int .i64 q.1.2.2.1)))), (13, .a (.c (.v (.int .i64 q.1.2.2.2))))]) (Tl := fun q => [(0, rd S W0), (116, blk 116 [.v (.int .i64 a2)] 3), (118, plE 118 x8.2.1), (117, blk 117 [.p 118 0, .v (.int .i64 x8.1.index), .v (.int .i64 x8.1.gen)] 101), (119, lrow 119 54 eTR07Elem 2 x8.2.2.1)]) (μ := fun q => q.1.1) (s := ⟨(n0 + 1, (v1, v2, v3)), HL0⟩) ⟨(n0, (v1, v2, (w64 (v3 + 1)))), H1⟩ [] [_, _, _, _, _] (Nat.lt_succ_self _) rfl ⟨rfl, rfl, rfl, rfl, rfl, rfl, rfl, rfl, trivial⟩ ⟨rfl, (fun _ => rfl), rfl, (blk_ren rfl rfl), rfl, (pl_ren rfl), rfl, (blk_ren rfl rfl), rfl, (lrow_ren rfl), trivial⟩ rfl
                ·
                  replace H1 := bif_f H1 h11
                  refine G.rg ?_
                  refine K.move (.inl rfl) (gd0 rfl) rfl rfl ?_
                  refine K.bin (V := .bool (decide (v1 < 0))) (gd0 rfl) rfl rfl (fun _ => rfl) rfl ?_
                  refine K.move (.inl rfl) (gd0 rfl) rfl rfl ?_
                  refine K.skip rfl rfl rfl rfl (h11) rfl ?_
                  refine K.skip rfl rfl rfl rfl (h11) rfl ?_
                  refine K.skip rfl rfl rfl rfl (h11) rfl ?_
                  refine K.pickF (gd0 rfl) rfl (h11) rfl rfl ?_
                  refine K.nil ?_
                  refine At.next ?_
                  refine G.cond rfl (fun h15 => ?_) (fun h15 => ?_)
                  · cases h15
                  ·
                    refine G.skip ?_
                    refine At.next ?_
                    refine G.seq ?_
                    refine G.rg ?_
                    refine K.move (.inl rfl) (gd0 rfl) rfl rfl ?_
                    refine K.move (.inl rfl) (gd0 rfl) rfl rfl ?_
                    refine K.bin (V := .bool (decide (v3 < a1))) (gd0 rfl) rfl rfl (fun _ => rfl) rfl ?_
                    refine K.nil ?_
                    refine At.next ?_
                    refine G.cond rfl (fun h16 => ?_) (fun h16 => ?_)
                    ·
                      replace H1 := bif_t H1 h16
                      refine G.rg ?_
                      refine K.move (.inl rfl) (gd0 rfl) rfl rfl ?_
                      refine K.move (.inr rfl) (gd0 rfl) rfl rfl ?_
                      refine K.nil ?_
                      refine At.block_normal ?_
                      refine At.next ?_
                      refine G.rg ?_
                      refine K.move (.inl rfl) (gd0 rfl) rfl rfl ?_
                      refine K.bin (V := .int .i64 (w64 (v3 + 1))) (gd0 rfl) rfl rfl (fun _ => rfl) rfl ?_
                      refine K.move (.inr rfl) (gd0 rfl) rfl rfl ?_
                      refine K.nil ?_
                      exact At.again (σ := { q : Nat × (Int × Int × Int) // Lw07_GroveSearches.l0 k a1 a2 x8 q.1 q.2 = some x9 }) (Fs := fun q => [(1, .a (.c (.v (.int .i64 a1)))), (5, .a (.c (.p 116 0))), (7, .a (.c (.p 117 0))), (8, .a (.c (.nv 119))), (10, .a (.c (.fn (.func 28) [116]))), (11, .a (.c (.v (.int .i64 q.1.2.1)))), (12, .a (.c (.v (.int .i64 q.1.2.2.1)))), (13, .a (.c (.v (.int .i64 q.1.2.2.2))))]) (Tl := fun q => [(0, rd S W0), (116, blk 116 [.v (.int .i64 a2)] 3), (118, plE 118 x8.2.1), (117, blk 117 [.p 118 0, .v (.int .i64 x8.1.index), .v (.int .i64 x8.1.gen)] 101), (119, lrow 119 54 eTR07Elem 2 x8.2.2.1)]) (μ := fun q => q.1.1) (s := ⟨(n0 + 1, (v1, v2, v3)), HL0⟩) ⟨(n0, (v1, v3, (w64 (v3 + 1)))), H1⟩ [] [_, _, _, _, _] (Nat.lt_succ_self _) rfl ⟨rfl, rfl, rfl, rfl, rfl, rfl, rfl, rfl, trivial⟩ ⟨rfl, (fun _ => rfl), rfl, (blk_ren rfl rfl), rfl, (pl_ren rfl), rfl, (blk_ren rfl rfl), rfl, (lrow_ren rfl), trivial⟩ rfl
                    ·
                      replace H1 := bif_f H1 h16
                      refine G.skip ?_
                      refine At.block_normal ?_
                      refine At.next ?_
                      refine G.rg ?_
                      refine K.move (.inl rfl) (gd0 rfl) rfl rfl ?_
                      refine K.bin (V := .int .i64 (w64 (v3 + 1))) (gd0 rfl) rfl rfl (fun _ => rfl) rfl ?_
                      refine K.move (.inr rfl) (gd0 rfl) rfl rfl ?_
                      refine K.nil ?_
                      exact At.again (σ := { q : Nat × (Int × Int × Int) // Lw07_GroveSearches.l0 k a1 a2 x8 q.1 q.2 = some x9 }) (Fs := fun q => [(1, .a (.c (.v (.int .i64 a1)))), (5, .a (.c (.p 116 0))), (7, .a (.c (.p 117 0))), (8, .a (.c (.nv 119))), (10, .a (.c (.fn (.func 28) [116]))), (11, .a (.c (.v (.int .i64 q.1.2.1)))), (12, .a (.c (.v (.int .i64 q.1.2.2.1)))), (13, .a (.c (.v (.int .i64 q.1.2.2.2))))]) (Tl := fun q => [(0, rd S W0), (116, blk 116 [.v (.int .i64 a2)] 3), (118, plE 118 x8.2.1), (117, blk 117 [.p 118 0, .v (.int .i64 x8.1.index), .v (.int .i64 x8.1.gen)] 101), (119, lrow 119 54 eTR07Elem 2 x8.2.2.1)]) (μ := fun q => q.1.1) (s := ⟨(n0 + 1, (v1, v2, v3)), HL0⟩) ⟨(n0, (v1, v2, (w64 (v3 + 1)))), H1⟩ [] [_, _, _, _, _] (Nat.lt_succ_self _) rfl ⟨rfl, rfl, rfl, rfl, rfl, rfl, rfl, rfl, trivial⟩ ⟨rfl, (fun _ => rfl), rfl, (blk_ren rfl rfl), rfl, (pl_ren rfl), rfl, (blk_ren rfl rfl), rfl, (lrow_ren rfl), trivial⟩ rfl
              ·
                replace H1 := bif_f H1 h10
                refine G.skip ?_
                refine At.block_normal ?_
                refine At.next ?_
                refine G.rg ?_
                refine K.move (.inl rfl) (gd0 rfl) rfl rfl ?_
                refine K.bin (V := .int .i64 (w64 (v3 + 1))) (gd0 rfl) rfl rfl (fun _ => rfl) rfl ?_
                refine K.move (.inr rfl) (gd0 rfl) rfl rfl ?_
                refine K.nil ?_
                exact At.again (σ := { q : Nat × (Int × Int × Int) // Lw07_GroveSearches.l0 k a1 a2 x8 q.1 q.2 = some x9 }) (Fs := fun q => [(1, .a (.c (.v (.int .i64 a1)))), (5, .a (.c (.p 116 0))), (7, .a (.c (.p 117 0))), (8, .a (.c (.nv 119))), (10, .a (.c (.fn (.func 28) [116]))), (11, .a (.c (.v (.int .i64 q.1.2.1)))), (12, .a (.c (.v (.int .i64 q.1.2.2.1)))), (13, .a (.c (.v (.int .i64 q.1.2.2.2))))]) (Tl := fun q => [(0, rd S W0), (116, blk 116 [.v (.int .i64 a2)] 3), (118, plE 118 x8.2.1), (117, blk 117 [.p 118 0, .v (.int .i64 x8.1.index), .v (.int .i64 x8.1.gen)] 101), (119, lrow 119 54 eTR07Elem 2 x8.2.2.1)]) (μ := fun q => q.1.1) (s := ⟨(n0 + 1, (v1, v2, v3)), HL0⟩) ⟨(n0, (v1, v2, (w64 (v3 + 1)))), H1⟩ [] [_, _, _, _, _] (Nat.lt_succ_self _) rfl ⟨rfl, rfl, rfl, rfl, rfl, rfl, rfl, rfl, trivial⟩ ⟨rfl, (fun _ => rfl), rfl, (blk_ren rfl rfl), rfl, (pl_ren rfl), rfl, (blk_ren rfl rfl), rfl, (lrow_ren rfl), trivial⟩ rfl
            ·
              replace H1 := bif_f H1 h9
              refine G.exit ?_
              refine At.over_exit ?_
              refine At.over_exit ?_
              refine At.block_hit ?_
              exact At.joined (σ := { v : Int × Int // x9 = v }) (Fs := fun q => [(1, .a (.c (.v (.int .i64 a1)))), (7, .a (.c (.p 105 0))), (10, .a (.c (.fn (.func 28) [107]))), (11, .a (.c (.v (.int .i64 q.1.1)))), (12, .a (.c (.v (.int .i64 q.1.2))))]) (Tl := fun q => [(0, rd S W0), (106, plE 106 x8.2.1), (105, blk 105 [.p 106 0, .v (.int .i64 x8.1.index), .v (.int .i64 x8.1.gen)] 101), (107, blk 107 [.v (.int .i64 a2)] 3)]) ⟨(v1, v2), (Option.some.inj H1).symm⟩ [(105, 117), (106, 118), (107, 116)] [_, _, _, _] rfl ⟨rfl, rfl, rfl, rfl, rfl, trivial⟩ ⟨rfl, (fun _ => rfl), rfl, (pl_ren rfl), rfl, (blk_ren rfl rfl), rfl, (blk_ren rfl rfl), trivial⟩ rfl
      ·
        rintro ⟨_, rfl⟩
        show G _ _ [(1, .a (.c (.v (.int .i64 a1)))), (7, .a (.c (.p 105 0))), (10, .a (.c (.fn (.func 28) [107]))), (11, .a (.c (.v (.int .i64 x9.1)))), (12, .a (.c (.v (.int .i64 x9.2))))] [(0, some (rd S W0)), (106, some (plE 106 x8.2.1)), (105, some (blk 105 [.p 106 0, .v (.int .i64 x8.1.index), .v (.int .i64 x8.1.gen)] 101)), (107, some (blk 107 [.v (.int .i64 a2)] 3))] _ _
        refine G.seq ?_
        obtain ⟨x11, hx11, H0⟩ := bnd H0
        rcases Bool.eq_false_or_eq_true (x11 == x9.1) with h17 | h17
        ·
          replace H0 := bif_t H0 h17
          obtain ⟨x12, hx12, H0⟩ := bnd H0
          refine G.rg ?_
          refine K.move (.inl rfl) (gd0 rfl) rfl rfl ?_
          refine K.move (.inl rfl) (gd0 rfl) rfl rfl ?_
          refine K.move (.inl rfl) (gd0 rfl) rfl rfl ?_
          refine K.callR [(.func 30, _), ((.tmp 61), _), ((.tmp 62), _), ((.tmp 63), _)] (Tree_FirstE_f12_con (k := k) (cv2 := [(.int .i64 a2)]) (Tc2 := 3) (cf 28 rfl) (fun c _ _ _ h => Lw07_GroveSearches_1_con (k := k) h c) hx11 105 106 107) (toFn_func (cf 30 rfl) rfl) (gd0 rfl) ⟨rfl, rfl, rfl, rfl, trivial⟩ ⟨rfl, rfl, rfl, trivial⟩ rfl rfl rfl ?_
          refine K.move (.inl rfl) (gd0 rfl) rfl rfl ?_
          refine K.bin (V := .bool (x11 == x9.1)) (gd0 rfl) rfl rfl (fun _ => rfl) rfl ?_
          refine K.move (.inl rfl) (gd0 rfl) rfl rfl ?_
          refine K.move (.inl rfl) (gd1 rfl rfl rfl (h17)) rfl rfl ?_
          refine K.move (.inl rfl) (gd1 rfl rfl rfl (h17)) rfl rfl ?_
          refine K.move (.inl rfl) (gd1 rfl rfl rfl (h17)) rfl rfl ?_
          refine K.callR [(.func 31, _), ((.tmp 68), _), ((.tmp 69), _), ((.tmp 70), _)] (Tree_LastE_f12_con (k := k) (cv2 := [(.int .i64 a2)]) (Tc2 := 3) (cf 28 rfl) (fun c _ _ _ h => Lw07_GroveSearches_1_con (k := k) h c) hx12 105 106 107) (toFn_func (cf 31 rfl) rfl) (gd1 rfl rfl rfl (h17)) ⟨rfl, rfl, rfl, rfl, trivial⟩ ⟨rfl, rfl, rfl, trivial⟩ rfl rfl rfl ?_
          refine K.move (.inl rfl) (gd1 rfl rfl rfl (h17)) rfl rfl ?_
          refine K.bin (V := .bool (x12 == x9.2)) (gd1 rfl rfl rfl (h17)) rfl rfl (fun _ => rfl) rfl ?_
          refine K.pickT (gd0 rfl) rfl (h17) rfl rfl ?_
          refine K.move (.inr rfl) (gd0 rfl) rfl rfl ?_
          refine K.nil ?_
          refine At.next ?_
          refine G.ret ?_
          refine At.done Y [(.tmp 6, .c _)] rfl ⟨.tmp rfl, trivial⟩ (to' := [(0, _)]) ⟨rfl, trivial⟩ ?_ ?_ rfl rfl rfl (.inl rfl)
          · cases H0; rfl
          · cases H0; rfl
        ·
          replace H0 := bif_f H0 h17
          refine G.rg ?_
          refine K.move (.inl rfl) (gd0 rfl) rfl rfl ?_
          refine K.move (.inl rfl) (gd0 rfl) rfl rfl ?_
          refine K.move (.inl rfl) (gd0 rfl) rfl rfl ?_
          refine K.callR [(.func 30, _), ((.tmp 61), _), ((.tmp 62), _), ((.tmp 63), _)] (Tree_FirstE_f12_con (k := k) (cv2 := [(.int .i64 a2)]) (Tc2 := 3) (cf 28 rfl) (fun c _ _ _ h => Lw07_GroveSearches_1_con (k := k) h c) hx11 105 106 107) (toFn_func (cf 30 rfl) rfl) (gd0 rfl) ⟨rfl, rfl, rfl, rfl, trivial⟩ ⟨rfl, rfl, rfl, trivial⟩ rfl rfl rfl ?_
          refine K.move (.inl rfl) (gd0 rfl) rfl rfl ?_
          refine K.bin (V := .bool (x11 == x9.1)) (gd0 rfl) rfl rfl (fun _ => rfl) rfl ?_
          refine K.move (.inl rfl) (gd0 rfl) rfl rfl ?_
          refine K.skip rfl rfl rfl rfl (h17) rfl ?_
          refine K.skip rfl rfl rfl rfl (h17) rfl ?_
          refine K.skip rfl rfl rfl rfl (h17) rfl ?_
          refine K.skip rfl rfl rfl rfl (h17) rfl ?_
          refine K.skip rfl rfl rfl rfl (h17) rfl ?_
          refine K.skip rfl rfl rfl rfl (h17) rfl ?_
          refine K.pickF (gd0 rfl) rfl (h17) rfl rfl ?_
          refine K.move (.inr rfl) (gd0 rfl) rfl rfl ?_
          refine K.nil ?_
          refine At.next ?_
          refine G.ret ?_
          refine At.done Y [(.tmp 6, .c _)] rfl ⟨.tmp rfl, trivial⟩ (to' := [(0, _)]) ⟨rfl, trivial⟩ ?_ ?_ rfl rfl rfl (.inl rfl)
          · cases H0; rfl
          · cases H0; rfl
theorem Lw07_GroveSearches_con {k : Nat}  {S : Foot} {W0 : World} {s0 : Value} {l0 : List TL07Act} {a1 : Int} {a2 : Int} {r : Bool} (hL0 : LArg S W0 s0 eTL07Act 3 l0) (H0 : Lw07_GroveSearches.f k l0 a1 a2 = some r) : SCon Try.prog 5 [SV.raw s0, .a (.c (.v (.int .i64 a1))), .a (.c (.v (.int .i64 a2)))] [(0, rd S W0)] (.a (.c (.v (.bool r)))) [(0, rd S W0)] [] :=
  SCon.ren (rn []) (Lw07_GroveSearches_con0 (k := k)  hL0 H0) ⟨(fun _ => rfl), trivial⟩ ⟨(fun _ => rfl), trivial⟩ (by simp) (by simp)
end Go.Proofs.Ytjokolmijhhinaa


/- A law's walk. Printed by a program of mine. -/
import Derived.KernelRfl
import Derived.Test.YthcehagablploaaMx
namespace Go.Proofs.Ythcehagablploaa
open Go Go.Proofs.Ythcehagablploaa.Sx
set_option linter.unusedVariables false
set_option linter.unusedSimpArgs false
theorem Lw10_BridgeBetween_con0 {k : Nat}  {S : Foot} {W0 : World} {s0 : Value} {l0 : List TR08Mark} {a1 : Int} {a2 : Int} {r : Bool} (hL0 : LArg S W0 s0 eTR08Mark 8 l0) (H0 : Lw10_BridgeBetween.f k l0 a1 a2 = some r) : SCon Try.prog 5 [SV.raw s0, .a (.c (.v (.int .i64 a1))), .a (.c (.v (.int .i64 a2)))] [(0, rd S W0)] (.a (.c (.v (.bool r)))) [(0, rd S W0)] [] := by
  rw [Lw10_BridgeBetween.f] at H0
  obtain ⟨b0, o0, hI0⟩ := hL0
  refine spec_of [(0, _), (1, _), (2, _)] [(0, _)] 98 Try.func5 rfl Try.ntmps5 rfl rfl rfl rfl (fun β W F => ?_)
  refine G.seq ?_
  refine G.rg ?_
  refine K.move (.inr rfl) (gd0 rfl) rfl rfl ?_
  refine K.nil ?_
  refine At.next ?_
  obtain ⟨x1, H1, H0⟩ := bnd H0
  refine G.seqJ (σ := { v : Unit // x1 = Sum.inr v }) (fun q => [(0, SV.raw s0), (1, .a (.c (.v (.int .i64 a1)))), (2, .a (.c (.v (.int .i64 a2))))]) (fun q => [(0, rd S W0)]) ?_ ?_
  ·
    refine G.seq ?_
    obtain ⟨x2, hx2, H1⟩ := bnd H1
    rcases Bool.eq_false_or_eq_true (!x2) with h1 | h1
    ·
      replace H1 := bif_t H1 h1
      refine G.rg ?_
      refine K.callR [(.func 11, _)] (Lw10_awake_con (k := k) hx2) (toFn_func (cf 11 rfl) rfl) (gd0 rfl) ⟨rfl, trivial⟩ trivial rfl rfl rfl ?_
      refine K.un (V := .bool (!x2)) (gd0 rfl) rfl (fun _ => rfl) rfl ?_
      refine K.move (.inl rfl) (gd0 rfl) rfl rfl ?_
      refine K.skip rfl rfl rfl rfl (h1) rfl ?_
      refine K.skip rfl rfl rfl rfl (h1) rfl ?_
      refine K.skip rfl rfl rfl rfl (h1) rfl ?_
      refine K.skip rfl rfl rfl rfl (h1) rfl ?_
      refine K.pickT (gd0 rfl) rfl (h1) rfl rfl ?_
      refine K.nil ?_
      refine At.next ?_
      refine G.cond rfl (fun h2 => ?_) (fun h2 => ?_)
      ·
        refine G.seq ?_
        obtain ⟨x3, hx3, H1⟩ := bnd H1
        refine G.rg ?_
        refine K.callR [(.func 11, _)] (Lw10_awake_con (k := k) hx3) (toFn_func (cf 11 rfl) rfl) (gd0 rfl) ⟨rfl, trivial⟩ trivial rfl rfl rfl ?_
        refine K.move (.inr rfl) (gd0 rfl) rfl rfl ?_
        refine K.nil ?_
        refine At.next ?_
        refine G.ret ?_
        refine At.over_ret ?_
        cases H1
        replace H0 := sum_l H0
        refine At.done Y [(.tmp 6, .c _)] rfl ⟨.tmp rfl, trivial⟩ (to' := [(0, _)]) ⟨rfl, trivial⟩ ?_ ?_ rfl rfl rfl (.inl rfl)
        · cases H0; rfl
        · cases H0; rfl
      · cases h2
    ·
      replace H1 := bif_f H1 h1
      obtain ⟨x4, hx4, H1⟩ := bnd H1
      refine G.rg ?_
      refine K.callR [(.func 11, _)] (Lw10_awake_con (k := k) hx2) (toFn_func (cf 11 rfl) rfl) (gd0 rfl) ⟨rfl, trivial⟩ trivial rfl rfl rfl ?_
      refine K.un (V := .bool (!x2)) (gd0 rfl) rfl (fun _ => rfl) rfl ?_
      refine K.move (.inl rfl) (gd0 rfl) rfl rfl ?_
      refine K.move (.inl rfl) (gd1 rfl rfl rfl (h1)) rfl rfl ?_
      refine K.move (.inl rfl) (gd1 rfl rfl rfl (h1)) rfl rfl ?_
      refine K.callV [(.func 12, _), ((.tmp 16), _), ((.tmp 17), _)] [(0, rd S W0)] [] [] (fun β => [SV.raw s0, .a (.c (.v (.int .i64 a2)))]) (fun β w S2 h => Lw10_small_con (k := k) ((hI0.isC 0).larg ⟨_, List.mem_cons_self⟩ h) hx4) (toFn_func (cf 12 rfl) rfl) (gd1 rfl rfl rfl (h1)) ⟨rfl, rfl, rfl, trivial⟩ (fun _ => rfl) ⟨rfl, trivial⟩ rfl rfl rfl rfl rfl rfl ?_
      refine K.un (V := .bool (!x4)) (gd1 rfl rfl rfl (h1)) rfl (fun _ => rfl) rfl ?_
      refine K.pickF (gd0 rfl) rfl (h1) rfl rfl ?_
      refine K.nil ?_
      refine At.next ?_
      refine G.cond rfl (fun h3 => ?_) (fun h3 => ?_)
      ·
        replace H1 := bif_t H1 h3
        refine G.seq ?_
        obtain ⟨x5, hx5, H1⟩ := bnd H1
        refine G.rg ?_
        refine K.callR [(.func 11, _)] (Lw10_awake_con (k := k) hx5) (toFn_func (cf 11 rfl) rfl) (gd0 rfl) ⟨rfl, trivial⟩ trivial rfl rfl rfl ?_
        refine K.move (.inr rfl) (gd0 rfl) rfl rfl ?_
        refine K.nil ?_
        refine At.next ?_
        refine G.ret ?_
        refine At.over_ret ?_
        cases H1
        replace H0 := sum_l H0
        refine At.done Y [(.tmp 6, .c _)] rfl ⟨.tmp rfl, trivial⟩ (to' := [(0, _)]) ⟨rfl, trivial⟩ ?_ ?_ rfl rfl rfl (.inl rfl)
        · cases H0; rfl
        · cases H0; rfl
      ·
        replace H1 := bif_f H1 h3
        refine G.skip ?_
        exact At.joined (σ := { v : Unit // x1 = Sum.inr v }) (Fs := fun q => [(0, SV.raw s0), (1, .a (.c (.v (.int .i64 a1)))), (2, .a (.c (.v (.int .i64 a2))))]) (Tl := fun q => [(0, rd S W0)]) ⟨(), (Option.some.inj H1).symm⟩ [] [_] rfl ⟨rfl, rfl, rfl, trivial⟩ ⟨rfl, (fun _ => rfl), trivial⟩ rfl
  ·
    rintro ⟨v1, rfl⟩
    replace H0 := sum_r H0
    show G _ _ [(0, SV.raw s0), (1, .a (.c (.v (.int .i64 a1)))), (2, .a (.c (.v (.int .i64 a2))))] [(0, some (rd S W0))] _ _
    refine G.seq ?_
    obtain ⟨x6, hx6, H0⟩ := bnd H0
    refine G.rg ?_
    refine K.move (.inl rfl) (gd0 rfl) rfl rfl ?_
    refine K.callV [(.func 14, _), ((.tmp 22), _)] [(0, rd S W0)] [] [(100, _), (101, _)] (fun β => [SV.raw s0]) (fun β w S2 h => Lw10_Tree_con (k := k) ((hI0.isC 0).larg ⟨_, List.mem_cons_self⟩ h) hx6 100 101 rfl) (toFn_func (cf 14 rfl) rfl) (gd0 rfl) ⟨rfl, rfl, trivial⟩ (fun _ => rfl) ⟨rfl, trivial⟩ rfl rfl rfl rfl rfl rfl ?_
    refine K.move (.inr rfl) (gd0 rfl) rfl rfl ?_
    refine K.nil ?_
    refine At.next ?_
    refine G.seq ?_
    obtain ⟨x7, hx7, H0⟩ := bnd H0
    refine G.rg ?_
    refine K.move (.inl rfl) (gd0 rfl) rfl rfl ?_
    refine K.callR [(.func 21, _), ((.tmp 24), _)] (Tree_LenM_con (k := k) hx7 100 101) (toFn_func (cf 21 rfl) rfl) (gd0 rfl) ⟨rfl, rfl, trivial⟩ ⟨rfl, rfl, trivial⟩ rfl rfl rfl ?_
    refine K.move (.inr rfl) (gd0 rfl) rfl rfl ?_
    refine K.nil ?_
    refine At.next ?_
    refine G.seq ?_
    obtain ⟨x8, hx8, H0⟩ := bnd H0
    obtain ⟨x9, hx9, H0⟩ := bnd H0
    refine G.rg ?_
    refine K.move (.inl rfl) (gd0 rfl) rfl rfl ?_
    refine K.callV [(.func 16, _), ((.tmp 26), _)] [(0, rd S W0)] [] [(102, _)] (fun β => [SV.raw s0]) (fun β w S2 h => R10_Timed_con (k := k) ((hI0.isC 0).larg ⟨_, List.mem_cons_self⟩ h) hx8 102 rfl) (toFn_func (cf 16 rfl) rfl) (gd0 rfl) ⟨rfl, rfl, trivial⟩ (fun _ => rfl) ⟨rfl, trivial⟩ rfl rfl rfl rfl rfl rfl ?_
    refine K.move (.inl rfl) (gd0 rfl) rfl rfl ?_
    refine K.callV [(.func 22, _), ((.tmp 27), _), ((.tmp 28), _)] [(102, lrow 102 52 eTR08Mark 8 x8)] [] [] (fun β => [SV.raw ((lrowV 102 52 eTR08Mark 8 x8).s.den β), .a (.c (.v (.int .i64 a1)))]) (fun β w S2 h => R10_Clamp_con (k := k) ((lrowV_isC eTR08Mark_len (by decide)).larg ⟨_, List.mem_cons_self⟩ h) hx9) (toFn_func (cf 22 rfl) rfl) (gd0 rfl) ⟨rfl, rfl, rfl, trivial⟩ (fun _ => rfl) ⟨rfl, trivial⟩ rfl rfl rfl rfl rfl rfl ?_
    refine K.move (.inr rfl) (gd0 rfl) rfl rfl ?_
    refine K.nil ?_
    refine At.next ?_
    refine G.seq ?_
    obtain ⟨x10, hx10, H0⟩ := bnd H0
    obtain ⟨x11, hx11, H0⟩ := bnd H0
    refine G.rg ?_
    refine K.move (.inl rfl) (gd0 rfl) rfl rfl ?_
    refine K.move (.inl rfl) (gd0 rfl) rfl rfl ?_
    refine K.move (.inl rfl) (gd0 rfl) rfl rfl ?_
    refine K.callR [(.func 19, _), ((.tmp 30), _), ((.tmp 31), _), ((.tmp 32), _)] (bridge_Prior_con (k := k) hx10 100 101) (toFn_func (cf 19 rfl) rfl) (gd0 rfl) ⟨rfl, rfl, rfl, rfl, trivial⟩ ⟨rfl, rfl, trivial⟩ rfl rfl rfl ?_
    refine K.move (.inl rfl) (gd0 rfl) rfl rfl ?_
    refine K.move (.inl rfl) (gd0 rfl) rfl rfl ?_
    refine K.move (.inl rfl) (gd0 rfl) rfl rfl ?_
    refine K.callR [(.func 17, _), ((.tmp 34), _), ((.tmp 35), _), ((.tmp 36), _)] (bridge_Next_con (k := k) hx11 100 101) (toFn_func (cf 17 rfl) rfl) (gd0 rfl) ⟨rfl, rfl, rfl, rfl, trivial⟩ ⟨rfl, rfl, trivial⟩ rfl rfl rfl ?_
    refine K.move (.inr rfl) (gd0 rfl) rfl rfl ?_
    refine K.move (.inr rfl) (gd0 rfl) rfl rfl ?_
    refine K.nil ?_
    refine At.next ?_
    obtain ⟨x12, H1, H0⟩ := bnd H0
    refine G.seqJ (σ := { v : Unit // x12 = Sum.inr v }) (fun q => [(2, .a (.c (.v (.int .i64 a2)))), (7, .a (.c (.p 103 0))), (8, .a (.c (.v (.int .i64 x7)))), (10, .a (.c (.v (.int .i64 x10)))), (11, .a (.c (.v (.int .i64 x11))))]) (fun q => [(0, rd S W0), (104, plM 104 x6.2), (103, blk 103 [.p 104 0, .v (.int .i64 x6.1.index), .v (.int .i64 x6.1.gen)] 74)]) ?_ ?_
    ·
      refine G.seq ?_
      rcases Bool.eq_false_or_eq_true (decide (x10 > x9)) with h4 | h4
      ·
        replace H1 := bif_t H1 h4
        refine G.rg ?_
        refine K.move (.inl rfl) (gd0 rfl) rfl rfl ?_
        refine K.move (.inl rfl) (gd0 rfl) rfl rfl ?_
        refine K.bin (V := .bool (decide (x10 > x9))) (gd0 rfl) rfl rfl (fun _ => rfl) rfl ?_
        refine K.move (.inl rfl) (gd0 rfl) rfl rfl ?_
        refine K.skip rfl rfl rfl rfl (h4) rfl ?_
        refine K.skip rfl rfl rfl rfl (h4) rfl ?_
        refine K.skip rfl rfl rfl rfl (h4) rfl ?_
        refine K.skipU rfl rfl rfl rfl rfl ?_
        refine K.skipU rfl rfl rfl rfl rfl ?_
        refine K.skipU rfl rfl rfl rfl rfl ?_
        refine K.skip rfl rfl rfl rfl (h4) rfl ?_
        refine K.pickT (gd0 rfl) rfl (h4) rfl rfl ?_
        refine K.move (.inl rfl) (gd0 rfl) rfl rfl ?_
        refine K.skip rfl rfl rfl rfl (rfl) rfl ?_
        refine K.skip rfl rfl rfl rfl (rfl) rfl ?_
        refine K.skip rfl rfl rfl rfl (rfl) rfl ?_
        refine K.pickT (gd0 rfl) rfl (rfl) rfl rfl ?_
        refine K.move (.inl rfl) (gd0 rfl) rfl rfl ?_
        refine K.skip rfl rfl rfl rfl (rfl) rfl ?_
        refine K.skip rfl rfl rfl rfl (rfl) rfl ?_
        refine K.skip rfl rfl rfl rfl (rfl) rfl ?_
        refine K.pickT (gd0 rfl) rfl (rfl) rfl rfl ?_
        refine K.move (.inl rfl) (gd0 rfl) rfl rfl ?_
        refine K.skip rfl rfl rfl rfl (rfl) rfl ?_
        refine K.skip rfl rfl rfl rfl (rfl) rfl ?_
        refine K.skip rfl rfl rfl rfl (rfl) rfl ?_
        refine K.skipU rfl rfl rfl rfl rfl ?_
        refine K.skipU rfl rfl rfl rfl rfl ?_
        refine K.skipU rfl rfl rfl rfl rfl ?_
        refine K.skipU rfl rfl rfl rfl rfl ?_
        refine K.skipU rfl rfl rfl rfl rfl ?_
        refine K.skip rfl rfl rfl rfl (rfl) rfl ?_
        refine K.pickT (gd0 rfl) rfl (rfl) rfl rfl ?_
        refine K.move (.inl rfl) (gd0 rfl) rfl rfl ?_
        refine K.skip rfl rfl rfl rfl (rfl) rfl ?_
        refine K.skip rfl rfl rfl rfl (rfl) rfl ?_
        refine K.skip rfl rfl rfl rfl (rfl) rfl ?_
        refine K.skipU rfl rfl rfl rfl rfl ?_
        refine K.skipU rfl rfl rfl rfl rfl ?_
        refine K.skipU rfl rfl rfl rfl rfl ?_
        refine K.skipU rfl rfl rfl rfl rfl ?_
        refine K.skipU rfl rfl rfl rfl rfl ?_
        refine K.skip rfl rfl rfl rfl (rfl) rfl ?_
        refine K.pickT (gd0 rfl) rfl (rfl) rfl rfl ?_
        refine K.nil ?_
        refine At.next ?_
        refine G.cond rfl (fun h5 => ?_) (fun h5 => ?_)
        ·
          refine G.seq ?_
          refine G.rg ?_
          refine K.move (.inr rfl) (gd0 rfl) rfl rfl ?_
          refine K.nil ?_
          refine At.next ?_
          refine G.ret ?_
          refine At.over_ret ?_
          cases H1
          replace H0 := sum_l H0
          refine At.done Y [(.tmp 6, .c _)] rfl ⟨.tmp rfl, trivial⟩ (to' := [(0, _)]) ⟨rfl, trivial⟩ ?_ ?_ rfl rfl rfl (.inl rfl)
          · cases H0; rfl
          · cases H0; rfl
        · cases h5
      ·
        replace H1 := bif_f H1 h4
        rcases Bool.eq_false_or_eq_true (decide (x11 ≥ 0)) with h6 | h6
        ·
          replace H1 := bif_t H1 h6
          rcases Bool.eq_false_or_eq_true (decide (x11 < x9)) with h7 | h7
          ·
            replace H1 := bif_t H1 h7
            refine G.rg ?_
            refine K.move (.inl rfl) (gd0 rfl) rfl rfl ?_
            refine K.move (.inl rfl) (gd0 rfl) rfl rfl ?_
            refine K.bin (V := .bool (decide (x10 > x9))) (gd0 rfl) rfl rfl (fun _ => rfl) rfl ?_
            refine K.move (.inl rfl) (gd0 rfl) rfl rfl ?_
            refine K.move (.inl rfl) (gd1 rfl rfl rfl (h4)) rfl rfl ?_
            refine K.bin (V := .bool (decide (x11 ≥ 0))) (gd1 rfl rfl rfl (h4)) rfl rfl (fun _ => rfl) rfl ?_
            refine K.move (.inl rfl) (gd1 rfl rfl rfl (h4)) rfl rfl ?_
            refine K.move (.inl rfl) (gd1 rfl rfl rfl (h6)) rfl rfl ?_
            refine K.move (.inl rfl) (gd1 rfl rfl rfl (h6)) rfl rfl ?_
            refine K.bin (V := .bool (decide (x11 < x9))) (gd1 rfl rfl rfl (h6)) rfl rfl (fun _ => rfl) rfl ?_
            refine K.pickT (gd1 rfl rfl rfl (h4)) rfl (h6) rfl rfl ?_
            refine K.pickF (gd0 rfl) rfl (h4) rfl rfl ?_
            refine K.move (.inl rfl) (gd0 rfl) rfl rfl ?_
            refine K.skip rfl rfl rfl rfl (h7) rfl ?_
            refine K.skip rfl rfl rfl rfl (h7) rfl ?_
            refine K.skip rfl rfl rfl rfl (h7) rfl ?_
            refine K.pickT (gd0 rfl) rfl (h7) rfl rfl ?_
            refine K.move (.inl rfl) (gd0 rfl) rfl rfl ?_
            refine K.skip rfl rfl rfl rfl (rfl) rfl ?_
            refine K.skip rfl rfl rfl rfl (rfl) rfl ?_
            refine K.skip rfl rfl rfl rfl (rfl) rfl ?_
            refine K.pickT (gd0 rfl) rfl (rfl) rfl rfl ?_
            refine K.move (.inl rfl) (gd0 rfl) rfl rfl ?_
            refine K.skip rfl rfl rfl rfl (rfl) rfl ?_
            refine K.skip rfl rfl rfl rfl (rfl) rfl ?_
            refine K.skip rfl rfl rfl rfl (rfl) rfl ?_
            refine K.skipU rfl rfl rfl rfl rfl ?_
            refine K.skipU rfl rfl rfl rfl rfl ?_
            refine K.skipU rfl rfl rfl rfl rfl ?_
            refine K.skipU rfl rfl rfl rfl rfl ?_
            refine K.skipU rfl rfl rfl rfl rfl ?_
            refine K.skip rfl rfl rfl rfl (rfl) rfl ?_
            refine K.pickT (gd0 rfl) rfl (rfl) rfl rfl ?_
            refine K.move (.inl rfl) (gd0 rfl) rfl rfl ?_
            refine K.skip rfl rfl rfl rfl (rfl) rfl ?_
            refine K.skip rfl rfl rfl rfl (rfl) rfl ?_
            refine K.skip rfl rfl rfl rfl (rfl) rfl ?_
            refine K.skipU rfl rfl rfl rfl rfl ?_
            refine K.skipU rfl rfl rfl rfl rfl ?_
            refine K.skipU rfl rfl rfl rfl rfl ?_
            refine K.skipU rfl rfl rfl rfl rfl ?_
            refine K.skipU rfl rfl rfl rfl rfl ?_
            refine K.skip rfl rfl rfl rfl (rfl) rfl ?_
            refine K.pickT (gd0 rfl) rfl (rfl) rfl rfl ?_
            refine K.nil ?_
            refine At.next ?_
            refine G.cond rfl (fun h8 => ?_) (fun h8 => ?_)
            ·
              refine G.seq ?_
              refine G.rg ?_
              refine K.move (.inr rfl) (gd0 rfl) rfl rfl ?_
              refine K.nil ?_
              refine At.next ?_
              refine G.ret ?_
              refine At.over_ret ?_
              cases H1
              replace H0 := sum_l H0
              refine At.done Y [(.tmp 6, .c _)] rfl ⟨.tmp rfl, trivial⟩ (to' := [(0, _)]) ⟨rfl, trivial⟩ ?_ ?_ rfl rfl rfl (.inl rfl)
              · cases H0; rfl
              · cases H0; rfl
            · cases h8
          ·
            replace H1 := bif_f H1 h7
            rcases Bool.eq_false_or_eq_true (decide (x10 > x7)) with h9 | h9
            ·
              replace H1 := bif_t H1 h9
              refine G.rg ?_
              refine K.move (.inl rfl) (gd0 rfl) rfl rfl ?_
              refine K.move (.inl rfl) (gd0 rfl) rfl rfl ?_
              refine K.bin (V := .bool (decide (x10 > x9))) (gd0 rfl) rfl rfl (fun _ => rfl) rfl ?_
              refine K.move (.inl rfl) (gd0 rfl) rfl rfl ?_
              refine K.move (.inl rfl) (gd1 rfl rfl rfl (h4)) rfl rfl ?_
              refine K.bin (V := .bool (decide (x11 ≥ 0))) (gd1 rfl rfl rfl (h4)) rfl rfl (fun _ => rfl) rfl ?_
              refine K.move (.inl rfl) (gd1 rfl rfl rfl (h4)) rfl rfl ?_
              refine K.move (.inl rfl) (gd1 rfl rfl rfl (h6)) rfl rfl ?_
              refine K.move (.inl rfl) (gd1 rfl rfl rfl (h6)) rfl rfl ?_
              refine K.bin (V := .bool (decide (x11 < x9))) (gd1 rfl rfl rfl (h6)) rfl rfl (fun _ => rfl) rfl ?_
              refine K.pickT (gd1 rfl rfl rfl (h4)) rfl (h6) rfl rfl ?_
              refine K.pickF (gd0 rfl) rfl (h4) rfl rfl ?_
              refine K.move (.inl rfl) (gd0 rfl) rfl rfl ?_
              refine K.move (.inl rfl) (gd1 rfl rfl rfl (h7)) rfl rfl ?_
              refine K.move (.inl rfl) (gd1 rfl rfl rfl (h7)) rfl rfl ?_
              refine K.bin (V := .bool (decide (x10 > x7))) (gd1 rfl rfl rfl (h7)) rfl rfl (fun _ => rfl) rfl ?_
              refine K.pickF (gd0 rfl) rfl (h7) rfl rfl ?_
              refine K.move (.inl rfl) (gd0 rfl) rfl rfl ?_
              refine K.skip rfl rfl rfl rfl (h9) rfl ?_
              refine K.skip rfl rfl rfl rfl (h9) rfl ?_
              refine K.skip rfl rfl rfl rfl (h9) rfl ?_
              refine K.pickT (gd0 rfl) rfl (h9) rfl rfl ?_
              refine K.move (.inl rfl) (gd0 rfl) rfl rfl ?_
              refine K.skip rfl rfl rfl rfl (rfl) rfl ?_
              refine K.skip rfl rfl rfl rfl (rfl) rfl ?_
              refine K.skip rfl rfl rfl rfl (rfl) rfl ?_
              refine K.skipU rfl rfl rfl rfl rfl ?_
              refine K.skipU rfl rfl rfl rfl rfl ?_
              refine K.skipU rfl rfl rfl rfl rfl ?_
              refine K.skipU rfl rfl rfl rfl rfl ?_
              refine K.skipU rfl rfl rfl rfl rfl ?_
              refine K.skip rfl rfl rfl rfl (rfl) rfl ?_
              refine K.pickT (gd0 rfl) rfl (rfl) rfl rfl ?_
              refine K.move (.inl rfl) (gd0 rfl) rfl rfl ?_
              refine K.skip rfl rfl rfl rfl (rfl) rfl ?_
              refine K.skip rfl rfl rfl rfl (rfl) rfl ?_
              refine K.skip rfl rfl rfl rfl (rfl) rfl ?_
              refine K.skipU rfl rfl rfl rfl rfl ?_
              refine K.skipU rfl rfl rfl rfl rfl ?_
              refine K.skipU rfl rfl rfl rfl rfl ?_
              refine K.skipU rfl rfl rfl rfl rfl ?_
              refine K.skipU rfl rfl rfl rfl rfl ?_
              refine K.skip rfl rfl rfl rfl (rfl) rfl ?_
              refine K.pickT (gd0 rfl) rfl (rfl) rfl rfl ?_
              refine K.nil ?_
              refine At.next ?_
              refine G.cond rfl (fun h10 => ?_) (fun h10 => ?_)
              ·
                refine G.seq ?_
                refine G.rg ?_
                refine K.move (.inr rfl) (gd0 rfl) rfl rfl ?_
                refine K.nil ?_
                refine At.next ?_
                refine G.ret ?_
                refine At.over_ret ?_
                cases H1
                replace H0 := sum_l H0
                refine At.done Y [(.tmp 6, .c _)] rfl ⟨.tmp rfl, trivial⟩ (to' := [(0, _)]) ⟨rfl, trivial⟩ ?_ ?_ rfl rfl rfl (.inl rfl)
                · cases H0; rfl
                · cases H0; rfl
              · cases h10
            ·
              replace H1 := bif_f H1 h9
              rcases Bool.eq_false_or_eq_true (decide (x11 > x7)) with h11 | h11
              ·
                replace H1 := bif_t H1 h11
                refine G.rg ?_
                refine K.move (.inl rfl) (gd0 rfl) rfl rfl ?_
                refine K.move (.inl rfl) (gd0 rfl) rfl rfl ?_
                refine K.bin (V := .bool (decide (x10 > x9))) (gd0 rfl) rfl rfl (fun _ => rfl) rfl ?_
                refine K.move (.inl rfl) (gd0 rfl) rfl rfl ?_
                refine K.move (.inl rfl) (gd1 rfl rfl rfl (h4)) rfl rfl ?_
                refine K.bin (V := .bool (decide (x11 ≥ 0))) (gd1 rfl rfl rfl (h4)) rfl rfl (fun _ => rfl) rfl ?_
                refine K.move (.inl rfl) (gd1 rfl rfl rfl (h4)) rfl rfl ?_
                refine K.move (.inl rfl) (gd1 rfl rfl rfl (h6)) rfl rfl ?_
                refine K.move (.inl rfl) (gd1 rfl rfl rfl (h6)) rfl rfl ?_
                refine K.bin (V := .bool (decide (x11 < x9))) (gd1 rfl rfl rfl (h6)) rfl rfl (fun _ => rfl) rfl ?_
                refine K.pickT (gd1 rfl rfl rfl (h4)) rfl (h6) rfl rfl ?_
                refine K.pickF (gd0 rfl) rfl (h4) rfl rfl ?_
                refine K.move (.inl rfl) (gd0 rfl) rfl rfl ?_
                refine K.move (.inl rfl) (gd1 rfl rfl rfl (h7)) rfl rfl ?_
                refine K.move (.inl rfl) (gd1 rfl rfl rfl (h7)) rfl rfl ?_
                refine K.bin (V := .bool (decide (x10 > x7))) (gd1 rfl rfl rfl (h7)) rfl rfl (fun _ => rfl) rfl ?_
                refine K.pickF (gd0 rfl) rfl (h7) rfl rfl ?_
                refine K.move (.inl rfl) (gd0 rfl) rfl rfl ?_
                refine K.move (.inl rfl) (gd1 rfl rfl rfl (h9)) rfl rfl ?_
                refine K.move (.inl rfl) (gd1 rfl rfl rfl (h9)) rfl rfl ?_
                refine K.bin (V := .bool (decide (x11 > x7))) (gd1 rfl rfl rfl (h9)) rfl rfl (fun _ => rfl) rfl ?_
                refine K.pickF (gd0 rfl) rfl (h9) rfl rfl ?_
                refine K.move (.inl rfl) (gd0 rfl) rfl rfl ?_
                refine K.skip rfl rfl rfl rfl (h11) rfl ?_
                refine K.skip rfl rfl rfl rfl (h11) rfl ?_
                refine K.skip rfl rfl rfl rfl (h11) rfl ?_
                refine K.skipU rfl rfl rfl rfl rfl ?_
                refine K.skipU rfl rfl rfl rfl rfl ?_
                refine K.skipU rfl rfl rfl rfl rfl ?_
                refine K.skipU rfl rfl rfl rfl rfl ?_
                refine K.skipU rfl rfl rfl rfl rfl ?_
                refine K.skip rfl rfl rfl rfl (h11) rfl ?_
                refine K.pickT (gd0 rfl) rfl (h11) rfl rfl ?_
                refine K.move (.inl rfl) (gd0 rfl) rfl rfl ?_
                refine K.skip rfl rfl rfl rfl (rfl) rfl ?_
                refine K.skip rfl rfl rfl rfl (rfl) rfl ?_
                refine K.skip rfl rfl rfl rfl (rfl) rfl ?_
                refine K.skipU rfl rfl rfl rfl rfl ?_
                refine K.skipU rfl rfl rfl rfl rfl ?_
                refine K.skipU rfl rfl rfl rfl rfl ?_
                refine K.skipU rfl rfl rfl rfl rfl ?_
                refine K.skipU rfl rfl rfl rfl rfl ?_
                refine K.skip rfl rfl rfl rfl (rfl) rfl ?_
                refine K.pickT (gd0 rfl) rfl (rfl) rfl rfl ?_
                refine K.nil ?_
                refine At.next ?_
                refine G.cond rfl (fun h12 => ?_) (fun h12 => ?_)
                ·
                  refine G.seq ?_
                  refine G.rg ?_
                  refine K.move (.inr rfl) (gd0 rfl) rfl rfl ?_
                  refine K.nil ?_
                  refine At.next ?_
                  refine G.ret ?_
                  refine At.over_ret ?_
                  cases H1
                  replace H0 := sum_l H0
                  refine At.done Y [(.tmp 6, .c _)] rfl ⟨.tmp rfl, trivial⟩ (to' := [(0, _)]) ⟨rfl, trivial⟩ ?_ ?_ rfl rfl rfl (.inl rfl)
                  · cases H0; rfl
                  · cases H0; rfl
                · cases h12
              ·
                replace H1 := bif_f H1 h11
                rcases Bool.eq_false_or_eq_true (decide (x10 ≥ 0)) with h13 | h13
                ·
                  replace H1 := bif_t H1 h13
                  obtain ⟨x13, hx13, H1⟩ := bnd H1
                  rcases Bool.eq_false_or_eq_true (decide (x13 > 0)) with h14 | h14
                  ·
                    replace H1 := bif_t H1 h14
                    refine G.rg ?_
                    refine K.move (.inl rfl) (gd0 rfl) rfl rfl ?_
                    refine K.move (.inl rfl) (gd0 rfl) rfl rfl ?_
                    refine K.bin (V := .bool (decide (x10 > x9))) (gd0 rfl) rfl rfl (fun _ => rfl) rfl ?_
                    refine K.move (.inl rfl) (gd0 rfl) rfl rfl ?_
                    refine K.move (.inl rfl) (gd1 rfl rfl rfl (h4)) rfl rfl ?_
                    refine K.bin (V := .bool (decide (x11 ≥ 0))) (gd1 rfl rfl rfl (h4)) rfl rfl (fun _ => rfl) rfl ?_
                    refine K.move (.inl rfl) (gd1 rfl rfl rfl (h4)) rfl rfl ?_
                    refine K.move (.inl rfl) (gd1 rfl rfl rfl (h6)) rfl rfl ?_
                    refine K.move (.inl rfl) (gd1 rfl rfl rfl (h6)) rfl rfl ?_
                    refine K.bin (V := .bool (decide (x11 < x9))) (gd1 rfl rfl rfl (h6)) rfl rfl (fun _ => rfl) rfl ?_
                    refine K.pickT (gd1 rfl rfl rfl (h4)) rfl (h6) rfl rfl ?_
                    refine K.pickF (gd0 rfl) rfl (h4) rfl rfl ?_
                    refine K.move (.inl rfl) (gd0 rfl) rfl rfl ?_
                    refine K.move (.inl rfl) (gd1 rfl rfl rfl (h7)) rfl rfl ?_
                    refine K.move (.inl rfl) (gd1 rfl rfl rfl (h7)) rfl rfl ?_
                    refine K.bin (V := .bool (decide (x10 > x7))) (gd1 rfl rfl rfl (h7)) rfl rfl (fun _ => rfl) rfl ?_
                    refine K.pickF (gd0 rfl) rfl (h7) rfl rfl ?_
                    refine K.move (.inl rfl) (gd0 rfl) rfl rfl ?_
                    refine K.move (.inl rfl) (gd1 rfl rfl rfl (h9)) rfl rfl ?_
                    refine K.move (.inl rfl) (gd1 rfl rfl rfl (h9)) rfl rfl ?_
                    refine K.bin (V := .bool (decide (x11 > x7))) (gd1 rfl rfl rfl (h9)) rfl rfl (fun _ => rfl) rfl ?_
                    refine K.pickF (gd0 rfl) rfl (h9) rfl rfl ?_
                    refine K.move (.inl rfl) (gd0 rfl) rfl rfl ?_
                    refine K.move (.inl rfl) (gd1 rfl rfl rfl (h11)) rfl rfl ?_
                    refine K.bin (V := .bool (decide (x10 ≥ 0))) (gd1 rfl rfl rfl (h11)) rfl rfl (fun _ => rfl) rfl ?_
                    refine K.move (.inl rfl) (gd1 rfl rfl rfl (h11)) rfl rfl ?_
                    refine K.move (.inl rfl) (gd1 rfl rfl rfl (h13)) rfl rfl ?_
                    refine K.move (.inl rfl) (gd1 rfl rfl rfl (h13)) rfl rfl ?_
                    refine K.move (.inl rfl) (gd1 rfl rfl rfl (h13)) rfl rfl ?_
                    refine K.callR [(.func 13, _), ((.tmp 64), _), ((.tmp 65), _), ((.tmp 66), _)] (bridge_Height_con (k := k) hx13 100 101) (toFn_func (cf 13 rfl) rfl) (gd1 rfl rfl rfl (h13)) ⟨rfl, rfl, rfl, rfl, trivial⟩ ⟨rfl, rfl, trivial⟩ rfl rfl rfl ?_
                    refine K.bin (V := .bool (decide (x13 > 0))) (gd1 rfl rfl rfl (h13)) rfl rfl (fun _ => rfl) rfl ?_
                    refine K.pickT (gd1 rfl rfl rfl (h11)) rfl (h13) rfl rfl ?_
                    refine K.pickF (gd0 rfl) rfl (h11) rfl rfl ?_
                    refine K.move (.inl rfl) (gd0 rfl) rfl rfl ?_
                    refine K.skip rfl rfl rfl rfl (h14) rfl ?_
                    refine K.skip rfl rfl rfl rfl (h14) rfl ?_
                    refine K.skip rfl rfl rfl rfl (h14) rfl ?_
                    refine K.skipU rfl rfl rfl rfl rfl ?_
                    refine K.skipU rfl rfl rfl rfl rfl ?_
                    refine K.skipU rfl rfl rfl rfl rfl ?_
                    refine K.skipU rfl rfl rfl rfl rfl ?_
                    refine K.skipU rfl rfl rfl rfl rfl ?_
                    refine K.skip rfl rfl rfl rfl (h14) rfl ?_
                    refine K.pickT (gd0 rfl) rfl (h14) rfl rfl ?_
                    refine K.nil ?_
                    refine At.next ?_
                    refine G.cond rfl (fun h15 => ?_) (fun h15 => ?_)
                    ·
                      refine G.seq ?_
                      refine G.rg ?_
                      refine K.move (.inr rfl) (gd0 rfl) rfl rfl ?_
                      refine K.nil ?_
                      refine At.next ?_
                      refine G.ret ?_
                      refine At.over_ret ?_
                      cases H1
                      replace H0 := sum_l H0
                      refine At.done Y [(.tmp 6, .c _)] rfl ⟨.tmp rfl, trivial⟩ (to' := [(0, _)]) ⟨rfl, trivial⟩ ?_ ?_ rfl rfl rfl (.inl rfl)
                      · cases H0; rfl
                      · cases H0; rfl
                    · cases h15
                  ·
                    replace H1 := bif_f H1 h14
                    obtain ⟨x14, hx14, H1⟩ := bnd H1
                    refine G.rg ?_
                    refine K.move (.inl rfl) (gd0 rfl) rfl rfl ?_
                    refine K.move (.inl rfl) (gd0 rfl) rfl rfl ?_
                    refine K.bin (V := .bool (decide (x10 > x9))) (gd0 rfl) rfl rfl (fun _ => rfl) rfl ?_
                    refine K.move (.inl rfl) (gd0 rfl) rfl rfl ?_
                    refine K.move (.inl rfl) (gd1 rfl rfl rfl (h4)) rfl rfl ?_
                    refine K.bin (V := .bool (decide (x11 ≥ 0))) (gd1 rfl rfl rfl (h4)) rfl rfl (fun _ => rfl) rfl ?_
                    refine K.move (.inl rfl) (gd1 rfl rfl rfl (h4)) rfl rfl ?_
                    refine K.move (.inl rfl) (gd1 rfl rfl rfl (h6)) rfl rfl ?_
                    refine K.move (.inl rfl) (gd1 rfl rfl rfl (h6)) rfl rfl ?_
                    refine K.bin (V := .bool (decide (x11 < x9))) (gd1 rfl rfl rfl (h6)) rfl rfl (fun _ => rfl) rfl ?_
                    refine K.pickT (gd1 rfl rfl rfl (h4)) rfl (h6) rfl rfl ?_
                    refine K.pickF (gd0 rfl) rfl (h4) rfl rfl ?_
                    refine K.move (.inl rfl) (gd0 rfl) rfl rfl ?_
                    refine K.move (.inl rfl) (gd1 rfl rfl rfl (h7)) rfl rfl ?_
                    refine K.move (.inl rfl) (gd1 rfl rfl rfl (h7)) rfl rfl ?_
                    refine K.bin (V := .bool (decide (x10 > x7))) (gd1 rfl rfl rfl (h7)) rfl rfl (fun _ => rfl) rfl ?_
                    refine K.pickF (gd0 rfl) rfl (h7) rfl rfl ?_
                    refine K.move (.inl rfl) (gd0 rfl) rfl rfl ?_
                    refine K.move (.inl rfl) (gd1 rfl rfl rfl (h9)) rfl rfl ?_
                    refine K.move (.inl rfl) (gd1 rfl rfl rfl (h9)) rfl rfl ?_
                    refine K.bin (V := .bool (decide (x11 > x7))) (gd1 rfl rfl rfl (h9)) rfl rfl (fun _ => rfl) rfl ?_
                    refine K.pickF (gd0 rfl) rfl (h9) rfl rfl ?_
                    refine K.move (.inl rfl) (gd0 rfl) rfl rfl ?_
                    refine K.move (.inl rfl) (gd1 rfl rfl rfl (h11)) rfl rfl ?_
                    refine K.bin (V := .bool (decide (x10 ≥ 0))) (gd1 rfl rfl rfl (h11)) rfl rfl (fun _ => rfl) rfl ?_
                    refine K.move (.inl rfl) (gd1 rfl rfl rfl (h11)) rfl rfl ?_
                    refine K.move (.inl rfl) (gd1 rfl rfl rfl (h13)) rfl rfl ?_
                    refine K.move (.inl rfl) (gd1 rfl rfl rfl (h13)) rfl rfl ?_
                    refine K.move (.inl rfl) (gd1 rfl rfl rfl (h13)) rfl rfl ?_
                    refine K.callR [(.func 13, _), ((.tmp 64), _), ((.tmp 65), _), ((.tmp 66), _)] (bridge_Height_con (k := k) hx13 100 101) (toFn_func (cf 13 rfl) rfl) (gd1 rfl rfl rfl (h13)) ⟨rfl, rfl, rfl, rfl, trivial⟩ ⟨rfl, rfl, trivial⟩ rfl rfl rfl ?_
                    refine K.bin (V := .bool (decide (x13 > 0))) (gd1 rfl rfl rfl (h13)) rfl rfl (fun _ => rfl) rfl ?_
                    refine K.pickT (gd1 rfl rfl rfl (h11)) rfl (h13) rfl rfl ?_
                    refine K.pickF (gd0 rfl) rfl (h11) rfl rfl ?_
                    refine K.move (.inl rfl) (gd0 rfl) rfl rfl ?_
                    refine K.move (.inl rfl) (gd1 rfl rfl rfl (h14)) rfl rfl ?_
                    refine K.bin (V := .bool (decide (x11 ≥ 0))) (gd1 rfl rfl rfl (h14)) rfl rfl (fun _ => rfl) rfl ?_
                    refine K.move (.inl rfl) (gd1 rfl rfl rfl (h14)) rfl rfl ?_
                    refine K.move (.inl rfl) (gd1 rfl rfl rfl (h6)) rfl rfl ?_
                    refine K.move (.inl rfl) (gd1 rfl rfl rfl (h6)) rfl rfl ?_
                    refine K.move (.inl rfl) (gd1 rfl rfl rfl (h6)) rfl rfl ?_
                    refine K.callR [(.func 13, _), ((.tmp 75), _), ((.tmp 76), _), ((.tmp 77), _)] (bridge_Height_con (k := k) hx14 100 101) (toFn_func (cf 13 rfl) rfl) (gd1 rfl rfl rfl (h6)) ⟨rfl, rfl, rfl, rfl, trivial⟩ ⟨rfl, rfl, trivial⟩ rfl rfl rfl ?_
                    refine K.bin (V := .bool (decide (x14 > 0))) (gd1 rfl rfl rfl (h6)) rfl rfl (fun _ => rfl) rfl ?_
                    refine K.pickT (gd1 rfl rfl rfl (h14)) rfl (h6) rfl rfl ?_
                    refine K.pickF (gd0 rfl) rfl (h14) rfl rfl ?_
                    refine K.nil ?_
                    refine At.next ?_
                    refine G.cond rfl (fun h16 => ?_) (fun h16 => ?_)
                    ·
                      replace H1 := bif_t H1 h16
                      refine G.seq ?_
                      refine G.rg ?_
                      refine K.move (.inr rfl) (gd0 rfl) rfl rfl ?_
                      refine K.nil ?_
                      refine At.next ?_
                      refine G.ret ?_
                      refine At.over_ret ?_
                      cases H1
                      replace H0 := sum_l H0
                      refine At.done Y [(.tmp 6, .c _)] rfl ⟨.tmp rfl, trivial⟩ (to' := [(0, _)]) ⟨rfl, trivial⟩ ?_ ?_ rfl rfl rfl (.inl rfl)
                      · cases H0; rfl
                      · cases H0; rfl
                    ·
                      replace H1 := bif_f H1 h16
                      refine G.skip ?_
                      exact At.joined (σ := { v : Unit // x12 = Sum.inr v }) (Fs := fun q => [(2, .a (.c (.v (.int .i64 a2)))), (7, .a (.c (.p 103 0))), (8, .a (.c (.v (.int .i64 x7)))), (10, .a (.c (.v (.int .i64 x10)))), (11, .a (.c (.v (.int .i64 x11))))]) (Tl := fun q => [(0, rd S W0), (104, plM 104 x6.2), (103, blk 103 [.p 104 0, .v (.int .i64 x6.1.index), .v (.int .i64 x6.1.gen)] 74)]) ⟨(), (Option.some.inj H1).symm⟩ [(103, 100), (104, 101)] [_, _, _] rfl ⟨rfl, rfl, rfl, rfl, rfl, trivial⟩ ⟨rfl, (fun _ => rfl), rfl, (pl_ren rfl), rfl, (blk_ren rfl rfl), trivial⟩ rfl
                ·
                  replace H1 := bif_f H1 h13
                  obtain ⟨x15, hx15, H1⟩ := bnd H1
                  refine G.rg ?_
                  refine K.move (.inl rfl) (gd0 rfl) rfl rfl ?_
                  refine K.move (.inl rfl) (gd0 rfl) rfl rfl ?_
                  refine K.bin (V := .bool (decide (x10 > x9))) (gd0 rfl) rfl rfl (fun _ => rfl) rfl ?_
                  refine K.move (.inl rfl) (gd0 rfl) rfl rfl ?_
                  refine K.move (.inl rfl) (gd1 rfl rfl rfl (h4)) rfl rfl ?_
                  refine K.bin (V := .bool (decide (x11 ≥ 0))) (gd1 rfl rfl rfl (h4)) rfl rfl (fun _ => rfl) rfl ?_
                  refine K.move (.inl rfl) (gd1 rfl rfl rfl (h4)) rfl rfl ?_
                  refine K.move (.inl rfl) (gd1 rfl rfl rfl (h6)) rfl rfl ?_
                  refine K.move (.inl rfl) (gd1 rfl rfl rfl (h6)) rfl rfl ?_
                  refine K.bin (V := .bool (decide (x11 < x9))) (gd1 rfl rfl rfl (h6)) rfl rfl (fun _ => rfl) rfl ?_
                  refine K.pickT (gd1 rfl rfl rfl (h4)) rfl (h6) rfl rfl ?_
                  refine K.pickF (gd0 rfl) rfl (h4) rfl rfl ?_
                  refine K.move (.inl rfl) (gd0 rfl) rfl rfl ?_
                  refine K.move (.inl rfl) (gd1 rfl rfl rfl (h7)) rfl rfl ?_
                  refine K.move (.inl rfl) (gd1 rfl rfl rfl (h7)) rfl rfl ?_
                  refine K.bin (V := .bool (decide (x10 > x7))) (gd1 rfl rfl rfl (h7)) rfl rfl (fun _ => rfl) rfl ?_
                  refine K.pickF (gd0 rfl) rfl (h7) rfl rfl ?_
                  refine K.move (.inl rfl) (gd0 rfl) rfl rfl ?_
                  refine K.move (.inl rfl) (gd1 rfl rfl rfl (h9)) rfl rfl ?_
                  refine K.move (.inl rfl) (gd1 rfl rfl rfl (h9)) rfl rfl ?_
                  refine K.bin (V := .bool (decide (x11 > x7))) (gd1 rfl rfl rfl (h9)) rfl rfl (fun _ => rfl) rfl ?_
                  refine K.pickF (gd0 rfl) rfl (h9) rfl rfl ?_
                  refine K.move (.inl rfl) (gd0 rfl) rfl rfl ?_
                  refine K.move (.inl rfl) (gd1 rfl rfl rfl (h11)) rfl rfl ?_
                  refine K.bin (V := .bool (decide (x10 ≥ 0))) (gd1 rfl rfl rfl (h11)) rfl rfl (fun _ => rfl) rfl ?_
                  refine K.move (.inl rfl) (gd1 rfl rfl rfl (h11)) rfl rfl ?_
                  refine K.skip rfl rfl rfl rfl (h13) rfl ?_
                  refine K.skip rfl rfl rfl rfl (h13) rfl ?_
                  refine K.skip rfl rfl rfl rfl (h13) rfl ?_
                  refine K.skip rfl rfl rfl rfl (h13) rfl ?_
                  refine K.skip rfl rfl rfl rfl (h13) rfl ?_
                  refine K.pickF (gd1 rfl rfl rfl (h11)) rfl (h13) rfl rfl ?_
                  refine K.pickF (gd0 rfl) rfl (h11) rfl rfl ?_
                  refine K.move (.inl rfl) (gd0 rfl) rfl rfl ?_
                  refine K.move (.inl rfl) (gd1 rfl rfl rfl (rfl)) rfl rfl ?_
                  refine K.bin (V := .bool (decide (x11 ≥ 0))) (gd1 rfl rfl rfl (rfl)) rfl rfl (fun _ => rfl) rfl ?_
                  refine K.move (.inl rfl) (gd1 rfl rfl rfl (rfl)) rfl rfl ?_
                  refine K.move (.inl rfl) (gd1 rfl rfl rfl (h6)) rfl rfl ?_
                  refine K.move (.inl rfl) (gd1 rfl rfl rfl (h6)) rfl rfl ?_
                  refine K.move (.inl rfl) (gd1 rfl rfl rfl (h6)) rfl rfl ?_
                  refine K.callR [(.func 13, _), ((.tmp 75), _), ((.tmp 76), _), ((.tmp 77), _)] (bridge_Height_con (k := k) hx15 100 101) (toFn_func (cf 13 rfl) rfl) (gd1 rfl rfl rfl (h6)) ⟨rfl, rfl, rfl, rfl, trivial⟩ ⟨rfl, rfl, trivial⟩ rfl rfl rfl ?_
                  refine K.bin (V := .bool (decide (x15 > 0))) (gd1 rfl rfl rfl (h6)) rfl rfl (fun _ => rfl) rfl ?_
                  refine K.pickT (gd1 rfl rfl rfl (rfl)) rfl (h6) rfl rfl ?_
                  refine K.pickF (gd0 rfl) rfl (rfl) rfl rfl ?_
                  refine K.nil ?_
                  refine At.next ?_
                  refine G.cond rfl (fun h17 => ?_) (fun h17 => ?_)
                  ·
                    replace H1 := bif_t H1 h17
                    refine G.seq ?_
                    refine G.rg ?_
                    refine K.move (.inr rfl) (gd0 rfl) rfl rfl ?_
                    refine K.nil ?_
                    refine At.next ?_
                    refine G.ret ?_
                    refine At.over_ret ?_
                    cases H1
                    replace H0 := sum_l H0
                    refine At.done Y [(.tmp 6, .c _)] rfl ⟨.tmp rfl, trivial⟩ (to' := [(0, _)]) ⟨rfl, trivial⟩ ?_ ?_ rfl rfl rfl (.inl rfl)
                    · cases H0; rfl
                    · cases H0; rfl
                  ·
                    replace H1 := bif_f H1 h17
                    refine G.skip ?_
                    exact At.joined (σ := { v : Unit // x12 = Sum.inr v }) (Fs := fun q => [(2, .a (.c (.v (.int .i64 a2)))), (7, .a (.c (.p 103 0))), (8, .a (.c (.v (.int .i64 x7)))), (10, .a (.c (.v (.int .i64 x10)))), (11, .a (.c (.v (.int .i64 x11))))]) (Tl := fun q => [(0, rd S W0), (104, plM 104 x6.2), (103, blk 103 [.p 104 0, .v (.int .i64 x6.1.index), .v (.int .i64 x6.1.gen)] 74)]) ⟨(), (Option.some.inj H1).symm⟩ [(103, 100), (104, 101)] [_, _, _] rfl ⟨rfl, rfl, rfl, rfl, rfl, trivial⟩ ⟨rfl, (fun _ => rfl), rfl, (pl_ren rfl), rfl, (blk_ren rfl rfl), trivial⟩ rfl
        ·
          replace H1 := bif_f H1 h6
          rcases Bool.eq_false_or_eq_true (decide (x10 > x7)) with h18 | h18
          ·
            replace H1 := bif_t H1 h18
            refine G.rg ?_
            refine K.move (.inl rfl) (gd0 rfl) rfl rfl ?_
            refine K.move (.inl rfl) (gd0 rfl) rfl rfl ?_
            refine K.bin (V := .bool (decide (x10 > x9))) (gd0 rfl) rfl rfl (fun _ => rfl) rfl ?_
            refine K.move (.inl rfl) (gd0 rfl) rfl rfl ?_
            refine K.move (.inl rfl) (gd1 rfl rfl rfl (h4)) rfl rfl ?_
            refine K.bin (V := .bool (decide (x11 ≥ 0))) (gd1 rfl rfl rfl (h4)) rfl rfl (fun _ => rfl) rfl ?_
            refine K.move (.inl rfl) (gd1 rfl rfl rfl (h4)) rfl rfl ?_
            refine K.skip rfl rfl rfl rfl (h6) rfl ?_
            refine K.skip rfl rfl rfl rfl (h6) rfl ?_
            refine K.skip rfl rfl rfl rfl (h6) rfl ?_
            refine K.pickF (gd1 rfl rfl rfl (h4)) rfl (h6) rfl rfl ?_
            refine K.pickF (gd0 rfl) rfl (h4) rfl rfl ?_
            refine K.move (.inl rfl) (gd0 rfl) rfl rfl ?_
            refine K.move (.inl rfl) (gd1 rfl rfl rfl (rfl)) rfl rfl ?_
            refine K.move (.inl rfl) (gd1 rfl rfl rfl (rfl)) rfl rfl ?_
            refine K.bin (V := .bool (decide (x10 > x7))) (gd1 rfl rfl rfl (rfl)) rfl rfl (fun _ => rfl) rfl ?_
            refine K.pickF (gd0 rfl) rfl (rfl) rfl rfl ?_
            refine K.move (.inl rfl) (gd0 rfl) rfl rfl ?_
            refine K.skip rfl rfl rfl rfl (h18) rfl ?_
            refine K.skip rfl rfl rfl rfl (h18) rfl ?_
            refine K.skip rfl rfl rfl rfl (h18) rfl ?_
            refine K.pickT (gd0 rfl) rfl (h18) rfl rfl ?_
            refine K.move (.inl rfl) (gd0 rfl) rfl rfl ?_
            refine K.skip rfl rfl rfl rfl (rfl) rfl ?_
            refine K.skip rfl rfl rfl rfl (rfl) rfl ?_
            refine K.skip rfl rfl rfl rfl (rfl) rfl ?_
            refine K.skipU rfl rfl rfl rfl rfl ?_
            refine K.skipU rfl rfl rfl rfl rfl ?_
            refine K.skipU rfl rfl rfl rfl rfl ?_
            refine K.skipU rfl rfl rfl rfl rfl ?_
            refine K.skipU rfl rfl rfl rfl rfl ?_
            refine K.skip rfl rfl rfl rfl (rfl) rfl ?_
            refine K.pickT (gd0 rfl) rfl (rfl) rfl rfl ?_
            refine K.move (.inl rfl) (gd0 rfl) rfl rfl ?_
            refine K.skip rfl rfl rfl rfl (rfl) rfl ?_
            refine K.skip rfl rfl rfl rfl (rfl) rfl ?_
            refine K.skip rfl rfl rfl rfl (rfl) rfl ?_
            refine K.skipU rfl rfl rfl rfl rfl ?_
            refine K.skipU rfl rfl rfl rfl rfl ?_
            refine K.skipU rfl rfl rfl rfl rfl ?_
            refine K.skipU rfl rfl rfl rfl rfl ?_
            refine K.skipU rfl rfl rfl rfl rfl ?_
            refine K.skip rfl rfl rfl rfl (rfl) rfl ?_
            refine K.pickT (gd0 rfl) rfl (rfl) rfl rfl ?_
            refine K.nil ?_
            refine At.next ?_
            refine G.cond rfl (fun h19 => ?_) (fun h19 => ?_)
            ·
              refine G.seq ?_
              refine G.rg ?_
              refine K.move (.inr rfl) (gd0 rfl) rfl rfl ?_
              refine K.nil ?_
              refine At.next ?_
              refine G.ret ?_
              refine At.over_ret ?_
              cases H1
              replace H0 := sum_l H0
              refine At.done Y [(.tmp 6, .c _)] rfl ⟨.tmp rfl, trivial⟩ (to' := [(0, _)]) ⟨rfl, trivial⟩ ?_ ?_ rfl rfl rfl (.inl rfl)
              · cases H0; rfl
              · cases H0; rfl
            · cases h19
          ·
            replace H1 := bif_f H1 h18
            rcases Bool.eq_false_or_eq_true (decide (x11 > x7)) with h20 | h20
            ·
              replace H1 := bif_t H1 h20
              refine G.rg ?_
              refine K.move (.inl rfl) (gd0 rfl) rfl rfl ?_
              refine K.move (.inl rfl) (gd0 rfl) rfl rfl ?_
              refine K.bin (V := .bool (decide (x10 > x9))) (gd0 rfl) rfl rfl (fun _ => rfl) rfl ?_
              refine K.move (.inl rfl) (gd0 rfl) rfl rfl ?_
              refine K.move (.inl rfl) (gd1 rfl rfl rfl (h4)) rfl rfl ?_
              refine K.bin (V := .bool (decide (x11 ≥ 0))) (gd1 rfl rfl rfl (h4)) rfl rfl (fun _ => rfl) rfl ?_
              refine K.move (.inl rfl) (gd1 rfl rfl rfl (h4)) rfl rfl ?_
              refine K.skip rfl rfl rfl rfl (h6) rfl ?_
              refine K.skip rfl rfl rfl rfl (h6) rfl ?_
              refine K.skip rfl rfl rfl rfl (h6) rfl ?_
              refine K.pickF (gd1 rfl rfl rfl (h4)) rfl (h6) rfl rfl ?_
              refine K.pickF (gd0 rfl) rfl (h4) rfl rfl ?_
              refine K.move (.inl rfl) (gd0 rfl) rfl rfl ?_
              refine K.move (.inl rfl) (gd1 rfl rfl rfl (rfl)) rfl rfl ?_
              refine K.move (.inl rfl) (gd1 rfl rfl rfl (rfl)) rfl rfl ?_
              refine K.bin (V := .bool (decide (x10 > x7))) (gd1 rfl rfl rfl (rfl)) rfl rfl (fun _ => rfl) rfl ?_
              refine K.pickF (gd0 rfl) rfl (rfl) rfl rfl ?_
              refine K.move (.inl rfl) (gd0 rfl) rfl rfl ?_
              refine K.move (.inl rfl) (gd1 rfl rfl rfl (h18)) rfl rfl ?_
              refine K.move (.inl rfl) (gd1 rfl rfl rfl (h18)) rfl rfl ?_
              refine K.bin (V := .bool (decide (x11 > x7))) (gd1 rfl rfl rfl (h18)) rfl rfl (fun _ => rfl) rfl ?_
              refine K.pickF (gd0 rfl) rfl (h18) rfl rfl ?_
              refine K.move (.inl rfl) (gd0 rfl) rfl rfl ?_
              refine K.skip rfl rfl rfl rfl (h20) rfl ?_
              refine K.skip rfl rfl rfl rfl (h20) rfl ?_
              refine K.skip rfl rfl rfl rfl (h20) rfl ?_
              refine K.skipU rfl rfl rfl rfl rfl ?_
              refine K.skipU rfl rfl rfl rfl rfl ?_
              refine K.skipU rfl rfl rfl rfl rfl ?_
              refine K.skipU rfl rfl rfl rfl rfl ?_
              refine K.skipU rfl rfl rfl rfl rfl ?_
              refine K.skip rfl rfl rfl rfl (h20) rfl ?_
              refine K.pickT (gd0 rfl) rfl (h20) rfl rfl ?_
              refine K.move (.inl rfl) (gd0 rfl) rfl rfl ?_
              refine K.skip rfl rfl rfl rfl (rfl) rfl ?_
              refine K.skip rfl rfl rfl rfl (rfl) rfl ?_
              refine K.skip rfl rfl rfl rfl (rfl) rfl ?_
              refine K.skipU rfl rfl rfl rfl rfl ?_
              refine K.skipU rfl rfl rfl rfl rfl ?_
              refine K.skipU rfl rfl rfl rfl rfl ?_
              refine K.skipU rfl rfl rfl rfl rfl ?_
              refine K.skipU rfl rfl rfl rfl rfl ?_
              refine K.skip rfl rfl rfl rfl (rfl) rfl ?_
              refine K.pickT (gd0 rfl) rfl (rfl) rfl rfl ?_
              refine K.nil ?_
              refine At.next ?_
              refine G.cond rfl (fun h21 => ?_) (fun h21 => ?_)
              ·
                refine G.seq ?_
                refine G.rg ?_
                refine K.move (.inr rfl) (gd0 rfl) rfl rfl ?_
                refine K.nil ?_
                refine At.next ?_
                refine G.ret ?_
                refine At.over_ret ?_
                cases H1
                replace H0 := sum_l H0
                refine At.done Y [(.tmp 6, .c _)] rfl ⟨.tmp rfl, trivial⟩ (to' := [(0, _)]) ⟨rfl, trivial⟩ ?_ ?_ rfl rfl rfl (.inl rfl)
                · cases H0; rfl
                · cases H0; rfl
              · cases h21
            ·
              replace H1 := bif_f H1 h20
              rcases Bool.eq_false_or_eq_true (decide (x10 ≥ 0)) with h22 | h22
              ·
                replace H1 := bif_t H1 h22
                obtain ⟨x16, hx16, H1⟩ := bnd H1
                rcases Bool.eq_false_or_eq_true (decide (x16 > 0)) with h23 | h23
                ·
                  replace H1 := bif_t H1 h23
                  refine G.rg ?_
                  refine K.move (.inl rfl) (gd0 rfl) rfl rfl ?_
                  refine K.move (.inl rfl) (gd0 rfl) rfl rfl ?_
                  refine K.bin (V := .bool (decide (x10 > x9))) (gd0 rfl) rfl rfl (fun _ => rfl) rfl ?_
                  refine K.move (.inl rfl) (gd0 rfl) rfl rfl ?_
                  refine K.move (.inl rfl) (gd1 rfl rfl rfl (h4)) rfl rfl ?_
                  refine K.bin (V := .bool (decide (x11 ≥ 0))) (gd1 rfl rfl rfl (h4)) rfl rfl (fun _ => rfl) rfl ?_
                  refine K.move (.inl rfl) (gd1 rfl rfl rfl (h4)) rfl rfl ?_
                  refine K.skip rfl rfl rfl rfl (h6) rfl ?_
                  refine K.skip rfl rfl rfl rfl (h6) rfl ?_
                  refine K.skip rfl rfl rfl rfl (h6) rfl ?_
                  refine K.pickF (gd1 rfl rfl rfl (h4)) rfl (h6) rfl rfl ?_
                  refine K.pickF (gd0 rfl) rfl (h4) rfl rfl ?_
                  refine K.move (.inl rfl) (gd0 rfl) rfl rfl ?_
                  refine K.move (.inl rfl) (gd1 rfl rfl rfl (rfl)) rfl rfl ?_
                  refine K.move (.inl rfl) (gd1 rfl rfl rfl (rfl)) rfl rfl ?_
                  refine K.bin (V := .bool (decide (x10 > x7))) (gd1 rfl rfl rfl (rfl)) rfl rfl (fun _ => rfl) rfl ?_
                  refine K.pickF (gd0 rfl) rfl (rfl) rfl rfl ?_
                  refine K.move (.inl rfl) (gd0 rfl) rfl rfl ?_
                  refine K.move (.inl rfl) (gd1 rfl rfl rfl (h18)) rfl rfl ?_
                  refine K.move (.inl rfl) (gd1 rfl rfl rfl (h18)) rfl rfl ?_
                  refine K.bin (V := .bool (decide (x11 > x7))) (gd1 rfl rfl rfl (h18)) rfl rfl (fun _ => rfl) rfl ?_
                  refine K.pickF (gd0 rfl) rfl (h18) rfl rfl ?_
                  refine K.move (.inl rfl) (gd0 rfl) rfl rfl ?_
                  refine K.move (.inl rfl) (gd1 rfl rfl rfl (h20)) rfl rfl ?_
                  refine K.bin (V := .bool (decide (x10 ≥ 0))) (gd1 rfl rfl rfl (h20)) rfl rfl (fun _ => rfl) rfl ?_
                  refine K.move (.inl rfl) (gd1 rfl rfl rfl (h20)) rfl rfl ?_
                  refine K.move (.inl rfl) (gd1 rfl rfl rfl (h22)) rfl rfl ?_
                  refine K.move (.inl rfl) (gd1 rfl rfl rfl (h22)) rfl rfl ?_
                  refine K.move (.inl rfl) (gd1 rfl rfl rfl (h22)) rfl rfl ?_
                  refine K.callR [(.func 13, _), ((.tmp 64), _), ((.tmp 65), _), ((.tmp 66), _)] (bridge_Height_con (k := k) hx16 100 101) (toFn_func (cf 13 rfl) rfl) (gd1 rfl rfl rfl (h22)) ⟨rfl, rfl, rfl, rfl, trivial⟩ ⟨rfl, rfl, trivial⟩ rfl rfl rfl ?_
                  refine K.bin (V := .bool (decide (x16 > 0))) (gd1 rfl rfl rfl (h22)) rfl rfl (fun _ => rfl) rfl ?_
                  refine K.pickT (gd1 rfl rfl rfl (h20)) rfl (h22) rfl rfl ?_
                  refine K.pickF (gd0 rfl) rfl (h20) rfl rfl ?_
                  refine K.move (.inl rfl) (gd0 rfl) rfl rfl ?_
                  refine K.skip rfl rfl rfl rfl (h23) rfl ?_
                  refine K.skip rfl rfl rfl rfl (h23) rfl ?_
                  refine K.skip rfl rfl rfl rfl (h23) rfl ?_
                  refine K.skipU rfl rfl rfl rfl rfl ?_
                  refine K.skipU rfl rfl rfl rfl rfl ?_
                  refine K.skipU rfl rfl rfl rfl rfl ?_
                  refine K.skipU rfl rfl rfl rfl rfl ?_
                  refine K.skipU rfl rfl rfl rfl rfl ?_
                  refine K.skip rfl rfl rfl rfl (h23) rfl ?_
                  refine K.pickT (gd0 rfl) rfl (h23) rfl rfl ?_
                  refine K.nil ?_
                  refine At.next ?_
                  refine G.cond rfl (fun h24 => ?_) (fun h24 => ?_)
                  ·
                    refine G.seq ?_
                    refine G.rg ?_
                    refine K.move (.inr rfl) (gd0 rfl) rfl rfl ?_
                    refine K.nil ?_
                    refine At.next ?_
                    refine G.ret ?_
                    refine At.over_ret ?_
                    cases H1
                    replace H0 := sum_l H0
                    refine At.done Y [(.tmp 6, .c _)] rfl ⟨.tmp rfl, trivial⟩ (to' := [(0, _)]) ⟨rfl, trivial⟩ ?_ ?_ rfl rfl rfl (.inl rfl)
                    · cases H0; rfl
                    · cases H0; rfl
                  · cases h24
                ·
                  replace H1 := bif_f H1 h23
                  refine G.rg ?_
                  refine K.move (.inl rfl) (gd0 rfl) rfl rfl ?_
                  refine K.move (.inl rfl) (gd0 rfl) rfl rfl ?_
                  refine K.bin (V := .bool (decide (x10 > x9))) (gd0 rfl) rfl rfl (fun _ => rfl) rfl ?_
                  refine K.move (.inl rfl) (gd0 rfl) rfl rfl ?_
                  refine K.move (.inl rfl) (gd1 rfl rfl rfl (h4)) rfl rfl ?_
                  refine K.bin (V := .bool (decide (x11 ≥ 0))) (gd1 rfl rfl rfl (h4)) rfl rfl (fun _ => rfl) rfl ?_
                  refine K.move (.inl rfl) (gd1 rfl rfl rfl (h4)) rfl rfl ?_
                  refine K.skip rfl rfl rfl rfl (h6) rfl ?_
                  refine K.skip rfl rfl rfl rfl (h6) rfl ?_
                  refine K.skip rfl rfl rfl rfl (h6) rfl ?_
                  refine K.pickF (gd1 rfl rfl rfl (h4)) rfl (h6) rfl rfl ?_
                  refine K.pickF (gd0 rfl) rfl (h4) rfl rfl ?_
                  refine K.move (.inl rfl) (gd0 rfl) rfl rfl ?_
                  refine K.move (.inl rfl) (gd1 rfl rfl rfl (rfl)) rfl rfl ?_
                  refine K.move (.inl rfl) (gd1 rfl rfl rfl (rfl)) rfl rfl ?_
                  refine K.bin (V := .bool (decide (x10 > x7))) (gd1 rfl rfl rfl (rfl)) rfl rfl (fun _ => rfl) rfl ?_
                  refine K.pickF (gd0 rfl) rfl (rfl) rfl rfl ?_
                  refine K.move (.inl rfl) (gd0 rfl) rfl rfl ?_
                  refine K.move (.inl rfl) (gd1 rfl rfl rfl (h18)) rfl rfl ?_
                  refine K.move (.inl rfl) (gd1 rfl rfl rfl (h18)) rfl rfl ?_
                  refine K.bin (V := .bool (decide (x11 > x7))) (gd1 rfl rfl rfl (h18)) rfl rfl (fun _ => rfl) rfl ?_
                  refine K.pickF (gd0 rfl) rfl (h18) rfl rfl ?_
                  refine K.move (.inl rfl) (gd0 rfl) rfl rfl ?_
                  refine K.move (.inl rfl) (gd1 rfl rfl rfl (h20)) rfl rfl ?_
                  refine K.bin (V := .bool (decide (x10 ≥ 0))) (gd1 rfl rfl rfl (h20)) rfl rfl (fun _ => rfl) rfl ?_
                  refine K.move (.inl rfl) (gd1 rfl rfl rfl (h20)) rfl rfl ?_
                  refine K.move (.inl rfl) (gd1 rfl rfl rfl (h22)) rfl rfl ?_
                  refine K.move (.inl rfl) (gd1 rfl rfl rfl (h22)) rfl rfl ?_
                  refine K.move (.inl rfl) (gd1 rfl rfl rfl (h22)) rfl rfl ?_
                  refine K.callR [(.func 13, _), ((.tmp 64), _), ((.tmp 65), _), ((.tmp 66), _)] (bridge_Height_con (k := k) hx16 100 101) (toFn_func (cf 13 rfl) rfl) (gd1 rfl rfl rfl (h22)) ⟨rfl, rfl, rfl, rfl, trivial⟩ ⟨rfl, rfl, trivial⟩ rfl rfl rfl ?_
                  refine K.bin (V := .bool (decide (x16 > 0))) (gd1 rfl rfl rfl (h22)) rfl rfl (fun _ => rfl) rfl ?_
                  refine K.pickT (gd1 rfl rfl rfl (h20)) rfl (h22) rfl rfl ?_
                  refine K.pickF (gd0 rfl) rfl (h20) rfl rfl ?_
                  refine K.move (.inl rfl) (gd0 rfl) rfl rfl ?_
                  refine K.move (.inl rfl) (gd1 rfl rfl rfl (h23)) rfl rfl ?_
                  refine K.bin (V := .bool (decide (x11 ≥ 0))) (gd1 rfl rfl rfl (h23)) rfl rfl (fun _ => rfl) rfl ?_
                  refine K.move (.inl rfl) (gd1 rfl rfl rfl (h23)) rfl rfl ?_
                  refine K.skip rfl rfl rfl rfl (h6) rfl ?_
                  refine K.skip rfl rfl rfl rfl (h6) rfl ?_
                  refine K.skip rfl rfl rfl rfl (h6) rfl ?_
                  refine K.skip rfl rfl rfl rfl (h6) rfl ?_
                  refine K.skip rfl rfl rfl rfl (h6) rfl ?_
                  refine K.pickF (gd1 rfl rfl rfl (h23)) rfl (h6) rfl rfl ?_
                  refine K.pickF (gd0 rfl) rfl (h23) rfl rfl ?_
                  refine K.nil ?_
                  refine At.next ?_
                  refine G.cond rfl (fun h25 => ?_) (fun h25 => ?_)
                  · cases h25
                  ·
                    refine G.skip ?_
                    exact At.joined (σ := { v : Unit // x12 = Sum.inr v }) (Fs := fun q => [(2, .a (.c (.v (.int .i64 a2)))), (7, .a (.c (.p 103 0))), (8, .a (.c (.v (.int .i64 x7)))), (10, .a (.c (.v (.int .i64 x10)))), (11, .a (.c (.v (.int .i64 x11))))]) (Tl := fun q => [(0, rd S W0), (104, plM 104 x6.2), (103, blk 103 [.p 104 0, .v (.int .i64 x6.1.index), .v (.int .i64 x6.1.gen)] 74)]) ⟨(), (Option.some.inj H1).symm⟩ [(103, 100), (104, 101)] [_, _, _] rfl ⟨rfl, rfl, rfl, rfl, rfl, trivial⟩ ⟨rfl, (fun _ => rfl), rfl, (pl_ren rfl), rfl, (blk_ren rfl rfl), trivial⟩ rfl
              ·
                replace H1 := bif_f H1 h22
                refine G.rg ?_
                refine K.move (.inl rfl) (gd0 rfl) rfl rfl ?_
                refine K.move (.inl rfl) (gd0 rfl) rfl rfl ?_
                refine K.bin (V := .bool (decide (x10 > x9))) (gd0 rfl) rfl rfl (fun _ => rfl) rfl ?_
                refine K.move (.inl rfl) (gd0 rfl) rfl rfl ?_
                refine K.move (.inl rfl) (gd1 rfl rfl rfl (h4)) rfl rfl ?_
                refine K.bin (V := .bool (decide (x11 ≥ 0))) (gd1 rfl rfl rfl (h4)) rfl rfl (fun _ => rfl) rfl ?_
                refine K.move (.inl rfl) (gd1 rfl rfl rfl (h4)) rfl rfl ?_
                refine K.skip rfl rfl rfl rfl (h6) rfl ?_
                refine K.skip rfl rfl rfl rfl (h6) rfl ?_
                refine K.skip rfl rfl rfl rfl (h6) rfl ?_
                refine K.pickF (gd1 rfl rfl rfl (h4)) rfl (h6) rfl rfl ?_
                refine K.pickF (gd0 rfl) rfl (h4) rfl rfl ?_
                refine K.move (.inl rfl) (gd0 rfl) rfl rfl ?_
                refine K.move (.inl rfl) (gd1 rfl rfl rfl (rfl)) rfl rfl ?_
                refine K.move (.inl rfl) (gd1 rfl rfl rfl (rfl)) rfl rfl ?_
                refine K.bin (V := .bool (decide (x10 > x7))) (gd1 rfl rfl rfl (rfl)) rfl rfl (fun _ => rfl) rfl ?_
                refine K.pickF (gd0 rfl) rfl (rfl) rfl rfl ?_
                refine K.move (.inl rfl) (gd0 rfl) rfl rfl ?_
                refine K.move (.inl rfl) (gd1 rfl rfl rfl (h18)) rfl rfl ?_
                refine K.move (.inl rfl) (gd1 rfl rfl rfl (h18)) rfl rfl ?_
                refine K.bin (V := .bool (decide (x11 > x7))) (gd1 rfl rfl rfl (h18)) rfl rfl (fun _ => rfl) rfl ?_
                refine K.pickF (gd0 rfl) rfl (h18) rfl rfl ?_
                refine K.move (.inl rfl) (gd0 rfl) rfl rfl ?_
                refine K.move (.inl rfl) (gd1 rfl rfl rfl (h20)) rfl rfl ?_
                refine K.bin (V := .bool (decide (x10 ≥ 0))) (gd1 rfl rfl rfl (h20)) rfl rfl (fun _ => rfl) rfl ?_
                refine K.move (.inl rfl) (gd1 rfl rfl rfl (h20)) rfl rfl ?_
                refine K.skip rfl rfl rfl rfl (h22) rfl ?_
                refine K.skip rfl rfl rfl rfl (h22) rfl ?_
                refine K.skip rfl rfl rfl rfl (h22) rfl ?_
                refine K.skip rfl rfl rfl rfl (h22) rfl ?_
                refine K.skip rfl rfl rfl rfl (h22) rfl ?_
                refine K.pickF (gd1 rfl rfl rfl (h20)) rfl (h22) rfl rfl ?_
                refine K.pickF (gd0 rfl) rfl (h20) rfl rfl ?_
                refine K.move (.inl rfl) (gd0 rfl) rfl rfl ?_
                refine K.move (.inl rfl) (gd1 rfl rfl rfl (rfl)) rfl rfl ?_
                refine K.bin (V := .bool (decide (x11 ≥ 0))) (gd1 rfl rfl rfl (rfl)) rfl rfl (fun _ => rfl) rfl ?_
                refine K.move (.inl rfl) (gd1 rfl rfl rfl (rfl)) rfl rfl ?_
                refine K.skip rfl rfl rfl rfl (h6) rfl ?_
                refine K.skip rfl rfl rfl rfl (h6) rfl ?_
                refine K.skip rfl rfl rfl rfl (h6) rfl ?_
                refine K.skip rfl rfl rfl rfl (h6) rfl ?_
                refine K.skip rfl rfl rfl rfl (h6) rfl ?_
                refine K.pickF (gd1 rfl rfl rfl (rfl)) rfl (h6) rfl rfl ?_
                refine K.pickF (gd0 rfl) rfl (rfl) rfl rfl ?_
                refine K.nil ?_
                refine At.next ?_
                refine G.cond rfl (fun h26 => ?_) (fun h26 => ?_)
                · cases h26
                ·
                  refine G.skip ?_
                  exact At.joined (σ := { v : Unit // x12 = Sum.inr v }) (Fs := fun q => [(2, .a (.c (.v (.int .i64 a2)))), (7, .a (.c (.p 103 0))), (8, .a (.c (.v (.int .i64 x7)))), (10, .a (.c (.v (.int .i64 x10)))), (11, .a (.c (.v (.int .i64 x11))))]) (Tl := fun q => [(0, rd S W0), (104, plM 104 x6.2), (103, blk 103 [.p 104 0, .v (.int .i64 x6.1.index), .v (.int .i64 x6.1.gen)] 74)]) ⟨(), (Option.some.inj H1).symm⟩ [(103, 100), (104, 101)] [_, _, _] rfl ⟨rfl, rfl, rfl, rfl, rfl, trivial⟩ ⟨rfl, (fun _ => rfl), rfl, (pl_ren rfl), rfl, (blk_ren rfl rfl), trivial⟩ rfl
    ·
      rintro ⟨v12, rfl⟩
      replace H0 := sum_r H0
      show G _ _ [(2, .a (.c (.v (.int .i64 a2)))), (7, .a (.c (.p 103 0))), (8, .a (.c (.v (.int .i64 x7)))), (10, .a (.c (.v (.int .i64 x10)))), (11, .a (.c (.v (.int .i64 x11))))] [(0, some (rd S W0)), (104, some (plM 104 x6.2)), (103, some (blk 103 [.p 104 0, .v (.int .i64 x6.1.index), .v (.int .i64 x6.1.gen)] 74))] _ _
      obtain ⟨x17, H1, H0⟩ := bnd H0
      refine G.seqJ (σ := { v : Int // x17 = v }) (fun q => [(2, .a (.c (.v (.int .i64 a2)))), (7, .a (.c (.p 105 0))), (10, .a (.c (.v (.int .i64 x10)))), (11, .a (.c (.v (.int .i64 q.1))))]) (fun q => [(0, rd S W0), (106, plM 106 x6.2), (105, blk 105 [.p 106 0, .v (.int .i64 x6.1.index), .v (.int .i64 x6.1.gen)] 74)]) ?_ ?_
      ·
        refine G.seq ?_
        refine G.rg ?_
        refine K.move (.inl rfl) (gd0 rfl) rfl rfl ?_
        refine K.bin (V := .bool (decide (x11 < 0))) (gd0 rfl) rfl rfl (fun _ => rfl) rfl ?_
        refine K.nil ?_
        refine At.next ?_
        refine G.cond rfl (fun h27 => ?_) (fun h27 => ?_)
        ·
          replace H1 := bif_t H1 h27
          refine G.rg ?_
          refine K.move (.inl rfl) (gd0 rfl) rfl rfl ?_
          refine K.bin (V := .int .i64 (w64 (x7 + 1))) (gd0 rfl) rfl rfl (fun _ => rfl) rfl ?_
          refine K.move (.inr rfl) (gd0 rfl) rfl rfl ?_
          refine K.nil ?_
          exact At.joined (σ := { v : Int // x17 = v }) (Fs := fun q => [(2, .a (.c (.v (.int .i64 a2)))), (7, .a (.c (.p 105 0))), (10, .a (.c (.v (.int .i64 x10)))), (11, .a (.c (.v (.int .i64 q.1))))]) (Tl := fun q => [(0, rd S W0), (106, plM 106 x6.2), (105, blk 105 [.p 106 0, .v (.int .i64 x6.1.index), .v (.int .i64 x6.1.gen)] 74)]) ⟨(w64 (x7 + 1)), (Option.some.inj H1).symm⟩ [(105, 103), (106, 104)] [_, _, _] rfl ⟨rfl, rfl, rfl, rfl, trivial⟩ ⟨rfl, (fun _ => rfl), rfl, (pl_ren rfl), rfl, (blk_ren rfl rfl), trivial⟩ rfl
        ·
          replace H1 := bif_f H1 h27
          refine G.skip ?_
          exact At.joined (σ := { v : Int // x17 = v }) (Fs := fun q => [(2, .a (.c (.v (.int .i64 a2)))), (7, .a (.c (.p 105 0))), (10, .a (.c (.v (.int .i64 x10)))), (11, .a (.c (.v (.int .i64 q.1))))]) (Tl := fun q => [(0, rd S W0), (106, plM 106 x6.2), (105, blk 105 [.p 106 0, .v (.int .i64 x6.1.index), .v (.int .i64 x6.1.gen)] 74)]) ⟨x11, (Option.some.inj H1).symm⟩ [(105, 103), (106, 104)] [_, _, _] rfl ⟨rfl, rfl, rfl, rfl, trivial⟩ ⟨rfl, (fun _ => rfl), rfl, (pl_ren rfl), rfl, (blk_ren rfl rfl), trivial⟩ rfl
      ·
        rintro ⟨_, rfl⟩
        show G _ _ [(2, .a (.c (.v (.int .i64 a2)))), (7, .a (.c (.p 105 0))), (10, .a (.c (.v (.int .i64 x10)))), (11, .a (.c (.v (.int .i64 x17))))] [(0, some (rd S W0)), (106, some (plM 106 x6.2)), (105, some (blk 105 [.p 106 0, .v (.int .i64 x6.1.index), .v (.int .i64 x6.1.gen)] 74))] _ _
        obtain ⟨x18, H1, H0⟩ := bnd H0
        refine G.seqJ (σ := { v : Unit // x18 = Sum.inr v }) (fun q => []) (fun q => [(0, rd S W0)]) ?_ ?_
        ·
          refine G.seq ?_
          refine G.rg ?_
          refine K.move (.inl rfl) (gd0 rfl) rfl rfl ?_
          refine K.bin (V := .int .i64 (w64 (x10 + 1))) (gd0 rfl) rfl rfl (fun _ => rfl) rfl ?_
          refine K.move (.inr rfl) (gd0 rfl) rfl rfl ?_
          refine K.nil ?_
          refine At.next ?_
          refine G.block ?_
          refine G.loop (σ := { q : Nat × (Int) // Lw10_BridgeBetween.l0 k a2 x6 x17 q.1 q.2 = some x18 }) (fun q => [(2, .a (.c (.v (.int .i64 a2)))), (7, .a (.c (.p 109 0))), (11, .a (.c (.v (.int .i64 x17)))), (12, .a (.c (.v (.int .i64 q.1.2))))]) (fun q => [(0, rd S W0), (110, plM 110 x6.2), (109, blk 109 [.p 110 0, .v (.int .i64 x6.1.index), .v (.int .i64 x6.1.gen)] 74)]) (fun q => q.1.1) ⟨(k, (w64 (x10 + 1))), H1⟩ ?_ ?_
          · exact At.into [(109, 105), (110, 106)] [_, _, _] rfl ⟨rfl, rfl, rfl, rfl, trivial⟩ ⟨rfl, (fun _ => rfl), rfl, (pl_ren rfl), rfl, (blk_ren rfl rfl), trivial⟩ rfl
          ·
            rintro ⟨⟨n0, v1⟩, H1⟩
            show G _ _ [(2, .a (.c (.v (.int .i64 a2)))), (7, .a (.c (.p 109 0))), (11, .a (.c (.v (.int .i64 x17)))), (12, .a (.c (.v (.int .i64 v1))))] [(0, some (rd S W0)), (110, some (plM 110 x6.2)), (109, some (blk 109 [.p 110 0, .v (.int .i64 x6.1.index), .v (.int .i64 x6.1.gen)] 74))] _ _
            cases n0 with
            | zero => exact absurd H1 (by simp [Lw10_BridgeBetween.l0])
            | succ n0 =>
              have HL0 := H1
              rw [Lw10_BridgeBetween.l0] at H1
              refine G.seq ?_
              refine G.seq ?_
              refine G.rg ?_
              refine K.move (.inl rfl) (gd0 rfl) rfl rfl ?_
              refine K.move (.inl rfl) (gd0 rfl) rfl rfl ?_
              refine K.bin (V := .bool (decide (v1 < x17))) (gd0 rfl) rfl rfl (fun _ => rfl) rfl ?_
              refine K.nil ?_
              refine At.next ?_
              refine G.cond rfl (fun h28 => ?_) (fun h28 => ?_)
              ·
                replace H1 := bif_t H1 h28
                refine G.skip ?_
                refine At.next ?_
                refine G.seq ?_
                refine G.block ?_
                refine G.seq ?_
                obtain ⟨x19, hx19, H1⟩ := bnd H1
                refine G.rg ?_
                refine K.move (.inl rfl) (gd0 rfl) rfl rfl ?_
                refine K.move (.inl rfl) (gd0 rfl) rfl rfl ?_
                refine K.move (.inl rfl) (gd0 rfl) rfl rfl ?_
                refine K.callR [(.func 13, _), ((.tmp 93), _), ((.tmp 94), _), ((.tmp 95), _)] (bridge_Height_con (k := k) hx19 109 110) (toFn_func (cf 13 rfl) rfl) (gd0 rfl) ⟨rfl, rfl, rfl, rfl, trivial⟩ ⟨rfl, rfl, trivial⟩ rfl rfl rfl ?_
                refine K.bin (V := .bool (decide (x19 ≤ 0))) (gd0 rfl) rfl rfl (fun _ => rfl) rfl ?_
                refine K.nil ?_
                refine At.next ?_
                refine G.cond rfl (fun h29 => ?_) (fun h29 => ?_)
                ·
                  replace H1 := bif_t H1 h29
                  refine G.seq ?_
                  refine G.rg ?_
                  refine K.move (.inr rfl) (gd0 rfl) rfl rfl ?_
                  refine K.nil ?_
                  refine At.next ?_
                  refine G.ret ?_
                  refine At.block_ret ?_
                  refine At.over_ret ?_
                  refine At.over_ret ?_
                  refine At.block_ret ?_
                  refine At.over_ret ?_
                  cases H1
                  replace H0 := sum_l H0
                  refine At.done Y [(.tmp 6, .c _)] rfl ⟨.tmp rfl, trivial⟩ (to' := [(0, _)]) ⟨rfl, trivial⟩ ?_ ?_ rfl rfl rfl (.inl rfl)
                  · cases H0; rfl
                  · cases H0; rfl
                ·
                  replace H1 := bif_f H1 h29
                  refine G.skip ?_
                  refine At.block_normal ?_
                  refine At.next ?_
                  refine G.rg ?_
                  refine K.move (.inl rfl) (gd0 rfl) rfl rfl ?_
                  refine K.bin (V := .int .i64 (w64 (v1 + 1))) (gd0 rfl) rfl rfl (fun _ => rfl) rfl ?_
                  refine K.move (.inr rfl) (gd0 rfl) rfl rfl ?_
                  refine K.nil ?_
                  exact At.again (σ := { q : Nat × (Int) // Lw10_BridgeBetween.l0 k a2 x6 x17 q.1 q.2 = some x18 }) (Fs := fun q => [(2, .a (.c (.v (.int .i64 a2)))), (7, .a (.c (.p 109 0))), (11, .a (.c (.v (.int .i64 x17)))), (12, .a (.c (.v (.int .i64 q.1.2))))]) (Tl := fun q => [(0, rd S W0), (110, plM 110 x6.2), (109, blk 109 [.p 110 0, .v (.int .i64 x6.1.index), .v (.int .i64 x6.1.gen)] 74)]) (μ := fun q => q.1.1) (s := ⟨(n0 + 1, v1), HL0⟩) ⟨(n0, (w64 (v1 + 1))), H1⟩ [] [_, _, _] (Nat.lt_succ_self _) rfl ⟨rfl, rfl, rfl, rfl, trivial⟩ ⟨rfl, (fun _ => rfl), rfl, (pl_ren rfl), rfl, (blk_ren rfl rfl), trivial⟩ rfl
              ·
                replace H1 := bif_f H1 h28
                refine G.exit ?_
                refine At.over_exit ?_
                refine At.over_exit ?_
                refine At.block_hit ?_
                exact At.joined (σ := { v : Unit // x18 = Sum.inr v }) (Fs := fun q => []) (Tl := fun q => [(0, rd S W0)]) ⟨(), (Option.some.inj H1).symm⟩ [] [_] rfl trivial ⟨rfl, (fun _ => rfl), trivial⟩ rfl
        ·
          rintro ⟨v18, rfl⟩
          replace H0 := sum_r H0
          show G _ _ [] [(0, some (rd S W0))] _ _
          refine G.seq ?_
          refine G.rg ?_
          refine K.move (.inr rfl) (gd0 rfl) rfl rfl ?_
          refine K.nil ?_
          refine At.next ?_
          refine G.ret ?_
          refine At.done Y [(.tmp 6, .c _)] rfl ⟨.tmp rfl, trivial⟩ (to' := [(0, _)]) ⟨rfl, trivial⟩ ?_ ?_ rfl rfl rfl (.inl rfl)
          · cases H0; rfl
          · cases H0; rfl
theorem Lw10_BridgeBetween_con {k : Nat}  {S : Foot} {W0 : World} {s0 : Value} {l0 : List TR08Mark} {a1 : Int} {a2 : Int} {r : Bool} (hL0 : LArg S W0 s0 eTR08Mark 8 l0) (H0 : Lw10_BridgeBetween.f k l0 a1 a2 = some r) : SCon Try.prog 5 [SV.raw s0, .a (.c (.v (.int .i64 a1))), .a (.c (.v (.int .i64 a2)))] [(0, rd S W0)] (.a (.c (.v (.bool r)))) [(0, rd S W0)] [] :=
  SCon.ren (rn []) (Lw10_BridgeBetween_con0 (k := k)  hL0 H0) ⟨(fun _ => rfl), trivial⟩ ⟨(fun _ => rfl), trivial⟩ (by simp) (by simp)
end Go.Proofs.Ythcehagablploaa


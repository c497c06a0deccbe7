/- A law's walk. Printed by a program of mine. -/
import Derived.KernelRfl
import Derived.Test.YthcehagablploaaMx
namespace Go.Proofs.Ythcehagablploaa
open Go Go.Proofs.Ythcehagablploaa.Sx
set_option linter.unusedVariables false
set_option linter.unusedSimpArgs false
theorem Lw11_LegalLater_con0 {k : Nat}  {S : Foot} {W0 : World} {s0 : Value} {l0 : List TR08Mark} {a1 : Int} {a2 : Int} {r : Bool} (hL0 : LArg S W0 s0 eTR08Mark 8 l0) (H0 : Lw11_LegalLater.f k l0 a1 a2 = some r) : SCon Try.prog 10 [SV.raw s0, .a (.c (.v (.int .i64 a1))), .a (.c (.v (.int .u16 a2)))] [(0, rd S W0)] (.a (.c (.v (.bool r)))) [(0, rd S W0)] [] := by
  rw [Lw11_LegalLater.f] at H0
  obtain ⟨b0, o0, hI0⟩ := hL0
  refine spec_of [(0, _), (1, _), (2, _)] [(0, _)] 78 Try.func10 rfl Try.ntmps10 rfl rfl rfl rfl (fun β W F => ?_)
  refine G.seq ?_
  refine G.rg ?_
  refine K.move (.inr rfl) (gd0 rfl) rfl rfl ?_
  refine K.nil ?_
  refine At.next ?_
  obtain ⟨x1, H1, H0⟩ := bnd H0
  refine G.seqJ (σ := { v : Unit // x1 = Sum.inr v }) (fun q => [(0, SV.raw s0), (1, .a (.c (.v (.int .i64 a1)))), (2, .a (.c (.v (.int .u16 a2))))]) (fun q => [(0, rd S W0)]) ?_ ?_
  ·
    refine G.seq ?_
    obtain ⟨x2, hx2, H1⟩ := bnd H1
    rcases Bool.eq_false_or_eq_true (!x2) with h1 | h1
    ·
      replace H1 := bif_t H1 h1
      refine G.rg ?_
      refine K.callR [(.func 29, _)] (Lw11_awake_con (k := k) hx2) (toFn_func (cf 29 rfl) rfl) (gd0 rfl) ⟨rfl, trivial⟩ trivial rfl rfl rfl ?_
      refine K.un (V := .bool (!x2)) (gd0 rfl) rfl (fun _ => rfl) rfl ?_
      refine K.move (.inl rfl) (gd0 rfl) rfl rfl ?_
      refine K.skip rfl rfl rfl rfl (h1) rfl ?_
      refine K.skip rfl rfl rfl rfl (h1) rfl ?_
      refine K.skip rfl rfl rfl rfl (h1) rfl ?_
      refine K.pickT (gd0 rfl) rfl (h1) rfl rfl ?_
      refine K.move (.inl rfl) (gd0 rfl) rfl rfl ?_
      refine K.skip rfl rfl rfl rfl (rfl) rfl ?_
      refine K.skip rfl rfl rfl rfl (rfl) rfl ?_
      refine K.pickT (gd0 rfl) rfl (rfl) rfl rfl ?_
      refine K.move (.inl rfl) (gd0 rfl) rfl rfl ?_
      refine K.skip rfl rfl rfl rfl (rfl) rfl ?_
      refine K.skip rfl rfl rfl rfl (rfl) rfl ?_
      refine K.pickT (gd0 rfl) rfl (rfl) rfl rfl ?_
      refine K.nil ?_
      refine At.next ?_
      refine G.cond rfl (fun h2 => ?_) (fun h2 => ?_)
      ·
        refine G.seq ?_
        obtain ⟨x3, hx3, H1⟩ := bnd H1
        refine G.rg ?_
        refine K.callR [(.func 29, _)] (Lw11_awake_con (k := k) hx3) (toFn_func (cf 29 rfl) rfl) (gd0 rfl) ⟨rfl, trivial⟩ trivial rfl rfl rfl ?_
        refine K.move (.inr rfl) (gd0 rfl) rfl rfl ?_
        refine K.nil ?_
        refine At.next ?_
        refine G.ret ?_
        refine At.over_ret ?_
        cases H1
        replace H0 := sum_l H0
        refine At.done Y [(.tmp 6, .c _)] rfl ⟨.tmp rfl, trivial⟩ (to' := [(0, _)]) ⟨rfl, trivial⟩ ?_ ?_ rfl rfl rfl (.inl rfl)
        · cases H0; rfl
        · cases H0; rfl
      · cases h2
    ·
      replace H1 := bif_f H1 h1
      rcases Bool.eq_false_or_eq_true (decide ((l0.length : Int) > 50)) with h3 | h3
      ·
        replace H1 := bif_t H1 h3
        refine G.rg ?_
        refine K.callR [(.func 29, _)] (Lw11_awake_con (k := k) hx2) (toFn_func (cf 29 rfl) rfl) (gd0 rfl) ⟨rfl, trivial⟩ trivial rfl rfl rfl ?_
        refine K.un (V := .bool (!x2)) (gd0 rfl) rfl (fun _ => rfl) rfl ?_
        refine K.move (.inl rfl) (gd0 rfl) rfl rfl ?_
        refine K.move (.inl rfl) (gd1 rfl rfl rfl (h1)) rfl rfl ?_
        refine K.lenL (rV 0 S W0 s0 b0 o0 eTR08Mark 8 l0) (hI0.is 0) (gd1 rfl rfl rfl (h1)) rfl rfl Try.underlying22 rfl ?_
        refine K.bin (V := .bool (decide ((l0.length : Int) > 50))) (gd1 rfl rfl rfl (h1)) rfl rfl (fun _ => rfl) rfl ?_
        refine K.pickF (gd0 rfl) rfl (h1) rfl rfl ?_
        refine K.move (.inl rfl) (gd0 rfl) rfl rfl ?_
        refine K.skip rfl rfl rfl rfl (h3) rfl ?_
        refine K.skip rfl rfl rfl rfl (h3) rfl ?_
        refine K.pickT (gd0 rfl) rfl (h3) rfl rfl ?_
        refine K.move (.inl rfl) (gd0 rfl) rfl rfl ?_
        refine K.skip rfl rfl rfl rfl (rfl) rfl ?_
        refine K.skip rfl rfl rfl rfl (rfl) rfl ?_
        refine K.pickT (gd0 rfl) rfl (rfl) rfl rfl ?_
        refine K.nil ?_
        refine At.next ?_
        refine G.cond rfl (fun h4 => ?_) (fun h4 => ?_)
        ·
          refine G.seq ?_
          obtain ⟨x4, hx4, H1⟩ := bnd H1
          refine G.rg ?_
          refine K.callR [(.func 29, _)] (Lw11_awake_con (k := k) hx4) (toFn_func (cf 29 rfl) rfl) (gd0 rfl) ⟨rfl, trivial⟩ trivial rfl rfl rfl ?_
          refine K.move (.inr rfl) (gd0 rfl) rfl rfl ?_
          refine K.nil ?_
          refine At.next ?_
          refine G.ret ?_
          refine At.over_ret ?_
          cases H1
          replace H0 := sum_l H0
          refine At.done Y [(.tmp 6, .c _)] rfl ⟨.tmp rfl, trivial⟩ (to' := [(0, _)]) ⟨rfl, trivial⟩ ?_ ?_ rfl rfl rfl (.inl rfl)
          · cases H0; rfl
          · cases H0; rfl
        · cases h4
      ·
        replace H1 := bif_f H1 h3
        rcases Bool.eq_false_or_eq_true (decide (a1 > 2305843009213693952)) with h5 | h5
        ·
          replace H1 := bif_t H1 h5
          refine G.rg ?_
          refine K.callR [(.func 29, _)] (Lw11_awake_con (k := k) hx2) (toFn_func (cf 29 rfl) rfl) (gd0 rfl) ⟨rfl, trivial⟩ trivial rfl rfl rfl ?_
          refine K.un (V := .bool (!x2)) (gd0 rfl) rfl (fun _ => rfl) rfl ?_
          refine K.move (.inl rfl) (gd0 rfl) rfl rfl ?_
          refine K.move (.inl rfl) (gd1 rfl rfl rfl (h1)) rfl rfl ?_
          refine K.lenL (rV 0 S W0 s0 b0 o0 eTR08Mark 8 l0) (hI0.is 0) (gd1 rfl rfl rfl (h1)) rfl rfl Try.underlying22 rfl ?_
          refine K.bin (V := .bool (decide ((l0.length : Int) > 50))) (gd1 rfl rfl rfl (h1)) rfl rfl (fun _ => rfl) rfl ?_
          refine K.pickF (gd0 rfl) rfl (h1) rfl rfl ?_
          refine K.move (.inl rfl) (gd0 rfl) rfl rfl ?_
          refine K.move (.inl rfl) (gd1 rfl rfl rfl (h3)) rfl rfl ?_
          refine K.bin (V := .bool (decide (a1 > 2305843009213693952))) (gd1 rfl rfl rfl (h3)) rfl rfl (fun _ => rfl) rfl ?_
          refine K.pickF (gd0 rfl) rfl (h3) rfl rfl ?_
          refine K.move (.inl rfl) (gd0 rfl) rfl rfl ?_
          refine K.skip rfl rfl rfl rfl (h5) rfl ?_
          refine K.skip rfl rfl rfl rfl (h5) rfl ?_
          refine K.pickT (gd0 rfl) rfl (h5) rfl rfl ?_
          refine K.nil ?_
          refine At.next ?_
          refine G.cond rfl (fun h6 => ?_) (fun h6 => ?_)
          ·
            refine G.seq ?_
            obtain ⟨x5, hx5, H1⟩ := bnd H1
            refine G.rg ?_
            refine K.callR [(.func 29, _)] (Lw11_awake_con (k := k) hx5) (toFn_func (cf 29 rfl) rfl) (gd0 rfl) ⟨rfl, trivial⟩ trivial rfl rfl rfl ?_
            refine K.move (.inr rfl) (gd0 rfl) rfl rfl ?_
            refine K.nil ?_
            refine At.next ?_
            refine G.ret ?_
            refine At.over_ret ?_
            cases H1
            replace H0 := sum_l H0
            refine At.done Y [(.tmp 6, .c _)] rfl ⟨.tmp rfl, trivial⟩ (to' := [(0, _)]) ⟨rfl, trivial⟩ ?_ ?_ rfl rfl rfl (.inl rfl)
            · cases H0; rfl
            · cases H0; rfl
          · cases h6
        ·
          replace H1 := bif_f H1 h5
          refine G.rg ?_
          refine K.callR [(.func 29, _)] (Lw11_awake_con (k := k) hx2) (toFn_func (cf 29 rfl) rfl) (gd0 rfl) ⟨rfl, trivial⟩ trivial rfl rfl rfl ?_
          refine K.un (V := .bool (!x2)) (gd0 rfl) rfl (fun _ => rfl) rfl ?_
          refine K.move (.inl rfl) (gd0 rfl) rfl rfl ?_
          refine K.move (.inl rfl) (gd1 rfl rfl rfl (h1)) rfl rfl ?_
          refine K.lenL (rV 0 S W0 s0 b0 o0 eTR08Mark 8 l0) (hI0.is 0) (gd1 rfl rfl rfl (h1)) rfl rfl Try.underlying22 rfl ?_
          refine K.bin (V := .bool (decide ((l0.length : Int) > 50))) (gd1 rfl rfl rfl (h1)) rfl rfl (fun _ => rfl) rfl ?_
          refine K.pickF (gd0 rfl) rfl (h1) rfl rfl ?_
          refine K.move (.inl rfl) (gd0 rfl) rfl rfl ?_
          refine K.move (.inl rfl) (gd1 rfl rfl rfl (h3)) rfl rfl ?_
          refine K.bin (V := .bool (decide (a1 > 2305843009213693952))) (gd1 rfl rfl rfl (h3)) rfl rfl (fun _ => rfl) rfl ?_
          refine K.pickF (gd0 rfl) rfl (h3) rfl rfl ?_
          refine K.move (.inl rfl) (gd0 rfl) rfl rfl ?_
          refine K.move (.inl rfl) (gd1 rfl rfl rfl (h5)) rfl rfl ?_
          refine K.bin (V := .bool (decide (a1 < (-2305843009213693952)))) (gd1 rfl rfl rfl (h5)) rfl rfl (fun _ => rfl) rfl ?_
          refine K.pickF (gd0 rfl) rfl (h5) rfl rfl ?_
          refine K.nil ?_
          refine At.next ?_
          refine G.cond rfl (fun h7 => ?_) (fun h7 => ?_)
          ·
            replace H1 := bif_t H1 h7
            refine G.seq ?_
            obtain ⟨x6, hx6, H1⟩ := bnd H1
            refine G.rg ?_
            refine K.callR [(.func 29, _)] (Lw11_awake_con (k := k) hx6) (toFn_func (cf 29 rfl) rfl) (gd0 rfl) ⟨rfl, trivial⟩ trivial rfl rfl rfl ?_
            refine K.move (.inr rfl) (gd0 rfl) rfl rfl ?_
            refine K.nil ?_
            refine At.next ?_
            refine G.ret ?_
            refine At.over_ret ?_
            cases H1
            replace H0 := sum_l H0
            refine At.done Y [(.tmp 6, .c _)] rfl ⟨.tmp rfl, trivial⟩ (to' := [(0, _)]) ⟨rfl, trivial⟩ ?_ ?_ rfl rfl rfl (.inl rfl)
            · cases H0; rfl
            · cases H0; rfl
          ·
            replace H1 := bif_f H1 h7
            refine G.skip ?_
            exact At.joined (σ := { v : Unit // x1 = Sum.inr v }) (Fs := fun q => [(0, SV.raw s0), (1, .a (.c (.v (.int .i64 a1)))), (2, .a (.c (.v (.int .u16 a2))))]) (Tl := fun q => [(0, rd S W0)]) ⟨(), (Option.some.inj H1).symm⟩ [] [_] rfl ⟨rfl, rfl, rfl, trivial⟩ ⟨rfl, (fun _ => rfl), trivial⟩ rfl
  ·
    rintro ⟨v1, rfl⟩
    replace H0 := sum_r H0
    show G _ _ [(0, SV.raw s0), (1, .a (.c (.v (.int .i64 a1)))), (2, .a (.c (.v (.int .u16 a2))))] [(0, some (rd S W0))] _ _
    refine G.seq ?_
    obtain ⟨x7, hx7, H0⟩ := bnd H0
    refine G.rg ?_
    refine K.move (.inl rfl) (gd0 rfl) rfl rfl ?_
    refine K.callV [(.func 34, _), ((.tmp 27), _)] [(0, rd S W0)] [] [(100, _)] (fun β => [SV.raw s0]) (fun β w S2 h => R11_Of_con (k := k) ((hI0.isC 0).larg ⟨_, List.mem_cons_self⟩ h) hx7 100 rfl) (toFn_func (cf 34 rfl) rfl) (gd0 rfl) ⟨rfl, rfl, trivial⟩ (fun _ => rfl) ⟨rfl, trivial⟩ rfl rfl rfl rfl rfl rfl ?_
    refine K.move (.inr rfl) (gd0 rfl) rfl rfl ?_
    refine K.nil ?_
    refine At.next ?_
    refine G.seq ?_
    obtain ⟨x8, hx8, H0⟩ := bnd H0
    refine G.rg ?_
    refine K.move (.inl rfl) (gd0 rfl) rfl rfl ?_
    refine K.callV [(.func 14, _), ((.tmp 29), _)] [(100, lrow 100 52 eTR08Mark 8 x7)] [] [(101, _), (102, _)] (fun β => [SV.raw ((lrowV 100 52 eTR08Mark 8 x7).s.den β)]) (fun β w S2 h => Lw10_Tree_con (k := k) ((lrowV_isC eTR08Mark_len (by decide)).larg ⟨_, List.mem_cons_self⟩ h) hx8 101 102 rfl) (toFn_func (cf 14 rfl) rfl) (gd0 rfl) ⟨rfl, rfl, trivial⟩ (fun _ => rfl) ⟨rfl, trivial⟩ rfl rfl rfl rfl rfl rfl ?_
    refine K.move (.inr rfl) (gd0 rfl) rfl rfl ?_
    refine K.nil ?_
    refine At.next ?_
    refine G.seq ?_
    refine G.rg ?_
    refine K.move (.inl rfl) (gd0 rfl) rfl rfl ?_
    refine K.move (.inl rfl) (gd0 rfl) rfl rfl ?_
    refine K.conv (V := .int .i64 (w64 a2)) (gd0 rfl) rfl (cv_int (by rw [Try.underlying55]; rfl) Try.underlying3) rfl ?_
    refine K.bin (V := .int .i64 (w64 (a1 + (w64 a2)))) (gd0 rfl) rfl rfl (fun _ => rfl) rfl ?_
    refine K.move (.inr rfl) (gd0 rfl) rfl rfl ?_
    refine K.nil ?_
    refine At.next ?_
    obtain ⟨x9, H1, H0⟩ := bnd H0
    refine G.seqJ (σ := { v : Int // x9 = Sum.inr v }) (fun q => [(1, .a (.c (.v (.int .i64 a1)))), (7, .a (.c (.nv 103))), (8, .a (.c (.p 104 0))), (9, .a (.c (.v (.int .i64 q.1))))]) (fun q => [(0, rd S W0), (103, lrow 103 52 eTR08Mark 8 x7), (105, plM 105 x8.2), (104, blk 104 [.p 105 0, .v (.int .i64 x8.1.index), .v (.int .i64 x8.1.gen)] 74)]) ?_ ?_
    ·
      refine G.seq ?_
      obtain ⟨x10, hx10, H1⟩ := bnd H1
      rcases Bool.eq_false_or_eq_true (!x10) with h8 | h8
      ·
        replace H1 := bif_t H1 h8
        refine G.rg ?_
        refine K.move (.inl rfl) (gd0 rfl) rfl rfl ?_
        refine K.move (.inl rfl) (gd0 rfl) rfl rfl ?_
        refine K.callR [(.func 36, _), ((.tmp 35), _), ((.tmp 36), _)] (legal_MayDelete_con (k := k) hx10 101 102) (toFn_func (cf 36 rfl) rfl) (gd0 rfl) ⟨rfl, rfl, rfl, trivial⟩ ⟨rfl, rfl, trivial⟩ rfl rfl rfl ?_
        refine K.un (V := .bool (!x10)) (gd0 rfl) rfl (fun _ => rfl) rfl ?_
        refine K.move (.inl rfl) (gd0 rfl) rfl rfl ?_
        refine K.skip rfl rfl rfl rfl (h8) rfl ?_
        refine K.skip rfl rfl rfl rfl (h8) rfl ?_
        refine K.skip rfl rfl rfl rfl (h8) rfl ?_
        refine K.skip rfl rfl rfl rfl (h8) rfl ?_
        refine K.pickT (gd0 rfl) rfl (h8) rfl rfl ?_
        refine K.nil ?_
        refine At.next ?_
        refine G.cond rfl (fun h9 => ?_) (fun h9 => ?_)
        ·
          refine G.seq ?_
          refine G.rg ?_
          refine K.move (.inr rfl) (gd0 rfl) rfl rfl ?_
          refine K.nil ?_
          refine At.next ?_
          refine G.ret ?_
          refine At.over_ret ?_
          cases H1
          replace H0 := sum_l H0
          refine At.done Y [(.tmp 6, .c _)] rfl ⟨.tmp rfl, trivial⟩ (to' := [(0, _)]) ⟨rfl, trivial⟩ ?_ ?_ rfl rfl rfl (.inl rfl)
          · cases H0; rfl
          · cases H0; rfl
        · cases h9
      ·
        replace H1 := bif_f H1 h8
        obtain ⟨x11, hx11, H1⟩ := bnd H1
        refine G.rg ?_
        refine K.move (.inl rfl) (gd0 rfl) rfl rfl ?_
        refine K.move (.inl rfl) (gd0 rfl) rfl rfl ?_
        refine K.callR [(.func 36, _), ((.tmp 35), _), ((.tmp 36), _)] (legal_MayDelete_con (k := k) hx10 101 102) (toFn_func (cf 36 rfl) rfl) (gd0 rfl) ⟨rfl, rfl, rfl, trivial⟩ ⟨rfl, rfl, trivial⟩ rfl rfl rfl ?_
        refine K.un (V := .bool (!x10)) (gd0 rfl) rfl (fun _ => rfl) rfl ?_
        refine K.move (.inl rfl) (gd0 rfl) rfl rfl ?_
        refine K.move (.inl rfl) (gd1 rfl rfl rfl (h8)) rfl rfl ?_
        refine K.move (.inl rfl) (gd1 rfl rfl rfl (h8)) rfl rfl ?_
        refine K.callV [(.func 35, _), ((.tmp 40), _), ((.tmp 41), _)] [(100, lrow 100 52 eTR08Mark 8 x7)] [] [] (fun β => [SV.raw ((lrowV 100 52 eTR08Mark 8 x7).s.den β), .a (.c (.v (.int .i64 (w64 (a1 + (w64 a2))))))]) (fun β w S2 h => R11_At_con (k := k) ((lrowV_isC eTR08Mark_len (by decide)).larg ⟨_, List.mem_cons_self⟩ h) hx11) (toFn_func (cf 35 rfl) rfl) (gd1 rfl rfl rfl (h8)) ⟨rfl, rfl, rfl, trivial⟩ (fun _ => rfl) ⟨rfl, trivial⟩ rfl rfl rfl rfl rfl rfl ?_
        refine K.bin (V := .bool (decide (x11 ≥ 0))) (gd1 rfl rfl rfl (h8)) rfl rfl (fun _ => rfl) rfl ?_
        refine K.pickF (gd0 rfl) rfl (h8) rfl rfl ?_
        refine K.nil ?_
        refine At.next ?_
        refine G.cond rfl (fun h10 => ?_) (fun h10 => ?_)
        ·
          replace H1 := bif_t H1 h10
          refine G.seq ?_
          refine G.rg ?_
          refine K.move (.inr rfl) (gd0 rfl) rfl rfl ?_
          refine K.nil ?_
          refine At.next ?_
          refine G.ret ?_
          refine At.over_ret ?_
          cases H1
          replace H0 := sum_l H0
          refine At.done Y [(.tmp 6, .c _)] rfl ⟨.tmp rfl, trivial⟩ (to' := [(0, _)]) ⟨rfl, trivial⟩ ?_ ?_ rfl rfl rfl (.inl rfl)
          · cases H0; rfl
          · cases H0; rfl
        ·
          replace H1 := bif_f H1 h10
          refine G.skip ?_
          exact At.joined (σ := { v : Int // x9 = Sum.inr v }) (Fs := fun q => [(1, .a (.c (.v (.int .i64 a1)))), (7, .a (.c (.nv 103))), (8, .a (.c (.p 104 0))), (9, .a (.c (.v (.int .i64 q.1))))]) (Tl := fun q => [(0, rd S W0), (103, lrow 103 52 eTR08Mark 8 x7), (105, plM 105 x8.2), (104, blk 104 [.p 105 0, .v (.int .i64 x8.1.index), .v (.int .i64 x8.1.gen)] 74)]) ⟨(w64 (a1 + (w64 a2))), (Option.some.inj H1).symm⟩ [(103, 100), (104, 101), (105, 102)] [_, _, _, _] rfl ⟨rfl, rfl, rfl, rfl, trivial⟩ ⟨rfl, (fun _ => rfl), rfl, (lrow_ren rfl), rfl, (pl_ren rfl), rfl, (blk_ren rfl rfl), trivial⟩ rfl
    ·
      rintro ⟨v9, rfl⟩
      replace H0 := sum_r H0
      show G _ _ [(1, .a (.c (.v (.int .i64 a1)))), (7, .a (.c (.nv 103))), (8, .a (.c (.p 104 0))), (9, .a (.c (.v (.int .i64 v9))))] [(0, some (rd S W0)), (103, some (lrow 103 52 eTR08Mark 8 x7)), (105, some (plM 105 x8.2)), (104, some (blk 104 [.p 105 0, .v (.int .i64 x8.1.index), .v (.int .i64 x8.1.gen)] 74))] _ _
      obtain ⟨x12, H1, H0⟩ := bnd H0
      refine G.seqJ (σ := { v : Unit // x12 = Sum.inr v }) (fun q => [(1, .a (.c (.v (.int .i64 a1)))), (7, .a (.c (.nv 106))), (9, .a (.c (.v (.int .i64 v9))))]) (fun q => [(0, rd S W0), (106, lrow 106 52 eTR08Mark 8 x7)]) ?_ ?_
      ·
        refine G.seq ?_
        obtain ⟨x13, hx13, H1⟩ := bnd H1
        rcases Bool.eq_false_or_eq_true (!x13) with h11 | h11
        ·
          replace H1 := bif_t H1 h11
          refine G.rg ?_
          refine K.move (.inl rfl) (gd0 rfl) rfl rfl ?_
          refine K.move (.inl rfl) (gd0 rfl) rfl rfl ?_
          refine K.callR [(.func 36, _), ((.tmp 45), _), ((.tmp 46), _)] (legal_MayDelete_con (k := k) hx13 104 105) (toFn_func (cf 36 rfl) rfl) (gd0 rfl) ⟨rfl, rfl, rfl, trivial⟩ ⟨rfl, rfl, trivial⟩ rfl rfl rfl ?_
          refine K.un (V := .bool (!x13)) (gd0 rfl) rfl (fun _ => rfl) rfl ?_
          refine K.move (.inl rfl) (gd0 rfl) rfl rfl ?_
          refine K.skip rfl rfl rfl rfl (h11) rfl ?_
          refine K.skip rfl rfl rfl rfl (h11) rfl ?_
          refine K.skip rfl rfl rfl rfl (h11) rfl ?_
          refine K.skip rfl rfl rfl rfl (h11) rfl ?_
          refine K.skip rfl rfl rfl rfl (h11) rfl ?_
          refine K.pickT (gd0 rfl) rfl (h11) rfl rfl ?_
          refine K.nil ?_
          refine At.next ?_
          refine G.cond rfl (fun h12 => ?_) (fun h12 => ?_)
          ·
            refine G.seq ?_
            obtain ⟨x14, hx14, H1⟩ := bnd H1
            refine G.rg ?_
            refine K.move (.inl rfl) (gd0 rfl) rfl rfl ?_
            refine K.move (.inl rfl) (gd0 rfl) rfl rfl ?_
            refine K.callR [(.func 36, _), ((.tmp 56), _), ((.tmp 57), _)] (legal_MayDelete_con (k := k) hx14 104 105) (toFn_func (cf 36 rfl) rfl) (gd0 rfl) ⟨rfl, rfl, rfl, trivial⟩ ⟨rfl, rfl, trivial⟩ rfl rfl rfl ?_
            refine K.move (.inr rfl) (gd0 rfl) rfl rfl ?_
            refine K.nil ?_
            refine At.next ?_
            refine G.ret ?_
            refine At.over_ret ?_
            cases H1
            replace H0 := sum_l H0
            refine At.done Y [(.tmp 6, .c _)] rfl ⟨.tmp rfl, trivial⟩ (to' := [(0, _)]) ⟨rfl, trivial⟩ ?_ ?_ rfl rfl rfl (.inl rfl)
            · cases H0; rfl
            · cases H0; rfl
          · cases h12
        ·
          replace H1 := bif_f H1 h11
          obtain ⟨x15, hx15, H1⟩ := bnd H1
          refine G.rg ?_
          refine K.move (.inl rfl) (gd0 rfl) rfl rfl ?_
          refine K.move (.inl rfl) (gd0 rfl) rfl rfl ?_
          refine K.callR [(.func 36, _), ((.tmp 45), _), ((.tmp 46), _)] (legal_MayDelete_con (k := k) hx13 104 105) (toFn_func (cf 36 rfl) rfl) (gd0 rfl) ⟨rfl, rfl, rfl, trivial⟩ ⟨rfl, rfl, trivial⟩ rfl rfl rfl ?_
          refine K.un (V := .bool (!x13)) (gd0 rfl) rfl (fun _ => rfl) rfl ?_
          refine K.move (.inl rfl) (gd0 rfl) rfl rfl ?_
          refine K.move (.inl rfl) (gd1 rfl rfl rfl (h11)) rfl rfl ?_
          refine K.move (.inl rfl) (gd1 rfl rfl rfl (h11)) rfl rfl ?_
          refine K.bin (V := .int .i64 (w64 (a1 - 1))) (gd1 rfl rfl rfl (h11)) rfl rfl (fun _ => rfl) rfl ?_
          refine K.callV [(.func 35, _), ((.tmp 50), _), ((.tmp 52), _)] [(103, lrow 103 52 eTR08Mark 8 x7)] [] [] (fun β => [SV.raw ((lrowV 103 52 eTR08Mark 8 x7).s.den β), .a (.c (.v (.int .i64 (w64 (a1 - 1)))))]) (fun β w S2 h => R11_At_con (k := k) ((lrowV_isC eTR08Mark_len (by decide)).larg ⟨_, List.mem_cons_self⟩ h) hx15) (toFn_func (cf 35 rfl) rfl) (gd1 rfl rfl rfl (h11)) ⟨rfl, rfl, rfl, trivial⟩ (fun _ => rfl) ⟨rfl, trivial⟩ rfl rfl rfl rfl rfl rfl ?_
          refine K.bin (V := .bool (decide (x15 ≥ 0))) (gd1 rfl rfl rfl (h11)) rfl rfl (fun _ => rfl) rfl ?_
          refine K.pickF (gd0 rfl) rfl (h11) rfl rfl ?_
          refine K.nil ?_
          refine At.next ?_
          refine G.cond rfl (fun h13 => ?_) (fun h13 => ?_)
          ·
            replace H1 := bif_t H1 h13
            refine G.seq ?_
            obtain ⟨x16, hx16, H1⟩ := bnd H1
            refine G.rg ?_
            refine K.move (.inl rfl) (gd0 rfl) rfl rfl ?_
            refine K.move (.inl rfl) (gd0 rfl) rfl rfl ?_
            refine K.callR [(.func 36, _), ((.tmp 56), _), ((.tmp 57), _)] (legal_MayDelete_con (k := k) hx16 104 105) (toFn_func (cf 36 rfl) rfl) (gd0 rfl) ⟨rfl, rfl, rfl, trivial⟩ ⟨rfl, rfl, trivial⟩ rfl rfl rfl ?_
            refine K.move (.inr rfl) (gd0 rfl) rfl rfl ?_
            refine K.nil ?_
            refine At.next ?_
            refine G.ret ?_
            refine At.over_ret ?_
            cases H1
            replace H0 := sum_l H0
            refine At.done Y [(.tmp 6, .c _)] rfl ⟨.tmp rfl, trivial⟩ (to' := [(0, _)]) ⟨rfl, trivial⟩ ?_ ?_ rfl rfl rfl (.inl rfl)
            · cases H0; rfl
            · cases H0; rfl
          ·
            replace H1 := bif_f H1 h13
            refine G.skip ?_
            exact At.joined (σ := { v : Unit // x12 = Sum.inr v }) (Fs := fun q => [(1, .a (.c (.v (.int .i64 a1)))), (7, .a (.c (.nv 106))), (9, .a (.c (.v (.int .i64 v9))))]) (Tl := fun q => [(0, rd S W0), (106, lrow 106 52 eTR08Mark 8 x7)]) ⟨(), (Option.some.inj H1).symm⟩ [(106, 103)] [_, _] rfl ⟨rfl, rfl, rfl, trivial⟩ ⟨rfl, (fun _ => rfl), rfl, (lrow_ren rfl), trivial⟩ rfl
      ·
        rintro ⟨v12, rfl⟩
        replace H0 := sum_r H0
        show G _ _ [(1, .a (.c (.v (.int .i64 a1)))), (7, .a (.c (.nv 106))), (9, .a (.c (.v (.int .i64 v9))))] [(0, some (rd S W0)), (106, some (lrow 106 52 eTR08Mark 8 x7))] _ _
        refine G.seq ?_
        obtain ⟨x17, hx17, H0⟩ := bnd H0
        obtain ⟨x18, hx18, H0⟩ := bnd H0
        refine G.rg ?_
        refine K.move (.inl rfl) (gd0 rfl) rfl rfl ?_
        refine K.move (.inl rfl) (gd0 rfl) rfl rfl ?_
        refine K.bin (V := .int .i64 (w64 (a1 - 1))) (gd0 rfl) rfl rfl (fun _ => rfl) rfl ?_
        refine K.build Y [(0, _), (1, _)] [_, _, _, _] [((.tmp 61), _), (_, _)] (gd0 rfl) (AllE.spec ⟨rfl, rfl, trivial⟩) rfl rfl t35 rfl rfl ?_
        refine K.build Y [(0, _)] [_, _, _, _, _, _, _, _] [((.tmp 62), _)] (gd0 rfl) (AllE.spec ⟨rfl, trivial⟩) rfl rfl t52 rfl rfl ?_
        refine K.callV [(.func 37, _), ((.tmp 59), _), ((.tmp 63), _)] [(106, lrow 106 52 eTR08Mark 8 x7)] [] [(107, _)] (fun β => [SV.raw ((lrowV 106 52 eTR08Mark 8 x7).s.den β), .a (.agg ((eTR08Mark (TR08Mark.mk (TOp.mk (w64 (a1 - 1)) true zTItem) false zTTook)).map .v))]) (fun β w S2 h => R11_With_con (k := k) ((lrowV_isC eTR08Mark_len (by decide)).larg ⟨_, List.mem_cons_self⟩ h) hx17 107 rfl) (toFn_func (cf 37 rfl) rfl) (gd0 rfl) ⟨rfl, rfl, rfl, trivial⟩ (fun _ => rfl) ⟨rfl, trivial⟩ rfl rfl rfl rfl rfl rfl ?_
        refine K.callV [(.func 14, _), ((.tmp 64), _)] [(107, lrow 107 52 eTR08Mark 8 x17)] [] [(108, _), (109, _)] (fun β => [SV.raw ((lrowV 107 52 eTR08Mark 8 x17).s.den β)]) (fun β w S2 h => Lw10_Tree_con (k := k) ((lrowV_isC eTR08Mark_len (by decide)).larg ⟨_, List.mem_cons_self⟩ h) hx18 108 109 rfl) (toFn_func (cf 14 rfl) rfl) (gd0 rfl) ⟨rfl, rfl, trivial⟩ (fun _ => rfl) ⟨rfl, trivial⟩ rfl rfl rfl rfl rfl rfl ?_
        refine K.move (.inr rfl) (gd0 rfl) rfl rfl ?_
        refine K.nil ?_
        refine At.next ?_
        refine G.seq ?_
        obtain ⟨x19, hx19, H0⟩ := bnd H0
        rcases Bool.eq_false_or_eq_true x19 with h14 | h14
        ·
          replace H0 := bif_t H0 h14
          obtain ⟨x20, hx20, H0⟩ := bnd H0
          rcases Bool.eq_false_or_eq_true x20 with h15 | h15
          ·
            replace H0 := bif_t H0 h15
            obtain ⟨x21, hx21, H0⟩ := bnd H0
            refine G.rg ?_
            refine K.move (.inl rfl) (gd0 rfl) rfl rfl ?_
            refine K.callR [(.func 32, _), ((.tmp 66), _)] (legal_Right_con (k := k) hx19 108 109) (toFn_func (cf 32 rfl) rfl) (gd0 rfl) ⟨rfl, rfl, trivial⟩ ⟨rfl, rfl, trivial⟩ rfl rfl rfl ?_
            refine K.move (.inl rfl) (gd0 rfl) rfl rfl ?_
            refine K.move (.inl rfl) (gd1 rfl rfl rfl (h14)) rfl rfl ?_
            refine K.move (.inl rfl) (gd1 rfl rfl rfl (h14)) rfl rfl ?_
            refine K.callR [(.func 36, _), ((.tmp 69), _), ((.tmp 70), _)] (legal_MayDelete_con (k := k) hx20 108 109) (toFn_func (cf 36 rfl) rfl) (gd1 rfl rfl rfl (h14)) ⟨rfl, rfl, rfl, trivial⟩ ⟨rfl, rfl, trivial⟩ rfl rfl rfl ?_
            refine K.pickT (gd0 rfl) rfl (h14) rfl rfl ?_
            refine K.move (.inl rfl) (gd0 rfl) rfl rfl ?_
            refine K.move (.inl rfl) (gd1 rfl rfl rfl (h15)) rfl rfl ?_
            refine K.move (.inl rfl) (gd1 rfl rfl rfl (h15)) rfl rfl ?_
            refine K.callR [(.func 36, _), ((.tmp 74), _), ((.tmp 75), _)] (legal_MayDelete_con (k := k) hx21 108 109) (toFn_func (cf 36 rfl) rfl) (gd1 rfl rfl rfl (h15)) ⟨rfl, rfl, rfl, trivial⟩ ⟨rfl, rfl, trivial⟩ rfl rfl rfl ?_
            refine K.pickT (gd0 rfl) rfl (h15) rfl rfl ?_
            refine K.move (.inr rfl) (gd0 rfl) rfl rfl ?_
            refine K.nil ?_
            refine At.next ?_
            refine G.ret ?_
            refine At.done Y [(.tmp 6, .c _)] rfl ⟨.tmp rfl, trivial⟩ (to' := [(0, _)]) ⟨rfl, trivial⟩ ?_ ?_ rfl rfl rfl (.inl rfl)
            · cases H0; rfl
            · cases H0; rfl
          ·
            replace H0 := bif_f H0 h15
            refine G.rg ?_
            refine K.move (.inl rfl) (gd0 rfl) rfl rfl ?_
            refine K.callR [(.func 32, _), ((.tmp 66), _)] (legal_Right_con (k := k) hx19 108 109) (toFn_func (cf 32 rfl) rfl) (gd0 rfl) ⟨rfl, rfl, trivial⟩ ⟨rfl, rfl, trivial⟩ rfl rfl rfl ?_
            refine K.move (.inl rfl) (gd0 rfl) rfl rfl ?_
            refine K.move (.inl rfl) (gd1 rfl rfl rfl (h14)) rfl rfl ?_
            refine K.move (.inl rfl) (gd1 rfl rfl rfl (h14)) rfl rfl ?_
            refine K.callR [(.func 36, _), ((.tmp 69), _), ((.tmp 70), _)] (legal_MayDelete_con (k := k) hx20 108 109) (toFn_func (cf 36 rfl) rfl) (gd1 rfl rfl rfl (h14)) ⟨rfl, rfl, rfl, trivial⟩ ⟨rfl, rfl, trivial⟩ rfl rfl rfl ?_
            refine K.pickT (gd0 rfl) rfl (h14) rfl rfl ?_
            refine K.move (.inl rfl) (gd0 rfl) rfl rfl ?_
            refine K.skip rfl rfl rfl rfl (h15) rfl ?_
            refine K.skip rfl rfl rfl rfl (h15) rfl ?_
            refine K.skip rfl rfl rfl rfl (h15) rfl ?_
            refine K.pickF (gd0 rfl) rfl (h15) rfl rfl ?_
            refine K.move (.inr rfl) (gd0 rfl) rfl rfl ?_
            refine K.nil ?_
            refine At.next ?_
            refine G.ret ?_
            refine At.done Y [(.tmp 6, .c _)] rfl ⟨.tmp rfl, trivial⟩ (to' := [(0, _)]) ⟨rfl, trivial⟩ ?_ ?_ rfl rfl rfl (.inl rfl)
            · cases H0; rfl
            · cases H0; rfl
        ·
          replace H0 := bif_f H0 h14
          refine G.rg ?_
          refine K.move (.inl rfl) (gd0 rfl) rfl rfl ?_
          refine K.callR [(.func 32, _), ((.tmp 66), _)] (legal_Right_con (k := k) hx19 108 109) (toFn_func (cf 32 rfl) rfl) (gd0 rfl) ⟨rfl, rfl, trivial⟩ ⟨rfl, rfl, trivial⟩ rfl rfl rfl ?_
          refine K.move (.inl rfl) (gd0 rfl) rfl rfl ?_
          refine K.skip rfl rfl rfl rfl (h14) rfl ?_
          refine K.skip rfl rfl rfl rfl (h14) rfl ?_
          refine K.skip rfl rfl rfl rfl (h14) rfl ?_
          refine K.pickF (gd0 rfl) rfl (h14) rfl rfl ?_
          refine K.move (.inl rfl) (gd0 rfl) rfl rfl ?_
          refine K.skip rfl rfl rfl rfl (rfl) rfl ?_
          refine K.skip rfl rfl rfl rfl (rfl) rfl ?_
          refine K.skip rfl rfl rfl rfl (rfl) rfl ?_
          refine K.pickF (gd0 rfl) rfl (rfl) rfl rfl ?_
          refine K.move (.inr rfl) (gd0 rfl) rfl rfl ?_
          refine K.nil ?_
          refine At.next ?_
          refine G.ret ?_
          refine At.done Y [(.tmp 6, .c _)] rfl ⟨.tmp rfl, trivial⟩ (to' := [(0, _)]) ⟨rfl, trivial⟩ ?_ ?_ rfl rfl rfl (.inl rfl)
          · cases H0; rfl
          · cases H0; rfl
theorem Lw11_LegalLater_con {k : Nat}  {S : Foot} {W0 : World} {s0 : Value} {l0 : List TR08Mark} {a1 : Int} {a2 : Int} {r : Bool} (hL0 : LArg S W0 s0 eTR08Mark 8 l0) (H0 : Lw11_LegalLater.f k l0 a1 a2 = some r) : SCon Try.prog 10 [SV.raw s0, .a (.c (.v (.int .i64 a1))), .a (.c (.v (.int .u16 a2)))] [(0, rd S W0)] (.a (.c (.v (.bool r)))) [(0, rd S W0)] [] :=
  SCon.ren (rn []) (Lw11_LegalLater_con0 (k := k)  hL0 H0) ⟨(fun _ => rfl), trivial⟩ ⟨(fun _ => rfl), trivial⟩ (by simp) (by simp)
end Go.Proofs.Ythcehagablploaa


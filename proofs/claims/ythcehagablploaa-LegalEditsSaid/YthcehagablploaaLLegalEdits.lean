/- A law's walk. Printed by a program of mine. -/
import Derived.KernelRfl
import Derived.Test.YthcehagablploaaMx
namespace Go.Proofs.Ythcehagablploaa
open Go Go.Proofs.Ythcehagablploaa.Sx
set_option linter.unusedVariables false
set_option linter.unusedSimpArgs false
theorem Lw11_LegalEdits_con0 {k : Nat}  {S : Foot} {W0 : World} {s0 : Value} {l0 : List TR08Mark} {a1 : Int} {r : Bool} (hL0 : LArg S W0 s0 eTR08Mark 8 l0) (H0 : Lw11_LegalEdits.f k l0 a1 = some r) : SCon Try.prog 9 [SV.raw s0, .a (.c (.v (.int .i64 a1)))] [(0, rd S W0)] (.a (.c (.v (.bool r)))) [(0, rd S W0)] [] := by
  rw [Lw11_LegalEdits.f] at H0
  obtain ⟨b0, o0, hI0⟩ := hL0
  refine spec_of [(0, _), (1, _)] [(0, _)] 71 Try.func9 rfl Try.ntmps9 rfl rfl rfl rfl (fun β W F => ?_)
  refine G.seq ?_
  refine G.rg ?_
  refine K.move (.inr rfl) (gd0 rfl) rfl rfl ?_
  refine K.nil ?_
  refine At.next ?_
  obtain ⟨x1, H1, H0⟩ := bnd H0
  refine G.seqJ (σ := { v : Unit // x1 = Sum.inr v }) (fun q => [(0, SV.raw s0), (1, .a (.c (.v (.int .i64 a1))))]) (fun q => [(0, rd S W0)]) ?_ ?_
  ·
    refine G.seq ?_
    obtain ⟨x2, hx2, H1⟩ := bnd H1
    rcases Bool.eq_false_or_eq_true (!x2) with h1 | h1
    ·
      replace H1 := bif_t H1 h1
      refine G.rg ?_
      refine K.callR [(.func 29, _)] (Lw11_awake_con (k := k) hx2) (toFn_func (cf 29 rfl) rfl) (gd0 rfl) ⟨rfl, trivial⟩ trivial rfl rfl rfl ?_
      refine K.un (V := .bool (!x2)) (gd0 rfl) rfl (fun _ => rfl) rfl ?_
      refine K.move (.inl rfl) (gd0 rfl) rfl rfl ?_
      refine K.skip rfl rfl rfl rfl (h1) rfl ?_
      refine K.skip rfl rfl rfl rfl (h1) rfl ?_
      refine K.skip rfl rfl rfl rfl (h1) rfl ?_
      refine K.pickT (gd0 rfl) rfl (h1) rfl rfl ?_
      refine K.nil ?_
      refine At.next ?_
      refine G.cond rfl (fun h2 => ?_) (fun h2 => ?_)
      ·
        refine G.seq ?_
        obtain ⟨x3, hx3, H1⟩ := bnd H1
        refine G.rg ?_
        refine K.callR [(.func 29, _)] (Lw11_awake_con (k := k) hx3) (toFn_func (cf 29 rfl) rfl) (gd0 rfl) ⟨rfl, trivial⟩ trivial rfl rfl rfl ?_
        refine K.move (.inr rfl) (gd0 rfl) rfl rfl ?_
        refine K.nil ?_
        refine At.next ?_
        refine G.ret ?_
        refine At.over_ret ?_
        cases H1
        replace H0 := sum_l H0
        refine At.done Y [(.tmp 4, .c _)] rfl ⟨.tmp rfl, trivial⟩ (to' := [(0, _)]) ⟨rfl, trivial⟩ ?_ ?_ rfl rfl rfl (.inl rfl)
        · cases H0; rfl
        · cases H0; rfl
      · cases h2
    ·
      replace H1 := bif_f H1 h1
      refine G.rg ?_
      refine K.callR [(.func 29, _)] (Lw11_awake_con (k := k) hx2) (toFn_func (cf 29 rfl) rfl) (gd0 rfl) ⟨rfl, trivial⟩ trivial rfl rfl rfl ?_
      refine K.un (V := .bool (!x2)) (gd0 rfl) rfl (fun _ => rfl) rfl ?_
      refine K.move (.inl rfl) (gd0 rfl) rfl rfl ?_
      refine K.move (.inl rfl) (gd1 rfl rfl rfl (h1)) rfl rfl ?_
      refine K.lenL (rV 0 S W0 s0 b0 o0 eTR08Mark 8 l0) (hI0.is 0) (gd1 rfl rfl rfl (h1)) rfl rfl Try.underlying22 rfl ?_
      refine K.bin (V := .bool (decide ((l0.length : Int) > 60))) (gd1 rfl rfl rfl (h1)) rfl rfl (fun _ => rfl) rfl ?_
      refine K.pickF (gd0 rfl) rfl (h1) rfl rfl ?_
      refine K.nil ?_
      refine At.next ?_
      refine G.cond rfl (fun h3 => ?_) (fun h3 => ?_)
      ·
        replace H1 := bif_t H1 h3
        refine G.seq ?_
        obtain ⟨x4, hx4, H1⟩ := bnd H1
        refine G.rg ?_
        refine K.callR [(.func 29, _)] (Lw11_awake_con (k := k) hx4) (toFn_func (cf 29 rfl) rfl) (gd0 rfl) ⟨rfl, trivial⟩ trivial rfl rfl rfl ?_
        refine K.move (.inr rfl) (gd0 rfl) rfl rfl ?_
        refine K.nil ?_
        refine At.next ?_
        refine G.ret ?_
        refine At.over_ret ?_
        cases H1
        replace H0 := sum_l H0
        refine At.done Y [(.tmp 4, .c _)] rfl ⟨.tmp rfl, trivial⟩ (to' := [(0, _)]) ⟨rfl, trivial⟩ ?_ ?_ rfl rfl rfl (.inl rfl)
        · cases H0; rfl
        · cases H0; rfl
      ·
        replace H1 := bif_f H1 h3
        refine G.skip ?_
        exact At.joined (σ := { v : Unit // x1 = Sum.inr v }) (Fs := fun q => [(0, SV.raw s0), (1, .a (.c (.v (.int .i64 a1))))]) (Tl := fun q => [(0, rd S W0)]) ⟨(), (Option.some.inj H1).symm⟩ [] [_] rfl ⟨rfl, rfl, trivial⟩ ⟨rfl, (fun _ => rfl), trivial⟩ rfl
  ·
    rintro ⟨v1, rfl⟩
    replace H0 := sum_r H0
    show G _ _ [(0, SV.raw s0), (1, .a (.c (.v (.int .i64 a1))))] [(0, some (rd S W0))] _ _
    refine G.seq ?_
    obtain ⟨x5, hx5, H0⟩ := bnd H0
    refine G.rg ?_
    refine K.move (.inl rfl) (gd0 rfl) rfl rfl ?_
    refine K.callV [(.func 34, _), ((.tmp 17), _)] [(0, rd S W0)] [] [(100, _)] (fun β => [SV.raw s0]) (fun β w S2 h => R11_Of_con (k := k) ((hI0.isC 0).larg ⟨_, List.mem_cons_self⟩ h) hx5 100 rfl) (toFn_func (cf 34 rfl) rfl) (gd0 rfl) ⟨rfl, rfl, trivial⟩ (fun _ => rfl) ⟨rfl, trivial⟩ rfl rfl rfl rfl rfl rfl ?_
    refine K.move (.inr rfl) (gd0 rfl) rfl rfl ?_
    refine K.nil ?_
    refine At.next ?_
    refine G.seq ?_
    obtain ⟨x6, hx6, H0⟩ := bnd H0
    refine G.rg ?_
    refine K.move (.inl rfl) (gd0 rfl) rfl rfl ?_
    refine K.callV [(.func 14, _), ((.tmp 19), _)] [(100, lrow 100 52 eTR08Mark 8 x5)] [] [(101, _), (102, _)] (fun β => [SV.raw ((lrowV 100 52 eTR08Mark 8 x5).s.den β)]) (fun β w S2 h => Lw10_Tree_con (k := k) ((lrowV_isC eTR08Mark_len (by decide)).larg ⟨_, List.mem_cons_self⟩ h) hx6 101 102 rfl) (toFn_func (cf 14 rfl) rfl) (gd0 rfl) ⟨rfl, rfl, trivial⟩ (fun _ => rfl) ⟨rfl, trivial⟩ rfl rfl rfl rfl rfl rfl ?_
    refine K.move (.inr rfl) (gd0 rfl) rfl rfl ?_
    refine K.nil ?_
    refine At.next ?_
    refine G.seq ?_
    obtain ⟨x7, hx7, H0⟩ := bnd H0
    refine G.rg ?_
    refine K.move (.inl rfl) (gd0 rfl) rfl rfl ?_
    refine K.move (.inl rfl) (gd0 rfl) rfl rfl ?_
    refine K.callV [(.func 35, _), ((.tmp 21), _), ((.tmp 22), _)] [(100, lrow 100 52 eTR08Mark 8 x5)] [] [] (fun β => [SV.raw ((lrowV 100 52 eTR08Mark 8 x5).s.den β), .a (.c (.v (.int .i64 a1)))]) (fun β w S2 h => R11_At_con (k := k) ((lrowV_isC eTR08Mark_len (by decide)).larg ⟨_, List.mem_cons_self⟩ h) hx7) (toFn_func (cf 35 rfl) rfl) (gd0 rfl) ⟨rfl, rfl, rfl, trivial⟩ (fun _ => rfl) ⟨rfl, trivial⟩ rfl rfl rfl rfl rfl rfl ?_
    refine K.move (.inr rfl) (gd0 rfl) rfl rfl ?_
    refine K.nil ?_
    refine At.next ?_
    obtain ⟨x8, H1, H0⟩ := bnd H0
    refine G.seqJ (σ := { v : Unit // x8 = Sum.inr v }) (fun q => [(5, .a (.c (.nv 103))), (6, .a (.c (.p 104 0)))]) (fun q => [(0, rd S W0), (103, lrow 103 52 eTR08Mark 8 x5), (105, plM 105 x6.2), (104, blk 104 [.p 105 0, .v (.int .i64 x6.1.index), .v (.int .i64 x6.1.gen)] 74)]) ?_ ?_
    ·
      refine G.seq ?_
      refine G.rg ?_
      refine K.move (.inl rfl) (gd0 rfl) rfl rfl ?_
      refine K.bin (V := .bool (decide (x7 < 0))) (gd0 rfl) rfl rfl (fun _ => rfl) rfl ?_
      refine K.nil ?_
      refine At.next ?_
      refine G.cond rfl (fun h4 => ?_) (fun h4 => ?_)
      ·
        replace H1 := bif_t H1 h4
        refine G.seq ?_
        obtain ⟨x9, hx9, H1⟩ := bnd H1
        obtain ⟨x10, hx10, H1⟩ := bnd H1
        obtain ⟨x11, hx11, H1⟩ := bnd H1
        obtain ⟨x12, hx12, H1⟩ := bnd H1
        rcases Bool.eq_false_or_eq_true (!(x9 == x12)) with h5 | h5
        ·
          replace H1 := bif_t H1 h5
          refine G.rg ?_
          refine K.move (.inl rfl) (gd0 rfl) rfl rfl ?_
          refine K.move (.inl rfl) (gd0 rfl) rfl rfl ?_
          refine K.callR [(.func 36, _), ((.tmp 26), _), ((.tmp 27), _)] (legal_MayDelete_con (k := k) hx9 101 102) (toFn_func (cf 36 rfl) rfl) (gd0 rfl) ⟨rfl, rfl, rfl, trivial⟩ ⟨rfl, rfl, trivial⟩ rfl rfl rfl ?_
          refine K.move (.inl rfl) (gd0 rfl) rfl rfl ?_
          refine K.move (.inl rfl) (gd0 rfl) rfl rfl ?_
          refine K.callR [(.func 38, _), ((.tmp 30), _)] (R11_Delete_con (k := k) hx10) (toFn_func (cf 38 rfl) rfl) (gd0 rfl) ⟨rfl, rfl, trivial⟩ trivial rfl rfl rfl ?_
          refine K.callV [(.func 37, _), ((.tmp 29), _), ((.tmp 31), _)] [(100, lrow 100 52 eTR08Mark 8 x5)] [] [(106, _)] (fun β => [SV.raw ((lrowV 100 52 eTR08Mark 8 x5).s.den β), .a (.agg ((eTR08Mark x10).map .v))]) (fun β w S2 h => R11_With_con (k := k) ((lrowV_isC eTR08Mark_len (by decide)).larg ⟨_, List.mem_cons_self⟩ h) hx11 106 rfl) (toFn_func (cf 37 rfl) rfl) (gd0 rfl) ⟨rfl, rfl, rfl, trivial⟩ (fun _ => rfl) ⟨rfl, trivial⟩ rfl rfl rfl rfl rfl rfl ?_
          refine K.callV [(.func 33, _), ((.tmp 32), _)] [(106, lrow 106 52 eTR08Mark 8 x11)] [] [] (fun β => [SV.raw ((lrowV 106 52 eTR08Mark 8 x11).s.den β)]) (fun β w S2 h => R11_Legal_con (k := k) ((lrowV_isC eTR08Mark_len (by decide)).larg ⟨_, List.mem_cons_self⟩ h) hx12) (toFn_func (cf 33 rfl) rfl) (gd0 rfl) ⟨rfl, rfl, trivial⟩ (fun _ => rfl) ⟨rfl, trivial⟩ rfl rfl rfl rfl rfl rfl ?_
          refine K.bin (V := .bool (!(x9 == x12))) (gd0 rfl) rfl rfl (bq_neq Try.underlying4 _ _) rfl ?_
          refine K.move (.inl rfl) (gd0 rfl) rfl rfl ?_
          refine K.skip rfl rfl rfl rfl (h5) rfl ?_
          refine K.skip rfl rfl rfl rfl (h5) rfl ?_
          refine K.skip rfl rfl rfl rfl (h5) rfl ?_
          refine K.pickT (gd0 rfl) rfl (h5) rfl rfl ?_
          refine K.nil ?_
          refine At.next ?_
          refine G.cond rfl (fun h6 => ?_) (fun h6 => ?_)
          ·
            refine G.seq ?_
            refine G.rg ?_
            refine K.move (.inr rfl) (gd0 rfl) rfl rfl ?_
            refine K.nil ?_
            refine At.next ?_
            refine G.ret ?_
            refine At.over_ret ?_
            cases H1
            replace H0 := sum_l H0
            refine At.done Y [(.tmp 4, .c _)] rfl ⟨.tmp rfl, trivial⟩ (to' := [(0, _)]) ⟨rfl, trivial⟩ ?_ ?_ rfl rfl rfl (.inl rfl)
            · cases H0; rfl
            · cases H0; rfl
          · cases h6
        ·
          replace H1 := bif_f H1 h5
          obtain ⟨x13, hx13, H1⟩ := bnd H1
          refine G.rg ?_
          refine K.move (.inl rfl) (gd0 rfl) rfl rfl ?_
          refine K.move (.inl rfl) (gd0 rfl) rfl rfl ?_
          refine K.callR [(.func 36, _), ((.tmp 26), _), ((.tmp 27), _)] (legal_MayDelete_con (k := k) hx9 101 102) (toFn_func (cf 36 rfl) rfl) (gd0 rfl) ⟨rfl, rfl, rfl, trivial⟩ ⟨rfl, rfl, trivial⟩ rfl rfl rfl ?_
          refine K.move (.inl rfl) (gd0 rfl) rfl rfl ?_
          refine K.move (.inl rfl) (gd0 rfl) rfl rfl ?_
          refine K.callR [(.func 38, _), ((.tmp 30), _)] (R11_Delete_con (k := k) hx10) (toFn_func (cf 38 rfl) rfl) (gd0 rfl) ⟨rfl, rfl, trivial⟩ trivial rfl rfl rfl ?_
          refine K.callV [(.func 37, _), ((.tmp 29), _), ((.tmp 31), _)] [(100, lrow 100 52 eTR08Mark 8 x5)] [] [(106, _)] (fun β => [SV.raw ((lrowV 100 52 eTR08Mark 8 x5).s.den β), .a (.agg ((eTR08Mark x10).map .v))]) (fun β w S2 h => R11_With_con (k := k) ((lrowV_isC eTR08Mark_len (by decide)).larg ⟨_, List.mem_cons_self⟩ h) hx11 106 rfl) (toFn_func (cf 37 rfl) rfl) (gd0 rfl) ⟨rfl, rfl, rfl, trivial⟩ (fun _ => rfl) ⟨rfl, trivial⟩ rfl rfl rfl rfl rfl rfl ?_
          refine K.callV [(.func 33, _), ((.tmp 32), _)] [(106, lrow 106 52 eTR08Mark 8 x11)] [] [] (fun β => [SV.raw ((lrowV 106 52 eTR08Mark 8 x11).s.den β)]) (fun β w S2 h => R11_Legal_con (k := k) ((lrowV_isC eTR08Mark_len (by decide)).larg ⟨_, List.mem_cons_self⟩ h) hx12) (toFn_func (cf 33 rfl) rfl) (gd0 rfl) ⟨rfl, rfl, trivial⟩ (fun _ => rfl) ⟨rfl, trivial⟩ rfl rfl rfl rfl rfl rfl ?_
          refine K.bin (V := .bool (!(x9 == x12))) (gd0 rfl) rfl rfl (bq_neq Try.underlying4 _ _) rfl ?_
          refine K.move (.inl rfl) (gd0 rfl) rfl rfl ?_
          refine K.move (.inl rfl) (gd1 rfl rfl rfl (h5)) rfl rfl ?_
          refine K.move (.inl rfl) (gd1 rfl rfl rfl (h5)) rfl rfl ?_
          refine K.callR [(.func 39, _), ((.tmp 36), _), ((.tmp 37), _)] (legal_MayRevoke_con (k := k) hx13 101 102) (toFn_func (cf 39 rfl) rfl) (gd1 rfl rfl rfl (h5)) ⟨rfl, rfl, rfl, trivial⟩ ⟨rfl, rfl, trivial⟩ rfl rfl rfl ?_
          refine K.pickF (gd0 rfl) rfl (h5) rfl rfl ?_
          refine K.nil ?_
          refine At.next ?_
          refine G.cond rfl (fun h7 => ?_) (fun h7 => ?_)
          ·
            replace H1 := bif_t H1 h7
            refine G.seq ?_
            refine G.rg ?_
            refine K.move (.inr rfl) (gd0 rfl) rfl rfl ?_
            refine K.nil ?_
            refine At.next ?_
            refine G.ret ?_
            refine At.over_ret ?_
            cases H1
            replace H0 := sum_l H0
            refine At.done Y [(.tmp 4, .c _)] rfl ⟨.tmp rfl, trivial⟩ (to' := [(0, _)]) ⟨rfl, trivial⟩ ?_ ?_ rfl rfl rfl (.inl rfl)
            · cases H0; rfl
            · cases H0; rfl
          ·
            replace H1 := bif_f H1 h7
            refine G.skip ?_
            exact At.joined (σ := { v : Unit // x8 = Sum.inr v }) (Fs := fun q => [(5, .a (.c (.nv 103))), (6, .a (.c (.p 104 0)))]) (Tl := fun q => [(0, rd S W0), (103, lrow 103 52 eTR08Mark 8 x5), (105, plM 105 x6.2), (104, blk 104 [.p 105 0, .v (.int .i64 x6.1.index), .v (.int .i64 x6.1.gen)] 74)]) ⟨(), (Option.some.inj H1).symm⟩ [(103, 100), (104, 101), (105, 102)] [_, _, _, _] rfl ⟨rfl, rfl, trivial⟩ ⟨rfl, (fun _ => rfl), rfl, (lrow_ren rfl), rfl, (pl_ren rfl), rfl, (blk_ren rfl rfl), trivial⟩ rfl
      ·
        replace H1 := bif_f H1 h4
        refine G.seq ?_
        obtain ⟨x14, hx14, H1⟩ := bnd H1
        refine G.rg ?_
        refine K.move (.inl rfl) (gd0 rfl) rfl rfl ?_
        refine K.move (.inl rfl) (gd0 rfl) rfl rfl ?_
        refine K.callR [(.func 36, _), ((.tmp 40), _), ((.tmp 41), _)] (legal_MayDelete_con (k := k) hx14 101 102) (toFn_func (cf 36 rfl) rfl) (gd0 rfl) ⟨rfl, rfl, rfl, trivial⟩ ⟨rfl, rfl, trivial⟩ rfl rfl rfl ?_
        refine K.nil ?_
        refine At.next ?_
        refine G.cond rfl (fun h8 => ?_) (fun h8 => ?_)
        ·
          replace H1 := bif_t H1 h8
          refine G.seq ?_
          refine G.rg ?_
          refine K.move (.inr rfl) (gd0 rfl) rfl rfl ?_
          refine K.nil ?_
          refine At.next ?_
          refine G.ret ?_
          refine At.over_ret ?_
          cases H1
          replace H0 := sum_l H0
          refine At.done Y [(.tmp 4, .c _)] rfl ⟨.tmp rfl, trivial⟩ (to' := [(0, _)]) ⟨rfl, trivial⟩ ?_ ?_ rfl rfl rfl (.inl rfl)
          · cases H0; rfl
          · cases H0; rfl
        ·
          replace H1 := bif_f H1 h8
          refine G.skip ?_
          exact At.joined (σ := { v : Unit // x8 = Sum.inr v }) (Fs := fun q => [(5, .a (.c (.nv 103))), (6, .a (.c (.p 104 0)))]) (Tl := fun q => [(0, rd S W0), (103, lrow 103 52 eTR08Mark 8 x5), (105, plM 105 x6.2), (104, blk 104 [.p 105 0, .v (.int .i64 x6.1.index), .v (.int .i64 x6.1.gen)] 74)]) ⟨(), (Option.some.inj H1).symm⟩ [(103, 100), (104, 101), (105, 102)] [_, _, _, _] rfl ⟨rfl, rfl, trivial⟩ ⟨rfl, (fun _ => rfl), rfl, (lrow_ren rfl), rfl, (pl_ren rfl), rfl, (blk_ren rfl rfl), trivial⟩ rfl
    ·
      rintro ⟨v8, rfl⟩
      replace H0 := sum_r H0
      show G _ _ [(5, .a (.c (.nv 103))), (6, .a (.c (.p 104 0)))] [(0, some (rd S W0)), (103, some (lrow 103 52 eTR08Mark 8 x5)), (105, some (plM 105 x6.2)), (104, some (blk 104 [.p 105 0, .v (.int .i64 x6.1.index), .v (.int .i64 x6.1.gen)] 74))] _ _
      obtain ⟨x15, H1, H0⟩ := bnd H0
      refine G.seqJ (σ := { v : Unit // x15 = Sum.inr v }) (fun q => [(5, .a (.c (.nv 107))), (6, .a (.c (.p 108 0)))]) (fun q => [(0, rd S W0), (107, lrow 107 52 eTR08Mark 8 x5), (109, plM 109 x6.2), (108, blk 108 [.p 109 0, .v (.int .i64 x6.1.index), .v (.int .i64 x6.1.gen)] 74)]) ?_ ?_
      ·
        refine G.seq ?_
        refine G.rg ?_
        refine K.move (.inr rfl) (gd0 rfl) rfl rfl ?_
        refine K.nil ?_
        refine At.next ?_
        refine G.block ?_
        refine G.loop (σ := { q : Nat × (Int) // Lw11_LegalEdits.l0 k x5 x6 q.1 q.2 = some x15 }) (fun q => [(5, .a (.c (.nv 116))), (6, .a (.c (.p 117 0))), (8, .a (.c (.v (.int .i64 q.1.2))))]) (fun q => [(0, rd S W0), (116, lrow 116 52 eTR08Mark 8 x5), (118, plM 118 x6.2), (117, blk 117 [.p 118 0, .v (.int .i64 x6.1.index), .v (.int .i64 x6.1.gen)] 74)]) (fun q => q.1.1) ⟨(k, 0), H1⟩ ?_ ?_
        · exact At.into [(116, 103), (117, 104), (118, 105)] [_, _, _, _] rfl ⟨rfl, rfl, rfl, trivial⟩ ⟨rfl, (fun _ => rfl), rfl, (lrow_ren rfl), rfl, (pl_ren rfl), rfl, (blk_ren rfl rfl), trivial⟩ rfl
        ·
          rintro ⟨⟨n0, v1⟩, H1⟩
          show G _ _ [(5, .a (.c (.nv 116))), (6, .a (.c (.p 117 0))), (8, .a (.c (.v (.int .i64 v1))))] [(0, some (rd S W0)), (116, some (lrow 116 52 eTR08Mark 8 x5)), (118, some (plM 118 x6.2)), (117, some (blk 117 [.p 118 0, .v (.int .i64 x6.1.index), .v (.int .i64 x6.1.gen)] 74))] _ _
          cases n0 with
          | zero => exact absurd H1 (by simp [Lw11_LegalEdits.l0])
          | succ n0 =>
            have HL0 := H1
            rw [Lw11_LegalEdits.l0] at H1
            refine G.seq ?_
            refine G.seq ?_
            refine G.rg ?_
            refine K.move (.inl rfl) (gd0 rfl) rfl rfl ?_
            refine K.move (.inl rfl) (gd0 rfl) rfl rfl ?_
            refine K.lenL (lrowV 116 52 eTR08Mark 8 x5) (lrowV_is eTR08Mark_len (by decide)) (gd0 rfl) rfl rfl Try.underlying22 rfl ?_
            refine K.bin (V := .bool (decide (v1 < (x5.length : Int)))) (gd0 rfl) rfl rfl (fun _ => rfl) rfl ?_
            refine K.nil ?_
            refine At.next ?_
            refine G.cond rfl (fun h9 => ?_) (fun h9 => ?_)
            ·
              replace H1 := bif_t H1 h9
              refine G.skip ?_
              refine At.next ?_
              refine G.seq ?_
              refine G.block ?_
              refine G.seq ?_
              obtain ⟨x16, hx16, H1⟩ := bnd H1
              obtain ⟨x17, hx17, H1⟩ := bnd H1
              obtain ⟨x18, hx18, H1⟩ := bnd H1
              obtain ⟨x19, hx19, H1⟩ := bnd H1
              refine G.rg ?_
              refine K.move (.inl rfl) (gd0 rfl) rfl rfl ?_
              refine K.move (.inl rfl) (gd0 rfl) rfl rfl ?_
              refine K.move (.inl rfl) (gd0 rfl) rfl rfl ?_
              refine K.idxL (lrowV 116 52 eTR08Mark 8 x5) ((v1).toNat) (lrowV_is eTR08Mark_len (by decide)) (atL_get hx16) (atL_nn hx16) (gd0 rfl) rfl rfl rfl Try.underlying22 el22.size_run rfl ?_
              refine K.fieldL Y (lrowV 116 52 eTR08Mark 8 x5) ((v1).toNat) 0 0 (lrowV_is eTR08Mark_len (by decide)) (atL_get hx16) (gd0 rfl) rfl rfl t52 rfl rfl rfl rfl ?_
              refine K.fieldL Y (lrowV 116 52 eTR08Mark 8 x5) ((v1).toNat) 0 0 (lrowV_is eTR08Mark_len (by decide)) (atL_get hx16) (gd0 rfl) rfl rfl t35 rfl rfl rfl rfl ?_
              refine K.load1L Y (lrowV 116 52 eTR08Mark 8 x5) ((v1).toNat) 0 (lrowV_is eTR08Mark_len (by decide)) (atL_get hx16) (gd0 rfl) rfl rfl t3 rfl rfl ?_
              refine K.callR [(.func 39, _), ((.tmp 49), _), ((.tmp 55), _)] (legal_MayRevoke_con (k := k) hx17 117 118) (toFn_func (cf 39 rfl) rfl) (gd0 rfl) ⟨rfl, rfl, rfl, trivial⟩ ⟨rfl, rfl, trivial⟩ rfl rfl rfl ?_
              refine K.move (.inl rfl) (gd0 rfl) rfl rfl ?_
              refine K.move (.inl rfl) (gd0 rfl) rfl rfl ?_
              refine K.callV [(.func 40, _), ((.tmp 57), _), ((.tmp 58), _)] [(116, lrow 116 52 eTR08Mark 8 x5)] [] [(119, _)] (fun β => [SV.raw ((lrowV 116 52 eTR08Mark 8 x5).s.den β), .a (.c (.v (.int .i64 v1)))]) (fun β w S2 h => R11_Without_con (k := k) ((lrowV_isC eTR08Mark_len (by decide)).larg ⟨_, List.mem_cons_self⟩ h) hx18 119 rfl) (toFn_func (cf 40 rfl) rfl) (gd0 rfl) ⟨rfl, rfl, rfl, trivial⟩ (fun _ => rfl) ⟨rfl, trivial⟩ rfl rfl rfl rfl rfl rfl ?_
              refine K.callV [(.func 33, _), ((.tmp 59), _)] [(119, lrow 119 52 eTR08Mark 8 x18)] [] [] (fun β => [SV.raw ((lrowV 119 52 eTR08Mark 8 x18).s.den β)]) (fun β w S2 h => R11_Legal_con (k := k) ((lrowV_isC eTR08Mark_len (by decide)).larg ⟨_, List.mem_cons_self⟩ h) hx19) (toFn_func (cf 33 rfl) rfl) (gd0 rfl) ⟨rfl, rfl, trivial⟩ (fun _ => rfl) ⟨rfl, trivial⟩ rfl rfl rfl rfl rfl rfl ?_
              refine K.bin (V := .bool (!(x17 == x19))) (gd0 rfl) rfl rfl (bq_neq Try.underlying4 _ _) rfl ?_
              refine K.nil ?_
              refine At.next ?_
              refine G.cond rfl (fun h10 => ?_) (fun h10 => ?_)
              ·
                replace H1 := bif_t H1 h10
                refine G.seq ?_
                refine G.rg ?_
                refine K.move (.inr rfl) (gd0 rfl) rfl rfl ?_
                refine K.nil ?_
                refine At.next ?_
                refine G.ret ?_
                refine At.block_ret ?_
                refine At.over_ret ?_
                refine At.over_ret ?_
                refine At.block_ret ?_
                refine At.over_ret ?_
                cases H1
                replace H0 := sum_l H0
                refine At.done Y [(.tmp 4, .c _)] rfl ⟨.tmp rfl, trivial⟩ (to' := [(0, _)]) ⟨rfl, trivial⟩ ?_ ?_ rfl rfl rfl (.inl rfl)
                · cases H0; rfl
                · cases H0; rfl
              ·
                replace H1 := bif_f H1 h10
                refine G.skip ?_
                refine At.block_normal ?_
                refine At.next ?_
                refine G.rg ?_
                refine K.move (.inl rfl) (gd0 rfl) rfl rfl ?_
                refine K.bin (V := .int .i64 (w64 (v1 + 1))) (gd0 rfl) rfl rfl (fun _ => rfl) rfl ?_
                refine K.move (.inr rfl) (gd0 rfl) rfl rfl ?_
                refine K.nil ?_
                exact At.again (σ := { q : Nat × (Int) // Lw11_LegalEdits.l0 k x5 x6 q.1 q.2 = some x15 }) (Fs := fun q => [(5, .a (.c (.nv 116))), (6, .a (.c (.p 117 0))), (8, .a (.c (.v (.int .i64 q.1.2))))]) (Tl := fun q => [(0, rd S W0), (116, lrow 116 52 eTR08Mark 8 x5), (118, plM 118 x6.2), (117, blk 117 [.p 118 0, .v (.int .i64 x6.1.index), .v (.int .i64 x6.1.gen)] 74)]) (μ := fun q => q.1.1) (s := ⟨(n0 + 1, v1), HL0⟩) ⟨(n0, (w64 (v1 + 1))), H1⟩ [] [_, _, _, _] (Nat.lt_succ_self _) rfl ⟨rfl, rfl, rfl, trivial⟩ ⟨rfl, (fun _ => rfl), rfl, (lrow_ren rfl), rfl, (pl_ren rfl), rfl, (blk_ren rfl rfl), trivial⟩ rfl
            ·
              replace H1 := bif_f H1 h9
              refine G.exit ?_
              refine At.over_exit ?_
              refine At.over_exit ?_
              refine At.block_hit ?_
              exact At.joined (σ := { v : Unit // x15 = Sum.inr v }) (Fs := fun q => [(5, .a (.c (.nv 107))), (6, .a (.c (.p 108 0)))]) (Tl := fun q => [(0, rd S W0), (107, lrow 107 52 eTR08Mark 8 x5), (109, plM 109 x6.2), (108, blk 108 [.p 109 0, .v (.int .i64 x6.1.index), .v (.int .i64 x6.1.gen)] 74)]) ⟨(), (Option.some.inj H1).symm⟩ [(107, 116), (108, 117), (109, 118)] [_, _, _, _] rfl ⟨rfl, rfl, trivial⟩ ⟨rfl, (fun _ => rfl), rfl, (lrow_ren rfl), rfl, (pl_ren rfl), rfl, (blk_ren rfl rfl), trivial⟩ rfl
      ·
        rintro ⟨v15, rfl⟩
        replace H0 := sum_r H0
        show G _ _ [(5, .a (.c (.nv 107))), (6, .a (.c (.p 108 0)))] [(0, some (rd S W0)), (107, some (lrow 107 52 eTR08Mark 8 x5)), (109, some (plM 109 x6.2)), (108, some (blk 108 [.p 109 0, .v (.int .i64 x6.1.index), .v (.int .i64 x6.1.gen)] 74))] _ _
        refine G.seq ?_
        obtain ⟨x20, hx20, H0⟩ := bnd H0
        rcases Bool.eq_false_or_eq_true x20 with h11 | h11
        ·
          replace H0 := bif_t H0 h11
          obtain ⟨x21, hx21, H0⟩ := bnd H0
          refine G.rg ?_
          refine K.move (.inl rfl) (gd0 rfl) rfl rfl ?_
          refine K.callR [(.func 32, _), ((.tmp 62), _)] (legal_Right_con (k := k) hx20 108 109) (toFn_func (cf 32 rfl) rfl) (gd0 rfl) ⟨rfl, rfl, trivial⟩ ⟨rfl, rfl, trivial⟩ rfl rfl rfl ?_
          refine K.move (.inl rfl) (gd0 rfl) rfl rfl ?_
          refine K.move (.inl rfl) (gd1 rfl rfl rfl (h11)) rfl rfl ?_
          refine K.callR [(.func 21, _), ((.tmp 65), _)] (Tree_LenM_con (k := k) hx21 108 109) (toFn_func (cf 21 rfl) rfl) (gd1 rfl rfl rfl (h11)) ⟨rfl, rfl, trivial⟩ ⟨rfl, rfl, trivial⟩ rfl rfl rfl ?_
          refine K.move (.inl rfl) (gd1 rfl rfl rfl (h11)) rfl rfl ?_
          refine K.lenL (lrowV 107 52 eTR08Mark 8 x5) (lrowV_is eTR08Mark_len (by decide)) (gd1 rfl rfl rfl (h11)) rfl rfl Try.underlying22 rfl ?_
          refine K.bin (V := .bool (x21 == (x5.length : Int))) (gd1 rfl rfl rfl (h11)) rfl rfl (fun _ => rfl) rfl ?_
          refine K.pickT (gd0 rfl) rfl (h11) rfl rfl ?_
          refine K.move (.inr rfl) (gd0 rfl) rfl rfl ?_
          refine K.nil ?_
          refine At.next ?_
          refine G.ret ?_
          refine At.done Y [(.tmp 4, .c _)] rfl ⟨.tmp rfl, trivial⟩ (to' := [(0, _)]) ⟨rfl, trivial⟩ ?_ ?_ rfl rfl rfl (.inl rfl)
          · cases H0; rfl
          · cases H0; rfl
        ·
          replace H0 := bif_f H0 h11
          refine G.rg ?_
          refine K.move (.inl rfl) (gd0 rfl) rfl rfl ?_
          refine K.callR [(.func 32, _), ((.tmp 62), _)] (legal_Right_con (k := k) hx20 108 109) (toFn_func (cf 32 rfl) rfl) (gd0 rfl) ⟨rfl, rfl, trivial⟩ ⟨rfl, rfl, trivial⟩ rfl rfl rfl ?_
          refine K.move (.inl rfl) (gd0 rfl) rfl rfl ?_
          refine K.skip rfl rfl rfl rfl (h11) rfl ?_
          refine K.skip rfl rfl rfl rfl (h11) rfl ?_
          refine K.skip rfl rfl rfl rfl (h11) rfl ?_
          refine K.skip rfl rfl rfl rfl (h11) rfl ?_
          refine K.skip rfl rfl rfl rfl (h11) rfl ?_
          refine K.pickF (gd0 rfl) rfl (h11) rfl rfl ?_
          refine K.move (.inr rfl) (gd0 rfl) rfl rfl ?_
          refine K.nil ?_
          refine At.next ?_
          refine G.ret ?_
          refine At.done Y [(.tmp 4, .c _)] rfl ⟨.tmp rfl, trivial⟩ (to' := [(0, _)]) ⟨rfl, trivial⟩ ?_ ?_ rfl rfl rfl (.inl rfl)
          · cases H0; rfl
          · cases H0; rfl
theorem Lw11_LegalEdits_con {k : Nat}  {S : Foot} {W0 : World} {s0 : Value} {l0 : List TR08Mark} {a1 : Int} {r : Bool} (hL0 : LArg S W0 s0 eTR08Mark 8 l0) (H0 : Lw11_LegalEdits.f k l0 a1 = some r) : SCon Try.prog 9 [SV.raw s0, .a (.c (.v (.int .i64 a1)))] [(0, rd S W0)] (.a (.c (.v (.bool r)))) [(0, rd S W0)] [] :=
  SCon.ren (rn []) (Lw11_LegalEdits_con0 (k := k)  hL0 H0) ⟨(fun _ => rfl), trivial⟩ ⟨(fun _ => rfl), trivial⟩ (by simp) (by simp)
end Go.Proofs.Ythcehagablploaa


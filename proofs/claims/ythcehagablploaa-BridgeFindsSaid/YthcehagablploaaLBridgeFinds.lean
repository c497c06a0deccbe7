/- A law's walk. Printed by a program of mine. -/
import Derived.KernelRfl
import Derived.Test.YthcehagablploaaMx
namespace Go.Proofs.Ythcehagablploaa
open Go Go.Proofs.Ythcehagablploaa.Sx
set_option linter.unusedVariables false
set_option linter.unusedSimpArgs false
theorem Lw10_BridgeFinds_con0 {k : Nat}  {S : Foot} {W0 : World} {s0 : Value} {l0 : List TR08Mark} {a1 : Int} {a2 : Int} {r : Bool} (hL0 : LArg S W0 s0 eTR08Mark 8 l0) (H0 : Lw10_BridgeFinds.f k l0 a1 a2 = some r) : SCon Try.prog 4 [SV.raw s0, .a (.c (.v (.int .i64 a1))), .a (.c (.v (.int .i64 a2)))] [(0, rd S W0)] (.a (.c (.v (.bool r)))) [(0, rd S W0)] [] := by
  rw [Lw10_BridgeFinds.f] at H0
  obtain ⟨b0, o0, hI0⟩ := hL0
  refine spec_of [(0, _), (1, _), (2, _)] [(0, _)] 42 Try.func4 rfl Try.ntmps4 rfl rfl rfl rfl (fun β W F => ?_)
  refine G.seq ?_
  refine G.rg ?_
  refine K.move (.inr rfl) (gd0 rfl) rfl rfl ?_
  refine K.nil ?_
  refine At.next ?_
  obtain ⟨x1, H1, H0⟩ := bnd H0
  refine G.seqJ (σ := { v : Unit // x1 = Sum.inr v }) (fun q => [(0, SV.raw s0), (1, .a (.c (.v (.int .i64 a1)))), (2, .a (.c (.v (.int .i64 a2))))]) (fun q => [(0, rd S W0)]) ?_ ?_
  ·
    refine G.seq ?_
    obtain ⟨x2, hx2, H1⟩ := bnd H1
    rcases Bool.eq_false_or_eq_true (!x2) with h1 | h1
    ·
      replace H1 := bif_t H1 h1
      refine G.rg ?_
      refine K.callR [(.func 11, _)] (Lw10_awake_con (k := k) hx2) (toFn_func (cf 11 rfl) rfl) (gd0 rfl) ⟨rfl, trivial⟩ trivial rfl rfl rfl ?_
      refine K.un (V := .bool (!x2)) (gd0 rfl) rfl (fun _ => rfl) rfl ?_
      refine K.move (.inl rfl) (gd0 rfl) rfl rfl ?_
      refine K.skip rfl rfl rfl rfl (h1) rfl ?_
      refine K.skip rfl rfl rfl rfl (h1) rfl ?_
      refine K.skip rfl rfl rfl rfl (h1) rfl ?_
      refine K.skip rfl rfl rfl rfl (h1) rfl ?_
      refine K.pickT (gd0 rfl) rfl (h1) rfl rfl ?_
      refine K.nil ?_
      refine At.next ?_
      refine G.cond rfl (fun h2 => ?_) (fun h2 => ?_)
      ·
        refine G.seq ?_
        obtain ⟨x3, hx3, H1⟩ := bnd H1
        refine G.rg ?_
        refine K.callR [(.func 11, _)] (Lw10_awake_con (k := k) hx3) (toFn_func (cf 11 rfl) rfl) (gd0 rfl) ⟨rfl, trivial⟩ trivial rfl rfl rfl ?_
        refine K.move (.inr rfl) (gd0 rfl) rfl rfl ?_
        refine K.nil ?_
        refine At.next ?_
        refine G.ret ?_
        refine At.over_ret ?_
        cases H1
        replace H0 := sum_l H0
        refine At.done Y [(.tmp 6, .c _)] rfl ⟨.tmp rfl, trivial⟩ (to' := [(0, _)]) ⟨rfl, trivial⟩ ?_ ?_ rfl rfl rfl (.inl rfl)
        · cases H0; rfl
        · cases H0; rfl
      · cases h2
    ·
      replace H1 := bif_f H1 h1
      obtain ⟨x4, hx4, H1⟩ := bnd H1
      refine G.rg ?_
      refine K.callR [(.func 11, _)] (Lw10_awake_con (k := k) hx2) (toFn_func (cf 11 rfl) rfl) (gd0 rfl) ⟨rfl, trivial⟩ trivial rfl rfl rfl ?_
      refine K.un (V := .bool (!x2)) (gd0 rfl) rfl (fun _ => rfl) rfl ?_
      refine K.move (.inl rfl) (gd0 rfl) rfl rfl ?_
      refine K.move (.inl rfl) (gd1 rfl rfl rfl (h1)) rfl rfl ?_
      refine K.move (.inl rfl) (gd1 rfl rfl rfl (h1)) rfl rfl ?_
      refine K.callV [(.func 12, _), ((.tmp 12), _), ((.tmp 13), _)] [(0, rd S W0)] [] [] (fun β => [SV.raw s0, .a (.c (.v (.int .i64 a2)))]) (fun β w S2 h => Lw10_small_con (k := k) ((hI0.isC 0).larg ⟨_, List.mem_cons_self⟩ h) hx4) (toFn_func (cf 12 rfl) rfl) (gd1 rfl rfl rfl (h1)) ⟨rfl, rfl, rfl, trivial⟩ (fun _ => rfl) ⟨rfl, trivial⟩ rfl rfl rfl rfl rfl rfl ?_
      refine K.un (V := .bool (!x4)) (gd1 rfl rfl rfl (h1)) rfl (fun _ => rfl) rfl ?_
      refine K.pickF (gd0 rfl) rfl (h1) rfl rfl ?_
      refine K.nil ?_
      refine At.next ?_
      refine G.cond rfl (fun h3 => ?_) (fun h3 => ?_)
      ·
        replace H1 := bif_t H1 h3
        refine G.seq ?_
        obtain ⟨x5, hx5, H1⟩ := bnd H1
        refine G.rg ?_
        refine K.callR [(.func 11, _)] (Lw10_awake_con (k := k) hx5) (toFn_func (cf 11 rfl) rfl) (gd0 rfl) ⟨rfl, trivial⟩ trivial rfl rfl rfl ?_
        refine K.move (.inr rfl) (gd0 rfl) rfl rfl ?_
        refine K.nil ?_
        refine At.next ?_
        refine G.ret ?_
        refine At.over_ret ?_
        cases H1
        replace H0 := sum_l H0
        refine At.done Y [(.tmp 6, .c _)] rfl ⟨.tmp rfl, trivial⟩ (to' := [(0, _)]) ⟨rfl, trivial⟩ ?_ ?_ rfl rfl rfl (.inl rfl)
        · cases H0; rfl
        · cases H0; rfl
      ·
        replace H1 := bif_f H1 h3
        refine G.skip ?_
        exact At.joined (σ := { v : Unit // x1 = Sum.inr v }) (Fs := fun q => [(0, SV.raw s0), (1, .a (.c (.v (.int .i64 a1)))), (2, .a (.c (.v (.int .i64 a2))))]) (Tl := fun q => [(0, rd S W0)]) ⟨(), (Option.some.inj H1).symm⟩ [] [_] rfl ⟨rfl, rfl, rfl, trivial⟩ ⟨rfl, (fun _ => rfl), trivial⟩ rfl
  ·
    rintro ⟨v1, rfl⟩
    replace H0 := sum_r H0
    show G _ _ [(0, SV.raw s0), (1, .a (.c (.v (.int .i64 a1)))), (2, .a (.c (.v (.int .i64 a2))))] [(0, some (rd S W0))] _ _
    refine G.seq ?_
    obtain ⟨x6, hx6, H0⟩ := bnd H0
    obtain ⟨x7, hx7, H0⟩ := bnd H0
    refine G.rg ?_
    refine K.move (.inl rfl) (gd0 rfl) rfl rfl ?_
    refine K.callV [(.func 14, _), ((.tmp 18), _)] [(0, rd S W0)] [] [(100, _), (101, _)] (fun β => [SV.raw s0]) (fun β w S2 h => Lw10_Tree_con (k := k) ((hI0.isC 0).larg ⟨_, List.mem_cons_self⟩ h) hx6 100 101 rfl) (toFn_func (cf 14 rfl) rfl) (gd0 rfl) ⟨rfl, rfl, trivial⟩ (fun _ => rfl) ⟨rfl, trivial⟩ rfl rfl rfl rfl rfl rfl ?_
    refine K.move (.inl rfl) (gd0 rfl) rfl rfl ?_
    refine K.callV [(.func 16, _), ((.tmp 20), _)] [(0, rd S W0)] [] [(102, _)] (fun β => [SV.raw s0]) (fun β w S2 h => R10_Timed_con (k := k) ((hI0.isC 0).larg ⟨_, List.mem_cons_self⟩ h) hx7 102 rfl) (toFn_func (cf 16 rfl) rfl) (gd0 rfl) ⟨rfl, rfl, trivial⟩ (fun _ => rfl) ⟨rfl, trivial⟩ rfl rfl rfl rfl rfl rfl ?_
    refine K.move (.inr rfl) (gd0 rfl) rfl rfl ?_
    refine K.move (.inr rfl) (gd0 rfl) rfl rfl ?_
    refine K.nil ?_
    refine At.next ?_
    refine G.seq ?_
    obtain ⟨x8, hx8, H0⟩ := bnd H0
    obtain ⟨x9, hx9, H0⟩ := bnd H0
    rcases Bool.eq_false_or_eq_true (x8 == x9) with h4 | h4
    ·
      replace H0 := bif_t H0 h4
      obtain ⟨x10, hx10, H0⟩ := bnd H0
      obtain ⟨x11, hx11, H0⟩ := bnd H0
      refine G.rg ?_
      refine K.move (.inl rfl) (gd0 rfl) rfl rfl ?_
      refine K.move (.inl rfl) (gd0 rfl) rfl rfl ?_
      refine K.move (.inl rfl) (gd0 rfl) rfl rfl ?_
      refine K.callR [(.func 17, _), ((.tmp 22), _), ((.tmp 23), _), ((.tmp 24), _)] (bridge_Next_con (k := k) hx8 100 101) (toFn_func (cf 17 rfl) rfl) (gd0 rfl) ⟨rfl, rfl, rfl, rfl, trivial⟩ ⟨rfl, rfl, trivial⟩ rfl rfl rfl ?_
      refine K.move (.inl rfl) (gd0 rfl) rfl rfl ?_
      refine K.move (.inl rfl) (gd0 rfl) rfl rfl ?_
      refine K.move (.inl rfl) (gd0 rfl) rfl rfl ?_
      refine K.callV [(.func 18, _), ((.tmp 26), _), ((.tmp 27), _), ((.tmp 28), _)] [(102, lrow 102 52 eTR08Mark 8 x7)] [] [] (fun β => [SV.raw ((lrowV 102 52 eTR08Mark 8 x7).s.den β), .a (.c (.v (.int .i64 a1))), .a (.c (.v (.int .i64 a2)))]) (fun β w S2 h => R10_Next_con (k := k) ((lrowV_isC eTR08Mark_len (by decide)).larg ⟨_, List.mem_cons_self⟩ h) hx9) (toFn_func (cf 18 rfl) rfl) (gd0 rfl) ⟨rfl, rfl, rfl, rfl, trivial⟩ (fun _ => rfl) ⟨rfl, trivial⟩ rfl rfl rfl rfl rfl rfl ?_
      refine K.bin (V := .bool (x8 == x9)) (gd0 rfl) rfl rfl (fun _ => rfl) rfl ?_
      refine K.move (.inl rfl) (gd0 rfl) rfl rfl ?_
      refine K.move (.inl rfl) (gd1 rfl rfl rfl (h4)) rfl rfl ?_
      refine K.move (.inl rfl) (gd1 rfl rfl rfl (h4)) rfl rfl ?_
      refine K.move (.inl rfl) (gd1 rfl rfl rfl (h4)) rfl rfl ?_
      refine K.callR [(.func 19, _), ((.tmp 32), _), ((.tmp 33), _), ((.tmp 34), _)] (bridge_Prior_con (k := k) hx10 100 101) (toFn_func (cf 19 rfl) rfl) (gd1 rfl rfl rfl (h4)) ⟨rfl, rfl, rfl, rfl, trivial⟩ ⟨rfl, rfl, trivial⟩ rfl rfl rfl ?_
      refine K.move (.inl rfl) (gd1 rfl rfl rfl (h4)) rfl rfl ?_
      refine K.move (.inl rfl) (gd1 rfl rfl rfl (h4)) rfl rfl ?_
      refine K.move (.inl rfl) (gd1 rfl rfl rfl (h4)) rfl rfl ?_
      refine K.callV [(.func 20, _), ((.tmp 36), _), ((.tmp 37), _), ((.tmp 38), _)] [(102, lrow 102 52 eTR08Mark 8 x7)] [] [] (fun β => [SV.raw ((lrowV 102 52 eTR08Mark 8 x7).s.den β), .a (.c (.v (.int .i64 a1))), .a (.c (.v (.int .i64 a2)))]) (fun β w S2 h => R10_Prior_con (k := k) ((lrowV_isC eTR08Mark_len (by decide)).larg ⟨_, List.mem_cons_self⟩ h) hx11) (toFn_func (cf 20 rfl) rfl) (gd1 rfl rfl rfl (h4)) ⟨rfl, rfl, rfl, rfl, trivial⟩ (fun _ => rfl) ⟨rfl, trivial⟩ rfl rfl rfl rfl rfl rfl ?_
      refine K.bin (V := .bool (x10 == x11)) (gd1 rfl rfl rfl (h4)) rfl rfl (fun _ => rfl) rfl ?_
      refine K.pickT (gd0 rfl) rfl (h4) rfl rfl ?_
      refine K.move (.inr rfl) (gd0 rfl) rfl rfl ?_
      refine K.nil ?_
      refine At.next ?_
      refine G.ret ?_
      refine At.done Y [(.tmp 6, .c _)] rfl ⟨.tmp rfl, trivial⟩ (to' := [(0, _)]) ⟨rfl, trivial⟩ ?_ ?_ rfl rfl rfl (.inl rfl)
      · cases H0; rfl
      · cases H0; rfl
    ·
      replace H0 := bif_f H0 h4
      refine G.rg ?_
      refine K.move (.inl rfl) (gd0 rfl) rfl rfl ?_
      refine K.move (.inl rfl) (gd0 rfl) rfl rfl ?_
      refine K.move (.inl rfl) (gd0 rfl) rfl rfl ?_
      refine K.callR [(.func 17, _), ((.tmp 22), _), ((.tmp 23), _), ((.tmp 24), _)] (bridge_Next_con (k := k) hx8 100 101) (toFn_func (cf 17 rfl) rfl) (gd0 rfl) ⟨rfl, rfl, rfl, rfl, trivial⟩ ⟨rfl, rfl, trivial⟩ rfl rfl rfl ?_
      refine K.move (.inl rfl) (gd0 rfl) rfl rfl ?_
      refine K.move (.inl rfl) (gd0 rfl) rfl rfl ?_
      refine K.move (.inl rfl) (gd0 rfl) rfl rfl ?_
      refine K.callV [(.func 18, _), ((.tmp 26), _), ((.tmp 27), _), ((.tmp 28), _)] [(102, lrow 102 52 eTR08Mark 8 x7)] [] [] (fun β => [SV.raw ((lrowV 102 52 eTR08Mark 8 x7).s.den β), .a (.c (.v (.int .i64 a1))), .a (.c (.v (.int .i64 a2)))]) (fun β w S2 h => R10_Next_con (k := k) ((lrowV_isC eTR08Mark_len (by decide)).larg ⟨_, List.mem_cons_self⟩ h) hx9) (toFn_func (cf 18 rfl) rfl) (gd0 rfl) ⟨rfl, rfl, rfl, rfl, trivial⟩ (fun _ => rfl) ⟨rfl, trivial⟩ rfl rfl rfl rfl rfl rfl ?_
      refine K.bin (V := .bool (x8 == x9)) (gd0 rfl) rfl rfl (fun _ => rfl) rfl ?_
      refine K.move (.inl rfl) (gd0 rfl) rfl rfl ?_
      refine K.skip rfl rfl rfl rfl (h4) rfl ?_
      refine K.skip rfl rfl rfl rfl (h4) rfl ?_
      refine K.skip rfl rfl rfl rfl (h4) rfl ?_
      refine K.skip rfl rfl rfl rfl (h4) rfl ?_
      refine K.skip rfl rfl rfl rfl (h4) rfl ?_
      refine K.skip rfl rfl rfl rfl (h4) rfl ?_
      refine K.skip rfl rfl rfl rfl (h4) rfl ?_
      refine K.skip rfl rfl rfl rfl (h4) rfl ?_
      refine K.skip rfl rfl rfl rfl (h4) rfl ?_
      refine K.pickF (gd0 rfl) rfl (h4) rfl rfl ?_
      refine K.move (.inr rfl) (gd0 rfl) rfl rfl ?_
      refine K.nil ?_
      refine At.next ?_
      refine G.ret ?_
      refine At.done Y [(.tmp 6, .c _)] rfl ⟨.tmp rfl, trivial⟩ (to' := [(0, _)]) ⟨rfl, trivial⟩ ?_ ?_ rfl rfl rfl (.inl rfl)
      · cases H0; rfl
      · cases H0; rfl
theorem Lw10_BridgeFinds_con {k : Nat}  {S : Foot} {W0 : World} {s0 : Value} {l0 : List TR08Mark} {a1 : Int} {a2 : Int} {r : Bool} (hL0 : LArg S W0 s0 eTR08Mark 8 l0) (H0 : Lw10_BridgeFinds.f k l0 a1 a2 = some r) : SCon Try.prog 4 [SV.raw s0, .a (.c (.v (.int .i64 a1))), .a (.c (.v (.int .i64 a2)))] [(0, rd S W0)] (.a (.c (.v (.bool r)))) [(0, rd S W0)] [] :=
  SCon.ren (rn []) (Lw10_BridgeFinds_con0 (k := k)  hL0 H0) ⟨(fun _ => rfl), trivial⟩ ⟨(fun _ => rfl), trivial⟩ (by simp) (by simp)
end Go.Proofs.Ythcehagablploaa


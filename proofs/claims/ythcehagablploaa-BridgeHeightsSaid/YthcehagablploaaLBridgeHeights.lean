/- A law's walk. Printed by a program of mine. -/
import Derived.KernelRfl
import Derived.Test.YthcehagablploaaMx
namespace Go.Proofs.Ythcehagablploaa
open Go Go.Proofs.Ythcehagablploaa.Sx
set_option linter.unusedVariables false
set_option linter.unusedSimpArgs false
theorem Lw10_BridgeHeights_con0 {k : Nat}  {S : Foot} {W0 : World} {s0 : Value} {l0 : List TR08Mark} {a1 : Int} {a2 : Int} {r : Bool} (hL0 : LArg S W0 s0 eTR08Mark 8 l0) (H0 : Lw10_BridgeHeights.f k l0 a1 a2 = some r) : SCon Try.prog 3 [SV.raw s0, .a (.c (.v (.int .i64 a1))), .a (.c (.v (.int .i64 a2)))] [(0, rd S W0)] (.a (.c (.v (.bool r)))) [(0, rd S W0)] [] := by
  rw [Lw10_BridgeHeights.f] at H0
  obtain ⟨b0, o0, hI0⟩ := hL0
  refine spec_of [(0, _), (1, _), (2, _)] [(0, _)] 27 Try.func3 rfl Try.ntmps3 rfl rfl rfl rfl (fun β W F => ?_)
  refine G.seq ?_
  refine G.rg ?_
  refine K.move (.inr rfl) (gd0 rfl) rfl rfl ?_
  refine K.nil ?_
  refine At.next ?_
  refine G.seq ?_
  refine G.seq ?_
  obtain ⟨x1, hx1, H0⟩ := bnd H0
  rcases Bool.eq_false_or_eq_true (!x1) with h1 | h1
  ·
    replace H0 := bif_t H0 h1
    refine G.rg ?_
    refine K.callR [(.func 11, _)] (Lw10_awake_con (k := k) hx1) (toFn_func (cf 11 rfl) rfl) (gd0 rfl) ⟨rfl, trivial⟩ trivial rfl rfl rfl ?_
    refine K.un (V := .bool (!x1)) (gd0 rfl) rfl (fun _ => rfl) rfl ?_
    refine K.move (.inl rfl) (gd0 rfl) rfl rfl ?_
    refine K.skip rfl rfl rfl rfl (h1) rfl ?_
    refine K.skip rfl rfl rfl rfl (h1) rfl ?_
    refine K.skip rfl rfl rfl rfl (h1) rfl ?_
    refine K.skip rfl rfl rfl rfl (h1) rfl ?_
    refine K.pickT (gd0 rfl) rfl (h1) rfl rfl ?_
    refine K.nil ?_
    refine At.next ?_
    refine G.cond rfl (fun h2 => ?_) (fun h2 => ?_)
    ·
      refine G.seq ?_
      obtain ⟨x2, hx2, H0⟩ := bnd H0
      refine G.rg ?_
      refine K.callR [(.func 11, _)] (Lw10_awake_con (k := k) hx2) (toFn_func (cf 11 rfl) rfl) (gd0 rfl) ⟨rfl, trivial⟩ trivial rfl rfl rfl ?_
      refine K.move (.inr rfl) (gd0 rfl) rfl rfl ?_
      refine K.nil ?_
      refine At.next ?_
      refine G.ret ?_
      refine At.over_ret ?_
      refine At.done Y [(.tmp 6, .c _)] rfl ⟨.tmp rfl, trivial⟩ (to' := [(0, _)]) ⟨rfl, trivial⟩ ?_ ?_ rfl rfl rfl (.inl rfl)
      · cases H0; rfl
      · cases H0; rfl
    · cases h2
  ·
    replace H0 := bif_f H0 h1
    obtain ⟨x3, hx3, H0⟩ := bnd H0
    refine G.rg ?_
    refine K.callR [(.func 11, _)] (Lw10_awake_con (k := k) hx1) (toFn_func (cf 11 rfl) rfl) (gd0 rfl) ⟨rfl, trivial⟩ trivial rfl rfl rfl ?_
    refine K.un (V := .bool (!x1)) (gd0 rfl) rfl (fun _ => rfl) rfl ?_
    refine K.move (.inl rfl) (gd0 rfl) rfl rfl ?_
    refine K.move (.inl rfl) (gd1 rfl rfl rfl (h1)) rfl rfl ?_
    refine K.move (.inl rfl) (gd1 rfl rfl rfl (h1)) rfl rfl ?_
    refine K.callV [(.func 12, _), ((.tmp 10), _), ((.tmp 11), _)] [(0, rd S W0)] [] [] (fun β => [SV.raw s0, .a (.c (.v (.int .i64 a2)))]) (fun β w S2 h => Lw10_small_con (k := k) ((hI0.isC 0).larg ⟨_, List.mem_cons_self⟩ h) hx3) (toFn_func (cf 12 rfl) rfl) (gd1 rfl rfl rfl (h1)) ⟨rfl, rfl, rfl, trivial⟩ (fun _ => rfl) ⟨rfl, trivial⟩ rfl rfl rfl rfl rfl rfl ?_
    refine K.un (V := .bool (!x3)) (gd1 rfl rfl rfl (h1)) rfl (fun _ => rfl) rfl ?_
    refine K.pickF (gd0 rfl) rfl (h1) rfl rfl ?_
    refine K.nil ?_
    refine At.next ?_
    refine G.cond rfl (fun h3 => ?_) (fun h3 => ?_)
    ·
      replace H0 := bif_t H0 h3
      refine G.seq ?_
      obtain ⟨x4, hx4, H0⟩ := bnd H0
      refine G.rg ?_
      refine K.callR [(.func 11, _)] (Lw10_awake_con (k := k) hx4) (toFn_func (cf 11 rfl) rfl) (gd0 rfl) ⟨rfl, trivial⟩ trivial rfl rfl rfl ?_
      refine K.move (.inr rfl) (gd0 rfl) rfl rfl ?_
      refine K.nil ?_
      refine At.next ?_
      refine G.ret ?_
      refine At.over_ret ?_
      refine At.done Y [(.tmp 6, .c _)] rfl ⟨.tmp rfl, trivial⟩ (to' := [(0, _)]) ⟨rfl, trivial⟩ ?_ ?_ rfl rfl rfl (.inl rfl)
      · cases H0; rfl
      · cases H0; rfl
    ·
      replace H0 := bif_f H0 h3
      refine G.skip ?_
      refine At.next ?_
      refine G.seq ?_
      obtain ⟨x5, hx5, H0⟩ := bnd H0
      obtain ⟨x6, hx6, H0⟩ := bnd H0
      obtain ⟨x7, hx7, H0⟩ := bnd H0
      obtain ⟨x8, hx8, H0⟩ := bnd H0
      refine G.rg ?_
      refine K.move (.inl rfl) (gd0 rfl) rfl rfl ?_
      refine K.callV [(.func 14, _), ((.tmp 16), _)] [(0, rd S W0)] [] [(100, _), (101, _)] (fun β => [SV.raw s0]) (fun β w S2 h => Lw10_Tree_con (k := k) ((hI0.isC 0).larg ⟨_, List.mem_cons_self⟩ h) hx5 100 101 rfl) (toFn_func (cf 14 rfl) rfl) (gd0 rfl) ⟨rfl, rfl, trivial⟩ (fun _ => rfl) ⟨rfl, trivial⟩ rfl rfl rfl rfl rfl rfl ?_
      refine K.move (.inl rfl) (gd0 rfl) rfl rfl ?_
      refine K.move (.inl rfl) (gd0 rfl) rfl rfl ?_
      refine K.callR [(.func 13, _), ((.tmp 17), _), ((.tmp 18), _), ((.tmp 19), _)] (bridge_Height_con (k := k) hx6 100 101) (toFn_func (cf 13 rfl) rfl) (gd0 rfl) ⟨rfl, rfl, rfl, rfl, trivial⟩ ⟨rfl, rfl, trivial⟩ rfl rfl rfl ?_
      refine K.move (.inl rfl) (gd0 rfl) rfl rfl ?_
      refine K.callV [(.func 16, _), ((.tmp 21), _)] [(0, rd S W0)] [] [(102, _)] (fun β => [SV.raw s0]) (fun β w S2 h => R10_Timed_con (k := k) ((hI0.isC 0).larg ⟨_, List.mem_cons_self⟩ h) hx7 102 rfl) (toFn_func (cf 16 rfl) rfl) (gd0 rfl) ⟨rfl, rfl, trivial⟩ (fun _ => rfl) ⟨rfl, trivial⟩ rfl rfl rfl rfl rfl rfl ?_
      refine K.move (.inl rfl) (gd0 rfl) rfl rfl ?_
      refine K.move (.inl rfl) (gd0 rfl) rfl rfl ?_
      refine K.callV [(.func 15, _), ((.tmp 22), _), ((.tmp 23), _), ((.tmp 24), _)] [(102, lrow 102 52 eTR08Mark 8 x7)] [] [] (fun β => [SV.raw ((lrowV 102 52 eTR08Mark 8 x7).s.den β), .a (.c (.v (.int .i64 a1))), .a (.c (.v (.int .i64 a2)))]) (fun β w S2 h => R10_Height_con (k := k) ((lrowV_isC eTR08Mark_len (by decide)).larg ⟨_, List.mem_cons_self⟩ h) hx8) (toFn_func (cf 15 rfl) rfl) (gd0 rfl) ⟨rfl, rfl, rfl, rfl, trivial⟩ (fun _ => rfl) ⟨rfl, trivial⟩ rfl rfl rfl rfl rfl rfl ?_
      refine K.bin (V := .bool (x6 == x8)) (gd0 rfl) rfl rfl (fun _ => rfl) rfl ?_
      refine K.move (.inr rfl) (gd0 rfl) rfl rfl ?_
      refine K.nil ?_
      refine At.next ?_
      refine G.ret ?_
      refine At.done Y [(.tmp 6, .c _)] rfl ⟨.tmp rfl, trivial⟩ (to' := [(0, _)]) ⟨rfl, trivial⟩ ?_ ?_ rfl rfl rfl (.inl rfl)
      · cases H0; rfl
      · cases H0; rfl
theorem Lw10_BridgeHeights_con {k : Nat}  {S : Foot} {W0 : World} {s0 : Value} {l0 : List TR08Mark} {a1 : Int} {a2 : Int} {r : Bool} (hL0 : LArg S W0 s0 eTR08Mark 8 l0) (H0 : Lw10_BridgeHeights.f k l0 a1 a2 = some r) : SCon Try.prog 3 [SV.raw s0, .a (.c (.v (.int .i64 a1))), .a (.c (.v (.int .i64 a2)))] [(0, rd S W0)] (.a (.c (.v (.bool r)))) [(0, rd S W0)] [] :=
  SCon.ren (rn []) (Lw10_BridgeHeights_con0 (k := k)  hL0 H0) ⟨(fun _ => rfl), trivial⟩ ⟨(fun _ => rfl), trivial⟩ (by simp) (by simp)
end Go.Proofs.Ythcehagablploaa


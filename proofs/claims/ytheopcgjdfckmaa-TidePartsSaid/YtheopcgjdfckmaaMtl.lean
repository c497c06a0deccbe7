/- Layer 6: the laws' walks. Printed by a program of mine. -/
import Derived.KernelRfl
import Derived.Test.YtheopcgjdfckmaaMta
namespace Go.Proofs.Ytheopcgjdfckmaa
open Go Go.Proofs.Ytheopcgjdfckmaa.Sx
set_option linter.unusedVariables false
set_option linter.unusedSimpArgs false
theorem Lw06_awake_con0 {k : Nat}  {r : Bool}  (H0 : Lw06_awake.f k = some r) : SCon Try.prog 15 [] [] (.a (.c (.v (.bool r)))) [] [] := by
  rw [Lw06_awake.f] at H0
  refine spec_of [] [] 5 Try.func15 rfl Try.ntmps15 rfl rfl rfl rfl (fun β W F => ?_)
  refine G.seq ?_
  refine G.rg ?_
  refine K.move (.inr rfl) (gd0 rfl) rfl rfl ?_
  refine K.nil ?_
  refine At.next ?_
  refine G.seq ?_
  obtain ⟨x1, hx1, H0⟩ := bnd H0
  refine G.rg ?_
  refine K.buildL Y 100 ([1, (-2), 3] : List Int) [(0, _), (1, _), (2, _)] [(_, _), (_, _), (_, _)] intE_len (gd0 rfl) (AllE.spec ⟨rfl, rfl, rfl, trivial⟩) rfl rfl Try.underlying22 t3 rfl rfl rfl rfl rfl rfl rfl rfl ?_
  refine K.callV [(.func 17, _), ((.tmp 1), _)] [(100, lrow 100 3 intE 1 ([1, (-2), 3] : List Int))] [] [] (fun β => [SV.raw ((lrowV 100 3 intE 1 ([1, (-2), 3] : List Int)).s.den β)]) (fun β w S2 h => tide_Of_con (k := k) ((lrowV_isC intE_len (by decide)).larg ⟨_, List.mem_cons_self⟩ h) hx1) (toFn_func (cf 17 rfl) rfl) (gd0 rfl) ⟨rfl, rfl, trivial⟩ (fun _ => rfl) ⟨rfl, trivial⟩ rfl rfl rfl rfl rfl rfl ?_
  refine K.build Y [(0, _), (1, _), (2, _)] [_, _, _] [(_, _), (_, _), (_, _)] (gd0 rfl) (AllE.spec ⟨rfl, rfl, rfl, trivial⟩) rfl rfl t26 rfl rfl ?_
  refine K.eqS [_, _, _] [_, _, _] (gd0 rfl) rfl rfl cmp26 rfl (.inl rfl) ((x1.n == 3) && ((x1.sum == 2) && ((x1.low == (-1)) && true))) rfl rfl ?_
  refine K.move (.inr rfl) (gd0 rfl) rfl rfl ?_
  refine K.nil ?_
  refine At.next ?_
  refine G.ret ?_
  refine At.done Y [(.tmp 0, .c _)] rfl ⟨.tmp rfl, trivial⟩ (to' := []) trivial ?_ ?_ rfl rfl rfl (.inl rfl)
  · cases H0; rfl
  · cases H0; rfl
theorem Lw06_awake_con {k : Nat}  {r : Bool}  (H0 : Lw06_awake.f k = some r) : SCon Try.prog 15 [] [] (.a (.c (.v (.bool r)))) [] [] :=
  SCon.ren (rn []) (Lw06_awake_con0 (k := k)   H0) trivial trivial (by simp) (by simp)
theorem Lw06_small_con0 {k : Nat}  {S : Foot} {W0 : World} {s0 : Value} {l0 : List Int} {r : Bool} (hL0 : LArg S W0 s0 intE 1 l0) (H0 : Lw06_small.f k l0 = some r) : SCon Try.prog 16 [SV.raw s0] [(0, rd S W0)] (.a (.c (.v (.bool r)))) [(0, rd S W0)] [] := by
  rw [Lw06_small.f] at H0
  obtain ⟨b0, o0, hI0⟩ := hL0
  refine spec_of [(0, _)] [(0, _)] 25 Try.func16 rfl Try.ntmps16 rfl rfl rfl rfl (fun β W F => ?_)
  refine G.seq ?_
  refine G.rg ?_
  refine K.move (.inr rfl) (gd0 rfl) rfl rfl ?_
  refine K.nil ?_
  refine At.next ?_
  refine G.seq ?_
  refine G.seq ?_
  refine G.rg ?_
  refine K.move (.inl rfl) (gd0 rfl) rfl rfl ?_
  refine K.lenL (rV 0 S W0 s0 b0 o0 intE 1 l0) (hI0.is 0) (gd0 rfl) rfl rfl Try.underlying22 rfl ?_
  refine K.bin (V := .bool (decide ((l0.length : Int) > 60))) (gd0 rfl) rfl rfl (fun _ => rfl) rfl ?_
  refine K.nil ?_
  refine At.next ?_
  refine G.cond rfl (fun h1 => ?_) (fun h1 => ?_)
  ·
    replace H0 := bif_t H0 h1
    refine G.seq ?_
    refine G.rg ?_
    refine K.move (.inr rfl) (gd0 rfl) rfl rfl ?_
    refine K.nil ?_
    refine At.next ?_
    refine G.ret ?_
    refine At.over_ret ?_
    refine At.done Y [(.tmp 2, .c _)] rfl ⟨.tmp rfl, trivial⟩ (to' := [(0, _)]) ⟨rfl, trivial⟩ ?_ ?_ rfl rfl rfl (.inl rfl)
    · cases H0; rfl
    · cases H0; rfl
  ·
    replace H0 := bif_f H0 h1
    refine G.skip ?_
    refine At.next ?_
    obtain ⟨x1, H1, H0⟩ := bnd H0
    refine G.seqJ (σ := { v : Unit // x1 = Sum.inr v }) (fun q => []) (fun q => [(0, rd S W0)]) ?_ ?_
    ·
      refine G.seq ?_
      refine G.rg ?_
      refine K.move (.inr rfl) (gd0 rfl) rfl rfl ?_
      refine K.nil ?_
      refine At.next ?_
      refine G.block ?_
      refine G.loop (σ := { q : Nat × (Int) // Lw06_small.l0 k l0 q.1 q.2 = some x1 }) (fun q => [(0, SV.raw s0), (3, .a (.c (.v (.int .i64 q.1.2))))]) (fun q => [(0, rd S W0)]) (fun q => q.1.1) ⟨(k, 0), H1⟩ ?_ ?_
      · exact At.into [] [_] rfl ⟨rfl, rfl, trivial⟩ ⟨rfl, (fun _ => rfl), trivial⟩ rfl
      ·
        rintro ⟨⟨n0, v1⟩, H1⟩
        show G _ _ [(0, SV.raw s0), (3, .a (.c (.v (.int .i64 v1))))] [(0, some (rd S W0))] _ _
        cases n0 with
        | zero => exact absurd H1 (by simp [Lw06_small.l0])
        | succ n0 =>
          have HL0 := H1
          rw [Lw06_small.l0] at H1
          refine G.seq ?_
          refine G.seq ?_
          refine G.rg ?_
          refine K.move (.inl rfl) (gd0 rfl) rfl rfl ?_
          refine K.move (.inl rfl) (gd0 rfl) rfl rfl ?_
          refine K.lenL (rV 0 S W0 s0 b0 o0 intE 1 l0) (hI0.is 0) (gd0 rfl) rfl rfl Try.underlying22 rfl ?_
          refine K.bin (V := .bool (decide (v1 < (l0.length : Int)))) (gd0 rfl) rfl rfl (fun _ => rfl) rfl ?_
          refine K.nil ?_
          refine At.next ?_
          refine G.cond rfl (fun h2 => ?_) (fun h2 => ?_)
          ·
            replace H1 := bif_t H1 h2
            refine G.skip ?_
            refine At.next ?_
            refine G.seq ?_
            refine G.block ?_
            refine G.seq ?_
            obtain ⟨x2, hx2, H1⟩ := bnd H1
            rcases Bool.eq_false_or_eq_true (decide (x2 < (-1099511627776))) with h3 | h3
            ·
              replace H1 := bif_t H1 h3
              refine G.rg ?_
              refine K.move (.inl rfl) (gd0 rfl) rfl rfl ?_
              refine K.move (.inl rfl) (gd0 rfl) rfl rfl ?_
              refine K.idxL (rV 0 S W0 s0 b0 o0 intE 1 l0) ((v1).toNat) (hI0.is 0) (atL_get hx2) (atL_nn hx2) (gd0 rfl) rfl rfl rfl Try.underlying22 el22.size_run rfl ?_
              refine K.load1L Y (rV 0 S W0 s0 b0 o0 intE 1 l0) ((v1).toNat) 0 (hI0.is 0) (atL_get hx2) (gd0 rfl) rfl rfl t3 rfl rfl ?_
              refine K.bin (V := .bool (decide (x2 < (-1099511627776)))) (gd0 rfl) rfl rfl (fun _ => rfl) rfl ?_
              refine K.move (.inl rfl) (gd0 rfl) rfl rfl ?_
              refine K.skip rfl rfl rfl rfl (h3) rfl ?_
              refine K.skip rfl rfl rfl rfl (h3) rfl ?_
              refine K.skip rfl rfl rfl rfl (h3) rfl ?_
              refine K.skip rfl rfl rfl rfl (h3) rfl ?_
              refine K.skip rfl rfl rfl rfl (h3) rfl ?_
              refine K.pickT (gd0 rfl) rfl (h3) rfl rfl ?_
              refine K.nil ?_
              refine At.next ?_
              refine G.cond rfl (fun h4 => ?_) (fun h4 => ?_)
              ·
                refine G.seq ?_
                refine G.rg ?_
                refine K.move (.inr rfl) (gd0 rfl) rfl rfl ?_
                refine K.nil ?_
                refine At.next ?_
                refine G.ret ?_
                refine At.block_ret ?_
                refine At.over_ret ?_
                refine At.over_ret ?_
                refine At.block_ret ?_
                refine At.over_ret ?_
                cases H1
                replace H0 := sum_l H0
                refine At.done Y [(.tmp 2, .c _)] rfl ⟨.tmp rfl, trivial⟩ (to' := [(0, _)]) ⟨rfl, trivial⟩ ?_ ?_ rfl rfl rfl (.inl rfl)
                · cases H0; rfl
                · cases H0; rfl
              · cases h4
            ·
              replace H1 := bif_f H1 h3
              refine G.rg ?_
              refine K.move (.inl rfl) (gd0 rfl) rfl rfl ?_
              refine K.move (.inl rfl) (gd0 rfl) rfl rfl ?_
              refine K.idxL (rV 0 S W0 s0 b0 o0 intE 1 l0) ((v1).toNat) (hI0.is 0) (atL_get hx2) (atL_nn hx2) (gd0 rfl) rfl rfl rfl Try.underlying22 el22.size_run rfl ?_
              refine K.load1L Y (rV 0 S W0 s0 b0 o0 intE 1 l0) ((v1).toNat) 0 (hI0.is 0) (atL_get hx2) (gd0 rfl) rfl rfl t3 rfl rfl ?_
              refine K.bin (V := .bool (decide (x2 < (-1099511627776)))) (gd0 rfl) rfl rfl (fun _ => rfl) rfl ?_
              refine K.move (.inl rfl) (gd0 rfl) rfl rfl ?_
              refine K.move (.inl rfl) (gd1 rfl rfl rfl (h3)) rfl rfl ?_
              refine K.move (.inl rfl) (gd1 rfl rfl rfl (h3)) rfl rfl ?_
              refine K.idxL (rV 0 S W0 s0 b0 o0 intE 1 l0) ((v1).toNat) (hI0.is 0) (atL_get hx2) (atL_nn hx2) (gd1 rfl rfl rfl (h3)) rfl rfl rfl Try.underlying22 el22.size_run rfl ?_
              refine K.load1L Y (rV 0 S W0 s0 b0 o0 intE 1 l0) ((v1).toNat) 0 (hI0.is 0) (atL_get hx2) (gd1 rfl rfl rfl (h3)) rfl rfl t3 rfl rfl ?_
              refine K.bin (V := .bool (decide (x2 > 1099511627776))) (gd1 rfl rfl rfl (h3)) rfl rfl (fun _ => rfl) rfl ?_
              refine K.pickF (gd0 rfl) rfl (h3) rfl rfl ?_
              refine K.nil ?_
              refine At.next ?_
              refine G.cond rfl (fun h5 => ?_) (fun h5 => ?_)
              ·
                replace H1 := bif_t H1 h5
                refine G.seq ?_
                refine G.rg ?_
                refine K.move (.inr rfl) (gd0 rfl) rfl rfl ?_
                refine K.nil ?_
                refine At.next ?_
                refine G.ret ?_
                refine At.block_ret ?_
                refine At.over_ret ?_
                refine At.over_ret ?_
                refine At.block_ret ?_
                refine At.over_ret ?_
                cases H1
                replace H0 := sum_l H0
                refine At.done Y [(.tmp 2, .c _)] rfl ⟨.tmp rfl, trivial⟩ (to' := [(0, _)]) ⟨rfl, trivial⟩ ?_ ?_ rfl rfl rfl (.inl rfl)
                · cases H0; rfl
                · cases H0; rfl
              ·
                replace H1 := bif_f H1 h5
                refine G.skip ?_
                refine At.block_normal ?_
                refine At.next ?_
                refine G.rg ?_
                refine K.move (.inl rfl) (gd0 rfl) rfl rfl ?_
                refine K.bin (V := .int .i64 (w64 (v1 + 1))) (gd0 rfl) rfl rfl (fun _ => rfl) rfl ?_
                refine K.move (.inr rfl) (gd0 rfl) rfl rfl ?_
                refine K.nil ?_
                exact At.again (σ := { q : Nat × (Int) // Lw06_small.l0 k l0 q.1 q.2 = some x1 }) (Fs := fun q => [(0, SV.raw s0), (3, .a (.c (.v (.int .i64 q.1.2))))]) (Tl := fun q => [(0, rd S W0)]) (μ := fun q => q.1.1) (s := ⟨(n0 + 1, v1), HL0⟩) ⟨(n0, (w64 (v1 + 1))), H1⟩ [] [_] (Nat.lt_succ_self _) rfl ⟨rfl, rfl, trivial⟩ ⟨rfl, (fun _ => rfl), trivial⟩ rfl
          ·
            replace H1 := bif_f H1 h2
            refine G.exit ?_
            refine At.over_exit ?_
            refine At.over_exit ?_
            refine At.block_hit ?_
            exact At.joined (σ := { v : Unit // x1 = Sum.inr v }) (Fs := fun q => []) (Tl := fun q => [(0, rd S W0)]) ⟨(), (Option.some.inj H1).symm⟩ [] [_] rfl trivial ⟨rfl, (fun _ => rfl), trivial⟩ rfl
    ·
      rintro ⟨v1, rfl⟩
      replace H0 := sum_r H0
      show G _ _ [] [(0, some (rd S W0))] _ _
      refine G.seq ?_
      refine G.rg ?_
      refine K.move (.inr rfl) (gd0 rfl) rfl rfl ?_
      refine K.nil ?_
      refine At.next ?_
      refine G.ret ?_
      refine At.done Y [(.tmp 2, .c _)] rfl ⟨.tmp rfl, trivial⟩ (to' := [(0, _)]) ⟨rfl, trivial⟩ ?_ ?_ rfl rfl rfl (.inl rfl)
      · cases H0; rfl
      · cases H0; rfl
theorem Lw06_small_con {k : Nat}  {S : Foot} {W0 : World} {s0 : Value} {l0 : List Int} {r : Bool} (hL0 : LArg S W0 s0 intE 1 l0) (H0 : Lw06_small.f k l0 = some r) : SCon Try.prog 16 [SV.raw s0] [(0, rd S W0)] (.a (.c (.v (.bool r)))) [(0, rd S W0)] [] :=
  SCon.ren (rn []) (Lw06_small_con0 (k := k)  hL0 H0) ⟨(fun _ => rfl), trivial⟩ ⟨(fun _ => rfl), trivial⟩ (by simp) (by simp)
theorem Lw06_TideParts_con0 {k : Nat}  {S : Foot} {W0 : World} {s0 : Value} {l0 : List Int} {a1 : Int} {a2 : Int} {r : Bool} (hL0 : LArg S W0 s0 intE 1 l0) (H0 : Lw06_TideParts.f k l0 a1 a2 = some r) : SCon Try.prog 4 [SV.raw s0, .a (.c (.v (.int .i64 a1))), .a (.c (.v (.int .i64 a2)))] [(0, rd S W0)] (.a (.c (.v (.bool r)))) [(0, rd S W0)] [] := by
  rw [Lw06_TideParts.f] at H0
  obtain ⟨b0, o0, hI0⟩ := hL0
  refine spec_of [(0, _), (1, _), (2, _)] [(0, _)] 68 Try.func4 rfl Try.ntmps4 rfl rfl rfl rfl (fun β W F => ?_)
  refine G.seq ?_
  refine G.rg ?_
  refine K.move (.inr rfl) (gd0 rfl) rfl rfl ?_
  refine K.nil ?_
  refine At.next ?_
  obtain ⟨x1, H1, H0⟩ := bnd H0
  refine G.seqJ (σ := { v : Unit // x1 = Sum.inr v }) (fun q => [(0, SV.raw s0), (1, .a (.c (.v (.int .i64 a1)))), (2, .a (.c (.v (.int .i64 a2))))]) (fun q => [(0, rd S W0)]) ?_ ?_
  ·
    refine G.seq ?_
    obtain ⟨x2, hx2, H1⟩ := bnd H1
    rcases Bool.eq_false_or_eq_true (!x2) with h1 | h1
    ·
      replace H1 := bif_t H1 h1
      refine G.rg ?_
      refine K.callR [(.func 15, _)] (Lw06_awake_con (k := k) hx2) (toFn_func (cf 15 rfl) rfl) (gd0 rfl) ⟨rfl, trivial⟩ trivial rfl rfl rfl ?_
      refine K.un (V := .bool (!x2)) (gd0 rfl) rfl (fun _ => rfl) rfl ?_
      refine K.move (.inl rfl) (gd0 rfl) rfl rfl ?_
      refine K.skip rfl rfl rfl rfl (h1) rfl ?_
      refine K.skip rfl rfl rfl rfl (h1) rfl ?_
      refine K.skip rfl rfl rfl rfl (h1) rfl ?_
      refine K.pickT (gd0 rfl) rfl (h1) rfl rfl ?_
      refine K.nil ?_
      refine At.next ?_
      refine G.cond rfl (fun h2 => ?_) (fun h2 => ?_)
      ·
        refine G.seq ?_
        obtain ⟨x3, hx3, H1⟩ := bnd H1
        refine G.rg ?_
        refine K.callR [(.func 15, _)] (Lw06_awake_con (k := k) hx3) (toFn_func (cf 15 rfl) rfl) (gd0 rfl) ⟨rfl, trivial⟩ trivial rfl rfl rfl ?_
        refine K.move (.inr rfl) (gd0 rfl) rfl rfl ?_
        refine K.nil ?_
        refine At.next ?_
        refine G.ret ?_
        refine At.over_ret ?_
        cases H1
        replace H0 := sum_l H0
        refine At.done Y [(.tmp 6, .c _)] rfl ⟨.tmp rfl, trivial⟩ (to' := [(0, _)]) ⟨rfl, trivial⟩ ?_ ?_ rfl rfl rfl (.inl rfl)
        · cases H0; rfl
        · cases H0; rfl
      · cases h2
    ·
      replace H1 := bif_f H1 h1
      obtain ⟨x4, hx4, H1⟩ := bnd H1
      refine G.rg ?_
      refine K.callR [(.func 15, _)] (Lw06_awake_con (k := k) hx2) (toFn_func (cf 15 rfl) rfl) (gd0 rfl) ⟨rfl, trivial⟩ trivial rfl rfl rfl ?_
      refine K.un (V := .bool (!x2)) (gd0 rfl) rfl (fun _ => rfl) rfl ?_
      refine K.move (.inl rfl) (gd0 rfl) rfl rfl ?_
      refine K.move (.inl rfl) (gd1 rfl rfl rfl (h1)) rfl rfl ?_
      refine K.callV [(.func 16, _), ((.tmp 16), _)] [(0, rd S W0)] [] [] (fun β => [SV.raw s0]) (fun β w S2 h => Lw06_small_con (k := k) ((hI0.isC 0).larg ⟨_, List.mem_cons_self⟩ h) hx4) (toFn_func (cf 16 rfl) rfl) (gd1 rfl rfl rfl (h1)) ⟨rfl, rfl, trivial⟩ (fun _ => rfl) ⟨rfl, trivial⟩ rfl rfl rfl rfl rfl rfl ?_
      refine K.un (V := .bool (!x4)) (gd1 rfl rfl rfl (h1)) rfl (fun _ => rfl) rfl ?_
      refine K.pickF (gd0 rfl) rfl (h1) rfl rfl ?_
      refine K.nil ?_
      refine At.next ?_
      refine G.cond rfl (fun h3 => ?_) (fun h3 => ?_)
      ·
        replace H1 := bif_t H1 h3
        refine G.seq ?_
        obtain ⟨x5, hx5, H1⟩ := bnd H1
        refine G.rg ?_
        refine K.callR [(.func 15, _)] (Lw06_awake_con (k := k) hx5) (toFn_func (cf 15 rfl) rfl) (gd0 rfl) ⟨rfl, trivial⟩ trivial rfl rfl rfl ?_
        refine K.move (.inr rfl) (gd0 rfl) rfl rfl ?_
        refine K.nil ?_
        refine At.next ?_
        refine G.ret ?_
        refine At.over_ret ?_
        cases H1
        replace H0 := sum_l H0
        refine At.done Y [(.tmp 6, .c _)] rfl ⟨.tmp rfl, trivial⟩ (to' := [(0, _)]) ⟨rfl, trivial⟩ ?_ ?_ rfl rfl rfl (.inl rfl)
        · cases H0; rfl
        · cases H0; rfl
      ·
        replace H1 := bif_f H1 h3
        refine G.skip ?_
        exact At.joined (σ := { v : Unit // x1 = Sum.inr v }) (Fs := fun q => [(0, SV.raw s0), (1, .a (.c (.v (.int .i64 a1)))), (2, .a (.c (.v (.int .i64 a2))))]) (Tl := fun q => [(0, rd S W0)]) ⟨(), (Option.some.inj H1).symm⟩ [] [_] rfl ⟨rfl, rfl, rfl, trivial⟩ ⟨rfl, (fun _ => rfl), trivial⟩ rfl
  ·
    rintro ⟨v1, rfl⟩
    replace H0 := sum_r H0
    show G _ _ [(0, SV.raw s0), (1, .a (.c (.v (.int .i64 a1)))), (2, .a (.c (.v (.int .i64 a2))))] [(0, some (rd S W0))] _ _
    refine G.seq ?_
    obtain ⟨x6, hx6, H0⟩ := bnd H0
    obtain ⟨x7, hx7, H0⟩ := bnd H0
    refine G.rg ?_
    refine K.move (.inl rfl) (gd0 rfl) rfl rfl ?_
    refine K.move (.inl rfl) (gd0 rfl) rfl rfl ?_
    refine K.lenL (rV 0 S W0 s0 b0 o0 intE 1 l0) (hI0.is 0) (gd0 rfl) rfl rfl Try.underlying22 rfl ?_
    refine K.bin (V := .int .i64 (w64 ((l0.length : Int) + 1))) (gd0 rfl) rfl rfl (fun _ => rfl) rfl ?_
    refine K.callR [(.func 20, _), ((.tmp 21), _), ((.tmp 24), _)] (R01_Rest_con (k := k) hx6) (toFn_func (cf 20 rfl) rfl) (gd0 rfl) ⟨rfl, rfl, rfl, trivial⟩ trivial rfl rfl rfl ?_
    refine K.move (.inl rfl) (gd0 rfl) rfl rfl ?_
    refine K.move (.inl rfl) (gd0 rfl) rfl rfl ?_
    refine K.lenL (rV 0 S W0 s0 b0 o0 intE 1 l0) (hI0.is 0) (gd0 rfl) rfl rfl Try.underlying22 rfl ?_
    refine K.bin (V := .int .i64 (w64 ((l0.length : Int) + 1))) (gd0 rfl) rfl rfl (fun _ => rfl) rfl ?_
    refine K.callR [(.func 20, _), ((.tmp 26), _), ((.tmp 29), _)] (R01_Rest_con (k := k) hx7) (toFn_func (cf 20 rfl) rfl) (gd0 rfl) ⟨rfl, rfl, rfl, trivial⟩ trivial rfl rfl rfl ?_
    refine K.move (.inr rfl) (gd0 rfl) rfl rfl ?_
    refine K.move (.inr rfl) (gd0 rfl) rfl rfl ?_
    refine K.nil ?_
    refine At.next ?_
    refine G.seq ?_
    refine G.rg ?_
    refine K.move (.inl rfl) (gd0 rfl) rfl rfl ?_
    refine K.move (.inl rfl) (gd0 rfl) rfl rfl ?_
    refine K.bi2 (V := .int .i64 (gmin x6 x7)) (gd0 rfl) rfl rfl (fun _ _ => rfl) rfl ?_
    refine K.move (.inl rfl) (gd0 rfl) rfl rfl ?_
    refine K.move (.inl rfl) (gd0 rfl) rfl rfl ?_
    refine K.bi2 (V := .int .i64 (gmax x6 x7)) (gd0 rfl) rfl rfl (fun _ _ => rfl) rfl ?_
    refine K.move (.inr rfl) (gd0 rfl) rfl rfl ?_
    refine K.move (.inr rfl) (gd0 rfl) rfl rfl ?_
    refine K.nil ?_
    refine At.next ?_
    refine G.seq ?_
    obtain ⟨h4, H0⟩ := grd H0
    obtain ⟨x8, hx8, H0⟩ := bnd H0
    obtain ⟨h6, H0⟩ := grd H0
    obtain ⟨x9, hx9, H0⟩ := bnd H0
    obtain ⟨h8, H0⟩ := grd H0
    obtain ⟨x10, hx10, H0⟩ := bnd H0
    refine G.rd mixed ?_
    refine K.move (.inl rfl) (gd0 rfl) rfl rfl ?_
    refine K.move (.inl rfl) (gd0 rfl) rfl rfl ?_
    refine K.partR 0 (((gmin x6 x7)).toNat) hI0 (gd0 rfl) rfl .no (.at_ rfl h4.1 rfl) Try.underlying22 el22.size_run (Nat.zero_le _) (tn_len h4.2) rfl ?_
    refine K.callV [(.func 17, _), ((.tmp 39), _)] [(0, rd S W0)] [] [] (fun β => [SV.raw (partOf 0 (((gmin x6 x7)).toNat) 1 s0)]) (fun β w S2 h => tide_Of_con (k := k) (((hI0.part (Nat.zero_le _) (tn_len h4.2)).isC 0).larg ⟨_, List.mem_cons_self⟩ h) hx8) (toFn_func (cf 17 rfl) rfl) (gd0 rfl) ⟨rfl, rfl, trivial⟩ (fun _ => rfl) ⟨rfl, trivial⟩ rfl rfl rfl rfl rfl rfl ?_
    refine K.move (.inl rfl) (gd0 rfl) rfl rfl ?_
    refine K.move (.inl rfl) (gd0 rfl) rfl rfl ?_
    refine K.move (.inl rfl) (gd0 rfl) rfl rfl ?_
    refine K.partR (((gmin x6 x7)).toNat) (((gmax x6 x7)).toNat) hI0 (gd0 rfl) rfl (.at_ rfl h6.1 rfl) (.at_ rfl (Int.le_trans h6.1 h6.2.1) rfl) Try.underlying22 el22.size_run (tn_le h6.2.1) (tn_len h6.2.2) rfl ?_
    refine K.callV [(.func 17, _), ((.tmp 44), _)] [(0, rd S W0)] [] [] (fun β => [SV.raw (partOf (((gmin x6 x7)).toNat) (((gmax x6 x7)).toNat) 1 s0)]) (fun β w S2 h => tide_Of_con (k := k) (((hI0.part (tn_le h6.2.1) (tn_len h6.2.2)).isC 0).larg ⟨_, List.mem_cons_self⟩ h) hx9) (toFn_func (cf 17 rfl) rfl) (gd0 rfl) ⟨rfl, rfl, trivial⟩ (fun _ => rfl) ⟨rfl, trivial⟩ rfl rfl rfl rfl rfl rfl ?_
    refine K.move (.inl rfl) (gd0 rfl) rfl rfl ?_
    refine K.move (.inl rfl) (gd0 rfl) rfl rfl ?_
    refine K.partR (((gmax x6 x7)).toNat) l0.length hI0 (gd0 rfl) rfl (.at_ rfl h8.1 rfl) .no Try.underlying22 el22.size_run (tn_len h8.2) (Nat.le_refl _) rfl ?_
    refine K.callV [(.func 17, _), ((.tmp 48), _)] [(0, rd S W0)] [] [] (fun β => [SV.raw (partOf (((gmax x6 x7)).toNat) l0.length 1 s0)]) (fun β w S2 h => tide_Of_con (k := k) (((hI0.part (tn_len h8.2) (Nat.le_refl _)).isC 0).larg ⟨_, List.mem_cons_self⟩ h) hx10) (toFn_func (cf 17 rfl) rfl) (gd0 rfl) ⟨rfl, rfl, trivial⟩ (fun _ => rfl) ⟨rfl, trivial⟩ rfl rfl rfl rfl rfl rfl ?_
    refine K.alloc Y 100 [_, _, _] (gd0 rfl) t26 rfl rfl rfl rfl rfl ?_
    refine K.alloc Y 101 [_, _, _] (gd0 rfl) t26 rfl rfl rfl rfl rfl ?_
    refine K.alloc Y 102 [_, _, _] (gd0 rfl) t26 rfl rfl rfl rfl rfl ?_
    refine K.store Y [_, _, _] (gd0 rfl) rfl rfl rfl t26 rfl rfl rfl rfl rfl ?_
    refine K.store Y [_, _, _] (gd0 rfl) rfl rfl rfl t26 rfl rfl rfl rfl rfl ?_
    refine K.store Y [_, _, _] (gd0 rfl) rfl rfl rfl t26 rfl rfl rfl rfl rfl ?_
    refine K.nil ?_
    refine ⟨by kernel_rfl, ?_⟩
    refine At.next ?_
    refine G.seq ?_
    obtain ⟨x11, hx11, H0⟩ := bnd H0
    refine G.rg ?_
    refine K.move (.inl rfl) (gd0 rfl) rfl rfl ?_
    refine K.callV [(.func 17, _), ((.tmp 50), _)] [(0, rd S W0)] [] [] (fun β => [SV.raw s0]) (fun β w S2 h => tide_Of_con (k := k) ((hI0.isC 0).larg ⟨_, List.mem_cons_self⟩ h) hx11) (toFn_func (cf 17 rfl) rfl) (gd0 rfl) ⟨rfl, rfl, trivial⟩ (fun _ => rfl) ⟨rfl, trivial⟩ rfl rfl rfl rfl rfl rfl ?_
    refine K.alloc Y 103 [_, _, _] (gd0 rfl) t26 rfl rfl rfl rfl rfl ?_
    refine K.store Y [_, _, _] (gd0 rfl) rfl rfl rfl t26 rfl rfl rfl rfl rfl ?_
    refine K.nil ?_
    refine At.next ?_
    refine G.seq ?_
    obtain ⟨x12, hx12, H0⟩ := bnd H0
    obtain ⟨x13, hx13, H0⟩ := bnd H0
    rcases Bool.eq_false_or_eq_true ((x13.n == x11.n) && ((x13.sum == x11.sum) && ((x13.low == x11.low) && true))) with h10 | h10
    ·
      replace H0 := bif_t H0 h10
      obtain ⟨x14, hx14, H0⟩ := bnd H0
      obtain ⟨x15, hx15, H0⟩ := bnd H0
      refine G.rd mixed ?_
      refine K.loadS Y [_, _, _] (gd0 rfl) rfl rfl t26 rfl rfl rfl ?_
      refine K.loadS Y [_, _, _] (gd0 rfl) rfl rfl t26 rfl rfl rfl ?_
      refine K.callR [(.func 21, _), ((.tmp 52), _), ((.tmp 53), _)] (tide_Tide_Plus_con (k := k) hx12) (toFn_func (cf 21 rfl) rfl) (gd0 rfl) ⟨rfl, rfl, rfl, trivial⟩ trivial rfl rfl rfl ?_
      refine K.loadS Y [_, _, _] (gd0 rfl) rfl rfl t26 rfl rfl rfl ?_
      refine K.callR [(.func 21, _), ((.tmp 54), _), ((.tmp 55), _)] (tide_Tide_Plus_con (k := k) hx13) (toFn_func (cf 21 rfl) rfl) (gd0 rfl) ⟨rfl, rfl, rfl, trivial⟩ trivial rfl rfl rfl ?_
      refine K.loadS Y [_, _, _] (gd0 rfl) rfl rfl t26 rfl rfl rfl ?_
      refine K.eqS [_, _, _] [_, _, _] (gd0 rfl) rfl rfl cmp26 rfl (.inl rfl) ((x13.n == x11.n) && ((x13.sum == x11.sum) && ((x13.low == x11.low) && true))) rfl rfl ?_
      refine K.move (.inl rfl) (gd0 rfl) rfl rfl ?_
      refine K.loadS Y [_, _, _] (gd1 rfl rfl rfl (h10)) rfl rfl t26 rfl rfl rfl ?_
      refine K.loadS Y [_, _, _] (gd1 rfl rfl rfl (h10)) rfl rfl t26 rfl rfl rfl ?_
      refine K.loadS Y [_, _, _] (gd1 rfl rfl rfl (h10)) rfl rfl t26 rfl rfl rfl ?_
      refine K.callR [(.func 21, _), ((.tmp 61), _), ((.tmp 62), _)] (tide_Tide_Plus_con (k := k) hx14) (toFn_func (cf 21 rfl) rfl) (gd1 rfl rfl rfl (h10)) ⟨rfl, rfl, rfl, trivial⟩ trivial rfl rfl rfl ?_
      refine K.callR [(.func 21, _), ((.tmp 60), _), ((.tmp 63), _)] (tide_Tide_Plus_con (k := k) hx15) (toFn_func (cf 21 rfl) rfl) (gd1 rfl rfl rfl (h10)) ⟨rfl, rfl, rfl, trivial⟩ trivial rfl rfl rfl ?_
      refine K.loadS Y [_, _, _] (gd1 rfl rfl rfl (h10)) rfl rfl t26 rfl rfl rfl ?_
      refine K.eqS [_, _, _] [_, _, _] (gd1 rfl rfl rfl (h10)) rfl rfl cmp26 rfl (.inl rfl) ((x15.n == x11.n) && ((x15.sum == x11.sum) && ((x15.low == x11.low) && true))) rfl rfl ?_
      refine K.pickT (gd0 rfl) rfl (h10) rfl rfl ?_
      refine K.move (.inr rfl) (gd0 rfl) rfl rfl ?_
      refine K.nil ?_
      refine ⟨by kernel_rfl, ?_⟩
      refine At.next ?_
      refine G.ret ?_
      refine At.done Y [(.tmp 6, .c _)] rfl ⟨.tmp rfl, trivial⟩ (to' := [(0, _)]) ⟨rfl, trivial⟩ ?_ ?_ rfl rfl rfl (.inl rfl)
      · cases H0; rfl
      · cases H0; rfl
    ·
      replace H0 := bif_f H0 h10
      refine G.rd mixed ?_
      refine K.loadS Y [_, _, _] (gd0 rfl) rfl rfl t26 rfl rfl rfl ?_
      refine K.loadS Y [_, _, _] (gd0 rfl) rfl rfl t26 rfl rfl rfl ?_
      refine K.callR [(.func 21, _), ((.tmp 52), _), ((.tmp 53), _)] (tide_Tide_Plus_con (k := k) hx12) (toFn_func (cf 21 rfl) rfl) (gd0 rfl) ⟨rfl, rfl, rfl, trivial⟩ trivial rfl rfl rfl ?_
      refine K.loadS Y [_, _, _] (gd0 rfl) rfl rfl t26 rfl rfl rfl ?_
      refine K.callR [(.func 21, _), ((.tmp 54), _), ((.tmp 55), _)] (tide_Tide_Plus_con (k := k) hx13) (toFn_func (cf 21 rfl) rfl) (gd0 rfl) ⟨rfl, rfl, rfl, trivial⟩ trivial rfl rfl rfl ?_
      refine K.loadS Y [_, _, _] (gd0 rfl) rfl rfl t26 rfl rfl rfl ?_
      refine K.eqS [_, _, _] [_, _, _] (gd0 rfl) rfl rfl cmp26 rfl (.inl rfl) ((x13.n == x11.n) && ((x13.sum == x11.sum) && ((x13.low == x11.low) && true))) rfl rfl ?_
      refine K.move (.inl rfl) (gd0 rfl) rfl rfl ?_
      refine K.skip rfl rfl rfl rfl (h10) rfl ?_
      refine K.skip rfl rfl rfl rfl (h10) rfl ?_
      refine K.skip rfl rfl rfl rfl (h10) rfl ?_
      refine K.skip rfl rfl rfl rfl (h10) rfl ?_
      refine K.skip rfl rfl rfl rfl (h10) rfl ?_
      refine K.skip rfl rfl rfl rfl (h10) rfl ?_
      refine K.skip rfl rfl rfl rfl (h10) rfl ?_
      refine K.pickF (gd0 rfl) rfl (h10) rfl rfl ?_
      refine K.move (.inr rfl) (gd0 rfl) rfl rfl ?_
      refine K.nil ?_
      refine ⟨by kernel_rfl, ?_⟩
      refine At.next ?_
      refine G.ret ?_
      refine At.done Y [(.tmp 6, .c _)] rfl ⟨.tmp rfl, trivial⟩ (to' := [(0, _)]) ⟨rfl, trivial⟩ ?_ ?_ rfl rfl rfl (.inl rfl)
      · cases H0; rfl
      · cases H0; rfl
theorem Lw06_TideParts_con {k : Nat}  {S : Foot} {W0 : World} {s0 : Value} {l0 : List Int} {a1 : Int} {a2 : Int} {r : Bool} (hL0 : LArg S W0 s0 intE 1 l0) (H0 : Lw06_TideParts.f k l0 a1 a2 = some r) : SCon Try.prog 4 [SV.raw s0, .a (.c (.v (.int .i64 a1))), .a (.c (.v (.int .i64 a2)))] [(0, rd S W0)] (.a (.c (.v (.bool r)))) [(0, rd S W0)] [] :=
  SCon.ren (rn []) (Lw06_TideParts_con0 (k := k)  hL0 H0) ⟨(fun _ => rfl), trivial⟩ ⟨(fun _ => rfl), trivial⟩ (by simp) (by simp)
end Go.Proofs.Ytheopcgjdfckmaa


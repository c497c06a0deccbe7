/- Walks of what uses trees. Printed by a program of mine. -/
import Derived.KernelRfl
import Derived.Test.YtjokolmijhhinaaTrE
namespace Go.Proofs.Ytjokolmijhhinaa
open Go Go.Proofs.Ytjokolmijhhinaa.Sx
set_option linter.unusedVariables false
set_option linter.unusedSimpArgs false
theorem Lw07_awake_1_con0 {k : Nat}  {a0 : TTide} {a1 : TTide} {r : Bool}  (H0 : Lw07_awake_1.f k a0 a1 = some r) : SCon Try.prog 59 [.a (.agg ((eTTide a0).map .v)), .a (.agg ((eTTide a1).map .v))] [] (.a (.c (.v (.bool r)))) [] [] := by
  rw [Lw07_awake_1.f] at H0
  refine spec_of [(0, _), (1, _)] [] 11 Try.func59 rfl Try.ntmps59 rfl rfl rfl rfl (fun β W F => ?_)
  refine G.seq ?_
  refine G.rg ?_
  refine K.box Y 100 [_, _, _] (gd0 rfl) rfl rfl rfl rfl rfl rfl ?_
  refine K.box Y 101 [_, _, _] (gd0 rfl) rfl rfl rfl rfl rfl rfl ?_
  refine K.move (.inr rfl) (gd0 rfl) rfl rfl ?_
  refine K.nil ?_
  refine At.next ?_
  refine G.seq ?_
  refine G.rg ?_
  refine K.fieldAddr Y (gd0 rfl) rfl t32 rfl rfl ?_
  refine K.load1 Y (gd0 rfl) rfl rfl t3 rfl rfl ?_
  refine K.fieldAddr Y (gd0 rfl) rfl t32 rfl rfl ?_
  refine K.load1 Y (gd0 rfl) rfl rfl t3 rfl rfl ?_
  refine K.bin (V := .int .i64 (w64 (a0.sum + a1.sum))) (gd0 rfl) rfl rfl (fun _ => rfl) rfl ?_
  refine K.bin (V := .bool (decide ((w64 (a0.sum + a1.sum)) > 6))) (gd0 rfl) rfl rfl (fun _ => rfl) rfl ?_
  refine K.move (.inr rfl) (gd0 rfl) rfl rfl ?_
  refine K.nil ?_
  refine At.next ?_
  refine G.ret ?_
  refine At.done Y [(.tmp 4, .c _)] rfl ⟨.tmp rfl, trivial⟩ (to' := []) trivial ?_ ?_ rfl rfl rfl (.inl rfl)
  · cases H0; rfl
  · cases H0; rfl
theorem Lw07_awake_1_con {k : Nat}  {a0 : TTide} {a1 : TTide} {r : Bool}  (H0 : Lw07_awake_1.f k a0 a1 = some r) : SCon Try.prog 59 [.a (.agg ((eTTide a0).map .v)), .a (.agg ((eTTide a1).map .v))] [] (.a (.c (.v (.bool r)))) [] [] :=
  SCon.ren (rn []) (Lw07_awake_1_con0 (k := k)   H0) trivial trivial (by simp) (by simp)
theorem Lw07_awake_con0 {k : Nat}  {r : Bool}  (H0 : Lw07_awake.f k = some r) : SCon Try.prog 11 [] [] (.a (.c (.v (.bool r)))) [] [] := by
  rw [Lw07_awake.f] at H0
  refine spec_of [] [] 40 Try.func11 rfl Try.ntmps11 rfl rfl rfl rfl (fun β W F => ?_)
  refine G.seq ?_
  refine G.rg ?_
  refine K.move (.inr rfl) (gd0 rfl) rfl rfl ?_
  refine K.nil ?_
  refine At.next ?_
  refine G.seq ?_
  obtain ⟨x1, hx1, H0⟩ := bnd H0
  refine G.rg ?_
  refine K.call0 [(.func 18, _), (_, _)] (Tree_NewE_con (k := k) hx1 100 101 rfl) (toFn_func (cf 18 rfl) rfl) (gd0 rfl) ⟨rfl, rfl, trivial⟩ trivial rfl rfl rfl rfl rfl rfl ?_
  refine K.move (.inr rfl) (gd0 rfl) rfl rfl ?_
  refine K.nil ?_
  refine At.next ?_
  obtain ⟨x2, H1, H0⟩ := bnd H0
  refine G.seqJ (σ := { v : Pool (TNode TL07Elem TTide) × Int × Int // x2 = Sum.inr v }) (fun q => [(1, .a (.c (.p 102 0)))]) (fun q => [(103, plE 103 q.1.1), (102, blk 102 [.p 103 0, .v (.int .i64 q.1.2.1), .v (.int .i64 q.1.2.2)] 101)]) ?_ ?_
  ·
    refine G.seq ?_
    obtain ⟨x3, hx3, H1⟩ := bnd H1
    rcases Bool.eq_false_or_eq_true (!x3.1) with h1 | h1
    ·
      replace H1 := bif_t H1 h1
      refine G.rg ?_
      refine K.move (.inl rfl) (gd0 rfl) rfl rfl ?_
      refine K.eqnil (V := false) (gd0 rfl) rfl rfl (pn_eql_some Try.underlying25) rfl ?_
      refine K.move (.inl rfl) (gd0 rfl) rfl rfl ?_
      refine K.move (.inl rfl) (gd1 rfl rfl rfl (rfl)) rfl rfl ?_
      refine K.build Y [(0, _), (1, _)] [_, _] [(_, _), (_, _)] (gd1 rfl rfl rfl (rfl)) (AllE.spec ⟨rfl, rfl, trivial⟩) rfl rfl t35 rfl rfl ?_
      refine K.call0 [(.func 23, _), ((.tmp 7), _), ((.tmp 8), _)] (Tree_PutE_con (k := k) hx3 100 101) (toFn_func (cf 23 rfl) rfl) (gd1 rfl rfl rfl (rfl)) ⟨rfl, rfl, rfl, trivial⟩ ⟨rfl, rfl, trivial⟩ rfl rfl rfl rfl rfl rfl ?_
      refine K.un (V := .bool (!x3.1)) (gd1 rfl rfl rfl (rfl)) rfl (fun _ => rfl) rfl ?_
      refine K.pickF (gd0 rfl) rfl (rfl) rfl rfl ?_
      refine K.move (.inl rfl) (gd0 rfl) rfl rfl ?_
      refine K.skip rfl rfl rfl rfl (h1) rfl ?_
      refine K.skip rfl rfl rfl rfl (h1) rfl ?_
      refine K.skip rfl rfl rfl rfl (h1) rfl ?_
      refine K.skip rfl rfl rfl rfl (h1) rfl ?_
      refine K.pickT (gd0 rfl) rfl (h1) rfl rfl ?_
      refine K.move (.inl rfl) (gd0 rfl) rfl rfl ?_
      refine K.skip rfl rfl rfl rfl (rfl) rfl ?_
      refine K.skip rfl rfl rfl rfl (rfl) rfl ?_
      refine K.skip rfl rfl rfl rfl (rfl) rfl ?_
      refine K.skip rfl rfl rfl rfl (rfl) rfl ?_
      refine K.pickT (gd0 rfl) rfl (rfl) rfl rfl ?_
      refine K.nil ?_
      refine At.next ?_
      refine G.cond rfl (fun h2 => ?_) (fun h2 => ?_)
      ·
        refine G.seq ?_
        refine G.rg ?_
        refine K.move (.inr rfl) (gd0 rfl) rfl rfl ?_
        refine K.nil ?_
        refine At.next ?_
        refine G.ret ?_
        refine At.over_ret ?_
        cases H1
        replace H0 := sum_l H0
        refine At.done Y [(.tmp 0, .c _)] rfl ⟨.tmp rfl, trivial⟩ (to' := []) trivial ?_ ?_ rfl rfl rfl (.inl rfl)
        · cases H0; rfl
        · cases H0; rfl
      · cases h2
    ·
      replace H1 := bif_f H1 h1
      obtain ⟨x4, hx4, H1⟩ := bnd H1
      rcases Bool.eq_false_or_eq_true (!x4.1) with h3 | h3
      ·
        replace H1 := bif_t H1 h3
        refine G.rg ?_
        refine K.move (.inl rfl) (gd0 rfl) rfl rfl ?_
        refine K.eqnil (V := false) (gd0 rfl) rfl rfl (pn_eql_some Try.underlying25) rfl ?_
        refine K.move (.inl rfl) (gd0 rfl) rfl rfl ?_
        refine K.move (.inl rfl) (gd1 rfl rfl rfl (rfl)) rfl rfl ?_
        refine K.build Y [(0, _), (1, _)] [_, _] [(_, _), (_, _)] (gd1 rfl rfl rfl (rfl)) (AllE.spec ⟨rfl, rfl, trivial⟩) rfl rfl t35 rfl rfl ?_
        refine K.call0 [(.func 23, _), ((.tmp 7), _), ((.tmp 8), _)] (Tree_PutE_con (k := k) hx3 100 101) (toFn_func (cf 23 rfl) rfl) (gd1 rfl rfl rfl (rfl)) ⟨rfl, rfl, rfl, trivial⟩ ⟨rfl, rfl, trivial⟩ rfl rfl rfl rfl rfl rfl ?_
        refine K.un (V := .bool (!x3.1)) (gd1 rfl rfl rfl (rfl)) rfl (fun _ => rfl) rfl ?_
        refine K.pickF (gd0 rfl) rfl (rfl) rfl rfl ?_
        refine K.move (.inl rfl) (gd0 rfl) rfl rfl ?_
        refine K.move (.inl rfl) (gd1 rfl rfl rfl (h1)) rfl rfl ?_
        refine K.build Y [(0, _), (1, _)] [_, _] [(_, _), (_, _)] (gd1 rfl rfl rfl (h1)) (AllE.spec ⟨rfl, rfl, trivial⟩) rfl rfl t35 rfl rfl ?_
        refine K.call0 [(.func 23, _), ((.tmp 13), _), ((.tmp 14), _)] (Tree_PutE_con (k := k) hx4 100 101) (toFn_func (cf 23 rfl) rfl) (gd1 rfl rfl rfl (h1)) ⟨rfl, rfl, rfl, trivial⟩ ⟨rfl, rfl, trivial⟩ rfl rfl rfl rfl rfl rfl ?_
        refine K.un (V := .bool (!x4.1)) (gd1 rfl rfl rfl (h1)) rfl (fun _ => rfl) rfl ?_
        refine K.pickF (gd0 rfl) rfl (h1) rfl rfl ?_
        refine K.move (.inl rfl) (gd0 rfl) rfl rfl ?_
        refine K.skip rfl rfl rfl rfl (h3) rfl ?_
        refine K.skip rfl rfl rfl rfl (h3) rfl ?_
        refine K.skip rfl rfl rfl rfl (h3) rfl ?_
        refine K.skip rfl rfl rfl rfl (h3) rfl ?_
        refine K.pickT (gd0 rfl) rfl (h3) rfl rfl ?_
        refine K.nil ?_
        refine At.next ?_
        refine G.cond rfl (fun h4 => ?_) (fun h4 => ?_)
        ·
          refine G.seq ?_
          refine G.rg ?_
          refine K.move (.inr rfl) (gd0 rfl) rfl rfl ?_
          refine K.nil ?_
          refine At.next ?_
          refine G.ret ?_
          refine At.over_ret ?_
          cases H1
          replace H0 := sum_l H0
          refine At.done Y [(.tmp 0, .c _)] rfl ⟨.tmp rfl, trivial⟩ (to' := []) trivial ?_ ?_ rfl rfl rfl (.inl rfl)
          · cases H0; rfl
          · cases H0; rfl
        · cases h4
      ·
        replace H1 := bif_f H1 h3
        obtain ⟨x5, hx5, H1⟩ := bnd H1
        refine G.rg ?_
        refine K.move (.inl rfl) (gd0 rfl) rfl rfl ?_
        refine K.eqnil (V := false) (gd0 rfl) rfl rfl (pn_eql_some Try.underlying25) rfl ?_
        refine K.move (.inl rfl) (gd0 rfl) rfl rfl ?_
        refine K.move (.inl rfl) (gd1 rfl rfl rfl (rfl)) rfl rfl ?_
        refine K.build Y [(0, _), (1, _)] [_, _] [(_, _), (_, _)] (gd1 rfl rfl rfl (rfl)) (AllE.spec ⟨rfl, rfl, trivial⟩) rfl rfl t35 rfl rfl ?_
        refine K.call0 [(.func 23, _), ((.tmp 7), _), ((.tmp 8), _)] (Tree_PutE_con (k := k) hx3 100 101) (toFn_func (cf 23 rfl) rfl) (gd1 rfl rfl rfl (rfl)) ⟨rfl, rfl, rfl, trivial⟩ ⟨rfl, rfl, trivial⟩ rfl rfl rfl rfl rfl rfl ?_
        refine K.un (V := .bool (!x3.1)) (gd1 rfl rfl rfl (rfl)) rfl (fun _ => rfl) rfl ?_
        refine K.pickF (gd0 rfl) rfl (rfl) rfl rfl ?_
        refine K.move (.inl rfl) (gd0 rfl) rfl rfl ?_
        refine K.move (.inl rfl) (gd1 rfl rfl rfl (h1)) rfl rfl ?_
        refine K.build Y [(0, _), (1, _)] [_, _] [(_, _), (_, _)] (gd1 rfl rfl rfl (h1)) (AllE.spec ⟨rfl, rfl, trivial⟩) rfl rfl t35 rfl rfl ?_
        refine K.call0 [(.func 23, _), ((.tmp 13), _), ((.tmp 14), _)] (Tree_PutE_con (k := k) hx4 100 101) (toFn_func (cf 23 rfl) rfl) (gd1 rfl rfl rfl (h1)) ⟨rfl, rfl, rfl, trivial⟩ ⟨rfl, rfl, trivial⟩ rfl rfl rfl rfl rfl rfl ?_
        refine K.un (V := .bool (!x4.1)) (gd1 rfl rfl rfl (h1)) rfl (fun _ => rfl) rfl ?_
        refine K.pickF (gd0 rfl) rfl (h1) rfl rfl ?_
        refine K.move (.inl rfl) (gd0 rfl) rfl rfl ?_
        refine K.move (.inl rfl) (gd1 rfl rfl rfl (h3)) rfl rfl ?_
        refine K.build Y [(0, _), (1, _)] [_, _] [(_, _), (_, _)] (gd1 rfl rfl rfl (h3)) (AllE.spec ⟨rfl, rfl, trivial⟩) rfl rfl t35 rfl rfl ?_
        refine K.call0 [(.func 23, _), ((.tmp 19), _), ((.tmp 20), _)] (Tree_PutE_con (k := k) hx5 100 101) (toFn_func (cf 23 rfl) rfl) (gd1 rfl rfl rfl (h3)) ⟨rfl, rfl, rfl, trivial⟩ ⟨rfl, rfl, trivial⟩ rfl rfl rfl rfl rfl rfl ?_
        refine K.un (V := .bool (!x5.1)) (gd1 rfl rfl rfl (h3)) rfl (fun _ => rfl) rfl ?_
        refine K.pickF (gd0 rfl) rfl (h3) rfl rfl ?_
        refine K.nil ?_
        refine At.next ?_
        refine G.cond rfl (fun h5 => ?_) (fun h5 => ?_)
        ·
          replace H1 := bif_t H1 h5
          refine G.seq ?_
          refine G.rg ?_
          refine K.move (.inr rfl) (gd0 rfl) rfl rfl ?_
          refine K.nil ?_
          refine At.next ?_
          refine G.ret ?_
          refine At.over_ret ?_
          cases H1
          replace H0 := sum_l H0
          refine At.done Y [(.tmp 0, .c _)] rfl ⟨.tmp rfl, trivial⟩ (to' := []) trivial ?_ ?_ rfl rfl rfl (.inl rfl)
          · cases H0; rfl
          · cases H0; rfl
        ·
          replace H1 := bif_f H1 h5
          refine G.skip ?_
          exact At.joined (σ := { v : Pool (TNode TL07Elem TTide) × Int × Int // x2 = Sum.inr v }) (Fs := fun q => [(1, .a (.c (.p 102 0)))]) (Tl := fun q => [(103, plE 103 q.1.1), (102, blk 102 [.p 103 0, .v (.int .i64 q.1.2.1), .v (.int .i64 q.1.2.2)] 101)]) ⟨(x5.2.2, x5.2.1.index, x5.2.1.gen), (Option.some.inj H1).symm⟩ [(102, 100), (103, 101)] [_, _] rfl ⟨rfl, trivial⟩ ⟨rfl, (pl_ren rfl), rfl, (blk_ren rfl rfl), trivial⟩ rfl
  ·
    rintro ⟨v2, rfl⟩
    replace H0 := sum_r H0
    show G _ _ [(1, .a (.c (.p 102 0)))] [(103, some (plE 103 v2.1)), (102, some (blk 102 [.p 103 0, .v (.int .i64 v2.2.1), .v (.int .i64 v2.2.2)] 101))] _ _
    refine G.seq ?_
    obtain ⟨x6, hx6, H0⟩ := bnd H0
    refine G.rg ?_
    refine K.move (.inl rfl) (gd0 rfl) rfl rfl ?_
    refine K.callR [(.func 30, _), ((.tmp 24), _), (_, _), ((.func 59), _)] (Tree_FirstE_con (k := k) (cf 59 rfl) (fun h => Lw07_awake_1_con (k := k) h) hx6 102 103) (toFn_func (cf 30 rfl) rfl) (gd0 rfl) ⟨rfl, rfl, rfl, rfl, trivial⟩ ⟨rfl, rfl, trivial⟩ rfl rfl rfl ?_
    refine K.move (.inr rfl) (gd0 rfl) rfl rfl ?_
    refine K.nil ?_
    refine At.next ?_
    refine G.seq ?_
    obtain ⟨x7, hx7, H0⟩ := bnd H0
    rcases Bool.eq_false_or_eq_true (x7 == 2) with h6 | h6
    ·
      replace H0 := bif_t H0 h6
      obtain ⟨x8, hx8, H0⟩ := bnd H0
      rcases Bool.eq_false_or_eq_true (x8.sum == 14) with h7 | h7
      ·
        replace H0 := bif_t H0 h7
        refine G.rg ?_
        refine K.move (.inl rfl) (gd0 rfl) rfl rfl ?_
        refine K.build Y [(0, _)] [_, _] [(_, _)] (gd0 rfl) (AllE.spec ⟨rfl, trivial⟩) rfl rfl t35 rfl rfl ?_
        refine K.callR [(.func 26, _), ((.tmp 26), _), ((.tmp 27), _)] (Tree_RankE_con (k := k) hx7 102 103) (toFn_func (cf 26 rfl) rfl) (gd0 rfl) ⟨rfl, rfl, rfl, trivial⟩ ⟨rfl, rfl, trivial⟩ rfl rfl rfl ?_
        refine K.bin (V := .bool (x7 == 2)) (gd0 rfl) rfl rfl (fun _ => rfl) rfl ?_
        refine K.move (.inl rfl) (gd0 rfl) rfl rfl ?_
        refine K.move (.inl rfl) (gd1 rfl rfl rfl (h6)) rfl rfl ?_
        refine K.callR [(.func 15, _), ((.tmp 31), _), (_, _), (_, _)] (Tree_BetweenE_con (k := k) hx8 102 103) (toFn_func (cf 15 rfl) rfl) (gd1 rfl rfl rfl (h6)) ⟨rfl, rfl, rfl, rfl, trivial⟩ ⟨rfl, rfl, trivial⟩ rfl rfl rfl ?_
        refine K.field1 Y (gd1 rfl rfl rfl (h6)) rfl t32 rfl t3 rfl rfl ?_
        refine K.bin (V := .bool (x8.sum == 14)) (gd1 rfl rfl rfl (h6)) rfl rfl (fun _ => rfl) rfl ?_
        refine K.pickT (gd0 rfl) rfl (h6) rfl rfl ?_
        refine K.move (.inl rfl) (gd0 rfl) rfl rfl ?_
        refine K.move (.inl rfl) (gd1 rfl rfl rfl (h7)) rfl rfl ?_
        refine K.bin (V := .bool (x6 == 1)) (gd1 rfl rfl rfl (h7)) rfl rfl (fun _ => rfl) rfl ?_
        refine K.pickT (gd0 rfl) rfl (h7) rfl rfl ?_
        refine K.move (.inr rfl) (gd0 rfl) rfl rfl ?_
        refine K.nil ?_
        refine At.next ?_
        refine G.ret ?_
        refine At.done Y [(.tmp 0, .c _)] rfl ⟨.tmp rfl, trivial⟩ (to' := []) trivial ?_ ?_ rfl rfl rfl (.inl rfl)
        · cases H0; rfl
        · cases H0; rfl
      ·
        replace H0 := bif_f H0 h7
        refine G.rg ?_
        refine K.move (.inl rfl) (gd0 rfl) rfl rfl ?_
        refine K.build Y [(0, _)] [_, _] [(_, _)] (gd0 rfl) (AllE.spec ⟨rfl, trivial⟩) rfl rfl t35 rfl rfl ?_
        refine K.callR [(.func 26, _), ((.tmp 26), _), ((.tmp 27), _)] (Tree_RankE_con (k := k) hx7 102 103) (toFn_func (cf 26 rfl) rfl) (gd0 rfl) ⟨rfl, rfl, rfl, trivial⟩ ⟨rfl, rfl, trivial⟩ rfl rfl rfl ?_
        refine K.bin (V := .bool (x7 == 2)) (gd0 rfl) rfl rfl (fun _ => rfl) rfl ?_
        refine K.move (.inl rfl) (gd0 rfl) rfl rfl ?_
        refine K.move (.inl rfl) (gd1 rfl rfl rfl (h6)) rfl rfl ?_
        refine K.callR [(.func 15, _), ((.tmp 31), _), (_, _), (_, _)] (Tree_BetweenE_con (k := k) hx8 102 103) (toFn_func (cf 15 rfl) rfl) (gd1 rfl rfl rfl (h6)) ⟨rfl, rfl, rfl, rfl, trivial⟩ ⟨rfl, rfl, trivial⟩ rfl rfl rfl ?_
        refine K.field1 Y (gd1 rfl rfl rfl (h6)) rfl t32 rfl t3 rfl rfl ?_
        refine K.bin (V := .bool (x8.sum == 14)) (gd1 rfl rfl rfl (h6)) rfl rfl (fun _ => rfl) rfl ?_
        refine K.pickT (gd0 rfl) rfl (h6) rfl rfl ?_
        refine K.move (.inl rfl) (gd0 rfl) rfl rfl ?_
        refine K.skip rfl rfl rfl rfl (h7) rfl ?_
        refine K.skip rfl rfl rfl rfl (h7) rfl ?_
        refine K.pickF (gd0 rfl) rfl (h7) rfl rfl ?_
        refine K.move (.inr rfl) (gd0 rfl) rfl rfl ?_
        refine K.nil ?_
        refine At.next ?_
        refine G.ret ?_
        refine At.done Y [(.tmp 0, .c _)] rfl ⟨.tmp rfl, trivial⟩ (to' := []) trivial ?_ ?_ rfl rfl rfl (.inl rfl)
        · cases H0; rfl
        · cases H0; rfl
    ·
      replace H0 := bif_f H0 h6
      refine G.rg ?_
      refine K.move (.inl rfl) (gd0 rfl) rfl rfl ?_
      refine K.build Y [(0, _)] [_, _] [(_, _)] (gd0 rfl) (AllE.spec ⟨rfl, trivial⟩) rfl rfl t35 rfl rfl ?_
      refine K.callR [(.func 26, _), ((.tmp 26), _), ((.tmp 27), _)] (Tree_RankE_con (k := k) hx7 102 103) (toFn_func (cf 26 rfl) rfl) (gd0 rfl) ⟨rfl, rfl, rfl, trivial⟩ ⟨rfl, rfl, trivial⟩ rfl rfl rfl ?_
      refine K.bin (V := .bool (x7 == 2)) (gd0 rfl) rfl rfl (fun _ => rfl) rfl ?_
      refine K.move (.inl rfl) (gd0 rfl) rfl rfl ?_
      refine K.skip rfl rfl rfl rfl (h6) rfl ?_
      refine K.skip rfl rfl rfl rfl (h6) rfl ?_
      refine K.skip rfl rfl rfl rfl (h6) rfl ?_
      refine K.skip rfl rfl rfl rfl (h6) rfl ?_
      refine K.pickF (gd0 rfl) rfl (h6) rfl rfl ?_
      refine K.move (.inl rfl) (gd0 rfl) rfl rfl ?_
      refine K.skip rfl rfl rfl rfl (rfl) rfl ?_
      refine K.skip rfl rfl rfl rfl (rfl) rfl ?_
      refine K.pickF (gd0 rfl) rfl (rfl) rfl rfl ?_
      refine K.move (.inr rfl) (gd0 rfl) rfl rfl ?_
      refine K.nil ?_
      refine At.next ?_
      refine G.ret ?_
      refine At.done Y [(.tmp 0, .c _)] rfl ⟨.tmp rfl, trivial⟩ (to' := []) trivial ?_ ?_ rfl rfl rfl (.inl rfl)
      · cases H0; rfl
      · cases H0; rfl
theorem Lw07_awake_con {k : Nat}  {r : Bool}  (H0 : Lw07_awake.f k = some r) : SCon Try.prog 11 [] [] (.a (.c (.v (.bool r)))) [] [] :=
  SCon.ren (rn []) (Lw07_awake_con0 (k := k)   H0) trivial trivial (by simp) (by simp)
theorem Lw07_small_con0 {k : Nat}  {S : Foot} {W0 : World} {s0 : Value} {l0 : List TL07Act} {a1 : Int} {r : Bool} (hL0 : LArg S W0 s0 eTL07Act 3 l0) (H0 : Lw07_small.f k l0 a1 = some r) : SCon Try.prog 12 [SV.raw s0, .a (.c (.v (.int .i64 a1)))] [(0, rd S W0)] (.a (.c (.v (.bool r)))) [(0, rd S W0)] [] := by
  rw [Lw07_small.f] at H0
  obtain ⟨b0, o0, hI0⟩ := hL0
  refine spec_of [(0, _), (1, _)] [(0, _)] 30 Try.func12 rfl Try.ntmps12 rfl rfl rfl rfl (fun β W F => ?_)
  refine G.seq ?_
  refine G.rg ?_
  refine K.move (.inr rfl) (gd0 rfl) rfl rfl ?_
  refine K.nil ?_
  refine At.next ?_
  refine G.seq ?_
  refine G.seq ?_
  refine G.rg ?_
  refine K.move (.inl rfl) (gd0 rfl) rfl rfl ?_
  refine K.lenL (rV 0 S W0 s0 b0 o0 eTL07Act 3 l0) (hI0.is 0) (gd0 rfl) rfl rfl Try.underlying22 rfl ?_
  refine K.move (.inl rfl) (gd0 rfl) rfl rfl ?_
  refine K.bin (V := .bool (decide ((l0.length : Int) > a1))) (gd0 rfl) rfl rfl (fun _ => rfl) rfl ?_
  refine K.nil ?_
  refine At.next ?_
  refine G.cond rfl (fun h1 => ?_) (fun h1 => ?_)
  ·
    replace H0 := bif_t H0 h1
    refine G.seq ?_
    refine G.rg ?_
    refine K.move (.inr rfl) (gd0 rfl) rfl rfl ?_
    refine K.nil ?_
    refine At.next ?_
    refine G.ret ?_
    refine At.over_ret ?_
    refine At.done Y [(.tmp 4, .c _)] rfl ⟨.tmp rfl, trivial⟩ (to' := [(0, _)]) ⟨rfl, trivial⟩ ?_ ?_ rfl rfl rfl (.inl rfl)
    · cases H0; rfl
    · cases H0; rfl
  ·
    replace H0 := bif_f H0 h1
    refine G.skip ?_
    refine At.next ?_
    obtain ⟨x1, H1, H0⟩ := bnd H0
    refine G.seqJ (σ := { v : Unit // x1 = Sum.inr v }) (fun q => []) (fun q => [(0, rd S W0)]) ?_ ?_
    ·
      refine G.seq ?_
      refine G.rg ?_
      refine K.move (.inr rfl) (gd0 rfl) rfl rfl ?_
      refine K.nil ?_
      refine At.next ?_
      refine G.block ?_
      refine G.loop (σ := { q : Nat × (Int) // Lw07_small.l0 k l0 q.1 q.2 = some x1 }) (fun q => [(0, SV.raw s0), (5, .a (.c (.v (.int .i64 q.1.2))))]) (fun q => [(0, rd S W0)]) (fun q => q.1.1) ⟨(k, 0), H1⟩ ?_ ?_
      · exact At.into [] [_] rfl ⟨rfl, rfl, trivial⟩ ⟨rfl, (fun _ => rfl), trivial⟩ rfl
      ·
        rintro ⟨⟨n0, v1⟩, H1⟩
        show G _ _ [(0, SV.raw s0), (5, .a (.c (.v (.int .i64 v1))))] [(0, some (rd S W0))] _ _
        cases n0 with
        | zero => exact absurd H1 (by simp [Lw07_small.l0])
        | succ n0 =>
          have HL0 := H1
          rw [Lw07_small.l0] at H1
          refine G.seq ?_
          refine G.seq ?_
          refine G.rg ?_
          refine K.move (.inl rfl) (gd0 rfl) rfl rfl ?_
          refine K.move (.inl rfl) (gd0 rfl) rfl rfl ?_
          refine K.lenL (rV 0 S W0 s0 b0 o0 eTL07Act 3 l0) (hI0.is 0) (gd0 rfl) rfl rfl Try.underlying22 rfl ?_
          refine K.bin (V := .bool (decide (v1 < (l0.length : Int)))) (gd0 rfl) rfl rfl (fun _ => rfl) rfl ?_
          refine K.nil ?_
          refine At.next ?_
          refine G.cond rfl (fun h2 => ?_) (fun h2 => ?_)
          ·
            replace H1 := bif_t H1 h2
            refine G.skip ?_
            refine At.next ?_
            refine G.seq ?_
            refine G.block ?_
            refine G.seq ?_
            obtain ⟨x2, hx2, H1⟩ := bnd H1
            rcases Bool.eq_false_or_eq_true (decide (x2.w < (-1000000))) with h3 | h3
            ·
              replace H1 := bif_t H1 h3
              refine G.rg ?_
              refine K.move (.inl rfl) (gd0 rfl) rfl rfl ?_
              refine K.move (.inl rfl) (gd0 rfl) rfl rfl ?_
              refine K.idxL (rV 0 S W0 s0 b0 o0 eTL07Act 3 l0) ((v1).toNat) (hI0.is 0) (atL_get hx2) (atL_nn hx2) (gd0 rfl) rfl rfl rfl Try.underlying22 el22.size_run rfl ?_
              refine K.fieldL Y (rV 0 S W0 s0 b0 o0 eTL07Act 3 l0) ((v1).toNat) 0 2 (hI0.is 0) (atL_get hx2) (gd0 rfl) rfl rfl t41 rfl rfl rfl rfl ?_
              refine K.load1L Y (rV 0 S W0 s0 b0 o0 eTL07Act 3 l0) ((v1).toNat) 2 (hI0.is 0) (atL_get hx2) (gd0 rfl) rfl rfl t3 rfl rfl ?_
              refine K.bin (V := .bool (decide (x2.w < (-1000000)))) (gd0 rfl) rfl rfl (fun _ => rfl) rfl ?_
              refine K.move (.inl rfl) (gd0 rfl) rfl rfl ?_
              refine K.skip rfl rfl rfl rfl (h3) rfl ?_
              refine K.skip rfl rfl rfl rfl (h3) rfl ?_
              refine K.skip rfl rfl rfl rfl (h3) rfl ?_
              refine K.skip rfl rfl rfl rfl (h3) rfl ?_
              refine K.skip rfl rfl rfl rfl (h3) rfl ?_
              refine K.skip rfl rfl rfl rfl (h3) rfl ?_
              refine K.pickT (gd0 rfl) rfl (h3) rfl rfl ?_
              refine K.nil ?_
              refine At.next ?_
              refine G.cond rfl (fun h4 => ?_) (fun h4 => ?_)
              ·
                refine G.seq ?_
                refine G.rg ?_
                refine K.move (.inr rfl) (gd0 rfl) rfl rfl ?_
                refine K.nil ?_
                refine At.next ?_
                refine G.ret ?_
                refine At.block_ret ?_
                refine At.over_ret ?_
                refine At.over_ret ?_
                refine At.block_ret ?_
                refine At.over_ret ?_
                cases H1
                replace H0 := sum_l H0
                refine At.done Y [(.tmp 4, .c _)] rfl ⟨.tmp rfl, trivial⟩ (to' := [(0, _)]) ⟨rfl, trivial⟩ ?_ ?_ rfl rfl rfl (.inl rfl)
                · cases H0; rfl
                · cases H0; rfl
              · cases h4
            ·
              replace H1 := bif_f H1 h3
              refine G.rg ?_
              refine K.move (.inl rfl) (gd0 rfl) rfl rfl ?_
              refine K.move (.inl rfl) (gd0 rfl) rfl rfl ?_
              refine K.idxL (rV 0 S W0 s0 b0 o0 eTL07Act 3 l0) ((v1).toNat) (hI0.is 0) (atL_get hx2) (atL_nn hx2) (gd0 rfl) rfl rfl rfl Try.underlying22 el22.size_run rfl ?_
              refine K.fieldL Y (rV 0 S W0 s0 b0 o0 eTL07Act 3 l0) ((v1).toNat) 0 2 (hI0.is 0) (atL_get hx2) (gd0 rfl) rfl rfl t41 rfl rfl rfl rfl ?_
              refine K.load1L Y (rV 0 S W0 s0 b0 o0 eTL07Act 3 l0) ((v1).toNat) 2 (hI0.is 0) (atL_get hx2) (gd0 rfl) rfl rfl t3 rfl rfl ?_
              refine K.bin (V := .bool (decide (x2.w < (-1000000)))) (gd0 rfl) rfl rfl (fun _ => rfl) rfl ?_
              refine K.move (.inl rfl) (gd0 rfl) rfl rfl ?_
              refine K.move (.inl rfl) (gd1 rfl rfl rfl (h3)) rfl rfl ?_
              refine K.move (.inl rfl) (gd1 rfl rfl rfl (h3)) rfl rfl ?_
              refine K.idxL (rV 0 S W0 s0 b0 o0 eTL07Act 3 l0) ((v1).toNat) (hI0.is 0) (atL_get hx2) (atL_nn hx2) (gd1 rfl rfl rfl (h3)) rfl rfl rfl Try.underlying22 el22.size_run rfl ?_
              refine K.fieldL Y (rV 0 S W0 s0 b0 o0 eTL07Act 3 l0) ((v1).toNat) 0 2 (hI0.is 0) (atL_get hx2) (gd1 rfl rfl rfl (h3)) rfl rfl t41 rfl rfl rfl rfl ?_
              refine K.load1L Y (rV 0 S W0 s0 b0 o0 eTL07Act 3 l0) ((v1).toNat) 2 (hI0.is 0) (atL_get hx2) (gd1 rfl rfl rfl (h3)) rfl rfl t3 rfl rfl ?_
              refine K.bin (V := .bool (decide (x2.w > 1000000))) (gd1 rfl rfl rfl (h3)) rfl rfl (fun _ => rfl) rfl ?_
              refine K.pickF (gd0 rfl) rfl (h3) rfl rfl ?_
              refine K.nil ?_
              refine At.next ?_
              refine G.cond rfl (fun h5 => ?_) (fun h5 => ?_)
              ·
                replace H1 := bif_t H1 h5
                refine G.seq ?_
                refine G.rg ?_
                refine K.move (.inr rfl) (gd0 rfl) rfl rfl ?_
                refine K.nil ?_
                refine At.next ?_
                refine G.ret ?_
                refine At.block_ret ?_
                refine At.over_ret ?_
                refine At.over_ret ?_
                refine At.block_ret ?_
                refine At.over_ret ?_
                cases H1
                replace H0 := sum_l H0
                refine At.done Y [(.tmp 4, .c _)] rfl ⟨.tmp rfl, trivial⟩ (to' := [(0, _)]) ⟨rfl, trivial⟩ ?_ ?_ rfl rfl rfl (.inl rfl)
                · cases H0; rfl
                · cases H0; rfl
              ·
                replace H1 := bif_f H1 h5
                refine G.skip ?_
                refine At.block_normal ?_
                refine At.next ?_
                refine G.rg ?_
                refine K.move (.inl rfl) (gd0 rfl) rfl rfl ?_
                refine K.bin (V := .int .i64 (w64 (v1 + 1))) (gd0 rfl) rfl rfl (fun _ => rfl) rfl ?_
                refine K.move (.inr rfl) (gd0 rfl) rfl rfl ?_
                refine K.nil ?_
                exact At.again (σ := { q : Nat × (Int) // Lw07_small.l0 k l0 q.1 q.2 = some x1 }) (Fs := fun q => [(0, SV.raw s0), (5, .a (.c (.v (.int .i64 q.1.2))))]) (Tl := fun q => [(0, rd S W0)]) (μ := fun q => q.1.1) (s := ⟨(n0 + 1, v1), HL0⟩) ⟨(n0, (w64 (v1 + 1))), H1⟩ [] [_] (Nat.lt_succ_self _) rfl ⟨rfl, rfl, trivial⟩ ⟨rfl, (fun _ => rfl), trivial⟩ rfl
          ·
            replace H1 := bif_f H1 h2
            refine G.exit ?_
            refine At.over_exit ?_
            refine At.over_exit ?_
            refine At.block_hit ?_
            exact At.joined (σ := { v : Unit // x1 = Sum.inr v }) (Fs := fun q => []) (Tl := fun q => [(0, rd S W0)]) ⟨(), (Option.some.inj H1).symm⟩ [] [_] rfl trivial ⟨rfl, (fun _ => rfl), trivial⟩ rfl
    ·
      rintro ⟨v1, rfl⟩
      replace H0 := sum_r H0
      show G _ _ [] [(0, some (rd S W0))] _ _
      refine G.seq ?_
      refine G.rg ?_
      refine K.move (.inr rfl) (gd0 rfl) rfl rfl ?_
      refine K.nil ?_
      refine At.next ?_
      refine G.ret ?_
      refine At.done Y [(.tmp 4, .c _)] rfl ⟨.tmp rfl, trivial⟩ (to' := [(0, _)]) ⟨rfl, trivial⟩ ?_ ?_ rfl rfl rfl (.inl rfl)
      · cases H0; rfl
      · cases H0; rfl
theorem Lw07_small_con {k : Nat}  {S : Foot} {W0 : World} {s0 : Value} {l0 : List TL07Act} {a1 : Int} {r : Bool} (hL0 : LArg S W0 s0 eTL07Act 3 l0) (H0 : Lw07_small.f k l0 a1 = some r) : SCon Try.prog 12 [SV.raw s0, .a (.c (.v (.int .i64 a1)))] [(0, rd S W0)] (.a (.c (.v (.bool r)))) [(0, rd S W0)] [] :=
  SCon.ren (rn []) (Lw07_small_con0 (k := k)  hL0 H0) ⟨(fun _ => rfl), trivial⟩ ⟨(fun _ => rfl), trivial⟩ (by simp) (by simp)
theorem R07_Rank_con0 {k : Nat}  {S : Foot} {W0 : World} {s0 : Value} {l0 : List TR07Elem} {a1 : Int} {r : Int} (hL0 : LArg S W0 s0 eTR07Elem 2 l0) (H0 : R07_Rank.f k l0 a1 = some r) : SCon Try.prog 34 [SV.raw s0, .a (.c (.v (.int .i64 a1)))] [(0, rd S W0)] (.a (.c (.v (.int .i64 r)))) [(0, rd S W0)] [] := by
  rw [R07_Rank.f] at H0
  obtain ⟨b0, o0, hI0⟩ := hL0
  refine spec_of [(0, _), (1, _)] [(0, _)] 22 Try.func34 rfl Try.ntmps34 rfl rfl rfl rfl (fun β W F => ?_)
  refine G.seq ?_
  refine G.rg ?_
  refine K.move (.inr rfl) (gd0 rfl) rfl rfl ?_
  refine K.nil ?_
  refine At.next ?_
  refine G.seq ?_
  refine G.rg ?_
  refine K.move (.inr rfl) (gd0 rfl) rfl rfl ?_
  refine K.nil ?_
  refine At.next ?_
  obtain ⟨x1, H1, H0⟩ := bnd H0
  refine G.seqJ (σ := { v : Int // x1 = v }) (fun q => [(5, .a (.c (.v (.int .i64 q.1))))]) (fun q => [(0, rd S W0)]) ?_ ?_
  ·
    refine G.block ?_
    refine G.loop (σ := { q : Nat × (Int) // R07_Rank.l0 k l0 a1 q.1 q.2 = some x1 }) (fun q => [(0, SV.raw s0), (1, .a (.c (.v (.int .i64 a1)))), (5, .a (.c (.v (.int .i64 q.1.2))))]) (fun q => [(0, rd S W0)]) (fun q => q.1.1) ⟨(k, 0), H1⟩ ?_ ?_
    · exact At.into [] [_] rfl ⟨rfl, rfl, rfl, trivial⟩ ⟨rfl, (fun _ => rfl), trivial⟩ rfl
    ·
      rintro ⟨⟨n0, v1⟩, H1⟩
      show G _ _ [(0, SV.raw s0), (1, .a (.c (.v (.int .i64 a1)))), (5, .a (.c (.v (.int .i64 v1))))] [(0, some (rd S W0))] _ _
      cases n0 with
      | zero => exact absurd H1 (by simp [R07_Rank.l0])
      | succ n0 =>
        have HL0 := H1
        rw [R07_Rank.l0] at H1
        refine G.seq ?_
        refine G.seq ?_
        rcases Bool.eq_false_or_eq_true (decide (v1 < (l0.length : Int))) with h1 | h1
        ·
          replace H1 := bif_t H1 h1
          obtain ⟨x2, hx2, H1⟩ := bnd H1
          refine G.rg ?_
          refine K.move (.inl rfl) (gd0 rfl) rfl rfl ?_
          refine K.move (.inl rfl) (gd0 rfl) rfl rfl ?_
          refine K.lenL (rV 0 S W0 s0 b0 o0 eTR07Elem 2 l0) (hI0.is 0) (gd0 rfl) rfl rfl Try.underlying26 rfl ?_
          refine K.bin (V := .bool (decide (v1 < (l0.length : Int)))) (gd0 rfl) rfl rfl (fun _ => rfl) rfl ?_
          refine K.move (.inl rfl) (gd0 rfl) rfl rfl ?_
          refine K.move (.inl rfl) (gd1 rfl rfl rfl (h1)) rfl rfl ?_
          refine K.move (.inl rfl) (gd1 rfl rfl rfl (h1)) rfl rfl ?_
          refine K.idxL (rV 0 S W0 s0 b0 o0 eTR07Elem 2 l0) ((v1).toNat) (hI0.is 0) (atL_get hx2) (atL_nn hx2) (gd1 rfl rfl rfl (h1)) rfl rfl rfl Try.underlying26 el26.size_run rfl ?_
          refine K.fieldL Y (rV 0 S W0 s0 b0 o0 eTR07Elem 2 l0) ((v1).toNat) 0 0 (hI0.is 0) (atL_get hx2) (gd1 rfl rfl rfl (h1)) rfl rfl t54 rfl rfl rfl rfl ?_
          refine K.load1L Y (rV 0 S W0 s0 b0 o0 eTR07Elem 2 l0) ((v1).toNat) 0 (hI0.is 0) (atL_get hx2) (gd1 rfl rfl rfl (h1)) rfl rfl t3 rfl rfl ?_
          refine K.move (.inl rfl) (gd1 rfl rfl rfl (h1)) rfl rfl ?_
          refine K.bin (V := .bool (decide (x2.k < a1))) (gd1 rfl rfl rfl (h1)) rfl rfl (fun _ => rfl) rfl ?_
          refine K.pickT (gd0 rfl) rfl (h1) rfl rfl ?_
          refine K.nil ?_
          refine At.next ?_
          refine G.cond rfl (fun h2 => ?_) (fun h2 => ?_)
          ·
            replace H1 := bif_t H1 h2
            refine G.skip ?_
            refine At.next ?_
            refine G.block ?_
            refine G.rg ?_
            refine K.move (.inl rfl) (gd0 rfl) rfl rfl ?_
            refine K.bin (V := .int .i64 (w64 (v1 + 1))) (gd0 rfl) rfl rfl (fun _ => rfl) rfl ?_
            refine K.move (.inr rfl) (gd0 rfl) rfl rfl ?_
            refine K.nil ?_
            refine At.block_normal ?_
            exact At.again (σ := { q : Nat × (Int) // R07_Rank.l0 k l0 a1 q.1 q.2 = some x1 }) (Fs := fun q => [(0, SV.raw s0), (1, .a (.c (.v (.int .i64 a1)))), (5, .a (.c (.v (.int .i64 q.1.2))))]) (Tl := fun q => [(0, rd S W0)]) (μ := fun q => q.1.1) (s := ⟨(n0 + 1, v1), HL0⟩) ⟨(n0, (w64 (v1 + 1))), H1⟩ [] [_] (Nat.lt_succ_self _) rfl ⟨rfl, rfl, rfl, trivial⟩ ⟨rfl, (fun _ => rfl), trivial⟩ rfl
          ·
            replace H1 := bif_f H1 h2
            refine G.exit ?_
            refine At.over_exit ?_
            refine At.over_exit ?_
            refine At.block_hit ?_
            exact At.joined (σ := { v : Int // x1 = v }) (Fs := fun q => [(5, .a (.c (.v (.int .i64 q.1))))]) (Tl := fun q => [(0, rd S W0)]) ⟨v1, (Option.some.inj H1).symm⟩ [] [_] rfl ⟨rfl, trivial⟩ ⟨rfl, (fun _ => rfl), trivial⟩ rfl
        ·
          replace H1 := bif_f H1 h1
          refine G.rg ?_
          refine K.move (.inl rfl) (gd0 rfl) rfl rfl ?_
          refine K.move (.inl rfl) (gd0 rfl) rfl rfl ?_
          refine K.lenL (rV 0 S W0 s0 b0 o0 eTR07Elem 2 l0) (hI0.is 0) (gd0 rfl) rfl rfl Try.underlying26 rfl ?_
          refine K.bin (V := .bool (decide (v1 < (l0.length : Int)))) (gd0 rfl) rfl rfl (fun _ => rfl) rfl ?_
          refine K.move (.inl rfl) (gd0 rfl) rfl rfl ?_
          refine K.skip rfl rfl rfl rfl (h1) rfl ?_
          refine K.skip rfl rfl rfl rfl (h1) rfl ?_
          refine K.skip rfl rfl rfl rfl (h1) rfl ?_
          refine K.skip rfl rfl rfl rfl (h1) rfl ?_
          refine K.skip rfl rfl rfl rfl (h1) rfl ?_
          refine K.skip rfl rfl rfl rfl (h1) rfl ?_
          refine K.skip rfl rfl rfl rfl (h1) rfl ?_
          refine K.pickF (gd0 rfl) rfl (h1) rfl rfl ?_
          refine K.nil ?_
          refine At.next ?_
          refine G.cond rfl (fun h3 => ?_) (fun h3 => ?_)
          · cases h3
          ·
            refine G.exit ?_
            refine At.over_exit ?_
            refine At.over_exit ?_
            refine At.block_hit ?_
            exact At.joined (σ := { v : Int // x1 = v }) (Fs := fun q => [(5, .a (.c (.v (.int .i64 q.1))))]) (Tl := fun q => [(0, rd S W0)]) ⟨v1, (Option.some.inj H1).symm⟩ [] [_] rfl ⟨rfl, trivial⟩ ⟨rfl, (fun _ => rfl), trivial⟩ rfl
  ·
    rintro ⟨_, rfl⟩
    show G _ _ [(5, .a (.c (.v (.int .i64 x1))))] [(0, some (rd S W0))] _ _
    refine G.seq ?_
    refine G.rg ?_
    refine K.move (.inl rfl) (gd0 rfl) rfl rfl ?_
    refine K.move (.inr rfl) (gd0 rfl) rfl rfl ?_
    refine K.nil ?_
    refine At.next ?_
    refine G.ret ?_
    refine At.done Y [(.tmp 4, .c _)] rfl ⟨.tmp rfl, trivial⟩ (to' := [(0, _)]) ⟨rfl, trivial⟩ ?_ ?_ rfl rfl rfl (.inl rfl)
    · cases H0; rfl
    · cases H0; rfl
theorem R07_Rank_con {k : Nat}  {S : Foot} {W0 : World} {s0 : Value} {l0 : List TR07Elem} {a1 : Int} {r : Int} (hL0 : LArg S W0 s0 eTR07Elem 2 l0) (H0 : R07_Rank.f k l0 a1 = some r) : SCon Try.prog 34 [SV.raw s0, .a (.c (.v (.int .i64 a1)))] [(0, rd S W0)] (.a (.c (.v (.int .i64 r)))) [(0, rd S W0)] [] :=
  SCon.ren (rn []) (R07_Rank_con0 (k := k)  hL0 H0) ⟨(fun _ => rfl), trivial⟩ ⟨(fun _ => rfl), trivial⟩ (by simp) (by simp)
theorem R07_Drop_o0_con0 {k : Nat}  {l0 : List TR07Elem} {a1 : Int} {r : List TR07Elem × TR07Elem × Bool}  (H0 : R07_Drop.f k l0 a1 = some r) : SCon Try.prog 33 [.a (.c (.nv 0)), .a (.c (.v (.int .i64 a1)))] [(0, lrow 0 54 eTR07Elem 2 l0)] (.tup [.c (.nv 30), .agg ((eTR07Elem r.2.1).map .v), .c (.v (.bool r.2.2))]) [(30, lrow 30 54 eTR07Elem 2 r.1)] [30] := by
  rw [R07_Drop.f] at H0
  refine spec_of [(0, _), (1, _)] [(0, _)] 42 Try.func33 rfl Try.ntmps33 rfl rfl rfl rfl (fun β W F => ?_)
  refine G.seq ?_
  refine G.rg ?_
  refine K.nilRow 100 54 eTR07Elem 2 (.inl rfl) (gd0 rfl) rfl rfl rfl ?_
  refine K.alloc Y 101 [_, _] (gd0 rfl) t54 rfl rfl rfl rfl rfl ?_
  refine K.move (.inr rfl) (gd0 rfl) rfl rfl ?_
  refine K.nil ?_
  refine At.next ?_
  refine G.seq ?_
  obtain ⟨x1, hx1, H0⟩ := bnd H0
  refine G.rg ?_
  refine K.move (.inl rfl) (gd0 rfl) rfl rfl ?_
  refine K.move (.inl rfl) (gd0 rfl) rfl rfl ?_
  refine K.callV [(.func 34, _), ((.tmp 9), _), ((.tmp 10), _)] [(0, lrow 0 54 eTR07Elem 2 l0)] [] [] (fun β => [SV.raw ((lrowV 0 54 eTR07Elem 2 l0).s.den β), .a (.c (.v (.int .i64 a1)))]) (fun β w S2 h => R07_Rank_con (k := k) ((lrowV_isC eTR07Elem_len (by decide)).larg ⟨_, List.mem_cons_self⟩ h) hx1) (toFn_func (cf 34 rfl) rfl) (gd0 rfl) ⟨rfl, rfl, rfl, trivial⟩ (fun _ => rfl) ⟨rfl, trivial⟩ rfl rfl rfl rfl rfl rfl ?_
  refine K.move (.inr rfl) (gd0 rfl) rfl rfl ?_
  refine K.nil ?_
  refine At.next ?_
  obtain ⟨x2, H1, H0⟩ := bnd H0
  refine G.seqJ (σ := { v : Unit // x2 = Sum.inr v }) (fun q => [(0, .a (.c (.nv 0))), (5, .a (.c (.p 102 0))), (7, .a (.c (.v (.int .i64 x1))))]) (fun q => [(0, lrow 0 54 eTR07Elem 2 l0), (102, blk 102 [.v (.int .i64 0), .v (.int .i64 0)] 54)]) ?_ ?_
  ·
    refine G.seq ?_
    rcases Bool.eq_false_or_eq_true (x1 == (l0.length : Int)) with h1 | h1
    ·
      replace H1 := bif_t H1 h1
      refine G.rg ?_
      refine K.move (.inl rfl) (gd0 rfl) rfl rfl ?_
      refine K.move (.inl rfl) (gd0 rfl) rfl rfl ?_
      refine K.lenL (lrowV 0 54 eTR07Elem 2 l0) (lrowV_is eTR07Elem_len (by decide)) (gd0 rfl) rfl rfl Try.underlying26 rfl ?_
      refine K.bin (V := .bool (x1 == (l0.length : Int))) (gd0 rfl) rfl rfl (fun _ => rfl) rfl ?_
      refine K.move (.inl rfl) (gd0 rfl) rfl rfl ?_
      refine K.skip rfl rfl rfl rfl (h1) rfl ?_
      refine K.skip rfl rfl rfl rfl (h1) rfl ?_
      refine K.skip rfl rfl rfl rfl (h1) rfl ?_
      refine K.skip rfl rfl rfl rfl (h1) rfl ?_
      refine K.skip rfl rfl rfl rfl (h1) rfl ?_
      refine K.skip rfl rfl rfl rfl (h1) rfl ?_
      refine K.skip rfl rfl rfl rfl (h1) rfl ?_
      refine K.pickT (gd0 rfl) rfl (h1) rfl rfl ?_
      refine K.nil ?_
      refine At.next ?_
      refine G.cond rfl (fun h2 => ?_) (fun h2 => ?_)
      ·
        refine G.seq ?_
        refine G.rg ?_
        refine K.move (.inl rfl) (gd0 rfl) rfl rfl ?_
        refine K.build Y [] [_, _] [] (gd0 rfl) (AllE.spec trivial) rfl rfl t54 rfl rfl ?_
        refine K.move (.inr rfl) (gd0 rfl) rfl rfl ?_
        refine K.store Y [_, _] (gd0 rfl) rfl rfl rfl t54 rfl rfl rfl rfl rfl ?_
        refine K.move (.inr rfl) (gd0 rfl) rfl rfl ?_
        refine K.nil ?_
        refine At.next ?_
        refine G.ret ?_
        refine At.over_ret ?_
        cases H1
        replace H0 := sum_l H0
        refine At.ren (fs' := [(4, .a (.c (.nv 30))), (5, .a (.c (.p 101 0))), (6, .a (.c (.v (.bool false))))]) (tl := [(30, lrow 30 54 eTR07Elem 2 l0), (101, blk 101 [.v (.int .i64 0), .v (.int .i64 0)] 54)]) [(30, 0)] [_, _] rfl ⟨rfl, rfl, rfl, trivial⟩ ⟨rfl, (lrow_ren rfl), rfl, (blk_ren rfl rfl), trivial⟩ rfl ?_
        refine At.done Y [(.tmp 4, .c _), (.cell 5 54, .agg [_, _]), (.tmp 6, .c _)] rfl ⟨.tmp rfl, .st rfl rfl t54 rfl rfl, .tmp rfl, trivial⟩ (to' := [(30, _)]) ⟨rfl, trivial⟩ ?_ ?_ rfl rfl rfl (.inl rfl)
        · cases H0; rfl
        · cases H0; rfl
      · cases h2
    ·
      replace H1 := bif_f H1 h1
      obtain ⟨x3, hx3, H1⟩ := bnd H1
      refine G.rg ?_
      refine K.move (.inl rfl) (gd0 rfl) rfl rfl ?_
      refine K.move (.inl rfl) (gd0 rfl) rfl rfl ?_
      refine K.lenL (lrowV 0 54 eTR07Elem 2 l0) (lrowV_is eTR07Elem_len (by decide)) (gd0 rfl) rfl rfl Try.underlying26 rfl ?_
      refine K.bin (V := .bool (x1 == (l0.length : Int))) (gd0 rfl) rfl rfl (fun _ => rfl) rfl ?_
      refine K.move (.inl rfl) (gd0 rfl) rfl rfl ?_
      refine K.move (.inl rfl) (gd1 rfl rfl rfl (h1)) rfl rfl ?_
      refine K.move (.inl rfl) (gd1 rfl rfl rfl (h1)) rfl rfl ?_
      refine K.idxL (lrowV 0 54 eTR07Elem 2 l0) ((x1).toNat) (lrowV_is eTR07Elem_len (by decide)) (atL_get hx3) (atL_nn hx3) (gd1 rfl rfl rfl (h1)) rfl rfl rfl Try.underlying26 el26.size_run rfl ?_
      refine K.fieldL Y (lrowV 0 54 eTR07Elem 2 l0) ((x1).toNat) 0 0 (lrowV_is eTR07Elem_len (by decide)) (atL_get hx3) (gd1 rfl rfl rfl (h1)) rfl rfl t54 rfl rfl rfl rfl ?_
      refine K.load1L Y (lrowV 0 54 eTR07Elem 2 l0) ((x1).toNat) 0 (lrowV_is eTR07Elem_len (by decide)) (atL_get hx3) (gd1 rfl rfl rfl (h1)) rfl rfl t3 rfl rfl ?_
      refine K.move (.inl rfl) (gd1 rfl rfl rfl (h1)) rfl rfl ?_
      refine K.bin (V := .bool (x3.k != a1)) (gd1 rfl rfl rfl (h1)) rfl rfl (fun _ => rfl) rfl ?_
      refine K.pickF (gd0 rfl) rfl (h1) rfl rfl ?_
      refine K.nil ?_
      refine At.next ?_
      refine G.cond rfl (fun h3 => ?_) (fun h3 => ?_)
      ·
        replace H1 := bif_t H1 h3
        refine G.seq ?_
        refine G.rg ?_
        refine K.move (.inl rfl) (gd0 rfl) rfl rfl ?_
        refine K.build Y [] [_, _] [] (gd0 rfl) (AllE.spec trivial) rfl rfl t54 rfl rfl ?_
        refine K.move (.inr rfl) (gd0 rfl) rfl rfl ?_
        refine K.store Y [_, _] (gd0 rfl) rfl rfl rfl t54 rfl rfl rfl rfl rfl ?_
        refine K.move (.inr rfl) (gd0 rfl) rfl rfl ?_
        refine K.nil ?_
        refine At.next ?_
        refine G.ret ?_
        refine At.over_ret ?_
        cases H1
        replace H0 := sum_l H0
        refine At.ren (fs' := [(4, .a (.c (.nv 30))), (5, .a (.c (.p 101 0))), (6, .a (.c (.v (.bool false))))]) (tl := [(30, lrow 30 54 eTR07Elem 2 l0), (101, blk 101 [.v (.int .i64 0), .v (.int .i64 0)] 54)]) [(30, 0)] [_, _] rfl ⟨rfl, rfl, rfl, trivial⟩ ⟨rfl, (lrow_ren rfl), rfl, (blk_ren rfl rfl), trivial⟩ rfl ?_
        refine At.done Y [(.tmp 4, .c _), (.cell 5 54, .agg [_, _]), (.tmp 6, .c _)] rfl ⟨.tmp rfl, .st rfl rfl t54 rfl rfl, .tmp rfl, trivial⟩ (to' := [(30, _)]) ⟨rfl, trivial⟩ ?_ ?_ rfl rfl rfl (.inl rfl)
        · cases H0; rfl
        · cases H0; rfl
      ·
        replace H1 := bif_f H1 h3
        refine G.skip ?_
        exact At.joined (σ := { v : Unit // x2 = Sum.inr v }) (Fs := fun q => [(0, .a (.c (.nv 0))), (5, .a (.c (.p 102 0))), (7, .a (.c (.v (.int .i64 x1))))]) (Tl := fun q => [(0, lrow 0 54 eTR07Elem 2 l0), (102, blk 102 [.v (.int .i64 0), .v (.int .i64 0)] 54)]) ⟨(), (Option.some.inj H1).symm⟩ [(102, 101)] [_, _] rfl ⟨rfl, rfl, rfl, trivial⟩ ⟨rfl, (lrow_ren rfl), rfl, (blk_ren rfl rfl), trivial⟩ rfl
  ·
    rintro ⟨v2, rfl⟩
    replace H0 := sum_r H0
    show G _ _ [(0, .a (.c (.nv 0))), (5, .a (.c (.p 102 0))), (7, .a (.c (.v (.int .i64 x1))))] [(0, some (lrow 0 54 eTR07Elem 2 l0)), (102, some (blk 102 [.v (.int .i64 0), .v (.int .i64 0)] 54))] _ _
    refine G.seq ?_
    refine G.rg ?_
    refine K.nilRow 103 54 eTR07Elem 2 (.inl rfl) (gd0 rfl) rfl rfl rfl ?_
    refine K.nil ?_
    refine At.next ?_
    refine G.seq ?_
    obtain ⟨h4, H0⟩ := grd H0
    obtain ⟨h6, H0⟩ := grd H0
    refine G.rg ?_
    refine K.move (.inl rfl) (gd0 rfl) rfl rfl ?_
    refine K.move (.inl rfl) (gd0 rfl) rfl rfl ?_
    refine K.move (.inl rfl) (gd0 rfl) rfl rfl ?_
    refine K.partL 0 ((x1).toNat) (gd0 rfl) rfl .no (.at_ rfl h4.1 rfl) rfl Try.underlying26 el26.size_run (Nat.zero_le _) (tn_len h4.2) rfl ?_
    refine K.appendL 104 (lsubV 0 54 eTR07Elem 2 l0 0 ((x1).toNat)) _ el26 (lsubV_is eTR07Elem_len (by decide) (Nat.zero_le _) (tn_len h4.2)) eTR07Elem_one (gd0 rfl) rfl rfl rfl rfl rfl (ap_m h6) (ap_b h6 (by decide)) rfl rfl rfl rfl rfl rfl ?_
    refine K.move (.inr rfl) (gd0 rfl) rfl rfl ?_
    refine K.nil ?_
    refine At.next ?_
    refine G.seq ?_
    obtain ⟨h7, H0⟩ := grd H0
    obtain ⟨h9, H0⟩ := grd H0
    obtain ⟨x4, hx4, H0⟩ := bnd H0
    refine G.rd mixed ?_
    refine K.move (.inl rfl) (gd0 rfl) rfl rfl ?_
    refine K.move (.inl rfl) (gd0 rfl) rfl rfl ?_
    refine K.move (.inl rfl) (gd0 rfl) rfl rfl ?_
    refine K.bin (V := .int .i64 (w64 (x1 + 1))) (gd0 rfl) rfl rfl (fun _ => rfl) rfl ?_
    refine K.partL (((w64 (x1 + 1))).toNat) l0.length (gd0 rfl) rfl (.at_ rfl h7.1 rfl) .no rfl Try.underlying26 el26.size_run (tn_len h7.2) (Nat.le_refl _) rfl ?_
    refine K.appendL 105 (lsubV 0 54 eTR07Elem 2 l0 (((w64 (x1 + 1))).toNat) l0.length) _ el26 (lsubV_is eTR07Elem_len (by decide) (tn_len h7.2) (Nat.le_refl _)) eTR07Elem_one (gd0 rfl) rfl rfl rfl rfl rfl (ap_m h9) (ap_b h9 (by decide)) rfl rfl rfl rfl rfl rfl ?_
    refine K.move (.inl rfl) (gd0 rfl) rfl rfl ?_
    refine K.move (.inl rfl) (gd0 rfl) rfl rfl ?_
    refine K.idxL (lrowV 0 54 eTR07Elem 2 l0) ((x1).toNat) (lrowV_is eTR07Elem_len (by decide)) (atL_get hx4) (atL_nn hx4) (gd0 rfl) rfl rfl rfl Try.underlying26 el26.size_run rfl ?_
    refine K.loadSL Y (lrowV 0 54 eTR07Elem 2 l0) ((x1).toNat) 0 [_, _] [_, _] (lrowV_is eTR07Elem_len (by decide)) (atL_get hx4) (gd0 rfl) rfl rfl t54 rfl rfl rfl rfl rfl ?_
    refine K.move (.inr rfl) (gd0 rfl) rfl rfl ?_
    refine K.store Y [_, _] (gd0 rfl) rfl rfl rfl t54 rfl rfl rfl rfl rfl ?_
    refine K.move (.inr rfl) (gd0 rfl) rfl rfl ?_
    refine K.nil ?_
    refine ⟨by kernel_rfl, ?_⟩
    refine At.next ?_
    refine G.ret ?_
    refine At.ren (fs' := [(4, .a (.c (.nv 30))), (5, .a (.c (.p 102 0))), (6, .a (.c (.v (.bool true))))]) (tl := [(30, lrow 30 54 eTR07Elem 2 ((([] : List TR07Elem) ++ ((l0.drop 0).take (((x1).toNat) - 0))) ++ ((l0.drop (((w64 (x1 + 1))).toNat)).take (l0.length - (((w64 (x1 + 1))).toNat))))), (102, blk 102 [.v (.int .i64 x4.k), .v (.int .i64 x4.w)] 54)]) [(30, 105)] [_, _] rfl ⟨rfl, rfl, rfl, trivial⟩ ⟨rfl, (lrow_ren rfl), rfl, (blk_ren rfl rfl), trivial⟩ rfl ?_
    refine At.done Y [(.tmp 4, .c _), (.cell 5 54, .agg [_, _]), (.tmp 6, .c _)] rfl ⟨.tmp rfl, .st rfl rfl t54 rfl rfl, .tmp rfl, trivial⟩ (to' := [(30, _)]) ⟨rfl, trivial⟩ ?_ ?_ rfl rfl rfl (.inl rfl)
    · cases H0; rfl
    · cases H0; rfl
theorem R07_Drop_o0_con {k : Nat}  {l0 : List TR07Elem} {a1 : Int} {r : List TR07Elem × TR07Elem × Bool}  (H0 : R07_Drop.f k l0 a1 = some r) (m0 m30 : Nat) (hd : ndB [m0, m30] = true) : SCon Try.prog 33 [.a (.c (.nv m0)), .a (.c (.v (.int .i64 a1)))] [(m0, lrow m0 54 eTR07Elem 2 l0)] (.tup [.c (.nv m30), .agg ((eTR07Elem r.2.1).map .v), .c (.v (.bool r.2.2))]) [(m30, lrow m30 54 eTR07Elem 2 r.1)] [m30] :=
  SCon.ren (rn [(0, m0), (30, m30)]) (R07_Drop_o0_con0 (k := k)   H0) ⟨(lrow_ren rfl), trivial⟩ ⟨(lrow_ren rfl), trivial⟩ (rn_nd hd rfl rfl) (rn_ks hd rfl rfl rfl)
theorem R07_Put_o0_con0 {k : Nat}  {l0 : List TR07Elem} {a1 : TR07Elem} {a2 : Int} {r : List TR07Elem × Bool}  (H0 : R07_Put.f k l0 a1 a2 = some r) : SCon Try.prog 32 [.a (.c (.nv 0)), .a (.agg ((eTR07Elem a1).map .v)), .a (.c (.v (.int .i64 a2)))] [(0, lrow 0 54 eTR07Elem 2 l0)] (.tup [.c (.nv 30), .c (.v (.bool r.2))]) [(30, lrow 30 54 eTR07Elem 2 r.1)] [30] := by
  rw [R07_Put.f] at H0
  refine spec_of [(0, _), (1, _), (2, _)] [(0, _)] 57 Try.func32 rfl Try.ntmps32 rfl rfl rfl rfl (fun β W F => ?_)
  refine G.seq ?_
  refine G.rg ?_
  refine K.box Y 100 [_, _] (gd0 rfl) rfl rfl rfl rfl rfl rfl ?_
  refine K.nilRow 101 54 eTR07Elem 2 (.inl rfl) (gd0 rfl) rfl rfl rfl ?_
  refine K.move (.inr rfl) (gd0 rfl) rfl rfl ?_
  refine K.nil ?_
  refine At.next ?_
  refine G.seq ?_
  obtain ⟨x1, hx1, H0⟩ := bnd H0
  refine G.rg ?_
  refine K.move (.inl rfl) (gd0 rfl) rfl rfl ?_
  refine K.fieldAddr Y (gd0 rfl) rfl t54 rfl rfl ?_
  refine K.load1 Y (gd0 rfl) rfl rfl t3 rfl rfl ?_
  refine K.callV [(.func 34, _), ((.tmp 10), _), ((.tmp 12), _)] [(0, lrow 0 54 eTR07Elem 2 l0)] [] [] (fun β => [SV.raw ((lrowV 0 54 eTR07Elem 2 l0).s.den β), .a (.c (.v (.int .i64 a1.k)))]) (fun β w S2 h => R07_Rank_con (k := k) ((lrowV_isC eTR07Elem_len (by decide)).larg ⟨_, List.mem_cons_self⟩ h) hx1) (toFn_func (cf 34 rfl) rfl) (gd0 rfl) ⟨rfl, rfl, rfl, trivial⟩ (fun _ => rfl) ⟨rfl, trivial⟩ rfl rfl rfl rfl rfl rfl ?_
  refine K.move (.inr rfl) (gd0 rfl) rfl rfl ?_
  refine K.nil ?_
  refine At.next ?_
  refine G.seq ?_
  refine G.rg ?_
  refine K.nilRow 102 54 eTR07Elem 2 (.inl rfl) (gd0 rfl) rfl rfl rfl ?_
  refine K.nil ?_
  refine At.next ?_
  refine G.seq ?_
  obtain ⟨h1, H0⟩ := grd H0
  obtain ⟨h3, H0⟩ := grd H0
  refine G.rg ?_
  refine K.move (.inl rfl) (gd0 rfl) rfl rfl ?_
  refine K.move (.inl rfl) (gd0 rfl) rfl rfl ?_
  refine K.move (.inl rfl) (gd0 rfl) rfl rfl ?_
  refine K.partL 0 ((x1).toNat) (gd0 rfl) rfl .no (.at_ rfl h1.1 rfl) rfl Try.underlying26 el26.size_run (Nat.zero_le _) (tn_len h1.2) rfl ?_
  refine K.appendL 103 (lsubV 0 54 eTR07Elem 2 l0 0 ((x1).toNat)) _ el26 (lsubV_is eTR07Elem_len (by decide) (Nat.zero_le _) (tn_len h1.2)) eTR07Elem_one (gd0 rfl) rfl rfl rfl rfl rfl (ap_m h3) (ap_b h3 (by decide)) rfl rfl rfl rfl rfl rfl ?_
  refine K.move (.inr rfl) (gd0 rfl) rfl rfl ?_
  refine K.nil ?_
  refine At.next ?_
  obtain ⟨x2, H1, H0⟩ := bnd H0
  refine G.seqJ (σ := { v : Unit // x2 = Sum.inr v }) (fun q => [(0, .a (.c (.nv 0))), (2, .a (.c (.v (.int .i64 a2)))), (4, .a (.c (.p 104 0))), (8, .a (.c (.v (.int .i64 x1)))), (9, .a (.c (.nv 105)))]) (fun q => [(0, lrow 0 54 eTR07Elem 2 l0), (104, blk 104 [.v (.int .i64 a1.k), .v (.int .i64 a1.w)] 54), (105, lrow 105 54 eTR07Elem 2 (([] : List TR07Elem) ++ ((l0.drop 0).take (((x1).toNat) - 0))))]) ?_ ?_
  ·
    refine G.seq ?_
    rcases Bool.eq_false_or_eq_true (decide (x1 < (l0.length : Int))) with h4 | h4
    ·
      replace H1 := bif_t H1 h4
      obtain ⟨x3, hx3, H1⟩ := bnd H1
      refine G.rd mixed ?_
      refine K.move (.inl rfl) (gd0 rfl) rfl rfl ?_
      refine K.move (.inl rfl) (gd0 rfl) rfl rfl ?_
      refine K.lenL (lrowV 0 54 eTR07Elem 2 l0) (lrowV_is eTR07Elem_len (by decide)) (gd0 rfl) rfl rfl Try.underlying26 rfl ?_
      refine K.bin (V := .bool (decide (x1 < (l0.length : Int)))) (gd0 rfl) rfl rfl (fun _ => rfl) rfl ?_
      refine K.move (.inl rfl) (gd0 rfl) rfl rfl ?_
      refine K.move (.inl rfl) (gd1 rfl rfl rfl (h4)) rfl rfl ?_
      refine K.move (.inl rfl) (gd1 rfl rfl rfl (h4)) rfl rfl ?_
      refine K.idxL (lrowV 0 54 eTR07Elem 2 l0) ((x1).toNat) (lrowV_is eTR07Elem_len (by decide)) (atL_get hx3) (atL_nn hx3) (gd1 rfl rfl rfl (h4)) rfl rfl rfl Try.underlying26 el26.size_run rfl ?_
      refine K.fieldL Y (lrowV 0 54 eTR07Elem 2 l0) ((x1).toNat) 0 0 (lrowV_is eTR07Elem_len (by decide)) (atL_get hx3) (gd1 rfl rfl rfl (h4)) rfl rfl t54 rfl rfl rfl rfl ?_
      refine K.load1L Y (lrowV 0 54 eTR07Elem 2 l0) ((x1).toNat) 0 (lrowV_is eTR07Elem_len (by decide)) (atL_get hx3) (gd1 rfl rfl rfl (h4)) rfl rfl t3 rfl rfl ?_
      refine K.fieldAddr Y (gd1 rfl rfl rfl (h4)) rfl t54 rfl rfl ?_
      refine K.load1 Y (gd1 rfl rfl rfl (h4)) rfl rfl t3 rfl rfl ?_
      refine K.bin (V := .bool (x3.k == a1.k)) (gd1 rfl rfl rfl (h4)) rfl rfl (fun _ => rfl) rfl ?_
      refine K.pickT (gd0 rfl) rfl (h4) rfl rfl ?_
      refine K.nil ?_
      refine ⟨by kernel_rfl, ?_⟩
      refine At.next ?_
      refine G.cond rfl (fun h5 => ?_) (fun h5 => ?_)
      ·
        replace H1 := bif_t H1 h5
        refine G.seq ?_
        obtain ⟨h6, H1⟩ := grd H1
        refine G.rg ?_
        refine K.move (.inl rfl) (gd0 rfl) rfl rfl ?_
        refine K.loadS Y [_, _] (gd0 rfl) rfl rfl t54 rfl rfl rfl ?_
        refine K.buildL Y 106 ([a1] : List TR07Elem) [(0, _)] [((.tmp 34), _)] eTR07Elem_len (gd0 rfl) (AllE.spec ⟨rfl, trivial⟩) rfl rfl Try.underlying26 t54 rfl rfl rfl rfl rfl rfl rfl rfl ?_
        refine K.appendL 107 (lrowV 106 54 eTR07Elem 2 ([a1] : List TR07Elem)) _ el26 (lrowV_is eTR07Elem_len (by decide)) eTR07Elem_one (gd0 rfl) rfl rfl rfl rfl rfl (ap_m h6) (ap_b h6 (by decide)) rfl rfl rfl rfl rfl rfl ?_
        refine K.move (.inr rfl) (gd0 rfl) rfl rfl ?_
        refine K.nil ?_
        refine At.next ?_
        refine G.seq ?_
        obtain ⟨h7, H1⟩ := grd H1
        obtain ⟨h9, H1⟩ := grd H1
        refine G.rg ?_
        refine K.move (.inl rfl) (gd0 rfl) rfl rfl ?_
        refine K.move (.inl rfl) (gd0 rfl) rfl rfl ?_
        refine K.move (.inl rfl) (gd0 rfl) rfl rfl ?_
        refine K.bin (V := .int .i64 (w64 (x1 + 1))) (gd0 rfl) rfl rfl (fun _ => rfl) rfl ?_
        refine K.partL (((w64 (x1 + 1))).toNat) l0.length (gd0 rfl) rfl (.at_ rfl h7.1 rfl) .no rfl Try.underlying26 el26.size_run (tn_len h7.2) (Nat.le_refl _) rfl ?_
        refine K.appendL 108 (lsubV 0 54 eTR07Elem 2 l0 (((w64 (x1 + 1))).toNat) l0.length) _ el26 (lsubV_is eTR07Elem_len (by decide) (tn_len h7.2) (Nat.le_refl _)) eTR07Elem_one (gd0 rfl) rfl rfl rfl rfl rfl (ap_m h9) (ap_b h9 (by decide)) rfl rfl rfl rfl rfl rfl ?_
        refine K.move (.inr rfl) (gd0 rfl) rfl rfl ?_
        refine K.move (.inr rfl) (gd0 rfl) rfl rfl ?_
        refine K.nil ?_
        refine At.next ?_
        refine G.ret ?_
        refine At.over_ret ?_
        cases H1
        replace H0 := sum_l H0
        refine At.ren (fs' := [(6, .a (.c (.nv 30))), (7, .a (.c (.v (.bool true))))]) (tl := [(30, lrow 30 54 eTR07Elem 2 (((([] : List TR07Elem) ++ ((l0.drop 0).take (((x1).toNat) - 0))) ++ ([a1] : List TR07Elem)) ++ ((l0.drop (((w64 (x1 + 1))).toNat)).take (l0.length - (((w64 (x1 + 1))).toNat)))))]) [(30, 108)] [_] rfl ⟨rfl, rfl, trivial⟩ ⟨rfl, (lrow_ren rfl), trivial⟩ rfl ?_
        refine At.done Y [(.tmp 6, .c _), (.tmp 7, .c _)] rfl ⟨.tmp rfl, .tmp rfl, trivial⟩ (to' := [(30, _)]) ⟨rfl, trivial⟩ ?_ ?_ rfl rfl rfl (.inl rfl)
        · cases H0; rfl
        · cases H0; rfl
      ·
        replace H1 := bif_f H1 h5
        refine G.skip ?_
        exact At.joined (σ := { v : Unit // x2 = Sum.inr v }) (Fs := fun q => [(0, .a (.c (.nv 0))), (2, .a (.c (.v (.int .i64 a2)))), (4, .a (.c (.p 104 0))), (8, .a (.c (.v (.int .i64 x1)))), (9, .a (.c (.nv 105)))]) (Tl := fun q => [(0, lrow 0 54 eTR07Elem 2 l0), (104, blk 104 [.v (.int .i64 a1.k), .v (.int .i64 a1.w)] 54), (105, lrow 105 54 eTR07Elem 2 (([] : List TR07Elem) ++ ((l0.drop 0).take (((x1).toNat) - 0))))]) ⟨(), (Option.some.inj H1).symm⟩ [(104, 100), (105, 103)] [_, _, _] rfl ⟨rfl, rfl, rfl, rfl, rfl, trivial⟩ ⟨rfl, (lrow_ren rfl), rfl, (blk_ren rfl rfl), rfl, (lrow_ren rfl), trivial⟩ rfl
    ·
      replace H1 := bif_f H1 h4
      refine G.rd mixed ?_
      refine K.move (.inl rfl) (gd0 rfl) rfl rfl ?_
      refine K.move (.inl rfl) (gd0 rfl) rfl rfl ?_
      refine K.lenL (lrowV 0 54 eTR07Elem 2 l0) (lrowV_is eTR07Elem_len (by decide)) (gd0 rfl) rfl rfl Try.underlying26 rfl ?_
      refine K.bin (V := .bool (decide (x1 < (l0.length : Int)))) (gd0 rfl) rfl rfl (fun _ => rfl) rfl ?_
      refine K.move (.inl rfl) (gd0 rfl) rfl rfl ?_
      refine K.skip rfl rfl rfl rfl (h4) rfl ?_
      refine K.skip rfl rfl rfl rfl (h4) rfl ?_
      refine K.skip rfl rfl rfl rfl (h4) rfl ?_
      refine K.skip rfl rfl rfl rfl (h4) rfl ?_
      refine K.skip rfl rfl rfl rfl (h4) rfl ?_
      refine K.skip rfl rfl rfl rfl (h4) rfl ?_
      refine K.skip rfl rfl rfl rfl (h4) rfl ?_
      refine K.skip rfl rfl rfl rfl (h4) rfl ?_
      refine K.pickF (gd0 rfl) rfl (h4) rfl rfl ?_
      refine K.nil ?_
      refine ⟨by kernel_rfl, ?_⟩
      refine At.next ?_
      refine G.cond rfl (fun h10 => ?_) (fun h10 => ?_)
      · cases h10
      ·
        refine G.skip ?_
        exact At.joined (σ := { v : Unit // x2 = Sum.inr v }) (Fs := fun q => [(0, .a (.c (.nv 0))), (2, .a (.c (.v (.int .i64 a2)))), (4, .a (.c (.p 104 0))), (8, .a (.c (.v (.int .i64 x1)))), (9, .a (.c (.nv 105)))]) (Tl := fun q => [(0, lrow 0 54 eTR07Elem 2 l0), (104, blk 104 [.v (.int .i64 a1.k), .v (.int .i64 a1.w)] 54), (105, lrow 105 54 eTR07Elem 2 (([] : List TR07Elem) ++ ((l0.drop 0).take (((x1).toNat) - 0))))]) ⟨(), (Option.some.inj H1).symm⟩ [(104, 100), (105, 103)] [_, _, _] rfl ⟨rfl, rfl, rfl, rfl, rfl, trivial⟩ ⟨rfl, (lrow_ren rfl), rfl, (blk_ren rfl rfl), rfl, (lrow_ren rfl), trivial⟩ rfl
  ·
    rintro ⟨v2, rfl⟩
    replace H0 := sum_r H0
    show G _ _ [(0, .a (.c (.nv 0))), (2, .a (.c (.v (.int .i64 a2)))), (4, .a (.c (.p 104 0))), (8, .a (.c (.v (.int .i64 x1)))), (9, .a (.c (.nv 105)))] [(0, some (lrow 0 54 eTR07Elem 2 l0)), (104, some (blk 104 [.v (.int .i64 a1.k), .v (.int .i64 a1.w)] 54)), (105, some (lrow 105 54 eTR07Elem 2 (([] : List TR07Elem) ++ ((l0.drop 0).take (((x1).toNat) - 0)))))] _ _
    refine G.seq ?_
    refine G.seq ?_
    refine G.rg ?_
    refine K.move (.inl rfl) (gd0 rfl) rfl rfl ?_
    refine K.lenL (lrowV 0 54 eTR07Elem 2 l0) (lrowV_is eTR07Elem_len (by decide)) (gd0 rfl) rfl rfl Try.underlying26 rfl ?_
    refine K.move (.inl rfl) (gd0 rfl) rfl rfl ?_
    refine K.bin (V := .bool (decide ((l0.length : Int) ≥ a2))) (gd0 rfl) rfl rfl (fun _ => rfl) rfl ?_
    refine K.nil ?_
    refine At.next ?_
    refine G.cond rfl (fun h11 => ?_) (fun h11 => ?_)
    ·
      replace H0 := bif_t H0 h11
      refine G.seq ?_
      refine G.rg ?_
      refine K.move (.inl rfl) (gd0 rfl) rfl rfl ?_
      refine K.move (.inr rfl) (gd0 rfl) rfl rfl ?_
      refine K.move (.inr rfl) (gd0 rfl) rfl rfl ?_
      refine K.nil ?_
      refine At.next ?_
      refine G.ret ?_
      refine At.over_ret ?_
      refine At.ren (fs' := [(6, .a (.c (.nv 30))), (7, .a (.c (.v (.bool false))))]) (tl := [(30, lrow 30 54 eTR07Elem 2 l0)]) [(30, 0)] [_] rfl ⟨rfl, rfl, trivial⟩ ⟨rfl, (lrow_ren rfl), trivial⟩ rfl ?_
      refine At.done Y [(.tmp 6, .c _), (.tmp 7, .c _)] rfl ⟨.tmp rfl, .tmp rfl, trivial⟩ (to' := [(30, _)]) ⟨rfl, trivial⟩ ?_ ?_ rfl rfl rfl (.inl rfl)
      · cases H0; rfl
      · cases H0; rfl
    ·
      replace H0 := bif_f H0 h11
      refine G.skip ?_
      refine At.next ?_
      refine G.seq ?_
      obtain ⟨h12, H0⟩ := grd H0
      refine G.rg ?_
      refine K.move (.inl rfl) (gd0 rfl) rfl rfl ?_
      refine K.loadS Y [_, _] (gd0 rfl) rfl rfl t54 rfl rfl rfl ?_
      refine K.buildL Y 109 ([a1] : List TR07Elem) [(0, _)] [((.tmp 49), _)] eTR07Elem_len (gd0 rfl) (AllE.spec ⟨rfl, trivial⟩) rfl rfl Try.underlying26 t54 rfl rfl rfl rfl rfl rfl rfl rfl ?_
      refine K.appendL 110 (lrowV 109 54 eTR07Elem 2 ([a1] : List TR07Elem)) _ el26 (lrowV_is eTR07Elem_len (by decide)) eTR07Elem_one (gd0 rfl) rfl rfl rfl rfl rfl (ap_m h12) (ap_b h12 (by decide)) rfl rfl rfl rfl rfl rfl ?_
      refine K.move (.inr rfl) (gd0 rfl) rfl rfl ?_
      refine K.nil ?_
      refine At.next ?_
      refine G.seq ?_
      obtain ⟨h13, H0⟩ := grd H0
      obtain ⟨h15, H0⟩ := grd H0
      refine G.rg ?_
      refine K.move (.inl rfl) (gd0 rfl) rfl rfl ?_
      refine K.move (.inl rfl) (gd0 rfl) rfl rfl ?_
      refine K.move (.inl rfl) (gd0 rfl) rfl rfl ?_
      refine K.partL ((x1).toNat) l0.length (gd0 rfl) rfl (.at_ rfl h13.1 rfl) .no rfl Try.underlying26 el26.size_run (tn_len h13.2) (Nat.le_refl _) rfl ?_
      refine K.appendL 111 (lsubV 0 54 eTR07Elem 2 l0 ((x1).toNat) l0.length) _ el26 (lsubV_is eTR07Elem_len (by decide) (tn_len h13.2) (Nat.le_refl _)) eTR07Elem_one (gd0 rfl) rfl rfl rfl rfl rfl (ap_m h15) (ap_b h15 (by decide)) rfl rfl rfl rfl rfl rfl ?_
      refine K.move (.inr rfl) (gd0 rfl) rfl rfl ?_
      refine K.move (.inr rfl) (gd0 rfl) rfl rfl ?_
      refine K.nil ?_
      refine At.next ?_
      refine G.ret ?_
      refine At.ren (fs' := [(6, .a (.c (.nv 30))), (7, .a (.c (.v (.bool true))))]) (tl := [(30, lrow 30 54 eTR07Elem 2 (((([] : List TR07Elem) ++ ((l0.drop 0).take (((x1).toNat) - 0))) ++ ([a1] : List TR07Elem)) ++ ((l0.drop ((x1).toNat)).take (l0.length - ((x1).toNat)))))]) [(30, 111)] [_] rfl ⟨rfl, rfl, trivial⟩ ⟨rfl, (lrow_ren rfl), trivial⟩ rfl ?_
      refine At.done Y [(.tmp 6, .c _), (.tmp 7, .c _)] rfl ⟨.tmp rfl, .tmp rfl, trivial⟩ (to' := [(30, _)]) ⟨rfl, trivial⟩ ?_ ?_ rfl rfl rfl (.inl rfl)
      · cases H0; rfl
      · cases H0; rfl
theorem R07_Put_o0_con {k : Nat}  {l0 : List TR07Elem} {a1 : TR07Elem} {a2 : Int} {r : List TR07Elem × Bool}  (H0 : R07_Put.f k l0 a1 a2 = some r) (m0 m30 : Nat) (hd : ndB [m0, m30] = true) : SCon Try.prog 32 [.a (.c (.nv m0)), .a (.agg ((eTR07Elem a1).map .v)), .a (.c (.v (.int .i64 a2)))] [(m0, lrow m0 54 eTR07Elem 2 l0)] (.tup [.c (.nv m30), .c (.v (.bool r.2))]) [(m30, lrow m30 54 eTR07Elem 2 r.1)] [m30] :=
  SCon.ren (rn [(0, m0), (30, m30)]) (R07_Put_o0_con0 (k := k)   H0) ⟨(lrow_ren rfl), trivial⟩ ⟨(lrow_ren rfl), trivial⟩ (rn_nd hd rfl rfl) (rn_ks hd rfl rfl rfl)
theorem R07_Same_con0 {k : Nat}  {S : Foot} {W0 : World} {s0 : Value} {s1 : Value} {l0 : List TR07Elem} {l1 : List TR07Elem} {r : Bool} (hL0 : LArg S W0 s0 eTR07Elem 2 l0) (hL1 : LArg S W0 s1 eTR07Elem 2 l1) (H0 : R07_Same.f k l0 l1 = some r) : SCon Try.prog 70 [SV.raw s0, SV.raw s1] [(0, rd S W0)] (.a (.c (.v (.bool r)))) [(0, rd S W0)] [] := by
  rw [R07_Same.f] at H0
  obtain ⟨b0, o0, hI0⟩ := hL0
  obtain ⟨b1, o1, hI1⟩ := hL1
  refine spec_of [(0, _), (1, _)] [(0, _)] 26 Try.func70 rfl Try.ntmps70 rfl rfl rfl rfl (fun β W F => ?_)
  refine G.seq ?_
  refine G.rg ?_
  refine K.move (.inr rfl) (gd0 rfl) rfl rfl ?_
  refine K.nil ?_
  refine At.next ?_
  refine G.seq ?_
  refine G.seq ?_
  refine G.rg ?_
  refine K.move (.inl rfl) (gd0 rfl) rfl rfl ?_
  refine K.lenL (rV 0 S W0 s0 b0 o0 eTR07Elem 2 l0) (hI0.is 0) (gd0 rfl) rfl rfl Try.underlying26 rfl ?_
  refine K.move (.inl rfl) (gd0 rfl) rfl rfl ?_
  refine K.lenL (rV 0 S W0 s1 b1 o1 eTR07Elem 2 l1) (hI1.is 0) (gd0 rfl) rfl rfl Try.underlying26 rfl ?_
  refine K.bin (V := .bool ((l0.length : Int) != (l1.length : Int))) (gd0 rfl) rfl rfl (fun _ => rfl) rfl ?_
  refine K.nil ?_
  refine At.next ?_
  refine G.cond rfl (fun h1 => ?_) (fun h1 => ?_)
  ·
    replace H0 := bif_t H0 h1
    refine G.seq ?_
    refine G.rg ?_
    refine K.move (.inr rfl) (gd0 rfl) rfl rfl ?_
    refine K.nil ?_
    refine At.next ?_
    refine G.ret ?_
    refine At.over_ret ?_
    refine At.done Y [(.tmp 4, .c _)] rfl ⟨.tmp rfl, trivial⟩ (to' := [(0, _)]) ⟨rfl, trivial⟩ ?_ ?_ rfl rfl rfl (.inl rfl)
    · cases H0; rfl
    · cases H0; rfl
  ·
    replace H0 := bif_f H0 h1
    refine G.skip ?_
    refine At.next ?_
    obtain ⟨x1, H1, H0⟩ := bnd H0
    refine G.seqJ (σ := { v : Unit // x1 = Sum.inr v }) (fun q => []) (fun q => [(0, rd S W0)]) ?_ ?_
    ·
      refine G.seq ?_
      refine G.rg ?_
      refine K.move (.inr rfl) (gd0 rfl) rfl rfl ?_
      refine K.nil ?_
      refine At.next ?_
      refine G.block ?_
      refine G.loop (σ := { q : Nat × (Int) // R07_Same.l0 k l0 l1 q.1 q.2 = some x1 }) (fun q => [(0, SV.raw s0), (1, SV.raw s1), (5, .a (.c (.v (.int .i64 q.1.2))))]) (fun q => [(0, rd S W0)]) (fun q => q.1.1) ⟨(k, 0), H1⟩ ?_ ?_
      · exact At.into [] [_] rfl ⟨rfl, rfl, rfl, trivial⟩ ⟨rfl, (fun _ => rfl), trivial⟩ rfl
      ·
        rintro ⟨⟨n0, v1⟩, H1⟩
        show G _ _ [(0, SV.raw s0), (1, SV.raw s1), (5, .a (.c (.v (.int .i64 v1))))] [(0, some (rd S W0))] _ _
        cases n0 with
        | zero => exact absurd H1 (by simp [R07_Same.l0])
        | succ n0 =>
          have HL0 := H1
          rw [R07_Same.l0] at H1
          refine G.seq ?_
          refine G.seq ?_
          refine G.rg ?_
          refine K.move (.inl rfl) (gd0 rfl) rfl rfl ?_
          refine K.move (.inl rfl) (gd0 rfl) rfl rfl ?_
          refine K.lenL (rV 0 S W0 s0 b0 o0 eTR07Elem 2 l0) (hI0.is 0) (gd0 rfl) rfl rfl Try.underlying26 rfl ?_
          refine K.bin (V := .bool (decide (v1 < (l0.length : Int)))) (gd0 rfl) rfl rfl (fun _ => rfl) rfl ?_
          refine K.nil ?_
          refine At.next ?_
          refine G.cond rfl (fun h2 => ?_) (fun h2 => ?_)
          ·
            replace H1 := bif_t H1 h2
            refine G.skip ?_
            refine At.next ?_
            refine G.seq ?_
            refine G.block ?_
            refine G.seq ?_
            obtain ⟨x2, hx2, H1⟩ := bnd H1
            obtain ⟨x3, hx3, H1⟩ := bnd H1
            refine G.rd mixed ?_
            refine K.move (.inl rfl) (gd0 rfl) rfl rfl ?_
            refine K.move (.inl rfl) (gd0 rfl) rfl rfl ?_
            refine K.idxL (rV 0 S W0 s0 b0 o0 eTR07Elem 2 l0) ((v1).toNat) (hI0.is 0) (atL_get hx2) (atL_nn hx2) (gd0 rfl) rfl rfl rfl Try.underlying26 el26.size_run rfl ?_
            refine K.loadSL Y (rV 0 S W0 s0 b0 o0 eTR07Elem 2 l0) ((v1).toNat) 0 [_, _] [_, _] (hI0.is 0) (atL_get hx2) (gd0 rfl) rfl rfl t54 rfl rfl rfl rfl rfl ?_
            refine K.move (.inl rfl) (gd0 rfl) rfl rfl ?_
            refine K.move (.inl rfl) (gd0 rfl) rfl rfl ?_
            refine K.idxL (rV 0 S W0 s1 b1 o1 eTR07Elem 2 l1) ((v1).toNat) (hI1.is 0) (atL_get hx3) (atL_nn hx3) (gd0 rfl) rfl rfl rfl Try.underlying26 el26.size_run rfl ?_
            refine K.loadSL Y (rV 0 S W0 s1 b1 o1 eTR07Elem 2 l1) ((v1).toNat) 0 [_, _] [_, _] (hI1.is 0) (atL_get hx3) (gd0 rfl) rfl rfl t54 rfl rfl rfl rfl rfl ?_
            refine K.eqS [_, _] [_, _] (gd0 rfl) rfl rfl cmp54 rfl (.inr rfl) (!((x2.k == x3.k) && ((x2.w == x3.w) && true))) rfl rfl ?_
            refine K.nil ?_
            refine ⟨by kernel_rfl, ?_⟩
            refine At.next ?_
            refine G.cond rfl (fun h3 => ?_) (fun h3 => ?_)
            ·
              replace H1 := bif_t H1 h3
              refine G.seq ?_
              refine G.rg ?_
              refine K.move (.inr rfl) (gd0 rfl) rfl rfl ?_
              refine K.nil ?_
              refine At.next ?_
              refine G.ret ?_
              refine At.block_ret ?_
              refine At.over_ret ?_
              refine At.over_ret ?_
              refine At.block_ret ?_
              refine At.over_ret ?_
              cases H1
              replace H0 := sum_l H0
              refine At.done Y [(.tmp 4, .c _)] rfl ⟨.tmp rfl, trivial⟩ (to' := [(0, _)]) ⟨rfl, trivial⟩ ?_ ?_ rfl rfl rfl (.inl rfl)
              · cases H0; rfl
              · cases H0; rfl
            ·
              replace H1 := bif_f H1 h3
              refine G.skip ?_
              refine At.block_normal ?_
              refine At.next ?_
              refine G.rg ?_
              refine K.move (.inl rfl) (gd0 rfl) rfl rfl ?_
              refine K.bin (V := .int .i64 (w64 (v1 + 1))) (gd0 rfl) rfl rfl (fun _ => rfl) rfl ?_
              refine K.move (.inr rfl) (gd0 rfl) rfl rfl ?_
              refine K.nil ?_
              exact At.again (σ := { q : Nat × (Int) // R07_Same.l0 k l0 l1 q.1 q.2 = some x1 }) (Fs := fun q => [(0, SV.raw s0), (1, SV.raw s1), (5, .a (.c (.v (.int .i64 q.1.2))))]) (Tl := fun q => [(0, rd S W0)]) (μ := fun q => q.1.1) (s := ⟨(n0 + 1, v1), HL0⟩) ⟨(n0, (w64 (v1 + 1))), H1⟩ [] [_] (Nat.lt_succ_self _) rfl ⟨rfl, rfl, rfl, trivial⟩ ⟨rfl, (fun _ => rfl), trivial⟩ rfl
          ·
            replace H1 := bif_f H1 h2
            refine G.exit ?_
            refine At.over_exit ?_
            refine At.over_exit ?_
            refine At.block_hit ?_
            exact At.joined (σ := { v : Unit // x1 = Sum.inr v }) (Fs := fun q => []) (Tl := fun q => [(0, rd S W0)]) ⟨(), (Option.some.inj H1).symm⟩ [] [_] rfl trivial ⟨rfl, (fun _ => rfl), trivial⟩ rfl
    ·
      rintro ⟨v1, rfl⟩
      replace H0 := sum_r H0
      show G _ _ [] [(0, some (rd S W0))] _ _
      refine G.seq ?_
      refine G.rg ?_
      refine K.move (.inr rfl) (gd0 rfl) rfl rfl ?_
      refine K.nil ?_
      refine At.next ?_
      refine G.ret ?_
      refine At.done Y [(.tmp 4, .c _)] rfl ⟨.tmp rfl, trivial⟩ (to' := [(0, _)]) ⟨rfl, trivial⟩ ?_ ?_ rfl rfl rfl (.inl rfl)
      · cases H0; rfl
      · cases H0; rfl
theorem R07_Same_con {k : Nat}  {S : Foot} {W0 : World} {s0 : Value} {s1 : Value} {l0 : List TR07Elem} {l1 : List TR07Elem} {r : Bool} (hL0 : LArg S W0 s0 eTR07Elem 2 l0) (hL1 : LArg S W0 s1 eTR07Elem 2 l1) (H0 : R07_Same.f k l0 l1 = some r) : SCon Try.prog 70 [SV.raw s0, SV.raw s1] [(0, rd S W0)] (.a (.c (.v (.bool r)))) [(0, rd S W0)] [] :=
  SCon.ren (rn []) (R07_Same_con0 (k := k)  hL0 hL1 H0) ⟨(fun _ => rfl), trivial⟩ ⟨(fun _ => rfl), trivial⟩ (by simp) (by simp)
theorem Lw07_alike_con0 {k : Nat}  {S : Foot} {W0 : World} {s1 : Value} {p2 : Pool (TNode TL07Elem TTide)} {rt0 : TRef} {l1 : List TR07Elem} {r : Bool} (hL1 : LArg S W0 s1 eTR07Elem 2 l1) (H0 : Lw07_alike.f k p2 rt0 l1 = some r) : SCon Try.prog 36 [SV.p 1 0, SV.raw s1] [(0, rd S W0), (1, blk 1 [.p 2 0, .i rt0.index, .i rt0.gen] 101), (2, plE 2 p2)] (.a (.c (.v (.bool r)))) [(0, rd S W0), (1, blk 1 [.p 2 0, .i rt0.index, .i rt0.gen] 101), (2, plE 2 p2)] [] := by
  rw [Lw07_alike.f] at H0
  obtain ⟨b1, o1, hI1⟩ := hL1
  refine spec_of [(0, _), (1, _)] [(0, _), (1, _), (2, _)] 40 Try.func36 rfl Try.ntmps36 rfl rfl rfl rfl (fun β W F => ?_)
  refine G.seq ?_
  refine G.rg ?_
  refine K.move (.inr rfl) (gd0 rfl) rfl rfl ?_
  refine K.nil ?_
  refine At.next ?_
  refine G.seq ?_
  refine G.rg ?_
  refine K.nilRow 100 54 eTR07Elem 2 (.inl rfl) (gd0 rfl) rfl rfl rfl ?_
  refine K.nil ?_
  refine At.next ?_
  refine G.seq ?_
  obtain ⟨x1, hx1, H0⟩ := bnd H0
  refine G.rg ?_
  refine K.move (.inl rfl) (gd0 rfl) rfl rfl ?_
  refine K.call0 [(.func 37, _), ((.tmp 8), _)] (Tree_AllE_con (k := k) hx1 1 2 101 rfl) (toFn_func (cf 37 rfl) rfl) (gd0 rfl) ⟨rfl, rfl, trivial⟩ ⟨rfl, rfl, trivial⟩ rfl rfl rfl rfl rfl rfl ?_
  refine K.move (.inr rfl) (gd0 rfl) rfl rfl ?_
  refine K.nil ?_
  refine At.next ?_
  obtain ⟨x2, H1, H0⟩ := bnd H0
  refine G.seqJ (σ := { v : List TR07Elem // x2 = v }) (fun q => [(0, .a (.c (.p 1 0))), (1, SV.raw s1), (5, .a (.c (.nv 102)))]) (fun q => [(0, rd S W0), (2, plE 2 p2), (1, blk 1 [.p 2 0, .v (.int .i64 rt0.index), .v (.int .i64 rt0.gen)] 101), (102, lrow 102 54 eTR07Elem 2 q.1)]) ?_ ?_
  ·
    refine G.seq ?_
    refine G.rg ?_
    refine K.move (.inr rfl) (gd0 rfl) rfl rfl ?_
    refine K.nil ?_
    refine At.next ?_
    refine G.block ?_
    refine G.loop (σ := { q : Nat × (List TR07Elem × Int) // Lw07_alike.l0 k x1 q.1 q.2 = some x2 }) (fun q => [(0, .a (.c (.p 1 0))), (1, SV.raw s1), (5, .a (.c (.nv 107))), (6, .a (.c (.nv 108))), (7, .a (.c (.v (.int .i64 q.1.2.2))))]) (fun q => [(0, rd S W0), (2, plE 2 p2), (1, blk 1 [.p 2 0, .v (.int .i64 rt0.index), .v (.int .i64 rt0.gen)] 101), (107, lrow 107 54 eTR07Elem 2 q.1.2.1), (108, lrow 108 35 eTL07Elem 2 x1)]) (fun q => q.1.1) ⟨(k, (([] : List TR07Elem), 0)), H1⟩ ?_ ?_
    · exact At.into [(107, 100), (108, 101)] [_, _, _, _, _] rfl ⟨rfl, rfl, rfl, rfl, rfl, trivial⟩ ⟨rfl, (fun _ => rfl), rfl, (pl_ren rfl), rfl, (blk_ren rfl rfl), rfl, (lrow_ren rfl), rfl, (lrow_ren rfl), trivial⟩ rfl
    ·
      rintro ⟨⟨n0, v1, v2⟩, H1⟩
      show G _ _ [(0, .a (.c (.p 1 0))), (1, SV.raw s1), (5, .a (.c (.nv 107))), (6, .a (.c (.nv 108))), (7, .a (.c (.v (.int .i64 v2))))] [(0, some (rd S W0)), (2, some (plE 2 p2)), (1, some (blk 1 [.p 2 0, .v (.int .i64 rt0.index), .v (.int .i64 rt0.gen)] 101)), (107, some (lrow 107 54 eTR07Elem 2 v1)), (108, some (lrow 108 35 eTL07Elem 2 x1))] _ _
      cases n0 with
      | zero => exact absurd H1 (by simp [Lw07_alike.l0])
      | succ n0 =>
        have HL0 := H1
        rw [Lw07_alike.l0] at H1
        refine G.seq ?_
        refine G.seq ?_
        refine G.rg ?_
        refine K.move (.inl rfl) (gd0 rfl) rfl rfl ?_
        refine K.move (.inl rfl) (gd0 rfl) rfl rfl ?_
        refine K.lenL (lrowV 108 35 eTL07Elem 2 x1) (lrowV_is eTL07Elem_len (by decide)) (gd0 rfl) rfl rfl Try.underlying61 rfl ?_
        refine K.bin (V := .bool (decide (v2 < (x1.length : Int)))) (gd0 rfl) rfl rfl (fun _ => rfl) rfl ?_
        refine K.nil ?_
        refine At.next ?_
        refine G.cond rfl (fun h1 => ?_) (fun h1 => ?_)
        ·
          replace H1 := bif_t H1 h1
          refine G.skip ?_
          refine At.next ?_
          refine G.seq ?_
          refine G.block ?_
          obtain ⟨x3, hx3, H1⟩ := bnd H1
          obtain ⟨h2, H1⟩ := grd H1
          refine G.rd mixed ?_
          refine K.move (.inl rfl) (gd0 rfl) rfl rfl ?_
          refine K.move (.inl rfl) (gd0 rfl) rfl rfl ?_
          refine K.move (.inl rfl) (gd0 rfl) rfl rfl ?_
          refine K.idxL (lrowV 108 35 eTL07Elem 2 x1) ((v2).toNat) (lrowV_is eTL07Elem_len (by decide)) (atL_get hx3) (atL_nn hx3) (gd0 rfl) rfl rfl rfl Try.underlying61 el61.size_run rfl ?_
          refine K.fieldL Y (lrowV 108 35 eTL07Elem 2 x1) ((v2).toNat) 0 0 (lrowV_is eTL07Elem_len (by decide)) (atL_get hx3) (gd0 rfl) rfl rfl t35 rfl rfl rfl rfl ?_
          refine K.load1L Y (lrowV 108 35 eTL07Elem 2 x1) ((v2).toNat) 0 (lrowV_is eTL07Elem_len (by decide)) (atL_get hx3) (gd0 rfl) rfl rfl t3 rfl rfl ?_
          refine K.move (.inl rfl) (gd0 rfl) rfl rfl ?_
          refine K.move (.inl rfl) (gd0 rfl) rfl rfl ?_
          refine K.idxL (lrowV 108 35 eTL07Elem 2 x1) ((v2).toNat) (lrowV_is eTL07Elem_len (by decide)) (atL_get hx3) (atL_nn hx3) (gd0 rfl) rfl rfl rfl Try.underlying61 el61.size_run rfl ?_
          refine K.fieldL Y (lrowV 108 35 eTL07Elem 2 x1) ((v2).toNat) 0 1 (lrowV_is eTL07Elem_len (by decide)) (atL_get hx3) (gd0 rfl) rfl rfl t35 rfl rfl rfl rfl ?_
          refine K.load1L Y (lrowV 108 35 eTL07Elem 2 x1) ((v2).toNat) 1 (lrowV_is eTL07Elem_len (by decide)) (atL_get hx3) (gd0 rfl) rfl rfl t3 rfl rfl ?_
          refine K.build Y [(0, _), (1, _)] [_, _] [((.tmp 21), _), ((.tmp 26), _)] (gd0 rfl) (AllE.spec ⟨rfl, rfl, trivial⟩) rfl rfl t54 rfl rfl ?_
          refine K.buildL Y 109 ([(TR07Elem.mk x3.k x3.w)] : List TR07Elem) [(0, _)] [((.tmp 27), _)] eTR07Elem_len (gd0 rfl) (AllE.spec ⟨rfl, trivial⟩) rfl rfl Try.underlying26 t54 rfl rfl rfl rfl rfl rfl rfl rfl ?_
          refine K.appendL 110 (lrowV 109 54 eTR07Elem 2 ([(TR07Elem.mk x3.k x3.w)] : List TR07Elem)) _ el26 (lrowV_is eTR07Elem_len (by decide)) eTR07Elem_one (gd0 rfl) rfl rfl rfl rfl rfl (ap_m h2) (ap_b h2 (by decide)) rfl rfl rfl rfl rfl rfl ?_
          refine K.move (.inr rfl) (gd0 rfl) rfl rfl ?_
          refine K.nil ?_
          refine ⟨by kernel_rfl, ?_⟩
          refine At.block_normal ?_
          refine At.next ?_
          refine G.rg ?_
          refine K.move (.inl rfl) (gd0 rfl) rfl rfl ?_
          refine K.bin (V := .int .i64 (w64 (v2 + 1))) (gd0 rfl) rfl rfl (fun _ => rfl) rfl ?_
          refine K.move (.inr rfl) (gd0 rfl) rfl rfl ?_
          refine K.nil ?_
          exact At.again (σ := { q : Nat × (List TR07Elem × Int) // Lw07_alike.l0 k x1 q.1 q.2 = some x2 }) (Fs := fun q => [(0, .a (.c (.p 1 0))), (1, SV.raw s1), (5, .a (.c (.nv 107))), (6, .a (.c (.nv 108))), (7, .a (.c (.v (.int .i64 q.1.2.2))))]) (Tl := fun q => [(0, rd S W0), (2, plE 2 p2), (1, blk 1 [.p 2 0, .v (.int .i64 rt0.index), .v (.int .i64 rt0.gen)] 101), (107, lrow 107 54 eTR07Elem 2 q.1.2.1), (108, lrow 108 35 eTL07Elem 2 x1)]) (μ := fun q => q.1.1) (s := ⟨(n0 + 1, (v1, v2)), HL0⟩) ⟨(n0, ((v1 ++ ([(TR07Elem.mk x3.k x3.w)] : List TR07Elem)), (w64 (v2 + 1)))), H1⟩ [(107, 110)] [_, _, _, _, _] (Nat.lt_succ_self _) rfl ⟨rfl, rfl, rfl, rfl, rfl, trivial⟩ ⟨rfl, (fun _ => rfl), rfl, (pl_ren rfl), rfl, (blk_ren rfl rfl), rfl, (lrow_ren rfl), rfl, (lrow_ren rfl), trivial⟩ rfl
        ·
          replace H1 := bif_f H1 h1
          refine G.exit ?_
          refine At.over_exit ?_
          refine At.over_exit ?_
          refine At.block_hit ?_
          exact At.joined (σ := { v : List TR07Elem // x2 = v }) (Fs := fun q => [(0, .a (.c (.p 1 0))), (1, SV.raw s1), (5, .a (.c (.nv 102)))]) (Tl := fun q => [(0, rd S W0), (2, plE 2 p2), (1, blk 1 [.p 2 0, .v (.int .i64 rt0.index), .v (.int .i64 rt0.gen)] 101), (102, lrow 102 54 eTR07Elem 2 q.1)]) ⟨v1, (Option.some.inj H1).symm⟩ [(102, 107)] [_, _, _, _] rfl ⟨rfl, rfl, rfl, trivial⟩ ⟨rfl, (fun _ => rfl), rfl, (pl_ren rfl), rfl, (blk_ren rfl rfl), rfl, (lrow_ren rfl), trivial⟩ rfl
  ·
    rintro ⟨_, rfl⟩
    show G _ _ [(0, .a (.c (.p 1 0))), (1, SV.raw s1), (5, .a (.c (.nv 102)))] [(0, some (rd S W0)), (2, some (plE 2 p2)), (1, some (blk 1 [.p 2 0, .v (.int .i64 rt0.index), .v (.int .i64 rt0.gen)] 101)), (102, some (lrow 102 54 eTR07Elem 2 x2))] _ _
    refine G.seq ?_
    obtain ⟨x4, hx4, H0⟩ := bnd H0
    rcases Bool.eq_false_or_eq_true (x4 == (l1.length : Int)) with h3 | h3
    ·
      replace H0 := bif_t H0 h3
      obtain ⟨x5, hx5, H0⟩ := bnd H0
      refine G.rg ?_
      refine K.move (.inl rfl) (gd0 rfl) rfl rfl ?_
      refine K.callR [(.func 20, _), ((.tmp 30), _)] (Tree_LenE_con (k := k) hx4 1 2) (toFn_func (cf 20 rfl) rfl) (gd0 rfl) ⟨rfl, rfl, trivial⟩ ⟨rfl, rfl, trivial⟩ rfl rfl rfl ?_
      refine K.move (.inl rfl) (gd0 rfl) rfl rfl ?_
      refine K.lenL (rV 0 S W0 s1 b1 o1 eTR07Elem 2 l1) (hI1.is 0) (gd0 rfl) rfl rfl Try.underlying26 rfl ?_
      refine K.bin (V := .bool (x4 == (l1.length : Int))) (gd0 rfl) rfl rfl (fun _ => rfl) rfl ?_
      refine K.move (.inl rfl) (gd0 rfl) rfl rfl ?_
      refine K.move (.inl rfl) (gd1 rfl rfl rfl (h3)) rfl rfl ?_
      refine K.move (.inl rfl) (gd1 rfl rfl rfl (h3)) rfl rfl ?_
      refine K.callV [(.func 70, _), ((.tmp 36), _), ((.tmp 37), _)] [(102, lrow 102 54 eTR07Elem 2 x2), (0, rd S W0)] [] [] (fun β => [SV.raw ((lrowV 102 54 eTR07Elem 2 x2).s.den β), SV.raw s1]) (fun β w S2 h => R07_Same_con (k := k) ((lrowV_isC eTR07Elem_len (by decide)).larg ⟨_, List.mem_cons_self⟩ h) ((hI1.isC 0).larg ⟨_, (List.mem_cons_of_mem _ List.mem_cons_self)⟩ h) hx5) (toFn_func (cf 70 rfl) rfl) (gd1 rfl rfl rfl (h3)) ⟨rfl, rfl, rfl, trivial⟩ (fun _ => rfl) ⟨rfl, rfl, trivial⟩ rfl rfl rfl rfl rfl rfl ?_
      refine K.pickT (gd0 rfl) rfl (h3) rfl rfl ?_
      refine K.move (.inr rfl) (gd0 rfl) rfl rfl ?_
      refine K.nil ?_
      refine At.next ?_
      refine G.ret ?_
      refine At.done Y [(.tmp 4, .c _)] rfl ⟨.tmp rfl, trivial⟩ (to' := [(0, _), (1, _), (2, _)]) ⟨rfl, rfl, rfl, trivial⟩ ?_ ?_ rfl rfl rfl (.inl rfl)
      · cases H0; rfl
      · cases H0; rfl
    ·
      replace H0 := bif_f H0 h3
      refine G.rg ?_
      refine K.move (.inl rfl) (gd0 rfl) rfl rfl ?_
      refine K.callR [(.func 20, _), ((.tmp 30), _)] (Tree_LenE_con (k := k) hx4 1 2) (toFn_func (cf 20 rfl) rfl) (gd0 rfl) ⟨rfl, rfl, trivial⟩ ⟨rfl, rfl, trivial⟩ rfl rfl rfl ?_
      refine K.move (.inl rfl) (gd0 rfl) rfl rfl ?_
      refine K.lenL (rV 0 S W0 s1 b1 o1 eTR07Elem 2 l1) (hI1.is 0) (gd0 rfl) rfl rfl Try.underlying26 rfl ?_
      refine K.bin (V := .bool (x4 == (l1.length : Int))) (gd0 rfl) rfl rfl (fun _ => rfl) rfl ?_
      refine K.move (.inl rfl) (gd0 rfl) rfl rfl ?_
      refine K.skip rfl rfl rfl rfl (h3) rfl ?_
      refine K.skip rfl rfl rfl rfl (h3) rfl ?_
      refine K.skip rfl rfl rfl rfl (h3) rfl ?_
      refine K.pickF (gd0 rfl) rfl (h3) rfl rfl ?_
      refine K.move (.inr rfl) (gd0 rfl) rfl rfl ?_
      refine K.nil ?_
      refine At.next ?_
      refine G.ret ?_
      refine At.done Y [(.tmp 4, .c _)] rfl ⟨.tmp rfl, trivial⟩ (to' := [(0, _), (1, _), (2, _)]) ⟨rfl, rfl, rfl, trivial⟩ ?_ ?_ rfl rfl rfl (.inl rfl)
      · cases H0; rfl
      · cases H0; rfl
theorem Lw07_alike_con {k : Nat}  {S : Foot} {W0 : World} {s1 : Value} {p2 : Pool (TNode TL07Elem TTide)} {rt0 : TRef} {l1 : List TR07Elem} {r : Bool} (hL1 : LArg S W0 s1 eTR07Elem 2 l1) (H0 : Lw07_alike.f k p2 rt0 l1 = some r) (m1 m2 : Nat) : SCon Try.prog 36 [SV.p m1 0, SV.raw s1] [(0, rd S W0), (m1, blk m1 [.p m2 0, .i rt0.index, .i rt0.gen] 101), (m2, plE m2 p2)] (.a (.c (.v (.bool r)))) [(0, rd S W0), (m1, blk m1 [.p m2 0, .i rt0.index, .i rt0.gen] 101), (m2, plE m2 p2)] [] :=
  SCon.ren (rn [(1, m1), (2, m2)]) (Lw07_alike_con0 (k := k)  hL1 H0) ⟨(fun _ => rfl), (blk_ren rfl rfl), (pl_ren rfl), trivial⟩ ⟨(fun _ => rfl), (blk_ren rfl rfl), (pl_ren rfl), trivial⟩ (by simp) (by simp)
theorem Lw07_made_con0 {k : Nat}  {S : Foot} {W0 : World} {s0 : Value} {l0 : List TL07Act} {a1 : Int} {r : TRef × Pool (TNode TL07Elem TTide) × List TR07Elem × Bool} (hL0 : LArg S W0 s0 eTL07Act 3 l0) (H0 : Lw07_made.f k l0 a1 = some r) : SCon Try.prog 13 [SV.raw s0, .a (.c (.v (.int .i64 a1)))] [(0, rd S W0)] (.tup [.c (.p 40 0), .c (.nv 31), .c (.v (.bool r.2.2.2))]) [(0, rd S W0), (40, blk 40 [.p 41 0, .i r.1.index, .i r.1.gen] 101), (41, plE 41 r.2.1), (31, lrow 31 54 eTR07Elem 2 r.2.2.1)] [40, 41, 31] := by
  rw [Lw07_made.f] at H0
  obtain ⟨b0, o0, hI0⟩ := hL0
  refine spec_of [(0, _), (1, _)] [(0, _)] 72 Try.func13 rfl Try.ntmps13 rfl rfl rfl rfl (fun β W F => ?_)
  refine G.seq ?_
  refine G.rg ?_
  refine K.move (.inr rfl) (gd0 rfl) rfl rfl ?_
  refine K.nilRow 100 54 eTR07Elem 2 (.inl rfl) (gd0 rfl) rfl rfl rfl ?_
  refine K.move (.inr rfl) (gd0 rfl) rfl rfl ?_
  refine K.nil ?_
  refine At.next ?_
  refine G.seq ?_
  obtain ⟨x1, hx1, H0⟩ := bnd H0
  refine G.rg ?_
  refine K.move (.inl rfl) (gd0 rfl) rfl rfl ?_
  refine K.call0 [(.func 18, _), ((.tmp 14), _)] (Tree_NewE_con (k := k) hx1 101 102 rfl) (toFn_func (cf 18 rfl) rfl) (gd0 rfl) ⟨rfl, rfl, trivial⟩ trivial rfl rfl rfl rfl rfl rfl ?_
  refine K.move (.inr rfl) (gd0 rfl) rfl rfl ?_
  refine K.nil ?_
  refine At.next ?_
  refine G.seq ?_
  refine G.rg ?_
  refine K.nilRow 103 54 eTR07Elem 2 (.inl rfl) (gd0 rfl) rfl rfl rfl ?_
  refine K.nil ?_
  refine At.next ?_
  obtain ⟨x2, H1, H0⟩ := bnd H0
  refine G.seqJ (σ := { v : Pool (TNode TL07Elem TTide) × Int × Int × List TR07Elem // x2 = Sum.inr v }) (fun q => [(7, .a (.c (.p 104 0))), (8, .a (.c (.nv 106)))]) (fun q => [(0, rd S W0), (105, plE 105 q.1.1), (104, blk 104 [.p 105 0, .v (.int .i64 q.1.2.1), .v (.int .i64 q.1.2.2.1)] 101), (106, lrow 106 54 eTR07Elem 2 q.1.2.2.2)]) ?_ ?_
  ·
    refine G.seq ?_
    refine G.rg ?_
    refine K.move (.inr rfl) (gd0 rfl) rfl rfl ?_
    refine K.nil ?_
    refine At.next ?_
    refine G.block ?_
    refine G.loop (σ := { q : Nat × (Pool (TNode TL07Elem TTide) × Int × Int × List TR07Elem × Int) // Lw07_made.l0 k l0 a1 q.1 q.2 = some x2 }) (fun q => [(0, SV.raw s0), (1, .a (.c (.v (.int .i64 a1)))), (7, .a (.c (.p 113 0))), (8, .a (.c (.nv 115))), (9, .a (.c (.v (.int .i64 q.1.2.2.2.2.2))))]) (fun q => [(0, rd S W0), (114, plE 114 q.1.2.1), (113, blk 113 [.p 114 0, .v (.int .i64 q.1.2.2.1), .v (.int .i64 q.1.2.2.2.1)] 101), (115, lrow 115 54 eTR07Elem 2 q.1.2.2.2.2.1)]) (fun q => q.1.1) ⟨(k, (x1.2, x1.1.index, x1.1.gen, ([] : List TR07Elem), 0)), H1⟩ ?_ ?_
    · exact At.into [(113, 101), (114, 102), (115, 103)] [_, _, _, _] rfl ⟨rfl, rfl, rfl, rfl, rfl, trivial⟩ ⟨rfl, (fun _ => rfl), rfl, (pl_ren rfl), rfl, (blk_ren rfl rfl), rfl, (lrow_ren rfl), trivial⟩ rfl
    ·
      rintro ⟨⟨n0, v1, v2, v3, v4, v5⟩, H1⟩
      show G _ _ [(0, SV.raw s0), (1, .a (.c (.v (.int .i64 a1)))), (7, .a (.c (.p 113 0))), (8, .a (.c (.nv 115))), (9, .a (.c (.v (.int .i64 v5))))] [(0, some (rd S W0)), (114, some (plE 114 v1)), (113, some (blk 113 [.p 114 0, .v (.int .i64 v2), .v (.int .i64 v3)] 101)), (115, some (lrow 115 54 eTR07Elem 2 v4))] _ _
      cases n0 with
      | zero => exact absurd H1 (by simp [Lw07_made.l0])
      | succ n0 =>
        have HL0 := H1
        rw [Lw07_made.l0] at H1
        refine G.seq ?_
        refine G.seq ?_
        refine G.rg ?_
        refine K.move (.inl rfl) (gd0 rfl) rfl rfl ?_
        refine K.move (.inl rfl) (gd0 rfl) rfl rfl ?_
        refine K.lenL (rV 0 S W0 s0 b0 o0 eTL07Act 3 l0) (hI0.is 0) (gd0 rfl) rfl rfl Try.underlying22 rfl ?_
        refine K.bin (V := .bool (decide (v5 < (l0.length : Int)))) (gd0 rfl) rfl rfl (fun _ => rfl) rfl ?_
        refine K.nil ?_
        refine At.next ?_
        refine G.cond rfl (fun h1 => ?_) (fun h1 => ?_)
        ·
          replace H1 := bif_t H1 h1
          refine G.skip ?_
          refine At.next ?_
          refine G.seq ?_
          refine G.block ?_
          refine G.seq ?_
          obtain ⟨x3, hx3, H1⟩ := bnd H1
          refine G.rg ?_
          refine K.move (.inl rfl) (gd0 rfl) rfl rfl ?_
          refine K.move (.inl rfl) (gd0 rfl) rfl rfl ?_
          refine K.idxL (rV 0 S W0 s0 b0 o0 eTL07Act 3 l0) ((v5).toNat) (hI0.is 0) (atL_get hx3) (atL_nn hx3) (gd0 rfl) rfl rfl rfl Try.underlying22 el22.size_run rfl ?_
          refine K.loadSL Y (rV 0 S W0 s0 b0 o0 eTL07Act 3 l0) ((v5).toNat) 0 [_, _, _] [_, _, _] (hI0.is 0) (atL_get hx3) (gd0 rfl) rfl rfl t41 rfl rfl rfl rfl rfl ?_
          refine K.alloc Y 116 [_, _, _] (gd0 rfl) t41 rfl rfl rfl rfl rfl ?_
          refine K.store Y [_, _, _] (gd0 rfl) rfl rfl rfl t41 rfl rfl rfl rfl rfl ?_
          refine K.nil ?_
          refine At.next ?_
          refine G.seq ?_
          refine G.rg ?_
          refine K.fieldAddr Y (gd0 rfl) rfl t41 rfl rfl ?_
          refine K.load1 Y (gd0 rfl) rfl rfl t3 rfl rfl ?_
          refine K.bin (V := .int .i64 (x3.kind.tmod 3)) (gd0 rfl) rfl rfl (rem_run (by decide)) rfl ?_
          refine K.bin (V := .bool ((x3.kind.tmod 3) == 1)) (gd0 rfl) rfl rfl (fun _ => rfl) rfl ?_
          refine K.nil ?_
          refine At.next ?_
          refine G.cond rfl (fun h2 => ?_) (fun h2 => ?_)
          ·
            replace H1 := bif_t H1 h2
            refine G.seq ?_
            obtain ⟨x4, hx4, H1⟩ := bnd H1
            refine G.rg ?_
            refine K.move (.inl rfl) (gd0 rfl) rfl rfl ?_
            refine K.fieldAddr Y (gd0 rfl) rfl t41 rfl rfl ?_
            refine K.load1 Y (gd0 rfl) rfl rfl t3 rfl rfl ?_
            refine K.build Y [(0, _)] [_, _] [((.tmp 32), _)] (gd0 rfl) (AllE.spec ⟨rfl, trivial⟩) rfl rfl t35 rfl rfl ?_
            refine K.call0 [(.func 22, _), ((.tmp 30), _), ((.tmp 33), _)] (Tree_DropE_con (k := k) hx4 113 114) (toFn_func (cf 22 rfl) rfl) (gd0 rfl) ⟨rfl, rfl, rfl, trivial⟩ ⟨rfl, rfl, trivial⟩ rfl rfl rfl rfl rfl rfl ?_
            refine K.nil ?_
            refine At.next ?_
            obtain ⟨x5, hx5, H1⟩ := bnd H1
            refine G.rg ?_
            refine K.move (.inl rfl) (gd0 rfl) rfl rfl ?_
            refine K.fieldAddr Y (gd0 rfl) rfl t41 rfl rfl ?_
            refine K.load1 Y (gd0 rfl) rfl rfl t3 rfl rfl ?_
            refine K.callC [(.func 33, _), ((.tmp 36), _), ((.tmp 38), _)] [] [(115, _)] [(117, _)] (fun β => [.a (.c (.nv 115)), .a (.c (.v (.int .i64 x3.k)))]) (fun β w S2 h => SCon.rd0 (R07_Drop_o0_con (k := k) hx5 115 117 rfl) S2 w h) (toFn_func (cf 33 rfl) rfl) (gd0 rfl) ⟨rfl, rfl, rfl, trivial⟩ (fun _ => rfl) ⟨rfl, trivial⟩ rfl rfl rfl rfl rfl rfl ?_
            refine K.move (.inl rfl) (gd0 rfl) rfl rfl ?_
            refine K.extract (gd0 rfl) rfl rfl rfl ?_
            refine K.extract (gd0 rfl) rfl rfl rfl ?_
            refine K.extract (gd0 rfl) rfl rfl rfl ?_
            refine K.move (.inr rfl) (gd0 rfl) rfl rfl ?_
            refine K.nil ?_
            refine At.block_normal ?_
            refine At.next ?_
            refine G.rg ?_
            refine K.move (.inl rfl) (gd0 rfl) rfl rfl ?_
            refine K.bin (V := .int .i64 (w64 (v5 + 1))) (gd0 rfl) rfl rfl (fun _ => rfl) rfl ?_
            refine K.move (.inr rfl) (gd0 rfl) rfl rfl ?_
            refine K.nil ?_
            exact At.again (σ := { q : Nat × (Pool (TNode TL07Elem TTide) × Int × Int × List TR07Elem × Int) // Lw07_made.l0 k l0 a1 q.1 q.2 = some x2 }) (Fs := fun q => [(0, SV.raw s0), (1, .a (.c (.v (.int .i64 a1)))), (7, .a (.c (.p 113 0))), (8, .a (.c (.nv 115))), (9, .a (.c (.v (.int .i64 q.1.2.2.2.2.2))))]) (Tl := fun q => [(0, rd S W0), (114, plE 114 q.1.2.1), (113, blk 113 [.p 114 0, .v (.int .i64 q.1.2.2.1), .v (.int .i64 q.1.2.2.2.1)] 101), (115, lrow 115 54 eTR07Elem 2 q.1.2.2.2.2.1)]) (μ := fun q => q.1.1) (s := ⟨(n0 + 1, (v1, v2, v3, v4, v5)), HL0⟩) ⟨(n0, (x4.2.2.2, x4.2.2.1.index, x4.2.2.1.gen, x5.1, (w64 (v5 + 1)))), H1⟩ [(115, 117)] [_, _, _, _] (Nat.lt_succ_self _) rfl ⟨rfl, rfl, rfl, rfl, rfl, trivial⟩ ⟨rfl, (fun _ => rfl), rfl, (pl_ren rfl), rfl, (blk_ren rfl rfl), rfl, (lrow_ren rfl), trivial⟩ rfl
          ·
            replace H1 := bif_f H1 h2
            refine G.seq ?_
            obtain ⟨x6, hx6, H1⟩ := bnd H1
            refine G.rg ?_
            refine K.move (.inl rfl) (gd0 rfl) rfl rfl ?_
            refine K.fieldAddr Y (gd0 rfl) rfl t41 rfl rfl ?_
            refine K.load1 Y (gd0 rfl) rfl rfl t3 rfl rfl ?_
            refine K.fieldAddr Y (gd0 rfl) rfl t41 rfl rfl ?_
            refine K.load1 Y (gd0 rfl) rfl rfl t3 rfl rfl ?_
            refine K.build Y [(0, _), (1, _)] [_, _] [((.tmp 45), _), ((.tmp 47), _)] (gd0 rfl) (AllE.spec ⟨rfl, rfl, trivial⟩) rfl rfl t35 rfl rfl ?_
            refine K.call0 [(.func 23, _), ((.tmp 43), _), ((.tmp 48), _)] (Tree_PutE_con (k := k) hx6 113 114) (toFn_func (cf 23 rfl) rfl) (gd0 rfl) ⟨rfl, rfl, rfl, trivial⟩ ⟨rfl, rfl, trivial⟩ rfl rfl rfl rfl rfl rfl ?_
            refine K.move (.inr rfl) (gd0 rfl) rfl rfl ?_
            refine K.nil ?_
            refine At.next ?_
            refine G.seq ?_
            obtain ⟨x7, hx7, H1⟩ := bnd H1
            refine G.rg ?_
            refine K.move (.inl rfl) (gd0 rfl) rfl rfl ?_
            refine K.fieldAddr Y (gd0 rfl) rfl t41 rfl rfl ?_
            refine K.load1 Y (gd0 rfl) rfl rfl t3 rfl rfl ?_
            refine K.fieldAddr Y (gd0 rfl) rfl t41 rfl rfl ?_
            refine K.load1 Y (gd0 rfl) rfl rfl t3 rfl rfl ?_
            refine K.build Y [(0, _), (1, _)] [_, _] [((.tmp 53), _), ((.tmp 55), _)] (gd0 rfl) (AllE.spec ⟨rfl, rfl, trivial⟩) rfl rfl t54 rfl rfl ?_
            refine K.move (.inl rfl) (gd0 rfl) rfl rfl ?_
            refine K.callC [(.func 32, _), ((.tmp 51), _), ((.tmp 56), _), ((.tmp 57), _)] [] [(115, _)] [(118, _)] (fun β => [.a (.c (.nv 115)), .a (.agg ((eTR07Elem (TR07Elem.mk x3.k x3.w)).map .v)), .a (.c (.v (.int .i64 a1)))]) (fun β w S2 h => SCon.rd0 (R07_Put_o0_con (k := k) hx7 115 118 rfl) S2 w h) (toFn_func (cf 32 rfl) rfl) (gd0 rfl) ⟨rfl, rfl, rfl, rfl, trivial⟩ (fun _ => rfl) ⟨rfl, trivial⟩ rfl rfl rfl rfl rfl rfl ?_
            refine K.move (.inl rfl) (gd0 rfl) rfl rfl ?_
            refine K.extract (gd0 rfl) rfl rfl rfl ?_
            refine K.extract (gd0 rfl) rfl rfl rfl ?_
            refine K.move (.inr rfl) (gd0 rfl) rfl rfl ?_
            refine K.move (.inr rfl) (gd0 rfl) rfl rfl ?_
            refine K.nil ?_
            refine At.next ?_
            refine G.seq ?_
            refine G.seq ?_
            refine G.rg ?_
            refine K.move (.inl rfl) (gd0 rfl) rfl rfl ?_
            refine K.move (.inl rfl) (gd0 rfl) rfl rfl ?_
            refine K.bin (V := .bool (!(x6.1 == x7.2))) (gd0 rfl) rfl rfl (bq_neq Try.underlying4 _ _) rfl ?_
            refine K.nil ?_
            refine At.next ?_
            refine G.cond rfl (fun h3 => ?_) (fun h3 => ?_)
            ·
              replace H1 := bif_t H1 h3
              refine G.seq ?_
              refine G.rg ?_
              refine K.move (.inl rfl) (gd0 rfl) rfl rfl ?_
              refine K.move (.inl rfl) (gd0 rfl) rfl rfl ?_
              refine K.move (.inr rfl) (gd0 rfl) rfl rfl ?_
              refine K.move (.inr rfl) (gd0 rfl) rfl rfl ?_
              refine K.move (.inr rfl) (gd0 rfl) rfl rfl ?_
              refine K.nil ?_
              refine At.next ?_
              refine G.ret ?_
              refine At.over_ret ?_
              refine At.block_ret ?_
              refine At.over_ret ?_
              refine At.over_ret ?_
              refine At.block_ret ?_
              refine At.over_ret ?_
              cases H1
            ·
              replace H1 := bif_f H1 h3
              refine G.skip ?_
              refine At.next ?_
              refine G.rg ?_
              refine K.move (.inl rfl) (gd0 rfl) rfl rfl ?_
              refine K.move (.inr rfl) (gd0 rfl) rfl rfl ?_
              refine K.nil ?_
              refine At.block_normal ?_
              refine At.next ?_
              refine G.rg ?_
              refine K.move (.inl rfl) (gd0 rfl) rfl rfl ?_
              refine K.bin (V := .int .i64 (w64 (v5 + 1))) (gd0 rfl) rfl rfl (fun _ => rfl) rfl ?_
              refine K.move (.inr rfl) (gd0 rfl) rfl rfl ?_
              refine K.nil ?_
              exact At.again (σ := { q : Nat × (Pool (TNode TL07Elem TTide) × Int × Int × List TR07Elem × Int) // Lw07_made.l0 k l0 a1 q.1 q.2 = some x2 }) (Fs := fun q => [(0, SV.raw s0), (1, .a (.c (.v (.int .i64 a1)))), (7, .a (.c (.p 113 0))), (8, .a (.c (.nv 115))), (9, .a (.c (.v (.int .i64 q.1.2.2.2.2.2))))]) (Tl := fun q => [(0, rd S W0), (114, plE 114 q.1.2.1), (113, blk 113 [.p 114 0, .v (.int .i64 q.1.2.2.1), .v (.int .i64 q.1.2.2.2.1)] 101), (115, lrow 115 54 eTR07Elem 2 q.1.2.2.2.2.1)]) (μ := fun q => q.1.1) (s := ⟨(n0 + 1, (v1, v2, v3, v4, v5)), HL0⟩) ⟨(n0, (x6.2.2, x6.2.1.index, x6.2.1.gen, x7.1, (w64 (v5 + 1)))), H1⟩ [(115, 118)] [_, _, _, _] (Nat.lt_succ_self _) rfl ⟨rfl, rfl, rfl, rfl, rfl, trivial⟩ ⟨rfl, (fun _ => rfl), rfl, (pl_ren rfl), rfl, (blk_ren rfl rfl), rfl, (lrow_ren rfl), trivial⟩ rfl
        ·
          replace H1 := bif_f H1 h1
          refine G.exit ?_
          refine At.over_exit ?_
          refine At.over_exit ?_
          refine At.block_hit ?_
          exact At.joined (σ := { v : Pool (TNode TL07Elem TTide) × Int × Int × List TR07Elem // x2 = Sum.inr v }) (Fs := fun q => [(7, .a (.c (.p 104 0))), (8, .a (.c (.nv 106)))]) (Tl := fun q => [(0, rd S W0), (105, plE 105 q.1.1), (104, blk 104 [.p 105 0, .v (.int .i64 q.1.2.1), .v (.int .i64 q.1.2.2.1)] 101), (106, lrow 106 54 eTR07Elem 2 q.1.2.2.2)]) ⟨(v1, v2, v3, v4), (Option.some.inj H1).symm⟩ [(104, 113), (105, 114), (106, 115)] [_, _, _, _] rfl ⟨rfl, rfl, trivial⟩ ⟨rfl, (fun _ => rfl), rfl, (pl_ren rfl), rfl, (blk_ren rfl rfl), rfl, (lrow_ren rfl), trivial⟩ rfl
  ·
    rintro ⟨v2, rfl⟩
    replace H0 := sum_r H0
    show G _ _ [(7, .a (.c (.p 104 0))), (8, .a (.c (.nv 106)))] [(0, some (rd S W0)), (105, some (plE 105 v2.1)), (104, some (blk 104 [.p 105 0, .v (.int .i64 v2.2.1), .v (.int .i64 v2.2.2.1)] 101)), (106, some (lrow 106 54 eTR07Elem 2 v2.2.2.2))] _ _
    refine G.seq ?_
    obtain ⟨x8, hx8, H0⟩ := bnd H0
    refine G.rg ?_
    refine K.move (.inl rfl) (gd0 rfl) rfl rfl ?_
    refine K.move (.inl rfl) (gd0 rfl) rfl rfl ?_
    refine K.move (.inl rfl) (gd0 rfl) rfl rfl ?_
    refine K.move (.inl rfl) (gd0 rfl) rfl rfl ?_
    refine K.callV [(.func 36, _), ((.tmp 69), _), ((.tmp 70), _)] [(106, lrow 106 54 eTR07Elem 2 v2.2.2.2)] [(104, _), (105, _)] [(104, _), (105, _)] (fun β => [SV.p 104 0, SV.raw ((lrowV 106 54 eTR07Elem 2 v2.2.2.2).s.den β)]) (fun β w S2 h => Lw07_alike_con (k := k) ((lrowV_isC eTR07Elem_len (by decide)).larg ⟨_, List.mem_cons_self⟩ h) hx8 104 105) (toFn_func (cf 36 rfl) rfl) (gd0 rfl) ⟨rfl, rfl, rfl, trivial⟩ (fun _ => rfl) ⟨rfl, rfl, rfl, trivial⟩ rfl rfl rfl rfl rfl rfl ?_
    refine K.move (.inr rfl) (gd0 rfl) rfl rfl ?_
    refine K.move (.inr rfl) (gd0 rfl) rfl rfl ?_
    refine K.move (.inr rfl) (gd0 rfl) rfl rfl ?_
    refine K.nil ?_
    refine At.next ?_
    refine G.ret ?_
    refine At.ren (fs' := [(4, .a (.c (.p 40 0))), (5, .a (.c (.nv 31))), (6, .a (.c (.v (.bool x8))))]) (tl := [(0, rd S W0), (40, blk 40 [.p 41 0, .v (.int .i64 v2.2.1), .v (.int .i64 v2.2.2.1)] 101), (41, plE 41 v2.1), (31, lrow 31 54 eTR07Elem 2 v2.2.2.2)]) [(40, 104), (41, 105), (31, 106)] [_, _, _, _] rfl ⟨rfl, rfl, rfl, trivial⟩ ⟨rfl, (fun _ => rfl), rfl, (blk_ren rfl rfl), rfl, (pl_ren rfl), rfl, (lrow_ren rfl), trivial⟩ rfl ?_
    refine At.done Y [(.tmp 4, .c _), (.tmp 5, .c _), (.tmp 6, .c _)] rfl ⟨.tmp rfl, .tmp rfl, .tmp rfl, trivial⟩ (to' := [(0, _), (40, _), (41, _), (31, _)]) ⟨rfl, rfl, rfl, rfl, trivial⟩ ?_ ?_ rfl rfl rfl (.inl rfl)
    · cases H0; rfl
    · cases H0; rfl
theorem Lw07_made_con {k : Nat}  {S : Foot} {W0 : World} {s0 : Value} {l0 : List TL07Act} {a1 : Int} {r : TRef × Pool (TNode TL07Elem TTide) × List TR07Elem × Bool} (hL0 : LArg S W0 s0 eTL07Act 3 l0) (H0 : Lw07_made.f k l0 a1 = some r) (m40 m41 m31 : Nat) (hd : ndB [m40, m41, m31] = true) : SCon Try.prog 13 [SV.raw s0, .a (.c (.v (.int .i64 a1)))] [(0, rd S W0)] (.tup [.c (.p m40 0), .c (.nv m31), .c (.v (.bool r.2.2.2))]) [(0, rd S W0), (m40, blk m40 [.p m41 0, .i r.1.index, .i r.1.gen] 101), (m41, plE m41 r.2.1), (m31, lrow m31 54 eTR07Elem 2 r.2.2.1)] [m40, m41, m31] :=
  SCon.ren (rn [(40, m40), (41, m41), (31, m31)]) (Lw07_made_con0 (k := k)  hL0 H0) ⟨(fun _ => rfl), trivial⟩ ⟨(fun _ => rfl), (blk_ren rfl rfl), (pl_ren rfl), (lrow_ren rfl), trivial⟩ (rn_nd hd rfl rfl) (rn_ks hd rfl rfl rfl)
theorem R07_Ws_con0 {k : Nat}  {S : Foot} {W0 : World} {s0 : Value} {l0 : List TR07Elem} {a1 : Int} {a2 : Int} {r : List Int} (hL0 : LArg S W0 s0 eTR07Elem 2 l0) (H0 : R07_Ws.f k l0 a1 a2 = some r) : SCon Try.prog 14 [SV.raw s0, .a (.c (.v (.int .i64 a1))), .a (.c (.v (.int .i64 a2)))] [(0, rd S W0)] (.a (.c (.nv 30))) [(0, rd S W0), (30, lrow 30 3 intE 1 r)] [30] := by
  rw [R07_Ws.f] at H0
  obtain ⟨b0, o0, hI0⟩ := hL0
  refine spec_of [(0, _), (1, _), (2, _)] [(0, _)] 31 Try.func14 rfl Try.ntmps14 rfl rfl rfl rfl (fun β W F => ?_)
  refine G.seq ?_
  refine G.rg ?_
  refine K.nilRow 100 3 intE 1 (.inl rfl) (gd0 rfl) rfl rfl rfl ?_
  refine K.nil ?_
  refine At.next ?_
  refine G.seq ?_
  refine G.rg ?_
  refine K.nilRow 101 3 intE 1 (.inl rfl) (gd0 rfl) rfl rfl rfl ?_
  refine K.nil ?_
  refine At.next ?_
  obtain ⟨x1, H1, H0⟩ := bnd H0
  refine G.seqJ (σ := { v : List Int // x1 = v }) (fun q => [(7, .a (.c (.nv 102)))]) (fun q => [(0, rd S W0), (102, lrow 102 3 intE 1 q.1)]) ?_ ?_
  ·
    refine G.seq ?_
    refine G.rg ?_
    refine K.move (.inl rfl) (gd0 rfl) rfl rfl ?_
    refine K.bi2 (V := .int .i64 (gmax a1 0)) (gd0 rfl) rfl rfl (fun _ _ => rfl) rfl ?_
    refine K.move (.inr rfl) (gd0 rfl) rfl rfl ?_
    refine K.nil ?_
    refine At.next ?_
    refine G.block ?_
    refine G.loop (σ := { q : Nat × (List Int × Int) // R07_Ws.l0 k l0 a2 q.1 q.2 = some x1 }) (fun q => [(0, SV.raw s0), (2, .a (.c (.v (.int .i64 a2)))), (7, .a (.c (.nv 105))), (8, .a (.c (.v (.int .i64 q.1.2.2))))]) (fun q => [(0, rd S W0), (105, lrow 105 3 intE 1 q.1.2.1)]) (fun q => q.1.1) ⟨(k, (([] : List Int), (gmax a1 0))), H1⟩ ?_ ?_
    · exact At.into [(105, 101)] [_, _] rfl ⟨rfl, rfl, rfl, rfl, trivial⟩ ⟨rfl, (fun _ => rfl), rfl, (lrow_ren rfl), trivial⟩ rfl
    ·
      rintro ⟨⟨n0, v1, v2⟩, H1⟩
      show G _ _ [(0, SV.raw s0), (2, .a (.c (.v (.int .i64 a2)))), (7, .a (.c (.nv 105))), (8, .a (.c (.v (.int .i64 v2))))] [(0, some (rd S W0)), (105, some (lrow 105 3 intE 1 v1))] _ _
      cases n0 with
      | zero => exact absurd H1 (by simp [R07_Ws.l0])
      | succ n0 =>
        have HL0 := H1
        rw [R07_Ws.l0] at H1
        refine G.seq ?_
        refine G.seq ?_
        rcases Bool.eq_false_or_eq_true (decide (v2 < (l0.length : Int))) with h1 | h1
        ·
          replace H1 := bif_t H1 h1
          refine G.rg ?_
          refine K.move (.inl rfl) (gd0 rfl) rfl rfl ?_
          refine K.move (.inl rfl) (gd0 rfl) rfl rfl ?_
          refine K.lenL (rV 0 S W0 s0 b0 o0 eTR07Elem 2 l0) (hI0.is 0) (gd0 rfl) rfl rfl Try.underlying26 rfl ?_
          refine K.bin (V := .bool (decide (v2 < (l0.length : Int)))) (gd0 rfl) rfl rfl (fun _ => rfl) rfl ?_
          refine K.move (.inl rfl) (gd0 rfl) rfl rfl ?_
          refine K.move (.inl rfl) (gd1 rfl rfl rfl (h1)) rfl rfl ?_
          refine K.move (.inl rfl) (gd1 rfl rfl rfl (h1)) rfl rfl ?_
          refine K.bin (V := .bool (decide (v2 < a2))) (gd1 rfl rfl rfl (h1)) rfl rfl (fun _ => rfl) rfl ?_
          refine K.pickT (gd0 rfl) rfl (h1) rfl rfl ?_
          refine K.nil ?_
          refine At.next ?_
          refine G.cond rfl (fun h2 => ?_) (fun h2 => ?_)
          ·
            replace H1 := bif_t H1 h2
            refine G.skip ?_
            refine At.next ?_
            refine G.seq ?_
            refine G.block ?_
            obtain ⟨x2, hx2, H1⟩ := bnd H1
            obtain ⟨h3, H1⟩ := grd H1
            refine G.rg ?_
            refine K.move (.inl rfl) (gd0 rfl) rfl rfl ?_
            refine K.move (.inl rfl) (gd0 rfl) rfl rfl ?_
            refine K.move (.inl rfl) (gd0 rfl) rfl rfl ?_
            refine K.idxL (rV 0 S W0 s0 b0 o0 eTR07Elem 2 l0) ((v2).toNat) (hI0.is 0) (atL_get hx2) (atL_nn hx2) (gd0 rfl) rfl rfl rfl Try.underlying26 el26.size_run rfl ?_
            refine K.fieldL Y (rV 0 S W0 s0 b0 o0 eTR07Elem 2 l0) ((v2).toNat) 0 1 (hI0.is 0) (atL_get hx2) (gd0 rfl) rfl rfl t54 rfl rfl rfl rfl ?_
            refine K.load1L Y (rV 0 S W0 s0 b0 o0 eTR07Elem 2 l0) ((v2).toNat) 1 (hI0.is 0) (atL_get hx2) (gd0 rfl) rfl rfl t3 rfl rfl ?_
            refine K.buildL Y 106 ([x2.w] : List Int) [(0, _)] [((.tmp 27), _)] intE_len (gd0 rfl) (AllE.spec ⟨rfl, trivial⟩) rfl rfl Try.underlying29 t3 rfl rfl rfl rfl rfl rfl rfl rfl ?_
            refine K.appendL 107 (lrowV 106 3 intE 1 ([x2.w] : List Int)) _ el29 (lrowV_is intE_len (by decide)) intE_one (gd0 rfl) rfl rfl rfl rfl rfl (ap_m h3) (ap_b h3 (by decide)) rfl rfl rfl rfl rfl rfl ?_
            refine K.move (.inr rfl) (gd0 rfl) rfl rfl ?_
            refine K.nil ?_
            refine At.block_normal ?_
            refine At.next ?_
            refine G.rg ?_
            refine K.move (.inl rfl) (gd0 rfl) rfl rfl ?_
            refine K.bin (V := .int .i64 (w64 (v2 + 1))) (gd0 rfl) rfl rfl (fun _ => rfl) rfl ?_
            refine K.move (.inr rfl) (gd0 rfl) rfl rfl ?_
            refine K.nil ?_
            exact At.again (σ := { q : Nat × (List Int × Int) // R07_Ws.l0 k l0 a2 q.1 q.2 = some x1 }) (Fs := fun q => [(0, SV.raw s0), (2, .a (.c (.v (.int .i64 a2)))), (7, .a (.c (.nv 105))), (8, .a (.c (.v (.int .i64 q.1.2.2))))]) (Tl := fun q => [(0, rd S W0), (105, lrow 105 3 intE 1 q.1.2.1)]) (μ := fun q => q.1.1) (s := ⟨(n0 + 1, (v1, v2)), HL0⟩) ⟨(n0, ((v1 ++ ([x2.w] : List Int)), (w64 (v2 + 1)))), H1⟩ [(105, 107)] [_, _] (Nat.lt_succ_self _) rfl ⟨rfl, rfl, rfl, rfl, trivial⟩ ⟨rfl, (fun _ => rfl), rfl, (lrow_ren rfl), trivial⟩ rfl
          ·
            replace H1 := bif_f H1 h2
            refine G.exit ?_
            refine At.over_exit ?_
            refine At.over_exit ?_
            refine At.block_hit ?_
            exact At.joined (σ := { v : List Int // x1 = v }) (Fs := fun q => [(7, .a (.c (.nv 102)))]) (Tl := fun q => [(0, rd S W0), (102, lrow 102 3 intE 1 q.1)]) ⟨v1, (Option.some.inj H1).symm⟩ [(102, 105)] [_, _] rfl ⟨rfl, trivial⟩ ⟨rfl, (fun _ => rfl), rfl, (lrow_ren rfl), trivial⟩ rfl
        ·
          replace H1 := bif_f H1 h1
          refine G.rg ?_
          refine K.move (.inl rfl) (gd0 rfl) rfl rfl ?_
          refine K.move (.inl rfl) (gd0 rfl) rfl rfl ?_
          refine K.lenL (rV 0 S W0 s0 b0 o0 eTR07Elem 2 l0) (hI0.is 0) (gd0 rfl) rfl rfl Try.underlying26 rfl ?_
          refine K.bin (V := .bool (decide (v2 < (l0.length : Int)))) (gd0 rfl) rfl rfl (fun _ => rfl) rfl ?_
          refine K.move (.inl rfl) (gd0 rfl) rfl rfl ?_
          refine K.skip rfl rfl rfl rfl (h1) rfl ?_
          refine K.skip rfl rfl rfl rfl (h1) rfl ?_
          refine K.skip rfl rfl rfl rfl (h1) rfl ?_
          refine K.pickF (gd0 rfl) rfl (h1) rfl rfl ?_
          refine K.nil ?_
          refine At.next ?_
          refine G.cond rfl (fun h4 => ?_) (fun h4 => ?_)
          · cases h4
          ·
            refine G.exit ?_
            refine At.over_exit ?_
            refine At.over_exit ?_
            refine At.block_hit ?_
            exact At.joined (σ := { v : List Int // x1 = v }) (Fs := fun q => [(7, .a (.c (.nv 102)))]) (Tl := fun q => [(0, rd S W0), (102, lrow 102 3 intE 1 q.1)]) ⟨v1, (Option.some.inj H1).symm⟩ [(102, 105)] [_, _] rfl ⟨rfl, trivial⟩ ⟨rfl, (fun _ => rfl), rfl, (lrow_ren rfl), trivial⟩ rfl
  ·
    rintro ⟨_, rfl⟩
    show G _ _ [(7, .a (.c (.nv 102)))] [(0, some (rd S W0)), (102, some (lrow 102 3 intE 1 x1))] _ _
    refine G.seq ?_
    refine G.rg ?_
    refine K.move (.inl rfl) (gd0 rfl) rfl rfl ?_
    refine K.move (.inr rfl) (gd0 rfl) rfl rfl ?_
    refine K.nil ?_
    refine At.next ?_
    refine G.ret ?_
    refine At.ren (fs' := [(6, .a (.c (.nv 30)))]) (tl := [(0, rd S W0), (30, lrow 30 3 intE 1 x1)]) [(30, 102)] [_, _] rfl ⟨rfl, trivial⟩ ⟨rfl, (fun _ => rfl), rfl, (lrow_ren rfl), trivial⟩ rfl ?_
    refine At.done Y [(.tmp 6, .c _)] rfl ⟨.tmp rfl, trivial⟩ (to' := [(0, _), (30, _)]) ⟨rfl, rfl, trivial⟩ ?_ ?_ rfl rfl rfl (.inl rfl)
    · cases H0; rfl
    · cases H0; rfl
theorem R07_Ws_con {k : Nat}  {S : Foot} {W0 : World} {s0 : Value} {l0 : List TR07Elem} {a1 : Int} {a2 : Int} {r : List Int} (hL0 : LArg S W0 s0 eTR07Elem 2 l0) (H0 : R07_Ws.f k l0 a1 a2 = some r) (m30 : Nat) (hd : ndB [m30] = true) : SCon Try.prog 14 [SV.raw s0, .a (.c (.v (.int .i64 a1))), .a (.c (.v (.int .i64 a2)))] [(0, rd S W0)] (.a (.c (.nv m30))) [(0, rd S W0), (m30, lrow m30 3 intE 1 r)] [m30] :=
  SCon.ren (rn [(30, m30)]) (R07_Ws_con0 (k := k)  hL0 H0) ⟨(fun _ => rfl), trivial⟩ ⟨(fun _ => rfl), (lrow_ren rfl), trivial⟩ (rn_nd hd rfl rfl) (rn_ks hd rfl rfl rfl)
theorem R06_Sum_con0 {k : Nat}  {S : Foot} {W0 : World} {s0 : Value} {l0 : List Int} {a1 : Int} {r : Int} (hL0 : LArg S W0 s0 intE 1 l0) (H0 : R06_Sum.f k l0 a1 = some r) : SCon Try.prog 16 [SV.raw s0, .a (.c (.v (.int .i64 a1)))] [(0, rd S W0)] (.a (.c (.v (.int .i64 r)))) [(0, rd S W0)] [] := by
  rw [R06_Sum.f] at H0
  obtain ⟨b0, o0, hI0⟩ := hL0
  refine spec_of [(0, _), (1, _)] [(0, _)] 19 Try.func16 rfl Try.ntmps16 rfl rfl rfl rfl (fun β W F => ?_)
  refine G.seq ?_
  refine G.rg ?_
  refine K.move (.inr rfl) (gd0 rfl) rfl rfl ?_
  refine K.nil ?_
  refine At.next ?_
  refine G.seq ?_
  refine G.rg ?_
  refine K.move (.inr rfl) (gd0 rfl) rfl rfl ?_
  refine K.nil ?_
  refine At.next ?_
  obtain ⟨x1, H1, H0⟩ := bnd H0
  refine G.seqJ (σ := { v : Int // x1 = v }) (fun q => [(5, .a (.c (.v (.int .i64 q.1))))]) (fun q => [(0, rd S W0)]) ?_ ?_
  ·
    refine G.seq ?_
    refine G.rg ?_
    refine K.move (.inr rfl) (gd0 rfl) rfl rfl ?_
    refine K.nil ?_
    refine At.next ?_
    refine G.block ?_
    refine G.loop (σ := { q : Nat × (Int × Int) // R06_Sum.l0 k l0 a1 q.1 q.2 = some x1 }) (fun q => [(0, SV.raw s0), (1, .a (.c (.v (.int .i64 a1)))), (5, .a (.c (.v (.int .i64 q.1.2.1)))), (6, .a (.c (.v (.int .i64 q.1.2.2))))]) (fun q => [(0, rd S W0)]) (fun q => q.1.1) ⟨(k, (0, 0)), H1⟩ ?_ ?_
    · exact At.into [] [_] rfl ⟨rfl, rfl, rfl, rfl, trivial⟩ ⟨rfl, (fun _ => rfl), trivial⟩ rfl
    ·
      rintro ⟨⟨n0, v1, v2⟩, H1⟩
      show G _ _ [(0, SV.raw s0), (1, .a (.c (.v (.int .i64 a1)))), (5, .a (.c (.v (.int .i64 v1)))), (6, .a (.c (.v (.int .i64 v2))))] [(0, some (rd S W0))] _ _
      cases n0 with
      | zero => exact absurd H1 (by simp [R06_Sum.l0])
      | succ n0 =>
        have HL0 := H1
        rw [R06_Sum.l0] at H1
        refine G.seq ?_
        refine G.seq ?_
        refine G.rg ?_
        refine K.move (.inl rfl) (gd0 rfl) rfl rfl ?_
        refine K.move (.inl rfl) (gd0 rfl) rfl rfl ?_
        refine K.bin (V := .bool (decide (v2 < a1))) (gd0 rfl) rfl rfl (fun _ => rfl) rfl ?_
        refine K.nil ?_
        refine At.next ?_
        refine G.cond rfl (fun h1 => ?_) (fun h1 => ?_)
        ·
          replace H1 := bif_t H1 h1
          refine G.skip ?_
          refine At.next ?_
          refine G.seq ?_
          refine G.block ?_
          obtain ⟨x2, hx2, H1⟩ := bnd H1
          refine G.rg ?_
          refine K.move (.inl rfl) (gd0 rfl) rfl rfl ?_
          refine K.move (.inl rfl) (gd0 rfl) rfl rfl ?_
          refine K.move (.inl rfl) (gd0 rfl) rfl rfl ?_
          refine K.idxL (rV 0 S W0 s0 b0 o0 intE 1 l0) ((v2).toNat) (hI0.is 0) (atL_get hx2) (atL_nn hx2) (gd0 rfl) rfl rfl rfl Try.underlying29 el29.size_run rfl ?_
          refine K.load1L Y (rV 0 S W0 s0 b0 o0 intE 1 l0) ((v2).toNat) 0 (hI0.is 0) (atL_get hx2) (gd0 rfl) rfl rfl t3 rfl rfl ?_
          refine K.bin (V := .int .i64 (w64 (v1 + x2))) (gd0 rfl) rfl rfl (fun _ => rfl) rfl ?_
          refine K.move (.inr rfl) (gd0 rfl) rfl rfl ?_
          refine K.nil ?_
          refine At.block_normal ?_
          refine At.next ?_
          refine G.rg ?_
          refine K.move (.inl rfl) (gd0 rfl) rfl rfl ?_
          refine K.bin (V := .int .i64 (w64 (v2 + 1))) (gd0 rfl) rfl rfl (fun _ => rfl) rfl ?_
          refine K.move (.inr rfl) (gd0 rfl) rfl rfl ?_
          refine K.nil ?_
          exact At.again (σ := { q : Nat × (Int × Int) // R06_Sum.l0 k l0 a1 q.1 q.2 = some x1 }) (Fs := fun q => [(0, SV.raw s0), (1, .a (.c (.v (.int .i64 a1)))), (5, .a (.c (.v (.int .i64 q.1.2.1)))), (6, .a (.c (.v (.int .i64 q.1.2.2))))]) (Tl := fun q => [(0, rd S W0)]) (μ := fun q => q.1.1) (s := ⟨(n0 + 1, (v1, v2)), HL0⟩) ⟨(n0, ((w64 (v1 + x2)), (w64 (v2 + 1)))), H1⟩ [] [_] (Nat.lt_succ_self _) rfl ⟨rfl, rfl, rfl, rfl, trivial⟩ ⟨rfl, (fun _ => rfl), trivial⟩ rfl
        ·
          replace H1 := bif_f H1 h1
          refine G.exit ?_
          refine At.over_exit ?_
          refine At.over_exit ?_
          refine At.block_hit ?_
          exact At.joined (σ := { v : Int // x1 = v }) (Fs := fun q => [(5, .a (.c (.v (.int .i64 q.1))))]) (Tl := fun q => [(0, rd S W0)]) ⟨v1, (Option.some.inj H1).symm⟩ [] [_] rfl ⟨rfl, trivial⟩ ⟨rfl, (fun _ => rfl), trivial⟩ rfl
  ·
    rintro ⟨_, rfl⟩
    show G _ _ [(5, .a (.c (.v (.int .i64 x1))))] [(0, some (rd S W0))] _ _
    refine G.seq ?_
    refine G.rg ?_
    refine K.move (.inl rfl) (gd0 rfl) rfl rfl ?_
    refine K.move (.inr rfl) (gd0 rfl) rfl rfl ?_
    refine K.nil ?_
    refine At.next ?_
    refine G.ret ?_
    refine At.done Y [(.tmp 4, .c _)] rfl ⟨.tmp rfl, trivial⟩ (to' := [(0, _)]) ⟨rfl, trivial⟩ ?_ ?_ rfl rfl rfl (.inl rfl)
    · cases H0; rfl
    · cases H0; rfl
theorem R06_Sum_con {k : Nat}  {S : Foot} {W0 : World} {s0 : Value} {l0 : List Int} {a1 : Int} {r : Int} (hL0 : LArg S W0 s0 intE 1 l0) (H0 : R06_Sum.f k l0 a1 = some r) : SCon Try.prog 16 [SV.raw s0, .a (.c (.v (.int .i64 a1)))] [(0, rd S W0)] (.a (.c (.v (.int .i64 r)))) [(0, rd S W0)] [] :=
  SCon.ren (rn []) (R06_Sum_con0 (k := k)  hL0 H0) ⟨(fun _ => rfl), trivial⟩ ⟨(fun _ => rfl), trivial⟩ (by simp) (by simp)
theorem R06_Low_con0 {k : Nat}  {S : Foot} {W0 : World} {s0 : Value} {l0 : List Int} {r : Int} (hL0 : LArg S W0 s0 intE 1 l0) (H0 : R06_Low.f k l0 = some r) : SCon Try.prog 17 [SV.raw s0] [(0, rd S W0)] (.a (.c (.v (.int .i64 r)))) [(0, rd S W0)] [] := by
  rw [R06_Low.f] at H0
  obtain ⟨b0, o0, hI0⟩ := hL0
  refine spec_of [(0, _)] [(0, _)] 26 Try.func17 rfl Try.ntmps17 rfl rfl rfl rfl (fun β W F => ?_)
  refine G.seq ?_
  refine G.rg ?_
  refine K.move (.inr rfl) (gd0 rfl) rfl rfl ?_
  refine K.nil ?_
  refine At.next ?_
  refine G.seq ?_
  refine G.seq ?_
  refine G.rg ?_
  refine K.move (.inl rfl) (gd0 rfl) rfl rfl ?_
  refine K.lenL (rV 0 S W0 s0 b0 o0 intE 1 l0) (hI0.is 0) (gd0 rfl) rfl rfl Try.underlying29 rfl ?_
  refine K.bin (V := .bool ((l0.length : Int) == 0)) (gd0 rfl) rfl rfl (fun _ => rfl) rfl ?_
  refine K.nil ?_
  refine At.next ?_
  refine G.cond rfl (fun h1 => ?_) (fun h1 => ?_)
  ·
    replace H0 := bif_t H0 h1
    refine G.seq ?_
    refine G.rg ?_
    refine K.move (.inr rfl) (gd0 rfl) rfl rfl ?_
    refine K.nil ?_
    refine At.next ?_
    refine G.ret ?_
    refine At.over_ret ?_
    refine At.done Y [(.tmp 2, .c _)] rfl ⟨.tmp rfl, trivial⟩ (to' := [(0, _)]) ⟨rfl, trivial⟩ ?_ ?_ rfl rfl rfl (.inl rfl)
    · cases H0; rfl
    · cases H0; rfl
  ·
    replace H0 := bif_f H0 h1
    refine G.skip ?_
    refine At.next ?_
    refine G.seq ?_
    obtain ⟨x1, hx1, H0⟩ := bnd H0
    refine G.rg ?_
    refine K.move (.inl rfl) (gd0 rfl) rfl rfl ?_
    refine K.idxL (rV 0 S W0 s0 b0 o0 intE 1 l0) ((0 : Int).toNat) (hI0.is 0) (atL_get hx1) (atL_nn hx1) (gd0 rfl) rfl rfl rfl Try.underlying29 el29.size_run rfl ?_
    refine K.load1L Y (rV 0 S W0 s0 b0 o0 intE 1 l0) ((0 : Int).toNat) 0 (hI0.is 0) (atL_get hx1) (gd0 rfl) rfl rfl t3 rfl rfl ?_
    refine K.move (.inr rfl) (gd0 rfl) rfl rfl ?_
    refine K.nil ?_
    refine At.next ?_
    obtain ⟨x2, H1, H0⟩ := bnd H0
    refine G.seqJ (σ := { v : Int // x2 = v }) (fun q => [(3, .a (.c (.v (.int .i64 q.1))))]) (fun q => [(0, rd S W0)]) ?_ ?_
    ·
      refine G.seq ?_
      refine G.rg ?_
      refine K.move (.inr rfl) (gd0 rfl) rfl rfl ?_
      refine K.nil ?_
      refine At.next ?_
      refine G.block ?_
      refine G.loop (σ := { q : Nat × (Int × Int) // R06_Low.l0 k l0 q.1 q.2 = some x2 }) (fun q => [(0, SV.raw s0), (3, .a (.c (.v (.int .i64 q.1.2.1)))), (4, .a (.c (.v (.int .i64 q.1.2.2))))]) (fun q => [(0, rd S W0)]) (fun q => q.1.1) ⟨(k, (x1, 2)), H1⟩ ?_ ?_
      · exact At.into [] [_] rfl ⟨rfl, rfl, rfl, trivial⟩ ⟨rfl, (fun _ => rfl), trivial⟩ rfl
      ·
        rintro ⟨⟨n0, v1, v2⟩, H1⟩
        show G _ _ [(0, SV.raw s0), (3, .a (.c (.v (.int .i64 v1)))), (4, .a (.c (.v (.int .i64 v2))))] [(0, some (rd S W0))] _ _
        cases n0 with
        | zero => exact absurd H1 (by simp [R06_Low.l0])
        | succ n0 =>
          have HL0 := H1
          rw [R06_Low.l0] at H1
          refine G.seq ?_
          refine G.seq ?_
          refine G.rg ?_
          refine K.move (.inl rfl) (gd0 rfl) rfl rfl ?_
          refine K.move (.inl rfl) (gd0 rfl) rfl rfl ?_
          refine K.lenL (rV 0 S W0 s0 b0 o0 intE 1 l0) (hI0.is 0) (gd0 rfl) rfl rfl Try.underlying29 rfl ?_
          refine K.bin (V := .bool (decide (v2 ≤ (l0.length : Int)))) (gd0 rfl) rfl rfl (fun _ => rfl) rfl ?_
          refine K.nil ?_
          refine At.next ?_
          refine G.cond rfl (fun h2 => ?_) (fun h2 => ?_)
          ·
            replace H1 := bif_t H1 h2
            refine G.skip ?_
            refine At.next ?_
            refine G.seq ?_
            refine G.block ?_
            refine G.seq ?_
            obtain ⟨x3, hx3, H1⟩ := bnd H1
            refine G.rg ?_
            refine K.move (.inl rfl) (gd0 rfl) rfl rfl ?_
            refine K.move (.inl rfl) (gd0 rfl) rfl rfl ?_
            refine K.callV [(.func 16, _), ((.tmp 18), _), ((.tmp 19), _)] [(0, rd S W0)] [] [] (fun β => [SV.raw s0, .a (.c (.v (.int .i64 v2)))]) (fun β w S2 h => R06_Sum_con (k := k) ((hI0.isC 0).larg ⟨_, List.mem_cons_self⟩ h) hx3) (toFn_func (cf 16 rfl) rfl) (gd0 rfl) ⟨rfl, rfl, rfl, trivial⟩ (fun _ => rfl) ⟨rfl, trivial⟩ rfl rfl rfl rfl rfl rfl ?_
            refine K.move (.inr rfl) (gd0 rfl) rfl rfl ?_
            refine K.nil ?_
            refine At.next ?_
            refine G.seq ?_
            refine G.rg ?_
            refine K.move (.inl rfl) (gd0 rfl) rfl rfl ?_
            refine K.move (.inl rfl) (gd0 rfl) rfl rfl ?_
            refine K.bin (V := .bool (decide (x3 < v1))) (gd0 rfl) rfl rfl (fun _ => rfl) rfl ?_
            refine K.nil ?_
            refine At.next ?_
            refine G.cond rfl (fun h3 => ?_) (fun h3 => ?_)
            ·
              replace H1 := bif_t H1 h3
              refine G.rg ?_
              refine K.move (.inl rfl) (gd0 rfl) rfl rfl ?_
              refine K.move (.inr rfl) (gd0 rfl) rfl rfl ?_
              refine K.nil ?_
              refine At.block_normal ?_
              refine At.next ?_
              refine G.rg ?_
              refine K.move (.inl rfl) (gd0 rfl) rfl rfl ?_
              refine K.bin (V := .int .i64 (w64 (v2 + 1))) (gd0 rfl) rfl rfl (fun _ => rfl) rfl ?_
              refine K.move (.inr rfl) (gd0 rfl) rfl rfl ?_
              refine K.nil ?_
              exact At.again (σ := { q : Nat × (Int × Int) // R06_Low.l0 k l0 q.1 q.2 = some x2 }) (Fs := fun q => [(0, SV.raw s0), (3, .a (.c (.v (.int .i64 q.1.2.1)))), (4, .a (.c (.v (.int .i64 q.1.2.2))))]) (Tl := fun q => [(0, rd S W0)]) (μ := fun q => q.1.1) (s := ⟨(n0 + 1, (v1, v2)), HL0⟩) ⟨(n0, (x3, (w64 (v2 + 1)))), H1⟩ [] [_] (Nat.lt_succ_self _) rfl ⟨rfl, rfl, rfl, trivial⟩ ⟨rfl, (fun _ => rfl), trivial⟩ rfl
            ·
              replace H1 := bif_f H1 h3
              refine G.skip ?_
              refine At.block_normal ?_
              refine At.next ?_
              refine G.rg ?_
              refine K.move (.inl rfl) (gd0 rfl) rfl rfl ?_
              refine K.bin (V := .int .i64 (w64 (v2 + 1))) (gd0 rfl) rfl rfl (fun _ => rfl) rfl ?_
              refine K.move (.inr rfl) (gd0 rfl) rfl rfl ?_
              refine K.nil ?_
              exact At.again (σ := { q : Nat × (Int × Int) // R06_Low.l0 k l0 q.1 q.2 = some x2 }) (Fs := fun q => [(0, SV.raw s0), (3, .a (.c (.v (.int .i64 q.1.2.1)))), (4, .a (.c (.v (.int .i64 q.1.2.2))))]) (Tl := fun q => [(0, rd S W0)]) (μ := fun q => q.1.1) (s := ⟨(n0 + 1, (v1, v2)), HL0⟩) ⟨(n0, (v1, (w64 (v2 + 1)))), H1⟩ [] [_] (Nat.lt_succ_self _) rfl ⟨rfl, rfl, rfl, trivial⟩ ⟨rfl, (fun _ => rfl), trivial⟩ rfl
          ·
            replace H1 := bif_f H1 h2
            refine G.exit ?_
            refine At.over_exit ?_
            refine At.over_exit ?_
            refine At.block_hit ?_
            exact At.joined (σ := { v : Int // x2 = v }) (Fs := fun q => [(3, .a (.c (.v (.int .i64 q.1))))]) (Tl := fun q => [(0, rd S W0)]) ⟨v1, (Option.some.inj H1).symm⟩ [] [_] rfl ⟨rfl, trivial⟩ ⟨rfl, (fun _ => rfl), trivial⟩ rfl
    ·
      rintro ⟨_, rfl⟩
      show G _ _ [(3, .a (.c (.v (.int .i64 x2))))] [(0, some (rd S W0))] _ _
      refine G.seq ?_
      refine G.rg ?_
      refine K.move (.inl rfl) (gd0 rfl) rfl rfl ?_
      refine K.move (.inr rfl) (gd0 rfl) rfl rfl ?_
      refine K.nil ?_
      refine At.next ?_
      refine G.ret ?_
      refine At.done Y [(.tmp 2, .c _)] rfl ⟨.tmp rfl, trivial⟩ (to' := [(0, _)]) ⟨rfl, trivial⟩ ?_ ?_ rfl rfl rfl (.inl rfl)
      · cases H0; rfl
      · cases H0; rfl
theorem R06_Low_con {k : Nat}  {S : Foot} {W0 : World} {s0 : Value} {l0 : List Int} {r : Int} (hL0 : LArg S W0 s0 intE 1 l0) (H0 : R06_Low.f k l0 = some r) : SCon Try.prog 17 [SV.raw s0] [(0, rd S W0)] (.a (.c (.v (.int .i64 r)))) [(0, rd S W0)] [] :=
  SCon.ren (rn []) (R06_Low_con0 (k := k)  hL0 H0) ⟨(fun _ => rfl), trivial⟩ ⟨(fun _ => rfl), trivial⟩ (by simp) (by simp)
theorem R07_Falls_con0 {k : Nat}  {S : Foot} {W0 : World} {s0 : Value} {l0 : List TR07Elem} {a1 : Int} {a2 : Int} {r : Bool} (hL0 : LArg S W0 s0 eTR07Elem 2 l0) (H0 : R07_Falls.f k l0 a1 a2 = some r) : SCon Try.prog 29 [SV.raw s0, .a (.c (.v (.int .i64 a1))), .a (.c (.v (.int .i64 a2)))] [(0, rd S W0)] (.a (.c (.v (.bool r)))) [(0, rd S W0)] [] := by
  rw [R07_Falls.f] at H0
  obtain ⟨b0, o0, hI0⟩ := hL0
  refine spec_of [(0, _), (1, _), (2, _)] [(0, _)] 16 Try.func29 rfl Try.ntmps29 rfl rfl rfl rfl (fun β W F => ?_)
  refine G.seq ?_
  refine G.rg ?_
  refine K.move (.inr rfl) (gd0 rfl) rfl rfl ?_
  refine K.nil ?_
  refine At.next ?_
  refine G.seq ?_
  obtain ⟨x1, hx1, H0⟩ := bnd H0
  obtain ⟨x2, hx2, H0⟩ := bnd H0
  refine G.rg ?_
  refine K.move (.inl rfl) (gd0 rfl) rfl rfl ?_
  refine K.move (.inl rfl) (gd0 rfl) rfl rfl ?_
  refine K.bin (V := .int .i64 (w64 (a1 + 1))) (gd0 rfl) rfl rfl (fun _ => rfl) rfl ?_
  refine K.callV [(.func 14, _), ((.tmp 7), _), (_, _), ((.tmp 9), _)] [(0, rd S W0)] [] [(100, _)] (fun β => [SV.raw s0, .a (.c (.v (.int .i64 0))), .a (.c (.v (.int .i64 (w64 (a1 + 1)))))]) (fun β w S2 h => R07_Ws_con (k := k) ((hI0.isC 0).larg ⟨_, List.mem_cons_self⟩ h) hx1 100 rfl) (toFn_func (cf 14 rfl) rfl) (gd0 rfl) ⟨rfl, rfl, rfl, rfl, trivial⟩ (fun _ => rfl) ⟨rfl, trivial⟩ rfl rfl rfl rfl rfl rfl ?_
  refine K.move (.inl rfl) (gd0 rfl) rfl rfl ?_
  refine K.bin (V := .int .i64 (w64 (a1 + 1))) (gd0 rfl) rfl rfl (fun _ => rfl) rfl ?_
  refine K.callV [(.func 16, _), ((.tmp 10), _), ((.tmp 12), _)] [(100, lrow 100 3 intE 1 x1)] [] [] (fun β => [SV.raw ((lrowV 100 3 intE 1 x1).s.den β), .a (.c (.v (.int .i64 (w64 (a1 + 1)))))]) (fun β w S2 h => R06_Sum_con (k := k) ((lrowV_isC intE_len (by decide)).larg ⟨_, List.mem_cons_self⟩ h) hx2) (toFn_func (cf 16 rfl) rfl) (gd0 rfl) ⟨rfl, rfl, rfl, trivial⟩ (fun _ => rfl) ⟨rfl, trivial⟩ rfl rfl rfl rfl rfl rfl ?_
  refine K.move (.inl rfl) (gd0 rfl) rfl rfl ?_
  refine K.bin (V := .bool (decide (x2 ≤ a2))) (gd0 rfl) rfl rfl (fun _ => rfl) rfl ?_
  refine K.move (.inr rfl) (gd0 rfl) rfl rfl ?_
  refine K.nil ?_
  refine At.next ?_
  refine G.ret ?_
  refine At.done Y [(.tmp 6, .c _)] rfl ⟨.tmp rfl, trivial⟩ (to' := [(0, _)]) ⟨rfl, trivial⟩ ?_ ?_ rfl rfl rfl (.inl rfl)
  · cases H0; rfl
  · cases H0; rfl
theorem R07_Falls_con {k : Nat}  {S : Foot} {W0 : World} {s0 : Value} {l0 : List TR07Elem} {a1 : Int} {a2 : Int} {r : Bool} (hL0 : LArg S W0 s0 eTR07Elem 2 l0) (H0 : R07_Falls.f k l0 a1 a2 = some r) : SCon Try.prog 29 [SV.raw s0, .a (.c (.v (.int .i64 a1))), .a (.c (.v (.int .i64 a2)))] [(0, rd S W0)] (.a (.c (.v (.bool r)))) [(0, rd S W0)] [] :=
  SCon.ren (rn []) (R07_Falls_con0 (k := k)  hL0 H0) ⟨(fun _ => rfl), trivial⟩ ⟨(fun _ => rfl), trivial⟩ (by simp) (by simp)
theorem Lw07_GroveSearches_1_con0 {k : Nat}  {a0 : TTide} {a1 : TTide} {c0 : Int} {r : Bool}  (H0 : Lw07_GroveSearches_1.f k a0 a1 c0 = some r) : SCon Try.prog 28 [.a (.agg ((eTTide a0).map .v)), .a (.agg ((eTTide a1).map .v)), SV.p 0 0] [(0, blk 0 [.v (.int .i64 c0)] 3)] (.a (.c (.v (.bool r)))) [(0, blk 0 [.v (.int .i64 c0)] 3)] [] := by
  rw [Lw07_GroveSearches_1.f] at H0
  refine spec_of [(0, _), (1, _), (2, _)] [(0, _)] 18 Try.func28 rfl Try.ntmps28 rfl rfl rfl rfl (fun β W F => ?_)
  refine G.seq ?_
  refine G.rg ?_
  refine K.box Y 100 [_, _, _] (gd0 rfl) rfl rfl rfl rfl rfl rfl ?_
  refine K.box Y 101 [_, _, _] (gd0 rfl) rfl rfl rfl rfl rfl rfl ?_
  refine K.move (.inr rfl) (gd0 rfl) rfl rfl ?_
  refine K.nil ?_
  refine At.next ?_
  refine G.seq ?_
  rcases Bool.eq_false_or_eq_true (decide (a1.n > 0)) with h1 | h1
  ·
    replace H0 := bif_t H0 h1
    refine G.rg ?_
    refine K.fieldAddr Y (gd0 rfl) rfl t32 rfl rfl ?_
    refine K.load1 Y (gd0 rfl) rfl rfl t3 rfl rfl ?_
    refine K.bin (V := .bool (decide (a1.n > 0))) (gd0 rfl) rfl rfl (fun _ => rfl) rfl ?_
    refine K.move (.inl rfl) (gd0 rfl) rfl rfl ?_
    refine K.fieldAddr Y (gd1 rfl rfl rfl (h1)) rfl t32 rfl rfl ?_
    refine K.load1 Y (gd1 rfl rfl rfl (h1)) rfl rfl t3 rfl rfl ?_
    refine K.fieldAddr Y (gd1 rfl rfl rfl (h1)) rfl t32 rfl rfl ?_
    refine K.load1 Y (gd1 rfl rfl rfl (h1)) rfl rfl t3 rfl rfl ?_
    refine K.bin (V := .int .i64 (w64 (a0.sum + a1.low))) (gd1 rfl rfl rfl (h1)) rfl rfl (fun _ => rfl) rfl ?_
    refine K.load1 Y (gd1 rfl rfl rfl (h1)) rfl rfl t3 rfl rfl ?_
    refine K.bin (V := .bool (decide ((w64 (a0.sum + a1.low)) ≤ c0))) (gd1 rfl rfl rfl (h1)) rfl rfl (fun _ => rfl) rfl ?_
    refine K.pickT (gd0 rfl) rfl (h1) rfl rfl ?_
    refine K.move (.inr rfl) (gd0 rfl) rfl rfl ?_
    refine K.nil ?_
    refine At.next ?_
    refine G.ret ?_
    refine At.done Y [(.tmp 5, .c _)] rfl ⟨.tmp rfl, trivial⟩ (to' := [(0, _)]) ⟨rfl, trivial⟩ ?_ ?_ rfl rfl rfl (.inl rfl)
    · cases H0; rfl
    · cases H0; rfl
  ·
    replace H0 := bif_f H0 h1
    refine G.rg ?_
    refine K.fieldAddr Y (gd0 rfl) rfl t32 rfl rfl ?_
    refine K.load1 Y (gd0 rfl) rfl rfl t3 rfl rfl ?_
    refine K.bin (V := .bool (decide (a1.n > 0))) (gd0 rfl) rfl rfl (fun _ => rfl) rfl ?_
    refine K.move (.inl rfl) (gd0 rfl) rfl rfl ?_
    refine K.skip rfl rfl rfl rfl (h1) rfl ?_
    refine K.skip rfl rfl rfl rfl (h1) rfl ?_
    refine K.skip rfl rfl rfl rfl (h1) rfl ?_
    refine K.skip rfl rfl rfl rfl (h1) rfl ?_
    refine K.skip rfl rfl rfl rfl (h1) rfl ?_
    refine K.skip rfl rfl rfl rfl (h1) rfl ?_
    refine K.skip rfl rfl rfl rfl (h1) rfl ?_
    refine K.pickF (gd0 rfl) rfl (h1) rfl rfl ?_
    refine K.move (.inr rfl) (gd0 rfl) rfl rfl ?_
    refine K.nil ?_
    refine At.next ?_
    refine G.ret ?_
    refine At.done Y [(.tmp 5, .c _)] rfl ⟨.tmp rfl, trivial⟩ (to' := [(0, _)]) ⟨rfl, trivial⟩ ?_ ?_ rfl rfl rfl (.inl rfl)
    · cases H0; rfl
    · cases H0; rfl
theorem Lw07_GroveSearches_1_con {k : Nat}  {a0 : TTide} {a1 : TTide} {c0 : Int} {r : Bool}  (H0 : Lw07_GroveSearches_1.f k a0 a1 c0 = some r) (m0 : Nat) : SCon Try.prog 28 [.a (.agg ((eTTide a0).map .v)), .a (.agg ((eTTide a1).map .v)), SV.p m0 0] [(m0, blk m0 [.v (.int .i64 c0)] 3)] (.a (.c (.v (.bool r)))) [(m0, blk m0 [.v (.int .i64 c0)] 3)] [] :=
  SCon.ren (rn [(0, m0)]) (Lw07_GroveSearches_1_con0 (k := k)   H0) ⟨(blk_ren rfl rfl), trivial⟩ ⟨(blk_ren rfl rfl), trivial⟩ (by simp) (by simp)
theorem R01_Rest_con0 {k : Nat}  {a0 : Int} {a1 : Int} {r : Int}  (H0 : R01_Rest.f k a0 a1 = some r) : SCon Try.prog 19 [.a (.c (.v (.int .i64 a0))), .a (.c (.v (.int .i64 a1)))] [] (.a (.c (.v (.int .i64 r)))) [] [] := by
  rw [R01_Rest.f] at H0
  refine spec_of [(0, _), (1, _)] [] 12 Try.func19 rfl Try.ntmps19 rfl rfl rfl rfl (fun β W F => ?_)
  refine G.seq ?_
  refine G.rg ?_
  refine K.move (.inr rfl) (gd0 rfl) rfl rfl ?_
  refine K.nil ?_
  refine At.next ?_
  refine G.seq ?_
  obtain ⟨h1, H0⟩ := grd H0
  obtain ⟨h2, H0⟩ := grd H0
  refine G.rg ?_
  refine K.move (.inl rfl) (gd0 rfl) rfl rfl ?_
  refine K.move (.inl rfl) (gd0 rfl) rfl rfl ?_
  refine K.bin (V := .int .i64 (a0.tmod a1)) (gd0 rfl) rfl rfl (rem_run h1) rfl ?_
  refine K.move (.inl rfl) (gd0 rfl) rfl rfl ?_
  refine K.bin (V := .int .i64 (w64 ((a0.tmod a1) + a1))) (gd0 rfl) rfl rfl (fun _ => rfl) rfl ?_
  refine K.move (.inl rfl) (gd0 rfl) rfl rfl ?_
  refine K.bin (V := .int .i64 ((w64 ((a0.tmod a1) + a1)).tmod a1)) (gd0 rfl) rfl rfl (rem_run h2) rfl ?_
  refine K.move (.inr rfl) (gd0 rfl) rfl rfl ?_
  refine K.nil ?_
  refine At.next ?_
  refine G.ret ?_
  refine At.done Y [(.tmp 4, .c _)] rfl ⟨.tmp rfl, trivial⟩ (to' := []) trivial ?_ ?_ rfl rfl rfl (.inl rfl)
  · cases H0; rfl
  · cases H0; rfl
theorem R01_Rest_con {k : Nat}  {a0 : Int} {a1 : Int} {r : Int}  (H0 : R01_Rest.f k a0 a1 = some r) : SCon Try.prog 19 [.a (.c (.v (.int .i64 a0))), .a (.c (.v (.int .i64 a1)))] [] (.a (.c (.v (.int .i64 r)))) [] [] :=
  SCon.ren (rn []) (R01_Rest_con0 (k := k)   H0) trivial trivial (by simp) (by simp)
theorem R07_Drop_e0_con0 {k : Nat}  {S : Foot} {W0 : World} {s0 : Value} {l0 : List TR07Elem} {a1 : Int} {r : List TR07Elem × TR07Elem × Bool} (hL0 : LArg S W0 s0 eTR07Elem 2 l0) (H0 : R07_Drop.f k l0 a1 = some r) : SCon Try.prog 33 [SV.raw s0, .a (.c (.v (.int .i64 a1)))] [(0, rd S W0)] (.tup [.c (.nv 30), .agg ((eTR07Elem r.2.1).map .v), .c (.v (.bool r.2.2))]) [(0, rd S W0)] [30] := by
  rw [R07_Drop.f] at H0
  obtain ⟨b0, o0, hI0⟩ := hL0
  refine spec_of [(0, _), (1, _)] [(0, _)] 42 Try.func33 rfl Try.ntmps33 rfl rfl rfl rfl (fun β W F => ?_)
  refine G.seq ?_
  refine G.rg ?_
  refine K.nilRow 100 54 eTR07Elem 2 (.inl rfl) (gd0 rfl) rfl rfl rfl ?_
  refine K.alloc Y 101 [_, _] (gd0 rfl) t54 rfl rfl rfl rfl rfl ?_
  refine K.move (.inr rfl) (gd0 rfl) rfl rfl ?_
  refine K.nil ?_
  refine At.next ?_
  refine G.seq ?_
  obtain ⟨x1, hx1, H0⟩ := bnd H0
  refine G.rg ?_
  refine K.move (.inl rfl) (gd0 rfl) rfl rfl ?_
  refine K.move (.inl rfl) (gd0 rfl) rfl rfl ?_
  refine K.callV [(.func 34, _), ((.tmp 9), _), ((.tmp 10), _)] [(0, rd S W0)] [] [] (fun β => [SV.raw s0, .a (.c (.v (.int .i64 a1)))]) (fun β w S2 h => R07_Rank_con (k := k) ((hI0.isC 0).larg ⟨_, List.mem_cons_self⟩ h) hx1) (toFn_func (cf 34 rfl) rfl) (gd0 rfl) ⟨rfl, rfl, rfl, trivial⟩ (fun _ => rfl) ⟨rfl, trivial⟩ rfl rfl rfl rfl rfl rfl ?_
  refine K.move (.inr rfl) (gd0 rfl) rfl rfl ?_
  refine K.nil ?_
  refine At.next ?_
  obtain ⟨x2, H1, H0⟩ := bnd H0
  refine G.seqJ (σ := { v : Unit // x2 = Sum.inr v }) (fun q => [(0, SV.raw s0), (5, .a (.c (.p 102 0))), (7, .a (.c (.v (.int .i64 x1))))]) (fun q => [(0, rd S W0), (102, blk 102 [.v (.int .i64 0), .v (.int .i64 0)] 54)]) ?_ ?_
  ·
    refine G.seq ?_
    rcases Bool.eq_false_or_eq_true (x1 == (l0.length : Int)) with h1 | h1
    ·
      replace H1 := bif_t H1 h1
      refine G.rg ?_
      refine K.move (.inl rfl) (gd0 rfl) rfl rfl ?_
      refine K.move (.inl rfl) (gd0 rfl) rfl rfl ?_
      refine K.lenL (rV 0 S W0 s0 b0 o0 eTR07Elem 2 l0) (hI0.is 0) (gd0 rfl) rfl rfl Try.underlying26 rfl ?_
      refine K.bin (V := .bool (x1 == (l0.length : Int))) (gd0 rfl) rfl rfl (fun _ => rfl) rfl ?_
      refine K.move (.inl rfl) (gd0 rfl) rfl rfl ?_
      refine K.skip rfl rfl rfl rfl (h1) rfl ?_
      refine K.skip rfl rfl rfl rfl (h1) rfl ?_
      refine K.skip rfl rfl rfl rfl (h1) rfl ?_
      refine K.skip rfl rfl rfl rfl (h1) rfl ?_
      refine K.skip rfl rfl rfl rfl (h1) rfl ?_
      refine K.skip rfl rfl rfl rfl (h1) rfl ?_
      refine K.skip rfl rfl rfl rfl (h1) rfl ?_
      refine K.pickT (gd0 rfl) rfl (h1) rfl rfl ?_
      refine K.nil ?_
      refine At.next ?_
      refine G.cond rfl (fun h2 => ?_) (fun h2 => ?_)
      ·
        refine G.seq ?_
        refine G.rg ?_
        refine K.move (.inl rfl) (gd0 rfl) rfl rfl ?_
        refine K.build Y [] [_, _] [] (gd0 rfl) (AllE.spec trivial) rfl rfl t54 rfl rfl ?_
        refine K.move (.inr rfl) (gd0 rfl) rfl rfl ?_
        refine K.store Y [_, _] (gd0 rfl) rfl rfl rfl t54 rfl rfl rfl rfl rfl ?_
        refine K.move (.inr rfl) (gd0 rfl) rfl rfl ?_
        refine K.nil ?_
        refine At.next ?_
        refine G.ret ?_
        refine At.over_ret ?_
        cases H1
        replace H0 := sum_l H0
        refine At.named (t := 4) 30 rfl hI0.one1 rfl ?_
        refine At.done Y [(.tmp 4, .c _), (.cell 5 54, .agg [_, _]), (.tmp 6, .c _)] rfl ⟨.tmp rfl, .st rfl rfl t54 rfl rfl, .tmp rfl, trivial⟩ (to' := [(0, _)]) ⟨rfl, trivial⟩ ?_ ?_ rfl rfl rfl (.inl rfl)
        · cases H0; rfl
        · cases H0; rfl
      · cases h2
    ·
      replace H1 := bif_f H1 h1
      obtain ⟨x3, hx3, H1⟩ := bnd H1
      refine G.rg ?_
      refine K.move (.inl rfl) (gd0 rfl) rfl rfl ?_
      refine K.move (.inl rfl) (gd0 rfl) rfl rfl ?_
      refine K.lenL (rV 0 S W0 s0 b0 o0 eTR07Elem 2 l0) (hI0.is 0) (gd0 rfl) rfl rfl Try.underlying26 rfl ?_
      refine K.bin (V := .bool (x1 == (l0.length : Int))) (gd0 rfl) rfl rfl (fun _ => rfl) rfl ?_
      refine K.move (.inl rfl) (gd0 rfl) rfl rfl ?_
      refine K.move (.inl rfl) (gd1 rfl rfl rfl (h1)) rfl rfl ?_
      refine K.move (.inl rfl) (gd1 rfl rfl rfl (h1)) rfl rfl ?_
      refine K.idxL (rV 0 S W0 s0 b0 o0 eTR07Elem 2 l0) ((x1).toNat) (hI0.is 0) (atL_get hx3) (atL_nn hx3) (gd1 rfl rfl rfl (h1)) rfl rfl rfl Try.underlying26 el26.size_run rfl ?_
      refine K.fieldL Y (rV 0 S W0 s0 b0 o0 eTR07Elem 2 l0) ((x1).toNat) 0 0 (hI0.is 0) (atL_get hx3) (gd1 rfl rfl rfl (h1)) rfl rfl t54 rfl rfl rfl rfl ?_
      refine K.load1L Y (rV 0 S W0 s0 b0 o0 eTR07Elem 2 l0) ((x1).toNat) 0 (hI0.is 0) (atL_get hx3) (gd1 rfl rfl rfl (h1)) rfl rfl t3 rfl rfl ?_
      refine K.move (.inl rfl) (gd1 rfl rfl rfl (h1)) rfl rfl ?_
      refine K.bin (V := .bool (x3.k != a1)) (gd1 rfl rfl rfl (h1)) rfl rfl (fun _ => rfl) rfl ?_
      refine K.pickF (gd0 rfl) rfl (h1) rfl rfl ?_
      refine K.nil ?_
      refine At.next ?_
      refine G.cond rfl (fun h3 => ?_) (fun h3 => ?_)
      ·
        replace H1 := bif_t H1 h3
        refine G.seq ?_
        refine G.rg ?_
        refine K.move (.inl rfl) (gd0 rfl) rfl rfl ?_
        refine K.build Y [] [_, _] [] (gd0 rfl) (AllE.spec trivial) rfl rfl t54 rfl rfl ?_
        refine K.move (.inr rfl) (gd0 rfl) rfl rfl ?_
        refine K.store Y [_, _] (gd0 rfl) rfl rfl rfl t54 rfl rfl rfl rfl rfl ?_
        refine K.move (.inr rfl) (gd0 rfl) rfl rfl ?_
        refine K.nil ?_
        refine At.next ?_
        refine G.ret ?_
        refine At.over_ret ?_
        cases H1
        replace H0 := sum_l H0
        refine At.named (t := 4) 30 rfl hI0.one1 rfl ?_
        refine At.done Y [(.tmp 4, .c _), (.cell 5 54, .agg [_, _]), (.tmp 6, .c _)] rfl ⟨.tmp rfl, .st rfl rfl t54 rfl rfl, .tmp rfl, trivial⟩ (to' := [(0, _)]) ⟨rfl, trivial⟩ ?_ ?_ rfl rfl rfl (.inl rfl)
        · cases H0; rfl
        · cases H0; rfl
      ·
        replace H1 := bif_f H1 h3
        refine G.skip ?_
        exact At.joined (σ := { v : Unit // x2 = Sum.inr v }) (Fs := fun q => [(0, SV.raw s0), (5, .a (.c (.p 102 0))), (7, .a (.c (.v (.int .i64 x1))))]) (Tl := fun q => [(0, rd S W0), (102, blk 102 [.v (.int .i64 0), .v (.int .i64 0)] 54)]) ⟨(), (Option.some.inj H1).symm⟩ [(102, 101)] [_, _] rfl ⟨rfl, rfl, rfl, trivial⟩ ⟨rfl, (fun _ => rfl), rfl, (blk_ren rfl rfl), trivial⟩ rfl
  ·
    rintro ⟨v2, rfl⟩
    replace H0 := sum_r H0
    show G _ _ [(0, SV.raw s0), (5, .a (.c (.p 102 0))), (7, .a (.c (.v (.int .i64 x1))))] [(0, some (rd S W0)), (102, some (blk 102 [.v (.int .i64 0), .v (.int .i64 0)] 54))] _ _
    refine G.seq ?_
    refine G.rg ?_
    refine K.nilRow 103 54 eTR07Elem 2 (.inl rfl) (gd0 rfl) rfl rfl rfl ?_
    refine K.nil ?_
    refine At.next ?_
    refine G.seq ?_
    obtain ⟨h4, H0⟩ := grd H0
    obtain ⟨h6, H0⟩ := grd H0
    refine G.rg ?_
    refine K.move (.inl rfl) (gd0 rfl) rfl rfl ?_
    refine K.move (.inl rfl) (gd0 rfl) rfl rfl ?_
    refine K.move (.inl rfl) (gd0 rfl) rfl rfl ?_
    refine K.partR 0 ((x1).toNat) hI0 (gd0 rfl) rfl .no (.at_ rfl h4.1 rfl) Try.underlying26 el26.size_run (Nat.zero_le _) (tn_len h4.2) rfl ?_
    refine K.appendL 104 (rV 0 S W0 (partOf 0 ((x1).toNat) 2 s0) _ _ eTR07Elem 2 ((l0.drop 0).take (((x1).toNat) - 0))) _ el26 ((hI0.part (Nat.zero_le _) (tn_len h4.2)).is 0) eTR07Elem_one (gd0 rfl) rfl rfl rfl rfl rfl (ap_m h6) (ap_b h6 (by decide)) rfl rfl rfl rfl rfl rfl ?_
    refine K.move (.inr rfl) (gd0 rfl) rfl rfl ?_
    refine K.nil ?_
    refine At.next ?_
    refine G.seq ?_
    obtain ⟨h7, H0⟩ := grd H0
    obtain ⟨h9, H0⟩ := grd H0
    obtain ⟨x4, hx4, H0⟩ := bnd H0
    refine G.rd mixed ?_
    refine K.move (.inl rfl) (gd0 rfl) rfl rfl ?_
    refine K.move (.inl rfl) (gd0 rfl) rfl rfl ?_
    refine K.move (.inl rfl) (gd0 rfl) rfl rfl ?_
    refine K.bin (V := .int .i64 (w64 (x1 + 1))) (gd0 rfl) rfl rfl (fun _ => rfl) rfl ?_
    refine K.partR (((w64 (x1 + 1))).toNat) l0.length hI0 (gd0 rfl) rfl (.at_ rfl h7.1 rfl) .no Try.underlying26 el26.size_run (tn_len h7.2) (Nat.le_refl _) rfl ?_
    refine K.appendL 105 (rV 0 S W0 (partOf (((w64 (x1 + 1))).toNat) l0.length 2 s0) _ _ eTR07Elem 2 ((l0.drop (((w64 (x1 + 1))).toNat)).take (l0.length - (((w64 (x1 + 1))).toNat)))) _ el26 ((hI0.part (tn_len h7.2) (Nat.le_refl _)).is 0) eTR07Elem_one (gd0 rfl) rfl rfl rfl rfl rfl (ap_m h9) (ap_b h9 (by decide)) rfl rfl rfl rfl rfl rfl ?_
    refine K.move (.inl rfl) (gd0 rfl) rfl rfl ?_
    refine K.move (.inl rfl) (gd0 rfl) rfl rfl ?_
    refine K.idxL (rV 0 S W0 s0 b0 o0 eTR07Elem 2 l0) ((x1).toNat) (hI0.is 0) (atL_get hx4) (atL_nn hx4) (gd0 rfl) rfl rfl rfl Try.underlying26 el26.size_run rfl ?_
    refine K.loadSL Y (rV 0 S W0 s0 b0 o0 eTR07Elem 2 l0) ((x1).toNat) 0 [_, _] [_, _] (hI0.is 0) (atL_get hx4) (gd0 rfl) rfl rfl t54 rfl rfl rfl rfl rfl ?_
    refine K.move (.inr rfl) (gd0 rfl) rfl rfl ?_
    refine K.store Y [_, _] (gd0 rfl) rfl rfl rfl t54 rfl rfl rfl rfl rfl ?_
    refine K.move (.inr rfl) (gd0 rfl) rfl rfl ?_
    refine K.nil ?_
    refine ⟨by kernel_rfl, ?_⟩
    refine At.next ?_
    refine G.ret ?_
    refine At.ren (fs' := [(4, .a (.c (.nv 30))), (5, .a (.c (.p 102 0))), (6, .a (.c (.v (.bool true))))]) (tl := [(0, rd S W0), (102, blk 102 [.v (.int .i64 x4.k), .v (.int .i64 x4.w)] 54)]) [(30, 105)] [_, _] rfl ⟨rfl, rfl, rfl, trivial⟩ ⟨rfl, (fun _ => rfl), rfl, (blk_ren rfl rfl), trivial⟩ rfl ?_
    refine At.done Y [(.tmp 4, .c _), (.cell 5 54, .agg [_, _]), (.tmp 6, .c _)] rfl ⟨.tmp rfl, .st rfl rfl t54 rfl rfl, .tmp rfl, trivial⟩ (to' := [(0, _)]) ⟨rfl, trivial⟩ ?_ ?_ rfl rfl rfl (.inl rfl)
    · cases H0; rfl
    · cases H0; rfl
theorem R07_Drop_e0_con {k : Nat}  {S : Foot} {W0 : World} {s0 : Value} {l0 : List TR07Elem} {a1 : Int} {r : List TR07Elem × TR07Elem × Bool} (hL0 : LArg S W0 s0 eTR07Elem 2 l0) (H0 : R07_Drop.f k l0 a1 = some r) (m30 : Nat) (hd : ndB [m30] = true) : SCon Try.prog 33 [SV.raw s0, .a (.c (.v (.int .i64 a1)))] [(0, rd S W0)] (.tup [.c (.nv m30), .agg ((eTR07Elem r.2.1).map .v), .c (.v (.bool r.2.2))]) [(0, rd S W0)] [m30] :=
  SCon.ren (rn [(30, m30)]) (R07_Drop_e0_con0 (k := k)  hL0 H0) ⟨(fun _ => rfl), trivial⟩ ⟨(fun _ => rfl), trivial⟩ (rn_nd hd rfl rfl) (rn_ks hd rfl rfl rfl)
end Go.Proofs.Ytjokolmijhhinaa


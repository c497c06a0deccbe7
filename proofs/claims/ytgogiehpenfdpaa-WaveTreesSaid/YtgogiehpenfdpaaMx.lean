/- Walks of what uses trees. Printed by a program of mine. -/
import Derived.KernelRfl
import Derived.Test.YtgogiehpenfdpaaTrM
namespace Go.Proofs.Ytgogiehpenfdpaa
open Go Go.Proofs.Ytgogiehpenfdpaa.Sx
set_option linter.unusedVariables false
set_option linter.unusedSimpArgs false
theorem wave_Key_con0 {k : Nat}  {a0 : Int} {r : TMark}  (H0 : wave_Key.f k a0 = some r) : SCon Try.prog 47 [.a (.c (.v (.int .i64 a0)))] [] (.a (.agg ((eTMark r).map .v))) [] [] := by
  rw [wave_Key.f] at H0
  refine spec_of [(0, _)] [] 6 Try.func47 rfl Try.ntmps47 rfl rfl rfl rfl (fun β W F => ?_)
  refine G.seq ?_
  refine G.rg ?_
  refine K.alloc Y 100 [_, _, _, _, _, _, _, _] (gd0 rfl) t82 rfl rfl rfl rfl rfl ?_
  refine K.nil ?_
  refine At.next ?_
  refine G.seq ?_
  refine G.rg ?_
  refine K.move (.inl rfl) (gd0 rfl) rfl rfl ?_
  refine K.build Y [(0, _)] [_, _, _, _] [((.tmp 3), _)] (gd0 rfl) (AllE.spec ⟨rfl, trivial⟩) rfl rfl t73 rfl rfl ?_
  refine K.build Y [(0, _)] [_, _, _, _, _, _, _, _] [((.tmp 4), _)] (gd0 rfl) (AllE.spec ⟨rfl, trivial⟩) rfl rfl t82 rfl rfl ?_
  refine K.store Y [_, _, _, _, _, _, _, _] (gd0 rfl) rfl rfl rfl t82 rfl rfl rfl rfl rfl ?_
  refine K.nil ?_
  refine At.next ?_
  refine G.ret ?_
  refine At.done Y [(.cell 2 82, .agg [_, _, _, _, _, _, _, _])] rfl ⟨.st rfl rfl t82 rfl rfl, trivial⟩ (to' := []) trivial ?_ ?_ rfl rfl rfl (.inl rfl)
  · cases H0; rfl
  · cases H0; rfl
theorem wave_Key_con {k : Nat}  {a0 : Int} {r : TMark}  (H0 : wave_Key.f k a0 = some r) : SCon Try.prog 47 [.a (.c (.v (.int .i64 a0)))] [] (.a (.agg ((eTMark r).map .v))) [] [] :=
  SCon.ren (rn []) (wave_Key_con0 (k := k)   H0) trivial trivial (by simp) (by simp)
theorem Lw08_awake_con0 {k : Nat}  {r : Bool}  (H0 : Lw08_awake.f k = some r) : SCon Try.prog 37 [] [] (.a (.c (.v (.bool r)))) [] [] := by
  rw [Lw08_awake.f] at H0
  refine spec_of [] [] 39 Try.func37 rfl Try.ntmps37 rfl rfl rfl rfl (fun β W F => ?_)
  refine G.seq ?_
  refine G.rg ?_
  refine K.move (.inr rfl) (gd0 rfl) rfl rfl ?_
  refine K.nil ?_
  refine At.next ?_
  refine G.seq ?_
  refine G.rg ?_
  refine K.build Y [(0, _), (1, _)] [_, _] [(_, _), (_, _)] (gd0 rfl) (AllE.spec ⟨rfl, rfl, trivial⟩) rfl rfl t37 rfl rfl ?_
  refine K.build Y [(0, _), (1, _), (2, _)] [_, _, _, _] [(_, _), (_, _), ((.tmp 3), _)] (gd0 rfl) (AllE.spec ⟨rfl, rfl, rfl, trivial⟩) rfl rfl t73 rfl rfl ?_
  refine K.build Y [(0, _), (1, _)] [_, _, _, _, _, _, _, _] [((.tmp 4), _), (_, _)] (gd0 rfl) (AllE.spec ⟨rfl, rfl, trivial⟩) rfl rfl t82 rfl rfl ?_
  refine K.alloc Y 100 [_, _, _, _, _, _, _, _] (gd0 rfl) t82 rfl rfl rfl rfl rfl ?_
  refine K.store Y [_, _, _, _, _, _, _, _] (gd0 rfl) rfl rfl rfl t82 rfl rfl rfl rfl rfl ?_
  refine K.nil ?_
  refine At.next ?_
  refine G.seq ?_
  obtain ⟨x1, hx1, H0⟩ := bnd H0
  refine G.rg ?_
  refine K.loadS Y [_, _, _, _, _, _, _, _] (gd0 rfl) rfl rfl t82 rfl rfl rfl ?_
  refine K.callR [(.func 55, _), ((.tmp 6), _)] (wave_Mark_Sum_con (k := k) hx1) (toFn_func (cf 55 rfl) rfl) (gd0 rfl) ⟨rfl, rfl, trivial⟩ trivial rfl rfl rfl ?_
  refine K.alloc Y 101 [_, _, _, _, _, _, _, _, _, _, _, _, _, _, _, _] (gd0 rfl) t67 rfl rfl rfl rfl rfl ?_
  refine K.store Y [_, _, _, _, _, _, _, _, _, _, _, _, _, _, _, _] (gd0 rfl) rfl rfl rfl t67 rfl rfl rfl rfl rfl ?_
  refine K.nil ?_
  refine At.next ?_
  refine G.seq ?_
  rcases Bool.eq_false_or_eq_true ((x1.count.n == 1) && ((x1.count.sum == 1) && ((x1.count.low == 1) && true))) with h1 | h1
  ·
    replace H0 := bif_t H0 h1
    rcases Bool.eq_false_or_eq_true (x1.weight.n == 1) with h2 | h2
    ·
      replace H0 := bif_t H0 h2
      rcases Bool.eq_false_or_eq_true (x1.weight.sum == 0) with h3 | h3
      ·
        replace H0 := bif_t H0 h3
        rcases Bool.eq_false_or_eq_true ((x1.least.found == true) && ((x1.least.item.key == 5) && ((x1.least.item.id == 1) && true))) with h4 | h4
        ·
          replace H0 := bif_t H0 h4
          obtain ⟨x2, hx2, H0⟩ := bnd H0
          obtain ⟨x3, hx3, H0⟩ := bnd H0
          refine G.rd mixed ?_
          refine K.fieldAddr Y (gd0 rfl) rfl t67 rfl rfl ?_
          refine K.loadS Y [_, _, _] (gd0 rfl) rfl rfl t63 rfl rfl rfl ?_
          refine K.build Y [(0, _), (1, _), (2, _)] [_, _, _] [(_, _), (_, _), (_, _)] (gd0 rfl) (AllE.spec ⟨rfl, rfl, rfl, trivial⟩) rfl rfl t63 rfl rfl ?_
          refine K.eqS [_, _, _] [_, _, _] (gd0 rfl) rfl rfl cmp63 rfl (.inl rfl) ((x1.count.n == 1) && ((x1.count.sum == 1) && ((x1.count.low == 1) && true))) rfl rfl ?_
          refine K.move (.inl rfl) (gd0 rfl) rfl rfl ?_
          refine K.fieldAddr Y (gd1 rfl rfl rfl (h1)) rfl t67 rfl rfl ?_
          refine K.fieldAddr Y (gd1 rfl rfl rfl (h1)) rfl t63 rfl rfl ?_
          refine K.load1 Y (gd1 rfl rfl rfl (h1)) rfl rfl t3 rfl rfl ?_
          refine K.bin (V := .bool (x1.weight.n == 1)) (gd1 rfl rfl rfl (h1)) rfl rfl (fun _ => rfl) rfl ?_
          refine K.pickT (gd0 rfl) rfl (h1) rfl rfl ?_
          refine K.move (.inl rfl) (gd0 rfl) rfl rfl ?_
          refine K.fieldAddr Y (gd1 rfl rfl rfl (h2)) rfl t67 rfl rfl ?_
          refine K.fieldAddr Y (gd1 rfl rfl rfl (h2)) rfl t63 rfl rfl ?_
          refine K.load1 Y (gd1 rfl rfl rfl (h2)) rfl rfl t3 rfl rfl ?_
          refine K.bin (V := .bool (x1.weight.sum == 0)) (gd1 rfl rfl rfl (h2)) rfl rfl (fun _ => rfl) rfl ?_
          refine K.pickT (gd0 rfl) rfl (h2) rfl rfl ?_
          refine K.move (.inl rfl) (gd0 rfl) rfl rfl ?_
          refine K.fieldAddr Y (gd1 rfl rfl rfl (h3)) rfl t67 rfl rfl ?_
          refine K.loadS Y [_, _, _] (gd1 rfl rfl rfl (h3)) rfl rfl t65 rfl rfl rfl ?_
          refine K.fieldAddr Y (gd1 rfl rfl rfl (h3)) rfl t82 rfl rfl ?_
          refine K.fieldAddr Y (gd1 rfl rfl rfl (h3)) rfl t73 rfl rfl ?_
          refine K.loadS Y [_, _] (gd1 rfl rfl rfl (h3)) rfl rfl t37 rfl rfl rfl ?_
          refine K.build Y [(0, _), (1, _)] [_, _, _] [(_, _), ((.tmp 29), _)] (gd1 rfl rfl rfl (h3)) (AllE.spec ⟨rfl, rfl, trivial⟩) rfl rfl t65 rfl rfl ?_
          refine K.eqS [_, _, _] [_, _, _] (gd1 rfl rfl rfl (h3)) rfl rfl cmp65 rfl (.inl rfl) ((x1.least.found == true) && ((x1.least.item.key == 5) && ((x1.least.item.id == 1) && true))) rfl rfl ?_
          refine K.pickT (gd0 rfl) rfl (h3) rfl rfl ?_
          refine K.move (.inl rfl) (gd0 rfl) rfl rfl ?_
          refine K.callR [(.func 47, _), (_, _)] (wave_Key_con (k := k) hx2) (toFn_func (cf 47 rfl) rfl) (gd1 rfl rfl rfl (h4)) ⟨rfl, rfl, trivial⟩ trivial rfl rfl rfl ?_
          refine K.loadS Y [_, _, _, _, _, _, _, _] (gd1 rfl rfl rfl (h4)) rfl rfl t82 rfl rfl rfl ?_
          refine K.callR [(.func 56, _), ((.tmp 34), _), ((.tmp 35), _)] (wave_Mark_Compare_con (k := k) hx3) (toFn_func (cf 56 rfl) rfl) (gd1 rfl rfl rfl (h4)) ⟨rfl, rfl, rfl, trivial⟩ trivial rfl rfl rfl ?_
          refine K.bin (V := .bool (x3 == 0)) (gd1 rfl rfl rfl (h4)) rfl rfl (fun _ => rfl) rfl ?_
          refine K.pickT (gd0 rfl) rfl (h4) rfl rfl ?_
          refine K.move (.inr rfl) (gd0 rfl) rfl rfl ?_
          refine K.nil ?_
          refine ⟨by kernel_rfl, ?_⟩
          refine At.next ?_
          refine G.ret ?_
          refine At.done Y [(.tmp 0, .c _)] rfl ⟨.tmp rfl, trivial⟩ (to' := []) trivial ?_ ?_ rfl rfl rfl (.inl rfl)
          · cases H0; rfl
          · cases H0; rfl
        ·
          replace H0 := bif_f H0 h4
          refine G.rd mixed ?_
          refine K.fieldAddr Y (gd0 rfl) rfl t67 rfl rfl ?_
          refine K.loadS Y [_, _, _] (gd0 rfl) rfl rfl t63 rfl rfl rfl ?_
          refine K.build Y [(0, _), (1, _), (2, _)] [_, _, _] [(_, _), (_, _), (_, _)] (gd0 rfl) (AllE.spec ⟨rfl, rfl, rfl, trivial⟩) rfl rfl t63 rfl rfl ?_
          refine K.eqS [_, _, _] [_, _, _] (gd0 rfl) rfl rfl cmp63 rfl (.inl rfl) ((x1.count.n == 1) && ((x1.count.sum == 1) && ((x1.count.low == 1) && true))) rfl rfl ?_
          refine K.move (.inl rfl) (gd0 rfl) rfl rfl ?_
          refine K.fieldAddr Y (gd1 rfl rfl rfl (h1)) rfl t67 rfl rfl ?_
          refine K.fieldAddr Y (gd1 rfl rfl rfl (h1)) rfl t63 rfl rfl ?_
          refine K.load1 Y (gd1 rfl rfl rfl (h1)) rfl rfl t3 rfl rfl ?_
          refine K.bin (V := .bool (x1.weight.n == 1)) (gd1 rfl rfl rfl (h1)) rfl rfl (fun _ => rfl) rfl ?_
          refine K.pickT (gd0 rfl) rfl (h1) rfl rfl ?_
          refine K.move (.inl rfl) (gd0 rfl) rfl rfl ?_
          refine K.fieldAddr Y (gd1 rfl rfl rfl (h2)) rfl t67 rfl rfl ?_
          refine K.fieldAddr Y (gd1 rfl rfl rfl (h2)) rfl t63 rfl rfl ?_
          refine K.load1 Y (gd1 rfl rfl rfl (h2)) rfl rfl t3 rfl rfl ?_
          refine K.bin (V := .bool (x1.weight.sum == 0)) (gd1 rfl rfl rfl (h2)) rfl rfl (fun _ => rfl) rfl ?_
          refine K.pickT (gd0 rfl) rfl (h2) rfl rfl ?_
          refine K.move (.inl rfl) (gd0 rfl) rfl rfl ?_
          refine K.fieldAddr Y (gd1 rfl rfl rfl (h3)) rfl t67 rfl rfl ?_
          refine K.loadS Y [_, _, _] (gd1 rfl rfl rfl (h3)) rfl rfl t65 rfl rfl rfl ?_
          refine K.fieldAddr Y (gd1 rfl rfl rfl (h3)) rfl t82 rfl rfl ?_
          refine K.fieldAddr Y (gd1 rfl rfl rfl (h3)) rfl t73 rfl rfl ?_
          refine K.loadS Y [_, _] (gd1 rfl rfl rfl (h3)) rfl rfl t37 rfl rfl rfl ?_
          refine K.build Y [(0, _), (1, _)] [_, _, _] [(_, _), ((.tmp 29), _)] (gd1 rfl rfl rfl (h3)) (AllE.spec ⟨rfl, rfl, trivial⟩) rfl rfl t65 rfl rfl ?_
          refine K.eqS [_, _, _] [_, _, _] (gd1 rfl rfl rfl (h3)) rfl rfl cmp65 rfl (.inl rfl) ((x1.least.found == true) && ((x1.least.item.key == 5) && ((x1.least.item.id == 1) && true))) rfl rfl ?_
          refine K.pickT (gd0 rfl) rfl (h3) rfl rfl ?_
          refine K.move (.inl rfl) (gd0 rfl) rfl rfl ?_
          refine K.skip rfl rfl rfl rfl (h4) rfl ?_
          refine K.skip rfl rfl rfl rfl (h4) rfl ?_
          refine K.skip rfl rfl rfl rfl (h4) rfl ?_
          refine K.skip rfl rfl rfl rfl (h4) rfl ?_
          refine K.pickF (gd0 rfl) rfl (h4) rfl rfl ?_
          refine K.move (.inr rfl) (gd0 rfl) rfl rfl ?_
          refine K.nil ?_
          refine ⟨by kernel_rfl, ?_⟩
          refine At.next ?_
          refine G.ret ?_
          refine At.done Y [(.tmp 0, .c _)] rfl ⟨.tmp rfl, trivial⟩ (to' := []) trivial ?_ ?_ rfl rfl rfl (.inl rfl)
          · cases H0; rfl
          · cases H0; rfl
      ·
        replace H0 := bif_f H0 h3
        refine G.rd mixed ?_
        refine K.fieldAddr Y (gd0 rfl) rfl t67 rfl rfl ?_
        refine K.loadS Y [_, _, _] (gd0 rfl) rfl rfl t63 rfl rfl rfl ?_
        refine K.build Y [(0, _), (1, _), (2, _)] [_, _, _] [(_, _), (_, _), (_, _)] (gd0 rfl) (AllE.spec ⟨rfl, rfl, rfl, trivial⟩) rfl rfl t63 rfl rfl ?_
        refine K.eqS [_, _, _] [_, _, _] (gd0 rfl) rfl rfl cmp63 rfl (.inl rfl) ((x1.count.n == 1) && ((x1.count.sum == 1) && ((x1.count.low == 1) && true))) rfl rfl ?_
        refine K.move (.inl rfl) (gd0 rfl) rfl rfl ?_
        refine K.fieldAddr Y (gd1 rfl rfl rfl (h1)) rfl t67 rfl rfl ?_
        refine K.fieldAddr Y (gd1 rfl rfl rfl (h1)) rfl t63 rfl rfl ?_
        refine K.load1 Y (gd1 rfl rfl rfl (h1)) rfl rfl t3 rfl rfl ?_
        refine K.bin (V := .bool (x1.weight.n == 1)) (gd1 rfl rfl rfl (h1)) rfl rfl (fun _ => rfl) rfl ?_
        refine K.pickT (gd0 rfl) rfl (h1) rfl rfl ?_
        refine K.move (.inl rfl) (gd0 rfl) rfl rfl ?_
        refine K.fieldAddr Y (gd1 rfl rfl rfl (h2)) rfl t67 rfl rfl ?_
        refine K.fieldAddr Y (gd1 rfl rfl rfl (h2)) rfl t63 rfl rfl ?_
        refine K.load1 Y (gd1 rfl rfl rfl (h2)) rfl rfl t3 rfl rfl ?_
        refine K.bin (V := .bool (x1.weight.sum == 0)) (gd1 rfl rfl rfl (h2)) rfl rfl (fun _ => rfl) rfl ?_
        refine K.pickT (gd0 rfl) rfl (h2) rfl rfl ?_
        refine K.move (.inl rfl) (gd0 rfl) rfl rfl ?_
        refine K.skip rfl rfl rfl rfl (h3) rfl ?_
        refine K.skip rfl rfl rfl rfl (h3) rfl ?_
        refine K.skip rfl rfl rfl rfl (h3) rfl ?_
        refine K.skip rfl rfl rfl rfl (h3) rfl ?_
        refine K.skip rfl rfl rfl rfl (h3) rfl ?_
        refine K.skip rfl rfl rfl rfl (h3) rfl ?_
        refine K.skip rfl rfl rfl rfl (h3) rfl ?_
        refine K.pickF (gd0 rfl) rfl (h3) rfl rfl ?_
        refine K.move (.inl rfl) (gd0 rfl) rfl rfl ?_
        refine K.skip rfl rfl rfl rfl (rfl) rfl ?_
        refine K.skip rfl rfl rfl rfl (rfl) rfl ?_
        refine K.skip rfl rfl rfl rfl (rfl) rfl ?_
        refine K.skip rfl rfl rfl rfl (rfl) rfl ?_
        refine K.pickF (gd0 rfl) rfl (rfl) rfl rfl ?_
        refine K.move (.inr rfl) (gd0 rfl) rfl rfl ?_
        refine K.nil ?_
        refine ⟨by kernel_rfl, ?_⟩
        refine At.next ?_
        refine G.ret ?_
        refine At.done Y [(.tmp 0, .c _)] rfl ⟨.tmp rfl, trivial⟩ (to' := []) trivial ?_ ?_ rfl rfl rfl (.inl rfl)
        · cases H0; rfl
        · cases H0; rfl
    ·
      replace H0 := bif_f H0 h2
      refine G.rd mixed ?_
      refine K.fieldAddr Y (gd0 rfl) rfl t67 rfl rfl ?_
      refine K.loadS Y [_, _, _] (gd0 rfl) rfl rfl t63 rfl rfl rfl ?_
      refine K.build Y [(0, _), (1, _), (2, _)] [_, _, _] [(_, _), (_, _), (_, _)] (gd0 rfl) (AllE.spec ⟨rfl, rfl, rfl, trivial⟩) rfl rfl t63 rfl rfl ?_
      refine K.eqS [_, _, _] [_, _, _] (gd0 rfl) rfl rfl cmp63 rfl (.inl rfl) ((x1.count.n == 1) && ((x1.count.sum == 1) && ((x1.count.low == 1) && true))) rfl rfl ?_
      refine K.move (.inl rfl) (gd0 rfl) rfl rfl ?_
      refine K.fieldAddr Y (gd1 rfl rfl rfl (h1)) rfl t67 rfl rfl ?_
      refine K.fieldAddr Y (gd1 rfl rfl rfl (h1)) rfl t63 rfl rfl ?_
      refine K.load1 Y (gd1 rfl rfl rfl (h1)) rfl rfl t3 rfl rfl ?_
      refine K.bin (V := .bool (x1.weight.n == 1)) (gd1 rfl rfl rfl (h1)) rfl rfl (fun _ => rfl) rfl ?_
      refine K.pickT (gd0 rfl) rfl (h1) rfl rfl ?_
      refine K.move (.inl rfl) (gd0 rfl) rfl rfl ?_
      refine K.skip rfl rfl rfl rfl (h2) rfl ?_
      refine K.skip rfl rfl rfl rfl (h2) rfl ?_
      refine K.skip rfl rfl rfl rfl (h2) rfl ?_
      refine K.skip rfl rfl rfl rfl (h2) rfl ?_
      refine K.pickF (gd0 rfl) rfl (h2) rfl rfl ?_
      refine K.move (.inl rfl) (gd0 rfl) rfl rfl ?_
      refine K.skip rfl rfl rfl rfl (rfl) rfl ?_
      refine K.skip rfl rfl rfl rfl (rfl) rfl ?_
      refine K.skip rfl rfl rfl rfl (rfl) rfl ?_
      refine K.skip rfl rfl rfl rfl (rfl) rfl ?_
      refine K.skip rfl rfl rfl rfl (rfl) rfl ?_
      refine K.skip rfl rfl rfl rfl (rfl) rfl ?_
      refine K.skip rfl rfl rfl rfl (rfl) rfl ?_
      refine K.pickF (gd0 rfl) rfl (rfl) rfl rfl ?_
      refine K.move (.inl rfl) (gd0 rfl) rfl rfl ?_
      refine K.skip rfl rfl rfl rfl (rfl) rfl ?_
      refine K.skip rfl rfl rfl rfl (rfl) rfl ?_
      refine K.skip rfl rfl rfl rfl (rfl) rfl ?_
      refine K.skip rfl rfl rfl rfl (rfl) rfl ?_
      refine K.pickF (gd0 rfl) rfl (rfl) rfl rfl ?_
      refine K.move (.inr rfl) (gd0 rfl) rfl rfl ?_
      refine K.nil ?_
      refine ⟨by kernel_rfl, ?_⟩
      refine At.next ?_
      refine G.ret ?_
      refine At.done Y [(.tmp 0, .c _)] rfl ⟨.tmp rfl, trivial⟩ (to' := []) trivial ?_ ?_ rfl rfl rfl (.inl rfl)
      · cases H0; rfl
      · cases H0; rfl
  ·
    replace H0 := bif_f H0 h1
    refine G.rd mixed ?_
    refine K.fieldAddr Y (gd0 rfl) rfl t67 rfl rfl ?_
    refine K.loadS Y [_, _, _] (gd0 rfl) rfl rfl t63 rfl rfl rfl ?_
    refine K.build Y [(0, _), (1, _), (2, _)] [_, _, _] [(_, _), (_, _), (_, _)] (gd0 rfl) (AllE.spec ⟨rfl, rfl, rfl, trivial⟩) rfl rfl t63 rfl rfl ?_
    refine K.eqS [_, _, _] [_, _, _] (gd0 rfl) rfl rfl cmp63 rfl (.inl rfl) ((x1.count.n == 1) && ((x1.count.sum == 1) && ((x1.count.low == 1) && true))) rfl rfl ?_
    refine K.move (.inl rfl) (gd0 rfl) rfl rfl ?_
    refine K.skip rfl rfl rfl rfl (h1) rfl ?_
    refine K.skip rfl rfl rfl rfl (h1) rfl ?_
    refine K.skip rfl rfl rfl rfl (h1) rfl ?_
    refine K.skip rfl rfl rfl rfl (h1) rfl ?_
    refine K.pickF (gd0 rfl) rfl (h1) rfl rfl ?_
    refine K.move (.inl rfl) (gd0 rfl) rfl rfl ?_
    refine K.skip rfl rfl rfl rfl (rfl) rfl ?_
    refine K.skip rfl rfl rfl rfl (rfl) rfl ?_
    refine K.skip rfl rfl rfl rfl (rfl) rfl ?_
    refine K.skip rfl rfl rfl rfl (rfl) rfl ?_
    refine K.pickF (gd0 rfl) rfl (rfl) rfl rfl ?_
    refine K.move (.inl rfl) (gd0 rfl) rfl rfl ?_
    refine K.skip rfl rfl rfl rfl (rfl) rfl ?_
    refine K.skip rfl rfl rfl rfl (rfl) rfl ?_
    refine K.skip rfl rfl rfl rfl (rfl) rfl ?_
    refine K.skip rfl rfl rfl rfl (rfl) rfl ?_
    refine K.skip rfl rfl rfl rfl (rfl) rfl ?_
    refine K.skip rfl rfl rfl rfl (rfl) rfl ?_
    refine K.skip rfl rfl rfl rfl (rfl) rfl ?_
    refine K.pickF (gd0 rfl) rfl (rfl) rfl rfl ?_
    refine K.move (.inl rfl) (gd0 rfl) rfl rfl ?_
    refine K.skip rfl rfl rfl rfl (rfl) rfl ?_
    refine K.skip rfl rfl rfl rfl (rfl) rfl ?_
    refine K.skip rfl rfl rfl rfl (rfl) rfl ?_
    refine K.skip rfl rfl rfl rfl (rfl) rfl ?_
    refine K.pickF (gd0 rfl) rfl (rfl) rfl rfl ?_
    refine K.move (.inr rfl) (gd0 rfl) rfl rfl ?_
    refine K.nil ?_
    refine ⟨by kernel_rfl, ?_⟩
    refine At.next ?_
    refine G.ret ?_
    refine At.done Y [(.tmp 0, .c _)] rfl ⟨.tmp rfl, trivial⟩ (to' := []) trivial ?_ ?_ rfl rfl rfl (.inl rfl)
    · cases H0; rfl
    · cases H0; rfl
theorem Lw08_awake_con {k : Nat}  {r : Bool}  (H0 : Lw08_awake.f k = some r) : SCon Try.prog 37 [] [] (.a (.c (.v (.bool r)))) [] [] :=
  SCon.ren (rn []) (Lw08_awake_con0 (k := k)   H0) trivial trivial (by simp) (by simp)
theorem Lw08_sums_con0 {k : Nat}  {S : Foot} {W0 : World} {s0 : Value} {l0 : List TR08Mark} {r : TSwell} (hL0 : LArg S W0 s0 eTR08Mark 8 l0) (H0 : Lw08_sums.f k l0 = some r) : SCon Try.prog 39 [SV.raw s0] [(0, rd S W0)] (.a (.agg ((eTSwell r).map .v))) [(0, rd S W0)] [] := by
  rw [Lw08_sums.f] at H0
  obtain ⟨b0, o0, hI0⟩ := hL0
  refine spec_of [(0, _)] [(0, _)] 32 Try.func39 rfl Try.ntmps39 rfl rfl rfl rfl (fun β W F => ?_)
  refine G.seq ?_
  refine G.rg ?_
  refine K.alloc Y 100 [_, _, _, _, _, _, _, _, _, _, _, _, _, _, _, _] (gd0 rfl) t67 rfl rfl rfl rfl rfl ?_
  refine K.nil ?_
  refine At.next ?_
  refine G.seq ?_
  refine G.rg ?_
  refine K.build Y [] [_, _, _, _, _, _, _, _, _, _, _, _, _, _, _, _] [] (gd0 rfl) (AllE.spec trivial) rfl rfl t67 rfl rfl ?_
  refine K.alloc Y 101 [_, _, _, _, _, _, _, _, _, _, _, _, _, _, _, _] (gd0 rfl) t67 rfl rfl rfl rfl rfl ?_
  refine K.store Y [_, _, _, _, _, _, _, _, _, _, _, _, _, _, _, _] (gd0 rfl) rfl rfl rfl t67 rfl rfl rfl rfl rfl ?_
  refine K.nil ?_
  refine At.next ?_
  obtain ⟨x1, H1, H0⟩ := bnd H0
  refine G.seqJ (σ := { v : TSwell // x1 = v }) (fun q => [(2, .a (.c (.p 102 0))), (3, .a (.c (.p 103 0)))]) (fun q => [(0, rd S W0), (102, blk 102 [.v (.int .i64 0), .v (.int .i64 0), .v (.int .i64 0), .v (.int .i64 0), .v (.int .i64 0), .v (.int .i64 0), .v (.int .i64 0), .v (.int .i64 0), .v (.int .i64 0), .v (.int .i64 0), .v (.bool false), .v (.int .i64 0), .v (.int .i64 0), .v (.bool false), .v (.int .i64 0), .v (.int .i64 0)] 67), (103, blk 103 [.v (.int .i64 q.1.count.n), .v (.int .i64 q.1.count.sum), .v (.int .i64 q.1.count.low), .v (.int .i64 q.1.weight.n), .v (.int .i64 q.1.weight.sum), .v (.int .i64 q.1.weight.low), .v (.int .i64 q.1.deletes), .v (.int .i64 q.1.free), .v (.int .i64 q.1.most.key), .v (.int .i64 q.1.most.id), .v (.bool q.1.gone.found), .v (.int .i64 q.1.gone.item.key), .v (.int .i64 q.1.gone.item.id), .v (.bool q.1.least.found), .v (.int .i64 q.1.least.item.key), .v (.int .i64 q.1.least.item.id)] 67)]) ?_ ?_
  ·
    refine G.seq ?_
    refine G.rg ?_
    refine K.move (.inr rfl) (gd0 rfl) rfl rfl ?_
    refine K.nil ?_
    refine At.next ?_
    refine G.block ?_
    refine G.loop (σ := { q : Nat × (TSwell × Int) // Lw08_sums.l0 k l0 q.1 q.2 = some x1 }) (fun q => [(0, SV.raw s0), (2, .a (.c (.p 108 0))), (3, .a (.c (.p 109 0))), (4, .a (.c (.v (.int .i64 q.1.2.2))))]) (fun q => [(0, rd S W0), (108, blk 108 [.v (.int .i64 0), .v (.int .i64 0), .v (.int .i64 0), .v (.int .i64 0), .v (.int .i64 0), .v (.int .i64 0), .v (.int .i64 0), .v (.int .i64 0), .v (.int .i64 0), .v (.int .i64 0), .v (.bool false), .v (.int .i64 0), .v (.int .i64 0), .v (.bool false), .v (.int .i64 0), .v (.int .i64 0)] 67), (109, blk 109 [.v (.int .i64 q.1.2.1.count.n), .v (.int .i64 q.1.2.1.count.sum), .v (.int .i64 q.1.2.1.count.low), .v (.int .i64 q.1.2.1.weight.n), .v (.int .i64 q.1.2.1.weight.sum), .v (.int .i64 q.1.2.1.weight.low), .v (.int .i64 q.1.2.1.deletes), .v (.int .i64 q.1.2.1.free), .v (.int .i64 q.1.2.1.most.key), .v (.int .i64 q.1.2.1.most.id), .v (.bool q.1.2.1.gone.found), .v (.int .i64 q.1.2.1.gone.item.key), .v (.int .i64 q.1.2.1.gone.item.id), .v (.bool q.1.2.1.least.found), .v (.int .i64 q.1.2.1.least.item.key), .v (.int .i64 q.1.2.1.least.item.id)] 67)]) (fun q => q.1.1) ⟨(k, (zTSwell, 0)), H1⟩ ?_ ?_
    · exact At.into [(108, 100), (109, 101)] [_, _, _] rfl ⟨rfl, rfl, rfl, rfl, trivial⟩ ⟨rfl, (fun _ => rfl), rfl, (blk_ren rfl rfl), rfl, (blk_ren rfl rfl), trivial⟩ rfl
    ·
      rintro ⟨⟨n0, v1, v2⟩, H1⟩
      show G _ _ [(0, SV.raw s0), (2, .a (.c (.p 108 0))), (3, .a (.c (.p 109 0))), (4, .a (.c (.v (.int .i64 v2))))] [(0, some (rd S W0)), (108, some (blk 108 [.v (.int .i64 0), .v (.int .i64 0), .v (.int .i64 0), .v (.int .i64 0), .v (.int .i64 0), .v (.int .i64 0), .v (.int .i64 0), .v (.int .i64 0), .v (.int .i64 0), .v (.int .i64 0), .v (.bool false), .v (.int .i64 0), .v (.int .i64 0), .v (.bool false), .v (.int .i64 0), .v (.int .i64 0)] 67)), (109, some (blk 109 [.v (.int .i64 v1.count.n), .v (.int .i64 v1.count.sum), .v (.int .i64 v1.count.low), .v (.int .i64 v1.weight.n), .v (.int .i64 v1.weight.sum), .v (.int .i64 v1.weight.low), .v (.int .i64 v1.deletes), .v (.int .i64 v1.free), .v (.int .i64 v1.most.key), .v (.int .i64 v1.most.id), .v (.bool v1.gone.found), .v (.int .i64 v1.gone.item.key), .v (.int .i64 v1.gone.item.id), .v (.bool v1.least.found), .v (.int .i64 v1.least.item.key), .v (.int .i64 v1.least.item.id)] 67))] _ _
      cases n0 with
      | zero => exact absurd H1 (by simp [Lw08_sums.l0])
      | succ n0 =>
        have HL0 := H1
        rw [Lw08_sums.l0] at H1
        refine G.seq ?_
        refine G.seq ?_
        refine G.rg ?_
        refine K.move (.inl rfl) (gd0 rfl) rfl rfl ?_
        refine K.move (.inl rfl) (gd0 rfl) rfl rfl ?_
        refine K.lenL (rV 0 S W0 s0 b0 o0 eTR08Mark 8 l0) (hI0.is 0) (gd0 rfl) rfl rfl Try.underlying60 rfl ?_
        refine K.bin (V := .bool (decide (v2 < (l0.length : Int)))) (gd0 rfl) rfl rfl (fun _ => rfl) rfl ?_
        refine K.nil ?_
        refine At.next ?_
        refine G.cond rfl (fun h1 => ?_) (fun h1 => ?_)
        ·
          replace H1 := bif_t H1 h1
          refine G.skip ?_
          refine At.next ?_
          refine G.seq ?_
          refine G.block ?_
          obtain ⟨x2, hx2, H1⟩ := bnd H1
          obtain ⟨x3, hx3, H1⟩ := bnd H1
          obtain ⟨x4, hx4, H1⟩ := bnd H1
          refine G.rd mixed ?_
          refine K.loadS Y [_, _, _, _, _, _, _, _, _, _, _, _, _, _, _, _] (gd0 rfl) rfl rfl t67 rfl rfl rfl ?_
          refine K.move (.inl rfl) (gd0 rfl) rfl rfl ?_
          refine K.move (.inl rfl) (gd0 rfl) rfl rfl ?_
          refine K.idxL (rV 0 S W0 s0 b0 o0 eTR08Mark 8 l0) ((v2).toNat) (hI0.is 0) (atL_get hx2) (atL_nn hx2) (gd0 rfl) rfl rfl rfl Try.underlying60 el60.size_run rfl ?_
          refine K.fieldL Y (rV 0 S W0 s0 b0 o0 eTR08Mark 8 l0) ((v2).toNat) 0 0 (hI0.is 0) (atL_get hx2) (gd0 rfl) rfl rfl t75 rfl rfl rfl rfl ?_
          refine K.loadSL Y (rV 0 S W0 s0 b0 o0 eTR08Mark 8 l0) ((v2).toNat) 0 [_, _, _, _] [_, _, _, _] (hI0.is 0) (atL_get hx2) (gd0 rfl) rfl rfl t73 rfl rfl rfl rfl rfl ?_
          refine K.move (.inl rfl) (gd0 rfl) rfl rfl ?_
          refine K.move (.inl rfl) (gd0 rfl) rfl rfl ?_
          refine K.idxL (rV 0 S W0 s0 b0 o0 eTR08Mark 8 l0) ((v2).toNat) (hI0.is 0) (atL_get hx2) (atL_nn hx2) (gd0 rfl) rfl rfl rfl Try.underlying60 el60.size_run rfl ?_
          refine K.fieldL Y (rV 0 S W0 s0 b0 o0 eTR08Mark 8 l0) ((v2).toNat) 0 4 (hI0.is 0) (atL_get hx2) (gd0 rfl) rfl rfl t75 rfl rfl rfl rfl ?_
          refine K.load1L Y (rV 0 S W0 s0 b0 o0 eTR08Mark 8 l0) ((v2).toNat) 4 (hI0.is 0) (atL_get hx2) (gd0 rfl) rfl rfl t4 rfl rfl ?_
          refine K.move (.inl rfl) (gd0 rfl) rfl rfl ?_
          refine K.move (.inl rfl) (gd0 rfl) rfl rfl ?_
          refine K.idxL (rV 0 S W0 s0 b0 o0 eTR08Mark 8 l0) ((v2).toNat) (hI0.is 0) (atL_get hx2) (atL_nn hx2) (gd0 rfl) rfl rfl rfl Try.underlying60 el60.size_run rfl ?_
          refine K.fieldL Y (rV 0 S W0 s0 b0 o0 eTR08Mark 8 l0) ((v2).toNat) 0 5 (hI0.is 0) (atL_get hx2) (gd0 rfl) rfl rfl t75 rfl rfl rfl rfl ?_
          refine K.loadSL Y (rV 0 S W0 s0 b0 o0 eTR08Mark 8 l0) ((v2).toNat) 5 [_, _, _] [_, _, _] (hI0.is 0) (atL_get hx2) (gd0 rfl) rfl rfl t65 rfl rfl rfl rfl rfl ?_
          refine K.build Y [(0, _), (1, _), (2, _)] [_, _, _, _, _, _, _, _] [((.tmp 17), _), ((.tmp 22), _), ((.tmp 27), _)] (gd0 rfl) (AllE.spec ⟨rfl, rfl, rfl, trivial⟩) rfl rfl t82 rfl rfl ?_
          refine K.callR [(.func 55, _), ((.tmp 28), _)] (wave_Mark_Sum_con (k := k) hx3) (toFn_func (cf 55 rfl) rfl) (gd0 rfl) ⟨rfl, rfl, trivial⟩ trivial rfl rfl rfl ?_
          refine K.callR [(.func 40, _), ((.tmp 12), _), ((.tmp 29), _)] (wave_Swell_Plus_con (k := k) hx4) (toFn_func (cf 40 rfl) rfl) (gd0 rfl) ⟨rfl, rfl, rfl, trivial⟩ trivial rfl rfl rfl ?_
          refine K.store Y [_, _, _, _, _, _, _, _, _, _, _, _, _, _, _, _] (gd0 rfl) rfl rfl rfl t67 rfl rfl rfl rfl rfl ?_
          refine K.nil ?_
          refine ⟨by kernel_rfl, ?_⟩
          refine At.block_normal ?_
          refine At.next ?_
          refine G.rg ?_
          refine K.move (.inl rfl) (gd0 rfl) rfl rfl ?_
          refine K.bin (V := .int .i64 (w64 (v2 + 1))) (gd0 rfl) rfl rfl (fun _ => rfl) rfl ?_
          refine K.move (.inr rfl) (gd0 rfl) rfl rfl ?_
          refine K.nil ?_
          exact At.again (σ := { q : Nat × (TSwell × Int) // Lw08_sums.l0 k l0 q.1 q.2 = some x1 }) (Fs := fun q => [(0, SV.raw s0), (2, .a (.c (.p 108 0))), (3, .a (.c (.p 109 0))), (4, .a (.c (.v (.int .i64 q.1.2.2))))]) (Tl := fun q => [(0, rd S W0), (108, blk 108 [.v (.int .i64 0), .v (.int .i64 0), .v (.int .i64 0), .v (.int .i64 0), .v (.int .i64 0), .v (.int .i64 0), .v (.int .i64 0), .v (.int .i64 0), .v (.int .i64 0), .v (.int .i64 0), .v (.bool false), .v (.int .i64 0), .v (.int .i64 0), .v (.bool false), .v (.int .i64 0), .v (.int .i64 0)] 67), (109, blk 109 [.v (.int .i64 q.1.2.1.count.n), .v (.int .i64 q.1.2.1.count.sum), .v (.int .i64 q.1.2.1.count.low), .v (.int .i64 q.1.2.1.weight.n), .v (.int .i64 q.1.2.1.weight.sum), .v (.int .i64 q.1.2.1.weight.low), .v (.int .i64 q.1.2.1.deletes), .v (.int .i64 q.1.2.1.free), .v (.int .i64 q.1.2.1.most.key), .v (.int .i64 q.1.2.1.most.id), .v (.bool q.1.2.1.gone.found), .v (.int .i64 q.1.2.1.gone.item.key), .v (.int .i64 q.1.2.1.gone.item.id), .v (.bool q.1.2.1.least.found), .v (.int .i64 q.1.2.1.least.item.key), .v (.int .i64 q.1.2.1.least.item.id)] 67)]) (μ := fun q => q.1.1) (s := ⟨(n0 + 1, (v1, v2)), HL0⟩) ⟨(n0, (x4, (w64 (v2 + 1)))), H1⟩ [] [_, _, _] (Nat.lt_succ_self _) rfl ⟨rfl, rfl, rfl, rfl, trivial⟩ ⟨rfl, (fun _ => rfl), rfl, (blk_ren rfl rfl), rfl, (blk_ren rfl rfl), trivial⟩ rfl
        ·
          replace H1 := bif_f H1 h1
          refine G.exit ?_
          refine At.over_exit ?_
          refine At.over_exit ?_
          refine At.block_hit ?_
          exact At.joined (σ := { v : TSwell // x1 = v }) (Fs := fun q => [(2, .a (.c (.p 102 0))), (3, .a (.c (.p 103 0)))]) (Tl := fun q => [(0, rd S W0), (102, blk 102 [.v (.int .i64 0), .v (.int .i64 0), .v (.int .i64 0), .v (.int .i64 0), .v (.int .i64 0), .v (.int .i64 0), .v (.int .i64 0), .v (.int .i64 0), .v (.int .i64 0), .v (.int .i64 0), .v (.bool false), .v (.int .i64 0), .v (.int .i64 0), .v (.bool false), .v (.int .i64 0), .v (.int .i64 0)] 67), (103, blk 103 [.v (.int .i64 q.1.count.n), .v (.int .i64 q.1.count.sum), .v (.int .i64 q.1.count.low), .v (.int .i64 q.1.weight.n), .v (.int .i64 q.1.weight.sum), .v (.int .i64 q.1.weight.low), .v (.int .i64 q.1.deletes), .v (.int .i64 q.1.free), .v (.int .i64 q.1.most.key), .v (.int .i64 q.1.most.id), .v (.bool q.1.gone.found), .v (.int .i64 q.1.gone.item.key), .v (.int .i64 q.1.gone.item.id), .v (.bool q.1.least.found), .v (.int .i64 q.1.least.item.key), .v (.int .i64 q.1.least.item.id)] 67)]) ⟨v1, (Option.some.inj H1).symm⟩ [(102, 108), (103, 109)] [_, _, _] rfl ⟨rfl, rfl, trivial⟩ ⟨rfl, (fun _ => rfl), rfl, (blk_ren rfl rfl), rfl, (blk_ren rfl rfl), trivial⟩ rfl
  ·
    rintro ⟨_, rfl⟩
    show G _ _ [(2, .a (.c (.p 102 0))), (3, .a (.c (.p 103 0)))] [(0, some (rd S W0)), (102, some (blk 102 [.v (.int .i64 0), .v (.int .i64 0), .v (.int .i64 0), .v (.int .i64 0), .v (.int .i64 0), .v (.int .i64 0), .v (.int .i64 0), .v (.int .i64 0), .v (.int .i64 0), .v (.int .i64 0), .v (.bool false), .v (.int .i64 0), .v (.int .i64 0), .v (.bool false), .v (.int .i64 0), .v (.int .i64 0)] 67)), (103, some (blk 103 [.v (.int .i64 x1.count.n), .v (.int .i64 x1.count.sum), .v (.int .i64 x1.count.low), .v (.int .i64 x1.weight.n), .v (.int .i64 x1.weight.sum), .v (.int .i64 x1.weight.low), .v (.int .i64 x1.deletes), .v (.int .i64 x1.free), .v (.int .i64 x1.most.key), .v (.int .i64 x1.most.id), .v (.bool x1.gone.found), .v (.int .i64 x1.gone.item.key), .v (.int .i64 x1.gone.item.id), .v (.bool x1.least.found), .v (.int .i64 x1.least.item.key), .v (.int .i64 x1.least.item.id)] 67))] _ _
    refine G.seq ?_
    refine G.rg ?_
    refine K.loadS Y [_, _, _, _, _, _, _, _, _, _, _, _, _, _, _, _] (gd0 rfl) rfl rfl t67 rfl rfl rfl ?_
    refine K.store Y [_, _, _, _, _, _, _, _, _, _, _, _, _, _, _, _] (gd0 rfl) rfl rfl rfl t67 rfl rfl rfl rfl rfl ?_
    refine K.nil ?_
    refine At.next ?_
    refine G.ret ?_
    refine At.done Y [(.cell 2 67, .agg [_, _, _, _, _, _, _, _, _, _, _, _, _, _, _, _])] rfl ⟨.st rfl rfl t67 rfl rfl, trivial⟩ (to' := [(0, _)]) ⟨rfl, trivial⟩ ?_ ?_ rfl rfl rfl (.inl rfl)
    · cases H0; rfl
    · cases H0; rfl
theorem Lw08_sums_con {k : Nat}  {S : Foot} {W0 : World} {s0 : Value} {l0 : List TR08Mark} {r : TSwell} (hL0 : LArg S W0 s0 eTR08Mark 8 l0) (H0 : Lw08_sums.f k l0 = some r) : SCon Try.prog 39 [SV.raw s0] [(0, rd S W0)] (.a (.agg ((eTSwell r).map .v))) [(0, rd S W0)] [] :=
  SCon.ren (rn []) (Lw08_sums_con0 (k := k)  hL0 H0) ⟨(fun _ => rfl), trivial⟩ ⟨(fun _ => rfl), trivial⟩ (by simp) (by simp)
theorem R08_Counts_con0 {k : Nat}  {S : Foot} {W0 : World} {s0 : Value} {l0 : List TR08Mark} {r : List Int} (hL0 : LArg S W0 s0 eTR08Mark 8 l0) (H0 : R08_Counts.f k l0 = some r) : SCon Try.prog 58 [SV.raw s0] [(0, rd S W0)] (.a (.c (.nv 30))) [(0, rd S W0), (30, lrow 30 3 intE 1 r)] [30] := by
  rw [R08_Counts.f] at H0
  obtain ⟨b0, o0, hI0⟩ := hL0
  refine spec_of [(0, _)] [(0, _)] 23 Try.func58 rfl Try.ntmps58 rfl rfl rfl rfl (fun β W F => ?_)
  refine G.seq ?_
  refine G.rg ?_
  refine K.nilRow 100 3 intE 1 (.inl rfl) (gd0 rfl) rfl rfl rfl ?_
  refine K.nil ?_
  refine At.next ?_
  refine G.seq ?_
  refine G.rg ?_
  refine K.nilRow 101 3 intE 1 (.inl rfl) (gd0 rfl) rfl rfl rfl ?_
  refine K.nil ?_
  refine At.next ?_
  obtain ⟨x1, H1, H0⟩ := bnd H0
  refine G.seqJ (σ := { v : List Int // x1 = v }) (fun q => [(3, .a (.c (.nv 102)))]) (fun q => [(0, rd S W0), (102, lrow 102 3 intE 1 q.1)]) ?_ ?_
  ·
    refine G.seq ?_
    refine G.rg ?_
    refine K.move (.inr rfl) (gd0 rfl) rfl rfl ?_
    refine K.nil ?_
    refine At.next ?_
    refine G.block ?_
    refine G.loop (σ := { q : Nat × (List Int × Int) // R08_Counts.l0 k l0 q.1 q.2 = some x1 }) (fun q => [(0, SV.raw s0), (3, .a (.c (.nv 105))), (4, .a (.c (.v (.int .i64 q.1.2.2))))]) (fun q => [(0, rd S W0), (105, lrow 105 3 intE 1 q.1.2.1)]) (fun q => q.1.1) ⟨(k, (([] : List Int), 0)), H1⟩ ?_ ?_
    · exact At.into [(105, 101)] [_, _] rfl ⟨rfl, rfl, rfl, trivial⟩ ⟨rfl, (fun _ => rfl), rfl, (lrow_ren rfl), trivial⟩ rfl
    ·
      rintro ⟨⟨n0, v1, v2⟩, H1⟩
      show G _ _ [(0, SV.raw s0), (3, .a (.c (.nv 105))), (4, .a (.c (.v (.int .i64 v2))))] [(0, some (rd S W0)), (105, some (lrow 105 3 intE 1 v1))] _ _
      cases n0 with
      | zero => exact absurd H1 (by simp [R08_Counts.l0])
      | succ n0 =>
        have HL0 := H1
        rw [R08_Counts.l0] at H1
        refine G.seq ?_
        refine G.seq ?_
        refine G.rg ?_
        refine K.move (.inl rfl) (gd0 rfl) rfl rfl ?_
        refine K.move (.inl rfl) (gd0 rfl) rfl rfl ?_
        refine K.lenL (rV 0 S W0 s0 b0 o0 eTR08Mark 8 l0) (hI0.is 0) (gd0 rfl) rfl rfl Try.underlying60 rfl ?_
        refine K.bin (V := .bool (decide (v2 < (l0.length : Int)))) (gd0 rfl) rfl rfl (fun _ => rfl) rfl ?_
        refine K.nil ?_
        refine At.next ?_
        refine G.cond rfl (fun h1 => ?_) (fun h1 => ?_)
        ·
          replace H1 := bif_t H1 h1
          refine G.skip ?_
          refine At.next ?_
          refine G.seq ?_
          refine G.block ?_
          refine G.seq ?_
          refine G.rg ?_
          refine K.move (.inr rfl) (gd0 rfl) rfl rfl ?_
          refine K.nil ?_
          refine At.next ?_
          refine G.seq ?_
          refine G.seq ?_
          obtain ⟨x2, hx2, H1⟩ := bnd H1
          refine G.rg ?_
          refine K.move (.inl rfl) (gd0 rfl) rfl rfl ?_
          refine K.move (.inl rfl) (gd0 rfl) rfl rfl ?_
          refine K.idxL (rV 0 S W0 s0 b0 o0 eTR08Mark 8 l0) ((v2).toNat) (hI0.is 0) (atL_get hx2) (atL_nn hx2) (gd0 rfl) rfl rfl rfl Try.underlying60 el60.size_run rfl ?_
          refine K.fieldL Y (rV 0 S W0 s0 b0 o0 eTR08Mark 8 l0) ((v2).toNat) 0 0 (hI0.is 0) (atL_get hx2) (gd0 rfl) rfl rfl t75 rfl rfl rfl rfl ?_
          refine K.fieldL Y (rV 0 S W0 s0 b0 o0 eTR08Mark 8 l0) ((v2).toNat) 0 1 (hI0.is 0) (atL_get hx2) (gd0 rfl) rfl rfl t73 rfl rfl rfl rfl ?_
          refine K.load1L Y (rV 0 S W0 s0 b0 o0 eTR08Mark 8 l0) ((v2).toNat) 1 (hI0.is 0) (atL_get hx2) (gd0 rfl) rfl rfl t4 rfl rfl ?_
          refine K.nil ?_
          refine At.next ?_
          refine G.cond rfl (fun h2 => ?_) (fun h2 => ?_)
          ·
            replace H1 := bif_t H1 h2
            refine G.rg ?_
            refine K.move (.inr rfl) (gd0 rfl) rfl rfl ?_
            refine K.nil ?_
            refine At.next ?_
            obtain ⟨h3, H1⟩ := grd H1
            refine G.rg ?_
            refine K.move (.inl rfl) (gd0 rfl) rfl rfl ?_
            refine K.move (.inl rfl) (gd0 rfl) rfl rfl ?_
            refine K.buildL Y 106 ([1] : List Int) [(0, _)] [((.tmp 19), _)] intE_len (gd0 rfl) (AllE.spec ⟨rfl, trivial⟩) rfl rfl Try.underlying26 t3 rfl rfl rfl rfl rfl rfl rfl rfl ?_
            refine K.appendL 107 (lrowV 106 3 intE 1 ([1] : List Int)) _ el26 (lrowV_is intE_len (by decide)) intE_one (gd0 rfl) rfl rfl rfl rfl rfl (ap_m h3) (ap_b h3 (by decide)) rfl rfl rfl rfl rfl rfl ?_
            refine K.move (.inr rfl) (gd0 rfl) rfl rfl ?_
            refine K.nil ?_
            refine At.block_normal ?_
            refine At.next ?_
            refine G.rg ?_
            refine K.move (.inl rfl) (gd0 rfl) rfl rfl ?_
            refine K.bin (V := .int .i64 (w64 (v2 + 1))) (gd0 rfl) rfl rfl (fun _ => rfl) rfl ?_
            refine K.move (.inr rfl) (gd0 rfl) rfl rfl ?_
            refine K.nil ?_
            exact At.again (σ := { q : Nat × (List Int × Int) // R08_Counts.l0 k l0 q.1 q.2 = some x1 }) (Fs := fun q => [(0, SV.raw s0), (3, .a (.c (.nv 105))), (4, .a (.c (.v (.int .i64 q.1.2.2))))]) (Tl := fun q => [(0, rd S W0), (105, lrow 105 3 intE 1 q.1.2.1)]) (μ := fun q => q.1.1) (s := ⟨(n0 + 1, (v1, v2)), HL0⟩) ⟨(n0, ((v1 ++ ([1] : List Int)), (w64 (v2 + 1)))), H1⟩ [(105, 107)] [_, _] (Nat.lt_succ_self _) rfl ⟨rfl, rfl, rfl, trivial⟩ ⟨rfl, (fun _ => rfl), rfl, (lrow_ren rfl), trivial⟩ rfl
          ·
            replace H1 := bif_f H1 h2
            refine G.skip ?_
            refine At.next ?_
            obtain ⟨h4, H1⟩ := grd H1
            refine G.rg ?_
            refine K.move (.inl rfl) (gd0 rfl) rfl rfl ?_
            refine K.move (.inl rfl) (gd0 rfl) rfl rfl ?_
            refine K.buildL Y 108 ([(-1)] : List Int) [(0, _)] [((.tmp 19), _)] intE_len (gd0 rfl) (AllE.spec ⟨rfl, trivial⟩) rfl rfl Try.underlying26 t3 rfl rfl rfl rfl rfl rfl rfl rfl ?_
            refine K.appendL 109 (lrowV 108 3 intE 1 ([(-1)] : List Int)) _ el26 (lrowV_is intE_len (by decide)) intE_one (gd0 rfl) rfl rfl rfl rfl rfl (ap_m h4) (ap_b h4 (by decide)) rfl rfl rfl rfl rfl rfl ?_
            refine K.move (.inr rfl) (gd0 rfl) rfl rfl ?_
            refine K.nil ?_
            refine At.block_normal ?_
            refine At.next ?_
            refine G.rg ?_
            refine K.move (.inl rfl) (gd0 rfl) rfl rfl ?_
            refine K.bin (V := .int .i64 (w64 (v2 + 1))) (gd0 rfl) rfl rfl (fun _ => rfl) rfl ?_
            refine K.move (.inr rfl) (gd0 rfl) rfl rfl ?_
            refine K.nil ?_
            exact At.again (σ := { q : Nat × (List Int × Int) // R08_Counts.l0 k l0 q.1 q.2 = some x1 }) (Fs := fun q => [(0, SV.raw s0), (3, .a (.c (.nv 105))), (4, .a (.c (.v (.int .i64 q.1.2.2))))]) (Tl := fun q => [(0, rd S W0), (105, lrow 105 3 intE 1 q.1.2.1)]) (μ := fun q => q.1.1) (s := ⟨(n0 + 1, (v1, v2)), HL0⟩) ⟨(n0, ((v1 ++ ([(-1)] : List Int)), (w64 (v2 + 1)))), H1⟩ [(105, 109)] [_, _] (Nat.lt_succ_self _) rfl ⟨rfl, rfl, rfl, trivial⟩ ⟨rfl, (fun _ => rfl), rfl, (lrow_ren rfl), trivial⟩ rfl
        ·
          replace H1 := bif_f H1 h1
          refine G.exit ?_
          refine At.over_exit ?_
          refine At.over_exit ?_
          refine At.block_hit ?_
          exact At.joined (σ := { v : List Int // x1 = v }) (Fs := fun q => [(3, .a (.c (.nv 102)))]) (Tl := fun q => [(0, rd S W0), (102, lrow 102 3 intE 1 q.1)]) ⟨v1, (Option.some.inj H1).symm⟩ [(102, 105)] [_, _] rfl ⟨rfl, trivial⟩ ⟨rfl, (fun _ => rfl), rfl, (lrow_ren rfl), trivial⟩ rfl
  ·
    rintro ⟨_, rfl⟩
    show G _ _ [(3, .a (.c (.nv 102)))] [(0, some (rd S W0)), (102, some (lrow 102 3 intE 1 x1))] _ _
    refine G.seq ?_
    refine G.rg ?_
    refine K.move (.inl rfl) (gd0 rfl) rfl rfl ?_
    refine K.move (.inr rfl) (gd0 rfl) rfl rfl ?_
    refine K.nil ?_
    refine At.next ?_
    refine G.ret ?_
    refine At.ren (fs' := [(2, .a (.c (.nv 30)))]) (tl := [(0, rd S W0), (30, lrow 30 3 intE 1 x1)]) [(30, 102)] [_, _] rfl ⟨rfl, trivial⟩ ⟨rfl, (fun _ => rfl), rfl, (lrow_ren rfl), trivial⟩ rfl ?_
    refine At.done Y [(.tmp 2, .c _)] rfl ⟨.tmp rfl, trivial⟩ (to' := [(0, _), (30, _)]) ⟨rfl, rfl, trivial⟩ ?_ ?_ rfl rfl rfl (.inl rfl)
    · cases H0; rfl
    · cases H0; rfl
theorem R08_Counts_con {k : Nat}  {S : Foot} {W0 : World} {s0 : Value} {l0 : List TR08Mark} {r : List Int} (hL0 : LArg S W0 s0 eTR08Mark 8 l0) (H0 : R08_Counts.f k l0 = some r) (m30 : Nat) (hd : ndB [m30] = true) : SCon Try.prog 58 [SV.raw s0] [(0, rd S W0)] (.a (.c (.nv m30))) [(0, rd S W0), (m30, lrow m30 3 intE 1 r)] [m30] :=
  SCon.ren (rn [(30, m30)]) (R08_Counts_con0 (k := k)  hL0 H0) ⟨(fun _ => rfl), trivial⟩ ⟨(fun _ => rfl), (lrow_ren rfl), trivial⟩ (rn_nd hd rfl rfl) (rn_ks hd rfl rfl rfl)
theorem R06_Sum_con0 {k : Nat}  {S : Foot} {W0 : World} {s0 : Value} {l0 : List Int} {a1 : Int} {r : Int} (hL0 : LArg S W0 s0 intE 1 l0) (H0 : R06_Sum.f k l0 a1 = some r) : SCon Try.prog 73 [SV.raw s0, .a (.c (.v (.int .i64 a1)))] [(0, rd S W0)] (.a (.c (.v (.int .i64 r)))) [(0, rd S W0)] [] := by
  rw [R06_Sum.f] at H0
  obtain ⟨b0, o0, hI0⟩ := hL0
  refine spec_of [(0, _), (1, _)] [(0, _)] 19 Try.func73 rfl Try.ntmps73 rfl rfl rfl rfl (fun β W F => ?_)
  refine G.seq ?_
  refine G.rg ?_
  refine K.move (.inr rfl) (gd0 rfl) rfl rfl ?_
  refine K.nil ?_
  refine At.next ?_
  refine G.seq ?_
  refine G.rg ?_
  refine K.move (.inr rfl) (gd0 rfl) rfl rfl ?_
  refine K.nil ?_
  refine At.next ?_
  obtain ⟨x1, H1, H0⟩ := bnd H0
  refine G.seqJ (σ := { v : Int // x1 = v }) (fun q => [(5, .a (.c (.v (.int .i64 q.1))))]) (fun q => [(0, rd S W0)]) ?_ ?_
  ·
    refine G.seq ?_
    refine G.rg ?_
    refine K.move (.inr rfl) (gd0 rfl) rfl rfl ?_
    refine K.nil ?_
    refine At.next ?_
    refine G.block ?_
    refine G.loop (σ := { q : Nat × (Int × Int) // R06_Sum.l0 k l0 a1 q.1 q.2 = some x1 }) (fun q => [(0, SV.raw s0), (1, .a (.c (.v (.int .i64 a1)))), (5, .a (.c (.v (.int .i64 q.1.2.1)))), (6, .a (.c (.v (.int .i64 q.1.2.2))))]) (fun q => [(0, rd S W0)]) (fun q => q.1.1) ⟨(k, (0, 0)), H1⟩ ?_ ?_
    · exact At.into [] [_] rfl ⟨rfl, rfl, rfl, rfl, trivial⟩ ⟨rfl, (fun _ => rfl), trivial⟩ rfl
    ·
      rintro ⟨⟨n0, v1, v2⟩, H1⟩
      show G _ _ [(0, SV.raw s0), (1, .a (.c (.v (.int .i64 a1)))), (5, .a (.c (.v (.int .i64 v1)))), (6, .a (.c (.v (.int .i64 v2))))] [(0, some (rd S W0))] _ _
      cases n0 with
      | zero => exact absurd H1 (by simp [R06_Sum.l0])
      | succ n0 =>
        have HL0 := H1
        rw [R06_Sum.l0] at H1
        refine G.seq ?_
        refine G.seq ?_
        refine G.rg ?_
        refine K.move (.inl rfl) (gd0 rfl) rfl rfl ?_
        refine K.move (.inl rfl) (gd0 rfl) rfl rfl ?_
        refine K.bin (V := .bool (decide (v2 < a1))) (gd0 rfl) rfl rfl (fun _ => rfl) rfl ?_
        refine K.nil ?_
        refine At.next ?_
        refine G.cond rfl (fun h1 => ?_) (fun h1 => ?_)
        ·
          replace H1 := bif_t H1 h1
          refine G.skip ?_
          refine At.next ?_
          refine G.seq ?_
          refine G.block ?_
          obtain ⟨x2, hx2, H1⟩ := bnd H1
          refine G.rg ?_
          refine K.move (.inl rfl) (gd0 rfl) rfl rfl ?_
          refine K.move (.inl rfl) (gd0 rfl) rfl rfl ?_
          refine K.move (.inl rfl) (gd0 rfl) rfl rfl ?_
          refine K.idxL (rV 0 S W0 s0 b0 o0 intE 1 l0) ((v2).toNat) (hI0.is 0) (atL_get hx2) (atL_nn hx2) (gd0 rfl) rfl rfl rfl Try.underlying26 el26.size_run rfl ?_
          refine K.load1L Y (rV 0 S W0 s0 b0 o0 intE 1 l0) ((v2).toNat) 0 (hI0.is 0) (atL_get hx2) (gd0 rfl) rfl rfl t3 rfl rfl ?_
          refine K.bin (V := .int .i64 (w64 (v1 + x2))) (gd0 rfl) rfl rfl (fun _ => rfl) rfl ?_
          refine K.move (.inr rfl) (gd0 rfl) rfl rfl ?_
          refine K.nil ?_
          refine At.block_normal ?_
          refine At.next ?_
          refine G.rg ?_
          refine K.move (.inl rfl) (gd0 rfl) rfl rfl ?_
          refine K.bin (V := .int .i64 (w64 (v2 + 1))) (gd0 rfl) rfl rfl (fun _ => rfl) rfl ?_
          refine K.move (.inr rfl) (gd0 rfl) rfl rfl ?_
          refine K.nil ?_
          exact At.again (σ := { q : Nat × (Int × Int) // R06_Sum.l0 k l0 a1 q.1 q.2 = some x1 }) (Fs := fun q => [(0, SV.raw s0), (1, .a (.c (.v (.int .i64 a1)))), (5, .a (.c (.v (.int .i64 q.1.2.1)))), (6, .a (.c (.v (.int .i64 q.1.2.2))))]) (Tl := fun q => [(0, rd S W0)]) (μ := fun q => q.1.1) (s := ⟨(n0 + 1, (v1, v2)), HL0⟩) ⟨(n0, ((w64 (v1 + x2)), (w64 (v2 + 1)))), H1⟩ [] [_] (Nat.lt_succ_self _) rfl ⟨rfl, rfl, rfl, rfl, trivial⟩ ⟨rfl, (fun _ => rfl), trivial⟩ rfl
        ·
          replace H1 := bif_f H1 h1
          refine G.exit ?_
          refine At.over_exit ?_
          refine At.over_exit ?_
          refine At.block_hit ?_
          exact At.joined (σ := { v : Int // x1 = v }) (Fs := fun q => [(5, .a (.c (.v (.int .i64 q.1))))]) (Tl := fun q => [(0, rd S W0)]) ⟨v1, (Option.some.inj H1).symm⟩ [] [_] rfl ⟨rfl, trivial⟩ ⟨rfl, (fun _ => rfl), trivial⟩ rfl
  ·
    rintro ⟨_, rfl⟩
    show G _ _ [(5, .a (.c (.v (.int .i64 x1))))] [(0, some (rd S W0))] _ _
    refine G.seq ?_
    refine G.rg ?_
    refine K.move (.inl rfl) (gd0 rfl) rfl rfl ?_
    refine K.move (.inr rfl) (gd0 rfl) rfl rfl ?_
    refine K.nil ?_
    refine At.next ?_
    refine G.ret ?_
    refine At.done Y [(.tmp 4, .c _)] rfl ⟨.tmp rfl, trivial⟩ (to' := [(0, _)]) ⟨rfl, trivial⟩ ?_ ?_ rfl rfl rfl (.inl rfl)
    · cases H0; rfl
    · cases H0; rfl
theorem R06_Sum_con {k : Nat}  {S : Foot} {W0 : World} {s0 : Value} {l0 : List Int} {a1 : Int} {r : Int} (hL0 : LArg S W0 s0 intE 1 l0) (H0 : R06_Sum.f k l0 a1 = some r) : SCon Try.prog 73 [SV.raw s0, .a (.c (.v (.int .i64 a1)))] [(0, rd S W0)] (.a (.c (.v (.int .i64 r)))) [(0, rd S W0)] [] :=
  SCon.ren (rn []) (R06_Sum_con0 (k := k)  hL0 H0) ⟨(fun _ => rfl), trivial⟩ ⟨(fun _ => rfl), trivial⟩ (by simp) (by simp)
theorem R06_Low_con0 {k : Nat}  {S : Foot} {W0 : World} {s0 : Value} {l0 : List Int} {r : Int} (hL0 : LArg S W0 s0 intE 1 l0) (H0 : R06_Low.f k l0 = some r) : SCon Try.prog 74 [SV.raw s0] [(0, rd S W0)] (.a (.c (.v (.int .i64 r)))) [(0, rd S W0)] [] := by
  rw [R06_Low.f] at H0
  obtain ⟨b0, o0, hI0⟩ := hL0
  refine spec_of [(0, _)] [(0, _)] 26 Try.func74 rfl Try.ntmps74 rfl rfl rfl rfl (fun β W F => ?_)
  refine G.seq ?_
  refine G.rg ?_
  refine K.move (.inr rfl) (gd0 rfl) rfl rfl ?_
  refine K.nil ?_
  refine At.next ?_
  refine G.seq ?_
  refine G.seq ?_
  refine G.rg ?_
  refine K.move (.inl rfl) (gd0 rfl) rfl rfl ?_
  refine K.lenL (rV 0 S W0 s0 b0 o0 intE 1 l0) (hI0.is 0) (gd0 rfl) rfl rfl Try.underlying26 rfl ?_
  refine K.bin (V := .bool ((l0.length : Int) == 0)) (gd0 rfl) rfl rfl (fun _ => rfl) rfl ?_
  refine K.nil ?_
  refine At.next ?_
  refine G.cond rfl (fun h1 => ?_) (fun h1 => ?_)
  ·
    replace H0 := bif_t H0 h1
    refine G.seq ?_
    refine G.rg ?_
    refine K.move (.inr rfl) (gd0 rfl) rfl rfl ?_
    refine K.nil ?_
    refine At.next ?_
    refine G.ret ?_
    refine At.over_ret ?_
    refine At.done Y [(.tmp 2, .c _)] rfl ⟨.tmp rfl, trivial⟩ (to' := [(0, _)]) ⟨rfl, trivial⟩ ?_ ?_ rfl rfl rfl (.inl rfl)
    · cases H0; rfl
    · cases H0; rfl
  ·
    replace H0 := bif_f H0 h1
    refine G.skip ?_
    refine At.next ?_
    refine G.seq ?_
    obtain ⟨x1, hx1, H0⟩ := bnd H0
    refine G.rg ?_
    refine K.move (.inl rfl) (gd0 rfl) rfl rfl ?_
    refine K.idxL (rV 0 S W0 s0 b0 o0 intE 1 l0) ((0 : Int).toNat) (hI0.is 0) (atL_get hx1) (atL_nn hx1) (gd0 rfl) rfl rfl rfl Try.underlying26 el26.size_run rfl ?_
    refine K.load1L Y (rV 0 S W0 s0 b0 o0 intE 1 l0) ((0 : Int).toNat) 0 (hI0.is 0) (atL_get hx1) (gd0 rfl) rfl rfl t3 rfl rfl ?_
    refine K.move (.inr rfl) (gd0 rfl) rfl rfl ?_
    refine K.nil ?_
    refine At.next ?_
    obtain ⟨x2, H1, H0⟩ := bnd H0
    refine G.seqJ (σ := { v : Int // x2 = v }) (fun q => [(3, .a (.c (.v (.int .i64 q.1))))]) (fun q => [(0, rd S W0)]) ?_ ?_
    ·
      refine G.seq ?_
      refine G.rg ?_
      refine K.move (.inr rfl) (gd0 rfl) rfl rfl ?_
      refine K.nil ?_
      refine At.next ?_
      refine G.block ?_
      refine G.loop (σ := { q : Nat × (Int × Int) // R06_Low.l0 k l0 q.1 q.2 = some x2 }) (fun q => [(0, SV.raw s0), (3, .a (.c (.v (.int .i64 q.1.2.1)))), (4, .a (.c (.v (.int .i64 q.1.2.2))))]) (fun q => [(0, rd S W0)]) (fun q => q.1.1) ⟨(k, (x1, 2)), H1⟩ ?_ ?_
      · exact At.into [] [_] rfl ⟨rfl, rfl, rfl, trivial⟩ ⟨rfl, (fun _ => rfl), trivial⟩ rfl
      ·
        rintro ⟨⟨n0, v1, v2⟩, H1⟩
        show G _ _ [(0, SV.raw s0), (3, .a (.c (.v (.int .i64 v1)))), (4, .a (.c (.v (.int .i64 v2))))] [(0, some (rd S W0))] _ _
        cases n0 with
        | zero => exact absurd H1 (by simp [R06_Low.l0])
        | succ n0 =>
          have HL0 := H1
          rw [R06_Low.l0] at H1
          refine G.seq ?_
          refine G.seq ?_
          refine G.rg ?_
          refine K.move (.inl rfl) (gd0 rfl) rfl rfl ?_
          refine K.move (.inl rfl) (gd0 rfl) rfl rfl ?_
          refine K.lenL (rV 0 S W0 s0 b0 o0 intE 1 l0) (hI0.is 0) (gd0 rfl) rfl rfl Try.underlying26 rfl ?_
          refine K.bin (V := .bool (decide (v2 ≤ (l0.length : Int)))) (gd0 rfl) rfl rfl (fun _ => rfl) rfl ?_
          refine K.nil ?_
          refine At.next ?_
          refine G.cond rfl (fun h2 => ?_) (fun h2 => ?_)
          ·
            replace H1 := bif_t H1 h2
            refine G.skip ?_
            refine At.next ?_
            refine G.seq ?_
            refine G.block ?_
            refine G.seq ?_
            obtain ⟨x3, hx3, H1⟩ := bnd H1
            refine G.rg ?_
            refine K.move (.inl rfl) (gd0 rfl) rfl rfl ?_
            refine K.move (.inl rfl) (gd0 rfl) rfl rfl ?_
            refine K.callV [(.func 73, _), ((.tmp 18), _), ((.tmp 19), _)] [(0, rd S W0)] [] [] (fun β => [SV.raw s0, .a (.c (.v (.int .i64 v2)))]) (fun β w S2 h => R06_Sum_con (k := k) ((hI0.isC 0).larg ⟨_, List.mem_cons_self⟩ h) hx3) (toFn_func (cf 73 rfl) rfl) (gd0 rfl) ⟨rfl, rfl, rfl, trivial⟩ (fun _ => rfl) ⟨rfl, trivial⟩ rfl rfl rfl rfl rfl rfl ?_
            refine K.move (.inr rfl) (gd0 rfl) rfl rfl ?_
            refine K.nil ?_
            refine At.next ?_
            refine G.seq ?_
            refine G.rg ?_
            refine K.move (.inl rfl) (gd0 rfl) rfl rfl ?_
            refine K.move (.inl rfl) (gd0 rfl) rfl rfl ?_
            refine K.bin (V := .bool (decide (x3 < v1))) (gd0 rfl) rfl rfl (fun _ => rfl) rfl ?_
            refine K.nil ?_
            refine At.next ?_
            refine G.cond rfl (fun h3 => ?_) (fun h3 => ?_)
            ·
              replace H1 := bif_t H1 h3
              refine G.rg ?_
              refine K.move (.inl rfl) (gd0 rfl) rfl rfl ?_
              refine K.move (.inr rfl) (gd0 rfl) rfl rfl ?_
              refine K.nil ?_
              refine At.block_normal ?_
              refine At.next ?_
              refine G.rg ?_
              refine K.move (.inl rfl) (gd0 rfl) rfl rfl ?_
              refine K.bin (V := .int .i64 (w64 (v2 + 1))) (gd0 rfl) rfl rfl (fun _ => rfl) rfl ?_
              refine K.move (.inr rfl) (gd0 rfl) rfl rfl ?_
              refine K.nil ?_
              exact At.again (σ := { q : Nat × (Int × Int) // R06_Low.l0 k l0 q.1 q.2 = some x2 }) (Fs := fun q => [(0, SV.raw s0), (3, .a (.c (.v (.int .i64 q.1.2.1)))), (4, .a (.c (.v (.int .i64 q.1.2.2))))]) (Tl := fun q => [(0, rd S W0)]) (μ := fun q => q.1.1) (s := ⟨(n0 + 1, (v1, v2)), HL0⟩) ⟨(n0, (x3, (w64 (v2 + 1)))), H1⟩ [] [_] (Nat.lt_succ_self _) rfl ⟨rfl, rfl, rfl, trivial⟩ ⟨rfl, (fun _ => rfl), trivial⟩ rfl
            ·
              replace H1 := bif_f H1 h3
              refine G.skip ?_
              refine At.block_normal ?_
              refine At.next ?_
              refine G.rg ?_
              refine K.move (.inl rfl) (gd0 rfl) rfl rfl ?_
              refine K.bin (V := .int .i64 (w64 (v2 + 1))) (gd0 rfl) rfl rfl (fun _ => rfl) rfl ?_
              refine K.move (.inr rfl) (gd0 rfl) rfl rfl ?_
              refine K.nil ?_
              exact At.again (σ := { q : Nat × (Int × Int) // R06_Low.l0 k l0 q.1 q.2 = some x2 }) (Fs := fun q => [(0, SV.raw s0), (3, .a (.c (.v (.int .i64 q.1.2.1)))), (4, .a (.c (.v (.int .i64 q.1.2.2))))]) (Tl := fun q => [(0, rd S W0)]) (μ := fun q => q.1.1) (s := ⟨(n0 + 1, (v1, v2)), HL0⟩) ⟨(n0, (v1, (w64 (v2 + 1)))), H1⟩ [] [_] (Nat.lt_succ_self _) rfl ⟨rfl, rfl, rfl, trivial⟩ ⟨rfl, (fun _ => rfl), trivial⟩ rfl
          ·
            replace H1 := bif_f H1 h2
            refine G.exit ?_
            refine At.over_exit ?_
            refine At.over_exit ?_
            refine At.block_hit ?_
            exact At.joined (σ := { v : Int // x2 = v }) (Fs := fun q => [(3, .a (.c (.v (.int .i64 q.1))))]) (Tl := fun q => [(0, rd S W0)]) ⟨v1, (Option.some.inj H1).symm⟩ [] [_] rfl ⟨rfl, trivial⟩ ⟨rfl, (fun _ => rfl), trivial⟩ rfl
    ·
      rintro ⟨_, rfl⟩
      show G _ _ [(3, .a (.c (.v (.int .i64 x2))))] [(0, some (rd S W0))] _ _
      refine G.seq ?_
      refine G.rg ?_
      refine K.move (.inl rfl) (gd0 rfl) rfl rfl ?_
      refine K.move (.inr rfl) (gd0 rfl) rfl rfl ?_
      refine K.nil ?_
      refine At.next ?_
      refine G.ret ?_
      refine At.done Y [(.tmp 2, .c _)] rfl ⟨.tmp rfl, trivial⟩ (to' := [(0, _)]) ⟨rfl, trivial⟩ ?_ ?_ rfl rfl rfl (.inl rfl)
      · cases H0; rfl
      · cases H0; rfl
theorem R06_Low_con {k : Nat}  {S : Foot} {W0 : World} {s0 : Value} {l0 : List Int} {r : Int} (hL0 : LArg S W0 s0 intE 1 l0) (H0 : R06_Low.f k l0 = some r) : SCon Try.prog 74 [SV.raw s0] [(0, rd S W0)] (.a (.c (.v (.int .i64 r)))) [(0, rd S W0)] [] :=
  SCon.ren (rn []) (R06_Low_con0 (k := k)  hL0 H0) ⟨(fun _ => rfl), trivial⟩ ⟨(fun _ => rfl), trivial⟩ (by simp) (by simp)
theorem R08_Tide_con0 {k : Nat}  {S : Foot} {W0 : World} {s0 : Value} {l0 : List Int} {r : TArr3Int} (hL0 : LArg S W0 s0 intE 1 l0) (H0 : R08_Tide.f k l0 = some r) : SCon Try.prog 57 [SV.raw s0] [(0, rd S W0)] (.a (.agg ((eTArr3Int r).map .v))) [(0, rd S W0)] [] := by
  rw [R08_Tide.f] at H0
  obtain ⟨b0, o0, hI0⟩ := hL0
  refine spec_of [(0, _)] [(0, _)] 12 Try.func57 rfl Try.ntmps57 rfl rfl rfl rfl (fun β W F => ?_)
  refine G.seq ?_
  refine G.rg ?_
  refine K.alloc Y 100 [_, _, _] (gd0 rfl) t107 rfl rfl rfl rfl rfl ?_
  refine K.nil ?_
  refine At.next ?_
  refine G.seq ?_
  obtain ⟨x1, hx1, H0⟩ := bnd H0
  obtain ⟨x2, hx2, H0⟩ := bnd H0
  refine G.rg ?_
  refine K.move (.inl rfl) (gd0 rfl) rfl rfl ?_
  refine K.lenL (rV 0 S W0 s0 b0 o0 intE 1 l0) (hI0.is 0) (gd0 rfl) rfl rfl Try.underlying26 rfl ?_
  refine K.move (.inl rfl) (gd0 rfl) rfl rfl ?_
  refine K.move (.inl rfl) (gd0 rfl) rfl rfl ?_
  refine K.lenL (rV 0 S W0 s0 b0 o0 intE 1 l0) (hI0.is 0) (gd0 rfl) rfl rfl Try.underlying26 rfl ?_
  refine K.callV [(.func 73, _), ((.tmp 5), _), ((.tmp 7), _)] [(0, rd S W0)] [] [] (fun β => [SV.raw s0, .a (.c (.v (.int .i64 (l0.length : Int))))]) (fun β w S2 h => R06_Sum_con (k := k) ((hI0.isC 0).larg ⟨_, List.mem_cons_self⟩ h) hx1) (toFn_func (cf 73 rfl) rfl) (gd0 rfl) ⟨rfl, rfl, rfl, trivial⟩ (fun _ => rfl) ⟨rfl, trivial⟩ rfl rfl rfl rfl rfl rfl ?_
  refine K.move (.inl rfl) (gd0 rfl) rfl rfl ?_
  refine K.callV [(.func 74, _), ((.tmp 9), _)] [(0, rd S W0)] [] [] (fun β => [SV.raw s0]) (fun β w S2 h => R06_Low_con (k := k) ((hI0.isC 0).larg ⟨_, List.mem_cons_self⟩ h) hx2) (toFn_func (cf 74 rfl) rfl) (gd0 rfl) ⟨rfl, rfl, trivial⟩ (fun _ => rfl) ⟨rfl, trivial⟩ rfl rfl rfl rfl rfl rfl ?_
  refine K.buildA [(0, _), (1, _), (2, _)] [_, _, _] [((.tmp 4), _), ((.tmp 8), _), ((.tmp 10), _)] tA107 (gd0 rfl) (AllE.spec ⟨rfl, rfl, rfl, trivial⟩) rfl rfl rfl rfl ?_
  refine K.store Y [_, _, _] (gd0 rfl) rfl rfl rfl t107 rfl rfl rfl rfl rfl ?_
  refine K.nil ?_
  refine At.next ?_
  refine G.ret ?_
  refine At.done Y [(.cell 2 107, .agg [_, _, _])] rfl ⟨.st rfl rfl t107 rfl rfl, trivial⟩ (to' := [(0, _)]) ⟨rfl, trivial⟩ ?_ ?_ rfl rfl rfl (.inl rfl)
  · cases H0; rfl
  · cases H0; rfl
theorem R08_Tide_con {k : Nat}  {S : Foot} {W0 : World} {s0 : Value} {l0 : List Int} {r : TArr3Int} (hL0 : LArg S W0 s0 intE 1 l0) (H0 : R08_Tide.f k l0 = some r) : SCon Try.prog 57 [SV.raw s0] [(0, rd S W0)] (.a (.agg ((eTArr3Int r).map .v))) [(0, rd S W0)] [] :=
  SCon.ren (rn []) (R08_Tide_con0 (k := k)  hL0 H0) ⟨(fun _ => rfl), trivial⟩ ⟨(fun _ => rfl), trivial⟩ (by simp) (by simp)
theorem R08_Weights_con0 {k : Nat}  {S : Foot} {W0 : World} {s0 : Value} {l0 : List TR08Mark} {r : List Int} (hL0 : LArg S W0 s0 eTR08Mark 8 l0) (H0 : R08_Weights.f k l0 = some r) : SCon Try.prog 59 [SV.raw s0] [(0, rd S W0)] (.a (.c (.nv 30))) [(0, rd S W0), (30, lrow 30 3 intE 1 r)] [30] := by
  rw [R08_Weights.f] at H0
  obtain ⟨b0, o0, hI0⟩ := hL0
  refine spec_of [(0, _)] [(0, _)] 30 Try.func59 rfl Try.ntmps59 rfl rfl rfl rfl (fun β W F => ?_)
  refine G.seq ?_
  refine G.rg ?_
  refine K.nilRow 100 3 intE 1 (.inl rfl) (gd0 rfl) rfl rfl rfl ?_
  refine K.nil ?_
  refine At.next ?_
  refine G.seq ?_
  obtain ⟨x1, hx1, H0⟩ := bnd H0
  refine G.rg ?_
  refine K.move (.inl rfl) (gd0 rfl) rfl rfl ?_
  refine K.callV [(.func 58, _), ((.tmp 5), _)] [(0, rd S W0)] [] [(101, _)] (fun β => [SV.raw s0]) (fun β w S2 h => R08_Counts_con (k := k) ((hI0.isC 0).larg ⟨_, List.mem_cons_self⟩ h) hx1 101 rfl) (toFn_func (cf 58 rfl) rfl) (gd0 rfl) ⟨rfl, rfl, trivial⟩ (fun _ => rfl) ⟨rfl, trivial⟩ rfl rfl rfl rfl rfl rfl ?_
  refine K.move (.inr rfl) (gd0 rfl) rfl rfl ?_
  refine K.nil ?_
  refine At.next ?_
  obtain ⟨x2, H1, H0⟩ := bnd H0
  refine G.seqJ (σ := { v : List Int // x2 = v }) (fun q => [(3, .a (.c (.nv 102)))]) (fun q => [(0, rd S W0), (102, lrow 102 3 intE 1 q.1)]) ?_ ?_
  ·
    refine G.seq ?_
    refine G.rg ?_
    refine K.move (.inr rfl) (gd0 rfl) rfl rfl ?_
    refine K.nil ?_
    refine At.next ?_
    refine G.block ?_
    refine G.loop (σ := { q : Nat × (List Int × Int) // R08_Weights.l0 k l0 q.1 q.2 = some x2 }) (fun q => [(0, SV.raw s0), (3, .a (.c (.nv 105))), (4, .a (.c (.v (.int .i64 q.1.2.2))))]) (fun q => [(0, rd S W0), (105, lrow 105 3 intE 1 q.1.2.1)]) (fun q => q.1.1) ⟨(k, (x1, 0)), H1⟩ ?_ ?_
    · exact At.into [(105, 101)] [_, _] rfl ⟨rfl, rfl, rfl, trivial⟩ ⟨rfl, (fun _ => rfl), rfl, (lrow_ren rfl), trivial⟩ rfl
    ·
      rintro ⟨⟨n0, v1, v2⟩, H1⟩
      show G _ _ [(0, SV.raw s0), (3, .a (.c (.nv 105))), (4, .a (.c (.v (.int .i64 v2))))] [(0, some (rd S W0)), (105, some (lrow 105 3 intE 1 v1))] _ _
      cases n0 with
      | zero => exact absurd H1 (by simp [R08_Weights.l0])
      | succ n0 =>
        have HL0 := H1
        rw [R08_Weights.l0] at H1
        refine G.seq ?_
        refine G.seq ?_
        refine G.rg ?_
        refine K.move (.inl rfl) (gd0 rfl) rfl rfl ?_
        refine K.move (.inl rfl) (gd0 rfl) rfl rfl ?_
        refine K.lenL (rV 0 S W0 s0 b0 o0 eTR08Mark 8 l0) (hI0.is 0) (gd0 rfl) rfl rfl Try.underlying60 rfl ?_
        refine K.bin (V := .bool (decide (v2 < (l0.length : Int)))) (gd0 rfl) rfl rfl (fun _ => rfl) rfl ?_
        refine K.nil ?_
        refine At.next ?_
        refine G.cond rfl (fun h1 => ?_) (fun h1 => ?_)
        ·
          replace H1 := bif_t H1 h1
          refine G.skip ?_
          refine At.next ?_
          refine G.seq ?_
          refine G.block ?_
          refine G.seq ?_
          obtain ⟨x3, hx3, H1⟩ := bnd H1
          rcases Bool.eq_false_or_eq_true x3.op.insert with h2 | h2
          ·
            replace H1 := bif_t H1 h2
            refine G.rg ?_
            refine K.move (.inl rfl) (gd0 rfl) rfl rfl ?_
            refine K.move (.inl rfl) (gd0 rfl) rfl rfl ?_
            refine K.idxL (rV 0 S W0 s0 b0 o0 eTR08Mark 8 l0) ((v2).toNat) (hI0.is 0) (atL_get hx3) (atL_nn hx3) (gd0 rfl) rfl rfl rfl Try.underlying60 el60.size_run rfl ?_
            refine K.fieldL Y (rV 0 S W0 s0 b0 o0 eTR08Mark 8 l0) ((v2).toNat) 0 0 (hI0.is 0) (atL_get hx3) (gd0 rfl) rfl rfl t75 rfl rfl rfl rfl ?_
            refine K.fieldL Y (rV 0 S W0 s0 b0 o0 eTR08Mark 8 l0) ((v2).toNat) 0 1 (hI0.is 0) (atL_get hx3) (gd0 rfl) rfl rfl t73 rfl rfl rfl rfl ?_
            refine K.load1L Y (rV 0 S W0 s0 b0 o0 eTR08Mark 8 l0) ((v2).toNat) 1 (hI0.is 0) (atL_get hx3) (gd0 rfl) rfl rfl t4 rfl rfl ?_
            refine K.move (.inl rfl) (gd0 rfl) rfl rfl ?_
            refine K.move (.inl rfl) (gd1 rfl rfl rfl (h2)) rfl rfl ?_
            refine K.move (.inl rfl) (gd1 rfl rfl rfl (h2)) rfl rfl ?_
            refine K.idxL (rV 0 S W0 s0 b0 o0 eTR08Mark 8 l0) ((v2).toNat) (hI0.is 0) (atL_get hx3) (atL_nn hx3) (gd1 rfl rfl rfl (h2)) rfl rfl rfl Try.underlying60 el60.size_run rfl ?_
            refine K.fieldL Y (rV 0 S W0 s0 b0 o0 eTR08Mark 8 l0) ((v2).toNat) 0 4 (hI0.is 0) (atL_get hx3) (gd1 rfl rfl rfl (h2)) rfl rfl t75 rfl rfl rfl rfl ?_
            refine K.load1L Y (rV 0 S W0 s0 b0 o0 eTR08Mark 8 l0) ((v2).toNat) 4 (hI0.is 0) (atL_get hx3) (gd1 rfl rfl rfl (h2)) rfl rfl t4 rfl rfl ?_
            refine K.pickT (gd0 rfl) rfl (h2) rfl rfl ?_
            refine K.nil ?_
            refine At.next ?_
            refine G.cond rfl (fun h3 => ?_) (fun h3 => ?_)
            ·
              replace H1 := bif_t H1 h3
              obtain ⟨x4, hx4, H1⟩ := bnd H1
              refine G.rg ?_
              refine K.move (.inl rfl) (gd0 rfl) rfl rfl ?_
              refine K.move (.inl rfl) (gd0 rfl) rfl rfl ?_
              refine K.idxL (lrowV 105 3 intE 1 v1) ((v2).toNat) (lrowV_is intE_len (by decide)) (atL_get hx4) (atL_nn hx4) (gd0 rfl) rfl rfl rfl Try.underlying26 el26.size_run rfl ?_
              refine K.storeL Y ((v2).toNat) 0 [_] 0 intE_len (by decide) (atL_get hx4) (gd0 rfl) rfl rfl rfl t3 rfl rfl rfl rfl rfl rfl ?_
              refine K.nil ?_
              refine At.block_normal ?_
              refine At.next ?_
              refine G.rg ?_
              refine K.move (.inl rfl) (gd0 rfl) rfl rfl ?_
              refine K.bin (V := .int .i64 (w64 (v2 + 1))) (gd0 rfl) rfl rfl (fun _ => rfl) rfl ?_
              refine K.move (.inr rfl) (gd0 rfl) rfl rfl ?_
              refine K.nil ?_
              exact At.again (σ := { q : Nat × (List Int × Int) // R08_Weights.l0 k l0 q.1 q.2 = some x2 }) (Fs := fun q => [(0, SV.raw s0), (3, .a (.c (.nv 105))), (4, .a (.c (.v (.int .i64 q.1.2.2))))]) (Tl := fun q => [(0, rd S W0), (105, lrow 105 3 intE 1 q.1.2.1)]) (μ := fun q => q.1.1) (s := ⟨(n0 + 1, (v1, v2)), HL0⟩) ⟨(n0, ((v1.set ((v2).toNat) 0), (w64 (v2 + 1)))), H1⟩ [] [_, _] (Nat.lt_succ_self _) rfl ⟨rfl, rfl, rfl, trivial⟩ ⟨rfl, (fun _ => rfl), rfl, (lrow_ren rfl), trivial⟩ rfl
            ·
              replace H1 := bif_f H1 h3
              refine G.skip ?_
              refine At.block_normal ?_
              refine At.next ?_
              refine G.rg ?_
              refine K.move (.inl rfl) (gd0 rfl) rfl rfl ?_
              refine K.bin (V := .int .i64 (w64 (v2 + 1))) (gd0 rfl) rfl rfl (fun _ => rfl) rfl ?_
              refine K.move (.inr rfl) (gd0 rfl) rfl rfl ?_
              refine K.nil ?_
              exact At.again (σ := { q : Nat × (List Int × Int) // R08_Weights.l0 k l0 q.1 q.2 = some x2 }) (Fs := fun q => [(0, SV.raw s0), (3, .a (.c (.nv 105))), (4, .a (.c (.v (.int .i64 q.1.2.2))))]) (Tl := fun q => [(0, rd S W0), (105, lrow 105 3 intE 1 q.1.2.1)]) (μ := fun q => q.1.1) (s := ⟨(n0 + 1, (v1, v2)), HL0⟩) ⟨(n0, (v1, (w64 (v2 + 1)))), H1⟩ [] [_, _] (Nat.lt_succ_self _) rfl ⟨rfl, rfl, rfl, trivial⟩ ⟨rfl, (fun _ => rfl), rfl, (lrow_ren rfl), trivial⟩ rfl
          ·
            replace H1 := bif_f H1 h2
            refine G.rg ?_
            refine K.move (.inl rfl) (gd0 rfl) rfl rfl ?_
            refine K.move (.inl rfl) (gd0 rfl) rfl rfl ?_
            refine K.idxL (rV 0 S W0 s0 b0 o0 eTR08Mark 8 l0) ((v2).toNat) (hI0.is 0) (atL_get hx3) (atL_nn hx3) (gd0 rfl) rfl rfl rfl Try.underlying60 el60.size_run rfl ?_
            refine K.fieldL Y (rV 0 S W0 s0 b0 o0 eTR08Mark 8 l0) ((v2).toNat) 0 0 (hI0.is 0) (atL_get hx3) (gd0 rfl) rfl rfl t75 rfl rfl rfl rfl ?_
            refine K.fieldL Y (rV 0 S W0 s0 b0 o0 eTR08Mark 8 l0) ((v2).toNat) 0 1 (hI0.is 0) (atL_get hx3) (gd0 rfl) rfl rfl t73 rfl rfl rfl rfl ?_
            refine K.load1L Y (rV 0 S W0 s0 b0 o0 eTR08Mark 8 l0) ((v2).toNat) 1 (hI0.is 0) (atL_get hx3) (gd0 rfl) rfl rfl t4 rfl rfl ?_
            refine K.move (.inl rfl) (gd0 rfl) rfl rfl ?_
            refine K.skip rfl rfl rfl rfl (h2) rfl ?_
            refine K.skip rfl rfl rfl rfl (h2) rfl ?_
            refine K.skip rfl rfl rfl rfl (h2) rfl ?_
            refine K.skip rfl rfl rfl rfl (h2) rfl ?_
            refine K.skip rfl rfl rfl rfl (h2) rfl ?_
            refine K.pickF (gd0 rfl) rfl (h2) rfl rfl ?_
            refine K.nil ?_
            refine At.next ?_
            refine G.cond rfl (fun h4 => ?_) (fun h4 => ?_)
            · cases h4
            ·
              refine G.skip ?_
              refine At.block_normal ?_
              refine At.next ?_
              refine G.rg ?_
              refine K.move (.inl rfl) (gd0 rfl) rfl rfl ?_
              refine K.bin (V := .int .i64 (w64 (v2 + 1))) (gd0 rfl) rfl rfl (fun _ => rfl) rfl ?_
              refine K.move (.inr rfl) (gd0 rfl) rfl rfl ?_
              refine K.nil ?_
              exact At.again (σ := { q : Nat × (List Int × Int) // R08_Weights.l0 k l0 q.1 q.2 = some x2 }) (Fs := fun q => [(0, SV.raw s0), (3, .a (.c (.nv 105))), (4, .a (.c (.v (.int .i64 q.1.2.2))))]) (Tl := fun q => [(0, rd S W0), (105, lrow 105 3 intE 1 q.1.2.1)]) (μ := fun q => q.1.1) (s := ⟨(n0 + 1, (v1, v2)), HL0⟩) ⟨(n0, (v1, (w64 (v2 + 1)))), H1⟩ [] [_, _] (Nat.lt_succ_self _) rfl ⟨rfl, rfl, rfl, trivial⟩ ⟨rfl, (fun _ => rfl), rfl, (lrow_ren rfl), trivial⟩ rfl
        ·
          replace H1 := bif_f H1 h1
          refine G.exit ?_
          refine At.over_exit ?_
          refine At.over_exit ?_
          refine At.block_hit ?_
          exact At.joined (σ := { v : List Int // x2 = v }) (Fs := fun q => [(3, .a (.c (.nv 102)))]) (Tl := fun q => [(0, rd S W0), (102, lrow 102 3 intE 1 q.1)]) ⟨v1, (Option.some.inj H1).symm⟩ [(102, 105)] [_, _] rfl ⟨rfl, trivial⟩ ⟨rfl, (fun _ => rfl), rfl, (lrow_ren rfl), trivial⟩ rfl
  ·
    rintro ⟨_, rfl⟩
    show G _ _ [(3, .a (.c (.nv 102)))] [(0, some (rd S W0)), (102, some (lrow 102 3 intE 1 x2))] _ _
    refine G.seq ?_
    refine G.rg ?_
    refine K.move (.inl rfl) (gd0 rfl) rfl rfl ?_
    refine K.move (.inr rfl) (gd0 rfl) rfl rfl ?_
    refine K.nil ?_
    refine At.next ?_
    refine G.ret ?_
    refine At.ren (fs' := [(2, .a (.c (.nv 30)))]) (tl := [(0, rd S W0), (30, lrow 30 3 intE 1 x2)]) [(30, 102)] [_, _] rfl ⟨rfl, trivial⟩ ⟨rfl, (fun _ => rfl), rfl, (lrow_ren rfl), trivial⟩ rfl ?_
    refine At.done Y [(.tmp 2, .c _)] rfl ⟨.tmp rfl, trivial⟩ (to' := [(0, _), (30, _)]) ⟨rfl, rfl, trivial⟩ ?_ ?_ rfl rfl rfl (.inl rfl)
    · cases H0; rfl
    · cases H0; rfl
theorem R08_Weights_con {k : Nat}  {S : Foot} {W0 : World} {s0 : Value} {l0 : List TR08Mark} {r : List Int} (hL0 : LArg S W0 s0 eTR08Mark 8 l0) (H0 : R08_Weights.f k l0 = some r) (m30 : Nat) (hd : ndB [m30] = true) : SCon Try.prog 59 [SV.raw s0] [(0, rd S W0)] (.a (.c (.nv m30))) [(0, rd S W0), (m30, lrow m30 3 intE 1 r)] [m30] :=
  SCon.ren (rn [(30, m30)]) (R08_Weights_con0 (k := k)  hL0 H0) ⟨(fun _ => rfl), trivial⟩ ⟨(fun _ => rfl), (lrow_ren rfl), trivial⟩ (rn_nd hd rfl rfl) (rn_ks hd rfl rfl rfl)
theorem R02_Ahead_con0 {k : Nat}  {a0 : TItem} {a1 : TItem} {r : Bool}  (H0 : R02_Ahead.f k a0 a1 = some r) : SCon Try.prog 41 [.a (.agg ((eTItem a0).map .v)), .a (.agg ((eTItem a1).map .v))] [] (.a (.c (.v (.bool r)))) [] [] := by
  rw [R02_Ahead.f] at H0
  refine spec_of [(0, _), (1, _)] [] 24 Try.func41 rfl Try.ntmps41 rfl rfl rfl rfl (fun β W F => ?_)
  refine G.seq ?_
  refine G.rg ?_
  refine K.box Y 100 [_, _] (gd0 rfl) rfl rfl rfl rfl rfl rfl ?_
  refine K.box Y 101 [_, _] (gd0 rfl) rfl rfl rfl rfl rfl rfl ?_
  refine K.move (.inr rfl) (gd0 rfl) rfl rfl ?_
  refine K.nil ?_
  refine At.next ?_
  refine G.seq ?_
  rcases Bool.eq_false_or_eq_true (decide (a0.key < a1.key)) with h1 | h1
  ·
    replace H0 := bif_t H0 h1
    refine G.rg ?_
    refine K.fieldAddr Y (gd0 rfl) rfl t37 rfl rfl ?_
    refine K.load1 Y (gd0 rfl) rfl rfl t3 rfl rfl ?_
    refine K.fieldAddr Y (gd0 rfl) rfl t37 rfl rfl ?_
    refine K.load1 Y (gd0 rfl) rfl rfl t3 rfl rfl ?_
    refine K.bin (V := .bool (decide (a0.key < a1.key))) (gd0 rfl) rfl rfl (fun _ => rfl) rfl ?_
    refine K.move (.inl rfl) (gd0 rfl) rfl rfl ?_
    refine K.skip rfl rfl rfl rfl (h1) rfl ?_
    refine K.skip rfl rfl rfl rfl (h1) rfl ?_
    refine K.skip rfl rfl rfl rfl (h1) rfl ?_
    refine K.skip rfl rfl rfl rfl (h1) rfl ?_
    refine K.skip rfl rfl rfl rfl (h1) rfl ?_
    refine K.skip rfl rfl rfl rfl (h1) rfl ?_
    refine K.skipU rfl rfl rfl rfl rfl ?_
    refine K.skipU rfl rfl rfl rfl rfl ?_
    refine K.skipU rfl rfl rfl rfl rfl ?_
    refine K.skipU rfl rfl rfl rfl rfl ?_
    refine K.skipU rfl rfl rfl rfl rfl ?_
    refine K.skip rfl rfl rfl rfl (h1) rfl ?_
    refine K.pickT (gd0 rfl) rfl (h1) rfl rfl ?_
    refine K.move (.inr rfl) (gd0 rfl) rfl rfl ?_
    refine K.nil ?_
    refine At.next ?_
    refine G.ret ?_
    refine At.done Y [(.tmp 4, .c _)] rfl ⟨.tmp rfl, trivial⟩ (to' := []) trivial ?_ ?_ rfl rfl rfl (.inl rfl)
    · cases H0; rfl
    · cases H0; rfl
  ·
    replace H0 := bif_f H0 h1
    rcases Bool.eq_false_or_eq_true (a0.key == a1.key) with h2 | h2
    ·
      replace H0 := bif_t H0 h2
      refine G.rg ?_
      refine K.fieldAddr Y (gd0 rfl) rfl t37 rfl rfl ?_
      refine K.load1 Y (gd0 rfl) rfl rfl t3 rfl rfl ?_
      refine K.fieldAddr Y (gd0 rfl) rfl t37 rfl rfl ?_
      refine K.load1 Y (gd0 rfl) rfl rfl t3 rfl rfl ?_
      refine K.bin (V := .bool (decide (a0.key < a1.key))) (gd0 rfl) rfl rfl (fun _ => rfl) rfl ?_
      refine K.move (.inl rfl) (gd0 rfl) rfl rfl ?_
      refine K.fieldAddr Y (gd1 rfl rfl rfl (h1)) rfl t37 rfl rfl ?_
      refine K.load1 Y (gd1 rfl rfl rfl (h1)) rfl rfl t3 rfl rfl ?_
      refine K.fieldAddr Y (gd1 rfl rfl rfl (h1)) rfl t37 rfl rfl ?_
      refine K.load1 Y (gd1 rfl rfl rfl (h1)) rfl rfl t3 rfl rfl ?_
      refine K.bin (V := .bool (a0.key == a1.key)) (gd1 rfl rfl rfl (h1)) rfl rfl (fun _ => rfl) rfl ?_
      refine K.move (.inl rfl) (gd1 rfl rfl rfl (h1)) rfl rfl ?_
      refine K.fieldAddr Y (gd1 rfl rfl rfl (h2)) rfl t37 rfl rfl ?_
      refine K.load1 Y (gd1 rfl rfl rfl (h2)) rfl rfl t3 rfl rfl ?_
      refine K.fieldAddr Y (gd1 rfl rfl rfl (h2)) rfl t37 rfl rfl ?_
      refine K.load1 Y (gd1 rfl rfl rfl (h2)) rfl rfl t3 rfl rfl ?_
      refine K.bin (V := .bool (decide (a0.id < a1.id))) (gd1 rfl rfl rfl (h2)) rfl rfl (fun _ => rfl) rfl ?_
      refine K.pickT (gd1 rfl rfl rfl (h1)) rfl (h2) rfl rfl ?_
      refine K.pickF (gd0 rfl) rfl (h1) rfl rfl ?_
      refine K.move (.inr rfl) (gd0 rfl) rfl rfl ?_
      refine K.nil ?_
      refine At.next ?_
      refine G.ret ?_
      refine At.done Y [(.tmp 4, .c _)] rfl ⟨.tmp rfl, trivial⟩ (to' := []) trivial ?_ ?_ rfl rfl rfl (.inl rfl)
      · cases H0; rfl
      · cases H0; rfl
    ·
      replace H0 := bif_f H0 h2
      refine G.rg ?_
      refine K.fieldAddr Y (gd0 rfl) rfl t37 rfl rfl ?_
      refine K.load1 Y (gd0 rfl) rfl rfl t3 rfl rfl ?_
      refine K.fieldAddr Y (gd0 rfl) rfl t37 rfl rfl ?_
      refine K.load1 Y (gd0 rfl) rfl rfl t3 rfl rfl ?_
      refine K.bin (V := .bool (decide (a0.key < a1.key))) (gd0 rfl) rfl rfl (fun _ => rfl) rfl ?_
      refine K.move (.inl rfl) (gd0 rfl) rfl rfl ?_
      refine K.fieldAddr Y (gd1 rfl rfl rfl (h1)) rfl t37 rfl rfl ?_
      refine K.load1 Y (gd1 rfl rfl rfl (h1)) rfl rfl t3 rfl rfl ?_
      refine K.fieldAddr Y (gd1 rfl rfl rfl (h1)) rfl t37 rfl rfl ?_
      refine K.load1 Y (gd1 rfl rfl rfl (h1)) rfl rfl t3 rfl rfl ?_
      refine K.bin (V := .bool (a0.key == a1.key)) (gd1 rfl rfl rfl (h1)) rfl rfl (fun _ => rfl) rfl ?_
      refine K.move (.inl rfl) (gd1 rfl rfl rfl (h1)) rfl rfl ?_
      refine K.skip rfl rfl rfl rfl (h2) rfl ?_
      refine K.skip rfl rfl rfl rfl (h2) rfl ?_
      refine K.skip rfl rfl rfl rfl (h2) rfl ?_
      refine K.skip rfl rfl rfl rfl (h2) rfl ?_
      refine K.skip rfl rfl rfl rfl (h2) rfl ?_
      refine K.pickF (gd1 rfl rfl rfl (h1)) rfl (h2) rfl rfl ?_
      refine K.pickF (gd0 rfl) rfl (h1) rfl rfl ?_
      refine K.move (.inr rfl) (gd0 rfl) rfl rfl ?_
      refine K.nil ?_
      refine At.next ?_
      refine G.ret ?_
      refine At.done Y [(.tmp 4, .c _)] rfl ⟨.tmp rfl, trivial⟩ (to' := []) trivial ?_ ?_ rfl rfl rfl (.inl rfl)
      · cases H0; rfl
      · cases H0; rfl
theorem R02_Ahead_con {k : Nat}  {a0 : TItem} {a1 : TItem} {r : Bool}  (H0 : R02_Ahead.f k a0 a1 = some r) : SCon Try.prog 41 [.a (.agg ((eTItem a0).map .v)), .a (.agg ((eTItem a1).map .v))] [] (.a (.c (.v (.bool r)))) [] [] :=
  SCon.ren (rn []) (R02_Ahead_con0 (k := k)   H0) trivial trivial (by simp) (by simp)
theorem R02_Sorted_con0 {k : Nat}  {S : Foot} {W0 : World} {s0 : Value} {l0 : List TItem} {r : List TItem} (hL0 : LArg S W0 s0 eTItem 2 l0) (H0 : R02_Sorted.f k l0 = some r) : SCon Try.prog 75 [SV.raw s0] [(0, rd S W0)] (.a (.c (.nv 30))) [(0, rd S W0), (30, lrow 30 37 eTItem 2 r)] [30] := by
  rw [R02_Sorted.f] at H0
  obtain ⟨b0, o0, hI0⟩ := hL0
  refine spec_of [(0, _)] [(0, _)] 49 Try.func75 rfl Try.ntmps75 rfl rfl rfl rfl (fun β W F => ?_)
  refine G.seq ?_
  refine G.rg ?_
  refine K.nilRow 100 37 eTItem 2 (.inl rfl) (gd0 rfl) rfl rfl rfl ?_
  refine K.nil ?_
  refine At.next ?_
  refine G.seq ?_
  refine G.rg ?_
  refine K.nilRow 101 37 eTItem 2 (.inl rfl) (gd0 rfl) rfl rfl rfl ?_
  refine K.nil ?_
  refine At.next ?_
  obtain ⟨x1, H1, H0⟩ := bnd H0
  refine G.seqJ (σ := { v : List TItem // x1 = v }) (fun q => [(3, .a (.c (.nv 102)))]) (fun q => [(0, rd S W0), (102, lrow 102 37 eTItem 2 q.1)]) ?_ ?_
  ·
    refine G.seq ?_
    refine G.rg ?_
    refine K.move (.inr rfl) (gd0 rfl) rfl rfl ?_
    refine K.nil ?_
    refine At.next ?_
    refine G.block ?_
    refine G.loop (σ := { q : Nat × (List TItem × Int) // R02_Sorted.l0 k l0 q.1 q.2 = some x1 }) (fun q => [(0, SV.raw s0), (3, .a (.c (.nv 105))), (4, .a (.c (.v (.int .i64 q.1.2.2))))]) (fun q => [(0, rd S W0), (105, lrow 105 37 eTItem 2 q.1.2.1)]) (fun q => q.1.1) ⟨(k, (([] : List TItem), 0)), H1⟩ ?_ ?_
    · exact At.into [(105, 101)] [_, _] rfl ⟨rfl, rfl, rfl, trivial⟩ ⟨rfl, (fun _ => rfl), rfl, (lrow_ren rfl), trivial⟩ rfl
    ·
      rintro ⟨⟨n0, v1, v2⟩, H1⟩
      show G _ _ [(0, SV.raw s0), (3, .a (.c (.nv 105))), (4, .a (.c (.v (.int .i64 v2))))] [(0, some (rd S W0)), (105, some (lrow 105 37 eTItem 2 v1))] _ _
      cases n0 with
      | zero => exact absurd H1 (by simp [R02_Sorted.l0])
      | succ n0 =>
        have HL0 := H1
        rw [R02_Sorted.l0] at H1
        refine G.seq ?_
        refine G.seq ?_
        refine G.rg ?_
        refine K.move (.inl rfl) (gd0 rfl) rfl rfl ?_
        refine K.move (.inl rfl) (gd0 rfl) rfl rfl ?_
        refine K.lenL (rV 0 S W0 s0 b0 o0 eTItem 2 l0) (hI0.is 0) (gd0 rfl) rfl rfl Try.underlying33 rfl ?_
        refine K.bin (V := .bool (decide (v2 < (l0.length : Int)))) (gd0 rfl) rfl rfl (fun _ => rfl) rfl ?_
        refine K.nil ?_
        refine At.next ?_
        refine G.cond rfl (fun h1 => ?_) (fun h1 => ?_)
        ·
          replace H1 := bif_t H1 h1
          refine G.skip ?_
          refine At.next ?_
          obtain ⟨x2, H2, H1⟩ := bnd H1
          refine G.seqJ (σ := { v : List TItem // x2 = v }) (fun q => [(0, SV.raw s0), (3, .a (.c (.nv 106))), (4, .a (.c (.v (.int .i64 v2))))]) (fun q => [(0, rd S W0), (106, lrow 106 37 eTItem 2 q.1)]) ?_ ?_
          ·
            refine G.block ?_
            refine G.seq ?_
            refine G.rg ?_
            refine K.move (.inl rfl) (gd0 rfl) rfl rfl ?_
            refine K.lenL (lrowV 105 37 eTItem 2 v1) (lrowV_is eTItem_len (by decide)) (gd0 rfl) rfl rfl Try.underlying33 rfl ?_
            refine K.move (.inr rfl) (gd0 rfl) rfl rfl ?_
            refine K.nil ?_
            refine At.next ?_
            obtain ⟨x3, H3, H2⟩ := bnd H2
            refine G.seqJ (σ := { v : Int // x3 = v }) (fun q => [(0, SV.raw s0), (3, .a (.c (.nv 107))), (4, .a (.c (.v (.int .i64 v2)))), (5, .a (.c (.v (.int .i64 q.1))))]) (fun q => [(0, rd S W0), (107, lrow 107 37 eTItem 2 v1)]) ?_ ?_
            ·
              refine G.block ?_
              refine G.loop (σ := { q : Nat × (Int) // R02_Sorted.l1 k l0 v1 v2 q.1 q.2 = some x3 }) (fun q => [(0, SV.raw s0), (3, .a (.c (.nv 110))), (4, .a (.c (.v (.int .i64 v2)))), (5, .a (.c (.v (.int .i64 q.1.2))))]) (fun q => [(0, rd S W0), (110, lrow 110 37 eTItem 2 v1)]) (fun q => q.1.1) ⟨(k, (v1.length : Int)), H3⟩ ?_ ?_
              · exact At.into [(110, 105)] [_, _] rfl ⟨rfl, rfl, rfl, rfl, trivial⟩ ⟨rfl, (fun _ => rfl), rfl, (lrow_ren rfl), trivial⟩ rfl
              ·
                rintro ⟨⟨n0, v101⟩, H3⟩
                show G _ _ [(0, SV.raw s0), (3, .a (.c (.nv 110))), (4, .a (.c (.v (.int .i64 v2)))), (5, .a (.c (.v (.int .i64 v101))))] [(0, some (rd S W0)), (110, some (lrow 110 37 eTItem 2 v1))] _ _
                cases n0 with
                | zero => exact absurd H3 (by simp [R02_Sorted.l1])
                | succ n0 =>
                  have HL1 := H3
                  rw [R02_Sorted.l1] at H3
                  refine G.seq ?_
                  refine G.seq ?_
                  rcases Bool.eq_false_or_eq_true (decide (v101 > 0)) with h2 | h2
                  ·
                    replace H3 := bif_t H3 h2
                    obtain ⟨x4, hx4, H3⟩ := bnd H3
                    obtain ⟨x5, hx5, H3⟩ := bnd H3
                    obtain ⟨x6, hx6, H3⟩ := bnd H3
                    refine G.rd mixed ?_
                    refine K.move (.inl rfl) (gd0 rfl) rfl rfl ?_
                    refine K.bin (V := .bool (decide (v101 > 0))) (gd0 rfl) rfl rfl (fun _ => rfl) rfl ?_
                    refine K.move (.inl rfl) (gd0 rfl) rfl rfl ?_
                    refine K.move (.inl rfl) (gd1 rfl rfl rfl (h2)) rfl rfl ?_
                    refine K.move (.inl rfl) (gd1 rfl rfl rfl (h2)) rfl rfl ?_
                    refine K.idxL (rV 0 S W0 s0 b0 o0 eTItem 2 l0) ((v2).toNat) (hI0.is 0) (atL_get hx4) (atL_nn hx4) (gd1 rfl rfl rfl (h2)) rfl rfl rfl Try.underlying33 el33.size_run rfl ?_
                    refine K.loadSL Y (rV 0 S W0 s0 b0 o0 eTItem 2 l0) ((v2).toNat) 0 [_, _] [_, _] (hI0.is 0) (atL_get hx4) (gd1 rfl rfl rfl (h2)) rfl rfl t37 rfl rfl rfl rfl rfl ?_
                    refine K.move (.inl rfl) (gd1 rfl rfl rfl (h2)) rfl rfl ?_
                    refine K.move (.inl rfl) (gd1 rfl rfl rfl (h2)) rfl rfl ?_
                    refine K.bin (V := .int .i64 (w64 (v101 - 1))) (gd1 rfl rfl rfl (h2)) rfl rfl (fun _ => rfl) rfl ?_
                    refine K.idxL (lrowV 110 37 eTItem 2 v1) (((w64 (v101 - 1))).toNat) (lrowV_is eTItem_len (by decide)) (atL_get hx5) (atL_nn hx5) (gd1 rfl rfl rfl (h2)) rfl rfl rfl Try.underlying33 el33.size_run rfl ?_
                    refine K.loadSL Y (lrowV 110 37 eTItem 2 v1) (((w64 (v101 - 1))).toNat) 0 [_, _] [_, _] (lrowV_is eTItem_len (by decide)) (atL_get hx5) (gd1 rfl rfl rfl (h2)) rfl rfl t37 rfl rfl rfl rfl rfl ?_
                    refine K.callR [(.func 41, _), ((.tmp 21), _), ((.tmp 26), _)] (R02_Ahead_con (k := k) hx6) (toFn_func (cf 41 rfl) rfl) (gd1 rfl rfl rfl (h2)) ⟨rfl, rfl, rfl, trivial⟩ trivial rfl rfl rfl ?_
                    refine K.pickT (gd0 rfl) rfl (h2) rfl rfl ?_
                    refine K.nil ?_
                    refine ⟨by kernel_rfl, ?_⟩
                    refine At.next ?_
                    refine G.cond rfl (fun h3 => ?_) (fun h3 => ?_)
                    ·
                      replace H3 := bif_t H3 h3
                      refine G.skip ?_
                      refine At.next ?_
                      refine G.block ?_
                      refine G.rg ?_
                      refine K.move (.inl rfl) (gd0 rfl) rfl rfl ?_
                      refine K.bin (V := .int .i64 (w64 (v101 - 1))) (gd0 rfl) rfl rfl (fun _ => rfl) rfl ?_
                      refine K.move (.inr rfl) (gd0 rfl) rfl rfl ?_
                      refine K.nil ?_
                      refine At.block_normal ?_
                      exact At.again (σ := { q : Nat × (Int) // R02_Sorted.l1 k l0 v1 v2 q.1 q.2 = some x3 }) (Fs := fun q => [(0, SV.raw s0), (3, .a (.c (.nv 110))), (4, .a (.c (.v (.int .i64 v2)))), (5, .a (.c (.v (.int .i64 q.1.2))))]) (Tl := fun q => [(0, rd S W0), (110, lrow 110 37 eTItem 2 v1)]) (μ := fun q => q.1.1) (s := ⟨(n0 + 1, v101), HL1⟩) ⟨(n0, (w64 (v101 - 1))), H3⟩ [] [_, _] (Nat.lt_succ_self _) rfl ⟨rfl, rfl, rfl, rfl, trivial⟩ ⟨rfl, (fun _ => rfl), rfl, (lrow_ren rfl), trivial⟩ rfl
                    ·
                      replace H3 := bif_f H3 h3
                      refine G.exit ?_
                      refine At.over_exit ?_
                      refine At.over_exit ?_
                      refine At.block_hit ?_
                      exact At.joined (σ := { v : Int // x3 = v }) (Fs := fun q => [(0, SV.raw s0), (3, .a (.c (.nv 107))), (4, .a (.c (.v (.int .i64 v2)))), (5, .a (.c (.v (.int .i64 q.1))))]) (Tl := fun q => [(0, rd S W0), (107, lrow 107 37 eTItem 2 v1)]) ⟨v101, (Option.some.inj H3).symm⟩ [(107, 110)] [_, _] rfl ⟨rfl, rfl, rfl, rfl, trivial⟩ ⟨rfl, (fun _ => rfl), rfl, (lrow_ren rfl), trivial⟩ rfl
                  ·
                    replace H3 := bif_f H3 h2
                    refine G.rd mixed ?_
                    refine K.move (.inl rfl) (gd0 rfl) rfl rfl ?_
                    refine K.bin (V := .bool (decide (v101 > 0))) (gd0 rfl) rfl rfl (fun _ => rfl) rfl ?_
                    refine K.move (.inl rfl) (gd0 rfl) rfl rfl ?_
                    refine K.skip rfl rfl rfl rfl (h2) rfl ?_
                    refine K.skip rfl rfl rfl rfl (h2) rfl ?_
                    refine K.skip rfl rfl rfl rfl (h2) rfl ?_
                    refine K.skip rfl rfl rfl rfl (h2) rfl ?_
                    refine K.skip rfl rfl rfl rfl (h2) rfl ?_
                    refine K.skip rfl rfl rfl rfl (h2) rfl ?_
                    refine K.skip rfl rfl rfl rfl (h2) rfl ?_
                    refine K.skip rfl rfl rfl rfl (h2) rfl ?_
                    refine K.skip rfl rfl rfl rfl (h2) rfl ?_
                    refine K.skip rfl rfl rfl rfl (h2) rfl ?_
                    refine K.pickF (gd0 rfl) rfl (h2) rfl rfl ?_
                    refine K.nil ?_
                    refine ⟨by kernel_rfl, ?_⟩
                    refine At.next ?_
                    refine G.cond rfl (fun h4 => ?_) (fun h4 => ?_)
                    · cases h4
                    ·
                      refine G.exit ?_
                      refine At.over_exit ?_
                      refine At.over_exit ?_
                      refine At.block_hit ?_
                      exact At.joined (σ := { v : Int // x3 = v }) (Fs := fun q => [(0, SV.raw s0), (3, .a (.c (.nv 107))), (4, .a (.c (.v (.int .i64 v2)))), (5, .a (.c (.v (.int .i64 q.1))))]) (Tl := fun q => [(0, rd S W0), (107, lrow 107 37 eTItem 2 v1)]) ⟨v101, (Option.some.inj H3).symm⟩ [(107, 110)] [_, _] rfl ⟨rfl, rfl, rfl, rfl, trivial⟩ ⟨rfl, (fun _ => rfl), rfl, (lrow_ren rfl), trivial⟩ rfl
            ·
              rintro ⟨_, rfl⟩
              show G _ _ [(0, SV.raw s0), (3, .a (.c (.nv 107))), (4, .a (.c (.v (.int .i64 v2)))), (5, .a (.c (.v (.int .i64 x3))))] [(0, some (rd S W0)), (107, some (lrow 107 37 eTItem 2 v1))] _ _
              refine G.seq ?_
              refine G.rg ?_
              refine K.nilRow 111 37 eTItem 2 (.inl rfl) (gd0 rfl) rfl rfl rfl ?_
              refine K.nil ?_
              refine At.next ?_
              refine G.seq ?_
              obtain ⟨h5, H2⟩ := grd H2
              obtain ⟨h7, H2⟩ := grd H2
              refine G.rg ?_
              refine K.move (.inl rfl) (gd0 rfl) rfl rfl ?_
              refine K.move (.inl rfl) (gd0 rfl) rfl rfl ?_
              refine K.move (.inl rfl) (gd0 rfl) rfl rfl ?_
              refine K.partL 0 ((x3).toNat) (gd0 rfl) rfl .no (.at_ rfl h5.1 rfl) rfl Try.underlying33 el33.size_run (Nat.zero_le _) (tn_len h5.2) rfl ?_
              refine K.appendL 112 (lsubV 107 37 eTItem 2 v1 0 ((x3).toNat)) _ el33 (lsubV_is eTItem_len (by decide) (Nat.zero_le _) (tn_len h5.2)) eTItem_one (gd0 rfl) rfl rfl rfl rfl rfl (ap_m h7) (ap_b h7 (by decide)) rfl rfl rfl rfl rfl rfl ?_
              refine K.move (.inr rfl) (gd0 rfl) rfl rfl ?_
              refine K.nil ?_
              refine At.next ?_
              refine G.seq ?_
              obtain ⟨x7, hx7, H2⟩ := bnd H2
              obtain ⟨h8, H2⟩ := grd H2
              refine G.rg ?_
              refine K.move (.inl rfl) (gd0 rfl) rfl rfl ?_
              refine K.move (.inl rfl) (gd0 rfl) rfl rfl ?_
              refine K.move (.inl rfl) (gd0 rfl) rfl rfl ?_
              refine K.idxL (rV 0 S W0 s0 b0 o0 eTItem 2 l0) ((v2).toNat) (hI0.is 0) (atL_get hx7) (atL_nn hx7) (gd0 rfl) rfl rfl rfl Try.underlying33 el33.size_run rfl ?_
              refine K.loadSL Y (rV 0 S W0 s0 b0 o0 eTItem 2 l0) ((v2).toNat) 0 [_, _] [_, _] (hI0.is 0) (atL_get hx7) (gd0 rfl) rfl rfl t37 rfl rfl rfl rfl rfl ?_
              refine K.buildL Y 113 ([x7] : List TItem) [(0, _)] [((.tmp 40), _)] eTItem_len (gd0 rfl) (AllE.spec ⟨rfl, trivial⟩) rfl rfl Try.underlying33 t37 rfl rfl rfl rfl rfl rfl rfl rfl ?_
              refine K.appendL 114 (lrowV 113 37 eTItem 2 ([x7] : List TItem)) _ el33 (lrowV_is eTItem_len (by decide)) eTItem_one (gd0 rfl) rfl rfl rfl rfl rfl (ap_m h8) (ap_b h8 (by decide)) rfl rfl rfl rfl rfl rfl ?_
              refine K.move (.inr rfl) (gd0 rfl) rfl rfl ?_
              refine K.nil ?_
              refine At.next ?_
              obtain ⟨h9, H2⟩ := grd H2
              obtain ⟨h11, H2⟩ := grd H2
              refine G.rg ?_
              refine K.move (.inl rfl) (gd0 rfl) rfl rfl ?_
              refine K.move (.inl rfl) (gd0 rfl) rfl rfl ?_
              refine K.move (.inl rfl) (gd0 rfl) rfl rfl ?_
              refine K.partL ((x3).toNat) v1.length (gd0 rfl) rfl (.at_ rfl h9.1 rfl) .no rfl Try.underlying33 el33.size_run (tn_len h9.2) (Nat.le_refl _) rfl ?_
              refine K.appendL 115 (lsubV 107 37 eTItem 2 v1 ((x3).toNat) v1.length) _ el33 (lsubV_is eTItem_len (by decide) (tn_len h9.2) (Nat.le_refl _)) eTItem_one (gd0 rfl) rfl rfl rfl rfl rfl (ap_m h11) (ap_b h11 (by decide)) rfl rfl rfl rfl rfl rfl ?_
              refine K.move (.inr rfl) (gd0 rfl) rfl rfl ?_
              refine K.nil ?_
              refine At.block_normal ?_
              exact At.joined (σ := { v : List TItem // x2 = v }) (Fs := fun q => [(0, SV.raw s0), (3, .a (.c (.nv 106))), (4, .a (.c (.v (.int .i64 v2))))]) (Tl := fun q => [(0, rd S W0), (106, lrow 106 37 eTItem 2 q.1)]) ⟨(((([] : List TItem) ++ ((v1.drop 0).take (((x3).toNat) - 0))) ++ ([x7] : List TItem)) ++ ((v1.drop ((x3).toNat)).take (v1.length - ((x3).toNat)))), (Option.some.inj H2).symm⟩ [(106, 115)] [_, _] rfl ⟨rfl, rfl, rfl, trivial⟩ ⟨rfl, (fun _ => rfl), rfl, (lrow_ren rfl), trivial⟩ rfl
          ·
            rintro ⟨_, rfl⟩
            show G _ _ [(0, SV.raw s0), (3, .a (.c (.nv 106))), (4, .a (.c (.v (.int .i64 v2))))] [(0, some (rd S W0)), (106, some (lrow 106 37 eTItem 2 x2))] _ _
            refine G.rg ?_
            refine K.move (.inl rfl) (gd0 rfl) rfl rfl ?_
            refine K.bin (V := .int .i64 (w64 (v2 + 1))) (gd0 rfl) rfl rfl (fun _ => rfl) rfl ?_
            refine K.move (.inr rfl) (gd0 rfl) rfl rfl ?_
            refine K.nil ?_
            exact At.again (σ := { q : Nat × (List TItem × Int) // R02_Sorted.l0 k l0 q.1 q.2 = some x1 }) (Fs := fun q => [(0, SV.raw s0), (3, .a (.c (.nv 105))), (4, .a (.c (.v (.int .i64 q.1.2.2))))]) (Tl := fun q => [(0, rd S W0), (105, lrow 105 37 eTItem 2 q.1.2.1)]) (μ := fun q => q.1.1) (s := ⟨(n0 + 1, (v1, v2)), HL0⟩) ⟨(n0, (x2, (w64 (v2 + 1)))), H1⟩ [(105, 106)] [_, _] (Nat.lt_succ_self _) rfl ⟨rfl, rfl, rfl, trivial⟩ ⟨rfl, (fun _ => rfl), rfl, (lrow_ren rfl), trivial⟩ rfl
        ·
          replace H1 := bif_f H1 h1
          refine G.exit ?_
          refine At.over_exit ?_
          refine At.over_exit ?_
          refine At.block_hit ?_
          exact At.joined (σ := { v : List TItem // x1 = v }) (Fs := fun q => [(3, .a (.c (.nv 102)))]) (Tl := fun q => [(0, rd S W0), (102, lrow 102 37 eTItem 2 q.1)]) ⟨v1, (Option.some.inj H1).symm⟩ [(102, 105)] [_, _] rfl ⟨rfl, trivial⟩ ⟨rfl, (fun _ => rfl), rfl, (lrow_ren rfl), trivial⟩ rfl
  ·
    rintro ⟨_, rfl⟩
    show G _ _ [(3, .a (.c (.nv 102)))] [(0, some (rd S W0)), (102, some (lrow 102 37 eTItem 2 x1))] _ _
    refine G.seq ?_
    refine G.rg ?_
    refine K.move (.inl rfl) (gd0 rfl) rfl rfl ?_
    refine K.move (.inr rfl) (gd0 rfl) rfl rfl ?_
    refine K.nil ?_
    refine At.next ?_
    refine G.ret ?_
    refine At.ren (fs' := [(2, .a (.c (.nv 30)))]) (tl := [(0, rd S W0), (30, lrow 30 37 eTItem 2 x1)]) [(30, 102)] [_, _] rfl ⟨rfl, trivial⟩ ⟨rfl, (fun _ => rfl), rfl, (lrow_ren rfl), trivial⟩ rfl ?_
    refine At.done Y [(.tmp 2, .c _)] rfl ⟨.tmp rfl, trivial⟩ (to' := [(0, _), (30, _)]) ⟨rfl, rfl, trivial⟩ ?_ ?_ rfl rfl rfl (.inl rfl)
    · cases H0; rfl
    · cases H0; rfl
theorem R02_Sorted_con {k : Nat}  {S : Foot} {W0 : World} {s0 : Value} {l0 : List TItem} {r : List TItem} (hL0 : LArg S W0 s0 eTItem 2 l0) (H0 : R02_Sorted.f k l0 = some r) (m30 : Nat) (hd : ndB [m30] = true) : SCon Try.prog 75 [SV.raw s0] [(0, rd S W0)] (.a (.c (.nv m30))) [(0, rd S W0), (m30, lrow m30 37 eTItem 2 r)] [m30] :=
  SCon.ren (rn [(30, m30)]) (R02_Sorted_con0 (k := k)  hL0 H0) ⟨(fun _ => rfl), trivial⟩ ⟨(fun _ => rfl), (lrow_ren rfl), trivial⟩ (rn_nd hd rfl rfl) (rn_ks hd rfl rfl rfl)
theorem R08_Deletes_con0 {k : Nat}  {S : Foot} {W0 : World} {s0 : Value} {l0 : List TR08Mark} {r : Int × Int × TItem} (hL0 : LArg S W0 s0 eTR08Mark 8 l0) (H0 : R08_Deletes.f k l0 = some r) : SCon Try.prog 60 [SV.raw s0] [(0, rd S W0)] (.tup [.c (.v (.int .i64 r.1)), .c (.v (.int .i64 r.2.1)), .agg ((eTItem r.2.2).map .v)]) [(0, rd S W0)] [] := by
  rw [R08_Deletes.f] at H0
  obtain ⟨b0, o0, hI0⟩ := hL0
  refine spec_of [(0, _)] [(0, _)] 56 Try.func60 rfl Try.ntmps60 rfl rfl rfl rfl (fun β W F => ?_)
  refine G.seq ?_
  refine G.rg ?_
  refine K.move (.inr rfl) (gd0 rfl) rfl rfl ?_
  refine K.move (.inr rfl) (gd0 rfl) rfl rfl ?_
  refine K.alloc Y 100 [_, _] (gd0 rfl) t37 rfl rfl rfl rfl rfl ?_
  refine K.nil ?_
  refine At.next ?_
  refine G.seq ?_
  refine G.rg ?_
  refine K.move (.inr rfl) (gd0 rfl) rfl rfl ?_
  refine K.move (.inr rfl) (gd0 rfl) rfl rfl ?_
  refine K.nil ?_
  refine At.next ?_
  refine G.seq ?_
  refine G.rg ?_
  refine K.nilRow 101 37 eTItem 2 (.inl rfl) (gd0 rfl) rfl rfl rfl ?_
  refine K.nil ?_
  refine At.next ?_
  obtain ⟨x1, H1, H0⟩ := bnd H0
  refine G.seqJ (σ := { v : Int × Int × List TItem // x1 = v }) (fun q => [(4, .a (.c (.p 102 0))), (5, .a (.c (.v (.int .i64 q.1.1)))), (6, .a (.c (.v (.int .i64 q.1.2.1)))), (7, .a (.c (.nv 103)))]) (fun q => [(0, rd S W0), (102, blk 102 [.v (.int .i64 0), .v (.int .i64 0)] 37), (103, lrow 103 37 eTItem 2 q.1.2.2)]) ?_ ?_
  ·
    refine G.seq ?_
    refine G.rg ?_
    refine K.move (.inr rfl) (gd0 rfl) rfl rfl ?_
    refine K.nil ?_
    refine At.next ?_
    refine G.block ?_
    refine G.loop (σ := { q : Nat × (Int × Int × List TItem × Int) // R08_Deletes.l0 k l0 q.1 q.2 = some x1 }) (fun q => [(0, SV.raw s0), (4, .a (.c (.p 108 0))), (5, .a (.c (.v (.int .i64 q.1.2.1)))), (6, .a (.c (.v (.int .i64 q.1.2.2.1)))), (7, .a (.c (.nv 109))), (8, .a (.c (.v (.int .i64 q.1.2.2.2.2))))]) (fun q => [(0, rd S W0), (108, blk 108 [.v (.int .i64 0), .v (.int .i64 0)] 37), (109, lrow 109 37 eTItem 2 q.1.2.2.2.1)]) (fun q => q.1.1) ⟨(k, (0, 0, ([] : List TItem), 0)), H1⟩ ?_ ?_
    · exact At.into [(108, 100), (109, 101)] [_, _, _] rfl ⟨rfl, rfl, rfl, rfl, rfl, rfl, trivial⟩ ⟨rfl, (fun _ => rfl), rfl, (blk_ren rfl rfl), rfl, (lrow_ren rfl), trivial⟩ rfl
    ·
      rintro ⟨⟨n0, v1, v2, v3, v4⟩, H1⟩
      show G _ _ [(0, SV.raw s0), (4, .a (.c (.p 108 0))), (5, .a (.c (.v (.int .i64 v1)))), (6, .a (.c (.v (.int .i64 v2)))), (7, .a (.c (.nv 109))), (8, .a (.c (.v (.int .i64 v4))))] [(0, some (rd S W0)), (108, some (blk 108 [.v (.int .i64 0), .v (.int .i64 0)] 37)), (109, some (lrow 109 37 eTItem 2 v3))] _ _
      cases n0 with
      | zero => exact absurd H1 (by simp [R08_Deletes.l0])
      | succ n0 =>
        have HL0 := H1
        rw [R08_Deletes.l0] at H1
        refine G.seq ?_
        refine G.seq ?_
        refine G.rg ?_
        refine K.move (.inl rfl) (gd0 rfl) rfl rfl ?_
        refine K.move (.inl rfl) (gd0 rfl) rfl rfl ?_
        refine K.lenL (rV 0 S W0 s0 b0 o0 eTR08Mark 8 l0) (hI0.is 0) (gd0 rfl) rfl rfl Try.underlying60 rfl ?_
        refine K.bin (V := .bool (decide (v4 < (l0.length : Int)))) (gd0 rfl) rfl rfl (fun _ => rfl) rfl ?_
        refine K.nil ?_
        refine At.next ?_
        refine G.cond rfl (fun h1 => ?_) (fun h1 => ?_)
        ·
          replace H1 := bif_t H1 h1
          refine G.skip ?_
          refine At.next ?_
          refine G.seq ?_
          refine G.block ?_
          refine G.seq ?_
          refine G.seq ?_
          obtain ⟨x2, hx2, H1⟩ := bnd H1
          refine G.rg ?_
          refine K.move (.inl rfl) (gd0 rfl) rfl rfl ?_
          refine K.move (.inl rfl) (gd0 rfl) rfl rfl ?_
          refine K.idxL (rV 0 S W0 s0 b0 o0 eTR08Mark 8 l0) ((v4).toNat) (hI0.is 0) (atL_get hx2) (atL_nn hx2) (gd0 rfl) rfl rfl rfl Try.underlying60 el60.size_run rfl ?_
          refine K.fieldL Y (rV 0 S W0 s0 b0 o0 eTR08Mark 8 l0) ((v4).toNat) 0 0 (hI0.is 0) (atL_get hx2) (gd0 rfl) rfl rfl t75 rfl rfl rfl rfl ?_
          refine K.fieldL Y (rV 0 S W0 s0 b0 o0 eTR08Mark 8 l0) ((v4).toNat) 0 1 (hI0.is 0) (atL_get hx2) (gd0 rfl) rfl rfl t73 rfl rfl rfl rfl ?_
          refine K.load1L Y (rV 0 S W0 s0 b0 o0 eTR08Mark 8 l0) ((v4).toNat) 1 (hI0.is 0) (atL_get hx2) (gd0 rfl) rfl rfl t4 rfl rfl ?_
          refine K.nil ?_
          refine At.next ?_
          refine G.cond rfl (fun h2 => ?_) (fun h2 => ?_)
          ·
            replace H1 := bif_t H1 h2
            refine G.exit ?_
            refine At.over_exit ?_
            refine At.block_hit ?_
            refine At.next ?_
            refine G.rg ?_
            refine K.move (.inl rfl) (gd0 rfl) rfl rfl ?_
            refine K.bin (V := .int .i64 (w64 (v4 + 1))) (gd0 rfl) rfl rfl (fun _ => rfl) rfl ?_
            refine K.move (.inr rfl) (gd0 rfl) rfl rfl ?_
            refine K.nil ?_
            exact At.again (σ := { q : Nat × (Int × Int × List TItem × Int) // R08_Deletes.l0 k l0 q.1 q.2 = some x1 }) (Fs := fun q => [(0, SV.raw s0), (4, .a (.c (.p 108 0))), (5, .a (.c (.v (.int .i64 q.1.2.1)))), (6, .a (.c (.v (.int .i64 q.1.2.2.1)))), (7, .a (.c (.nv 109))), (8, .a (.c (.v (.int .i64 q.1.2.2.2.2))))]) (Tl := fun q => [(0, rd S W0), (108, blk 108 [.v (.int .i64 0), .v (.int .i64 0)] 37), (109, lrow 109 37 eTItem 2 q.1.2.2.2.1)]) (μ := fun q => q.1.1) (s := ⟨(n0 + 1, (v1, v2, v3, v4)), HL0⟩) ⟨(n0, (v1, v2, v3, (w64 (v4 + 1)))), H1⟩ [] [_, _, _] (Nat.lt_succ_self _) rfl ⟨rfl, rfl, rfl, rfl, rfl, rfl, trivial⟩ ⟨rfl, (fun _ => rfl), rfl, (blk_ren rfl rfl), rfl, (lrow_ren rfl), trivial⟩ rfl
          ·
            replace H1 := bif_f H1 h2
            refine G.skip ?_
            refine At.next ?_
            refine G.seq ?_
            refine G.rg ?_
            refine K.move (.inl rfl) (gd0 rfl) rfl rfl ?_
            refine K.bin (V := .int .i64 (w64 (v1 + 1))) (gd0 rfl) rfl rfl (fun _ => rfl) rfl ?_
            refine K.move (.inr rfl) (gd0 rfl) rfl rfl ?_
            refine K.nil ?_
            refine At.next ?_
            refine G.seq ?_
            refine G.rg ?_
            refine K.move (.inl rfl) (gd0 rfl) rfl rfl ?_
            refine K.move (.inl rfl) (gd0 rfl) rfl rfl ?_
            refine K.idxL (rV 0 S W0 s0 b0 o0 eTR08Mark 8 l0) ((v4).toNat) (hI0.is 0) (atL_get hx2) (atL_nn hx2) (gd0 rfl) rfl rfl rfl Try.underlying60 el60.size_run rfl ?_
            refine K.fieldL Y (rV 0 S W0 s0 b0 o0 eTR08Mark 8 l0) ((v4).toNat) 0 5 (hI0.is 0) (atL_get hx2) (gd0 rfl) rfl rfl t75 rfl rfl rfl rfl ?_
            refine K.fieldL Y (rV 0 S W0 s0 b0 o0 eTR08Mark 8 l0) ((v4).toNat) 5 5 (hI0.is 0) (atL_get hx2) (gd0 rfl) rfl rfl t65 rfl rfl rfl rfl ?_
            refine K.load1L Y (rV 0 S W0 s0 b0 o0 eTR08Mark 8 l0) ((v4).toNat) 5 (hI0.is 0) (atL_get hx2) (gd0 rfl) rfl rfl t4 rfl rfl ?_
            refine K.nil ?_
            refine At.next ?_
            refine G.cond rfl (fun h3 => ?_) (fun h3 => ?_)
            ·
              replace H1 := bif_t H1 h3
              obtain ⟨h4, H1⟩ := grd H1
              refine G.rg ?_
              refine K.move (.inl rfl) (gd0 rfl) rfl rfl ?_
              refine K.move (.inl rfl) (gd0 rfl) rfl rfl ?_
              refine K.move (.inl rfl) (gd0 rfl) rfl rfl ?_
              refine K.idxL (rV 0 S W0 s0 b0 o0 eTR08Mark 8 l0) ((v4).toNat) (hI0.is 0) (atL_get hx2) (atL_nn hx2) (gd0 rfl) rfl rfl rfl Try.underlying60 el60.size_run rfl ?_
              refine K.fieldL Y (rV 0 S W0 s0 b0 o0 eTR08Mark 8 l0) ((v4).toNat) 0 5 (hI0.is 0) (atL_get hx2) (gd0 rfl) rfl rfl t75 rfl rfl rfl rfl ?_
              refine K.fieldL Y (rV 0 S W0 s0 b0 o0 eTR08Mark 8 l0) ((v4).toNat) 5 6 (hI0.is 0) (atL_get hx2) (gd0 rfl) rfl rfl t65 rfl rfl rfl rfl ?_
              refine K.loadSL Y (rV 0 S W0 s0 b0 o0 eTR08Mark 8 l0) ((v4).toNat) 6 [_, _] [_, _] (hI0.is 0) (atL_get hx2) (gd0 rfl) rfl rfl t37 rfl rfl rfl rfl rfl ?_
              refine K.buildL Y 110 ([x2.took.item] : List TItem) [(0, _)] [((.tmp 35), _)] eTItem_len (gd0 rfl) (AllE.spec ⟨rfl, trivial⟩) rfl rfl Try.underlying33 t37 rfl rfl rfl rfl rfl rfl rfl rfl ?_
              refine K.appendL 111 (lrowV 110 37 eTItem 2 ([x2.took.item] : List TItem)) _ el33 (lrowV_is eTItem_len (by decide)) eTItem_one (gd0 rfl) rfl rfl rfl rfl rfl (ap_m h4) (ap_b h4 (by decide)) rfl rfl rfl rfl rfl rfl ?_
              refine K.move (.inr rfl) (gd0 rfl) rfl rfl ?_
              refine K.nil ?_
              refine At.block_normal ?_
              refine At.next ?_
              refine G.rg ?_
              refine K.move (.inl rfl) (gd0 rfl) rfl rfl ?_
              refine K.bin (V := .int .i64 (w64 (v4 + 1))) (gd0 rfl) rfl rfl (fun _ => rfl) rfl ?_
              refine K.move (.inr rfl) (gd0 rfl) rfl rfl ?_
              refine K.nil ?_
              exact At.again (σ := { q : Nat × (Int × Int × List TItem × Int) // R08_Deletes.l0 k l0 q.1 q.2 = some x1 }) (Fs := fun q => [(0, SV.raw s0), (4, .a (.c (.p 108 0))), (5, .a (.c (.v (.int .i64 q.1.2.1)))), (6, .a (.c (.v (.int .i64 q.1.2.2.1)))), (7, .a (.c (.nv 109))), (8, .a (.c (.v (.int .i64 q.1.2.2.2.2))))]) (Tl := fun q => [(0, rd S W0), (108, blk 108 [.v (.int .i64 0), .v (.int .i64 0)] 37), (109, lrow 109 37 eTItem 2 q.1.2.2.2.1)]) (μ := fun q => q.1.1) (s := ⟨(n0 + 1, (v1, v2, v3, v4)), HL0⟩) ⟨(n0, ((w64 (v1 + 1)), v2, (v3 ++ ([x2.took.item] : List TItem)), (w64 (v4 + 1)))), H1⟩ [(109, 111)] [_, _, _] (Nat.lt_succ_self _) rfl ⟨rfl, rfl, rfl, rfl, rfl, rfl, trivial⟩ ⟨rfl, (fun _ => rfl), rfl, (blk_ren rfl rfl), rfl, (lrow_ren rfl), trivial⟩ rfl
            ·
              replace H1 := bif_f H1 h3
              refine G.rg ?_
              refine K.move (.inl rfl) (gd0 rfl) rfl rfl ?_
              refine K.bin (V := .int .i64 (w64 (v2 + 1))) (gd0 rfl) rfl rfl (fun _ => rfl) rfl ?_
              refine K.move (.inr rfl) (gd0 rfl) rfl rfl ?_
              refine K.nil ?_
              refine At.block_normal ?_
              refine At.next ?_
              refine G.rg ?_
              refine K.move (.inl rfl) (gd0 rfl) rfl rfl ?_
              refine K.bin (V := .int .i64 (w64 (v4 + 1))) (gd0 rfl) rfl rfl (fun _ => rfl) rfl ?_
              refine K.move (.inr rfl) (gd0 rfl) rfl rfl ?_
              refine K.nil ?_
              exact At.again (σ := { q : Nat × (Int × Int × List TItem × Int) // R08_Deletes.l0 k l0 q.1 q.2 = some x1 }) (Fs := fun q => [(0, SV.raw s0), (4, .a (.c (.p 108 0))), (5, .a (.c (.v (.int .i64 q.1.2.1)))), (6, .a (.c (.v (.int .i64 q.1.2.2.1)))), (7, .a (.c (.nv 109))), (8, .a (.c (.v (.int .i64 q.1.2.2.2.2))))]) (Tl := fun q => [(0, rd S W0), (108, blk 108 [.v (.int .i64 0), .v (.int .i64 0)] 37), (109, lrow 109 37 eTItem 2 q.1.2.2.2.1)]) (μ := fun q => q.1.1) (s := ⟨(n0 + 1, (v1, v2, v3, v4)), HL0⟩) ⟨(n0, ((w64 (v1 + 1)), (w64 (v2 + 1)), v3, (w64 (v4 + 1)))), H1⟩ [] [_, _, _] (Nat.lt_succ_self _) rfl ⟨rfl, rfl, rfl, rfl, rfl, rfl, trivial⟩ ⟨rfl, (fun _ => rfl), rfl, (blk_ren rfl rfl), rfl, (lrow_ren rfl), trivial⟩ rfl
        ·
          replace H1 := bif_f H1 h1
          refine G.exit ?_
          refine At.over_exit ?_
          refine At.over_exit ?_
          refine At.block_hit ?_
          exact At.joined (σ := { v : Int × Int × List TItem // x1 = v }) (Fs := fun q => [(4, .a (.c (.p 102 0))), (5, .a (.c (.v (.int .i64 q.1.1)))), (6, .a (.c (.v (.int .i64 q.1.2.1)))), (7, .a (.c (.nv 103)))]) (Tl := fun q => [(0, rd S W0), (102, blk 102 [.v (.int .i64 0), .v (.int .i64 0)] 37), (103, lrow 103 37 eTItem 2 q.1.2.2)]) ⟨(v1, v2, v3), (Option.some.inj H1).symm⟩ [(102, 108), (103, 109)] [_, _, _] rfl ⟨rfl, rfl, rfl, rfl, trivial⟩ ⟨rfl, (fun _ => rfl), rfl, (blk_ren rfl rfl), rfl, (lrow_ren rfl), trivial⟩ rfl
  ·
    rintro ⟨_, rfl⟩
    show G _ _ [(4, .a (.c (.p 102 0))), (5, .a (.c (.v (.int .i64 x1.1)))), (6, .a (.c (.v (.int .i64 x1.2.1)))), (7, .a (.c (.nv 103)))] [(0, some (rd S W0)), (102, some (blk 102 [.v (.int .i64 0), .v (.int .i64 0)] 37)), (103, some (lrow 103 37 eTItem 2 x1.2.2))] _ _
    refine G.seq ?_
    obtain ⟨x3, hx3, H0⟩ := bnd H0
    refine G.rg ?_
    refine K.move (.inl rfl) (gd0 rfl) rfl rfl ?_
    refine K.callV [(.func 75, _), ((.tmp 40), _)] [(103, lrow 103 37 eTItem 2 x1.2.2)] [] [(112, _)] (fun β => [SV.raw ((lrowV 103 37 eTItem 2 x1.2.2).s.den β)]) (fun β w S2 h => R02_Sorted_con (k := k) ((lrowV_isC eTItem_len (by decide)).larg ⟨_, List.mem_cons_self⟩ h) hx3 112 rfl) (toFn_func (cf 75 rfl) rfl) (gd0 rfl) ⟨rfl, rfl, trivial⟩ (fun _ => rfl) ⟨rfl, trivial⟩ rfl rfl rfl rfl rfl rfl ?_
    refine K.move (.inr rfl) (gd0 rfl) rfl rfl ?_
    refine K.nil ?_
    refine At.next ?_
    refine G.seq ?_
    refine G.seq ?_
    refine G.rg ?_
    refine K.move (.inl rfl) (gd0 rfl) rfl rfl ?_
    refine K.lenL (lrowV 112 37 eTItem 2 x3) (lrowV_is eTItem_len (by decide)) (gd0 rfl) rfl rfl Try.underlying33 rfl ?_
    refine K.bin (V := .bool ((x3.length : Int) == 0)) (gd0 rfl) rfl rfl (fun _ => rfl) rfl ?_
    refine K.nil ?_
    refine At.next ?_
    refine G.cond rfl (fun h5 => ?_) (fun h5 => ?_)
    ·
      replace H0 := bif_t H0 h5
      refine G.seq ?_
      refine G.rg ?_
      refine K.move (.inl rfl) (gd0 rfl) rfl rfl ?_
      refine K.move (.inl rfl) (gd0 rfl) rfl rfl ?_
      refine K.build Y [] [_, _] [] (gd0 rfl) (AllE.spec trivial) rfl rfl t37 rfl rfl ?_
      refine K.move (.inr rfl) (gd0 rfl) rfl rfl ?_
      refine K.move (.inr rfl) (gd0 rfl) rfl rfl ?_
      refine K.store Y [_, _] (gd0 rfl) rfl rfl rfl t37 rfl rfl rfl rfl rfl ?_
      refine K.nil ?_
      refine At.next ?_
      refine G.ret ?_
      refine At.over_ret ?_
      refine At.done Y [(.tmp 2, .c _), (.tmp 3, .c _), (.cell 4 37, .agg [_, _])] rfl ⟨.tmp rfl, .tmp rfl, .st rfl rfl t37 rfl rfl, trivial⟩ (to' := [(0, _)]) ⟨rfl, trivial⟩ ?_ ?_ rfl rfl rfl (.inl rfl)
      · cases H0; rfl
      · cases H0; rfl
    ·
      replace H0 := bif_f H0 h5
      refine G.skip ?_
      refine At.next ?_
      refine G.seq ?_
      obtain ⟨x4, hx4, H0⟩ := bnd H0
      refine G.rd mixed ?_
      refine K.move (.inl rfl) (gd0 rfl) rfl rfl ?_
      refine K.move (.inl rfl) (gd0 rfl) rfl rfl ?_
      refine K.move (.inl rfl) (gd0 rfl) rfl rfl ?_
      refine K.move (.inl rfl) (gd0 rfl) rfl rfl ?_
      refine K.lenL (lrowV 112 37 eTItem 2 x3) (lrowV_is eTItem_len (by decide)) (gd0 rfl) rfl rfl Try.underlying33 rfl ?_
      refine K.bin (V := .int .i64 (w64 ((x3.length : Int) - 1))) (gd0 rfl) rfl rfl (fun _ => rfl) rfl ?_
      refine K.idxL (lrowV 112 37 eTItem 2 x3) (((w64 ((x3.length : Int) - 1))).toNat) (lrowV_is eTItem_len (by decide)) (atL_get hx4) (atL_nn hx4) (gd0 rfl) rfl rfl rfl Try.underlying33 el33.size_run rfl ?_
      refine K.loadSL Y (lrowV 112 37 eTItem 2 x3) (((w64 ((x3.length : Int) - 1))).toNat) 0 [_, _] [_, _] (lrowV_is eTItem_len (by decide)) (atL_get hx4) (gd0 rfl) rfl rfl t37 rfl rfl rfl rfl rfl ?_
      refine K.move (.inr rfl) (gd0 rfl) rfl rfl ?_
      refine K.move (.inr rfl) (gd0 rfl) rfl rfl ?_
      refine K.store Y [_, _] (gd0 rfl) rfl rfl rfl t37 rfl rfl rfl rfl rfl ?_
      refine K.nil ?_
      refine ⟨by kernel_rfl, ?_⟩
      refine At.next ?_
      refine G.ret ?_
      refine At.done Y [(.tmp 2, .c _), (.tmp 3, .c _), (.cell 4 37, .agg [_, _])] rfl ⟨.tmp rfl, .tmp rfl, .st rfl rfl t37 rfl rfl, trivial⟩ (to' := [(0, _)]) ⟨rfl, trivial⟩ ?_ ?_ rfl rfl rfl (.inl rfl)
      · cases H0; rfl
      · cases H0; rfl
theorem R08_Deletes_con {k : Nat}  {S : Foot} {W0 : World} {s0 : Value} {l0 : List TR08Mark} {r : Int × Int × TItem} (hL0 : LArg S W0 s0 eTR08Mark 8 l0) (H0 : R08_Deletes.f k l0 = some r) : SCon Try.prog 60 [SV.raw s0] [(0, rd S W0)] (.tup [.c (.v (.int .i64 r.1)), .c (.v (.int .i64 r.2.1)), .agg ((eTItem r.2.2).map .v)]) [(0, rd S W0)] [] :=
  SCon.ren (rn []) (R08_Deletes_con0 (k := k)  hL0 H0) ⟨(fun _ => rfl), trivial⟩ ⟨(fun _ => rfl), trivial⟩ (by simp) (by simp)
theorem R08_Items_con0 {k : Nat}  {S : Foot} {W0 : World} {s0 : Value} {l0 : List TR08Mark} {a1 : Bool} {r : List TItem} (hL0 : LArg S W0 s0 eTR08Mark 8 l0) (H0 : R08_Items.f k l0 a1 = some r) : SCon Try.prog 61 [SV.raw s0, .a (.c (.v (.bool a1)))] [(0, rd S W0)] (.a (.c (.nv 30))) [(0, rd S W0), (30, lrow 30 37 eTItem 2 r)] [30] := by
  rw [R08_Items.f] at H0
  obtain ⟨b0, o0, hI0⟩ := hL0
  refine spec_of [(0, _), (1, _)] [(0, _)] 39 Try.func61 rfl Try.ntmps61 rfl rfl rfl rfl (fun β W F => ?_)
  refine G.seq ?_
  refine G.rg ?_
  refine K.nilRow 100 37 eTItem 2 (.inl rfl) (gd0 rfl) rfl rfl rfl ?_
  refine K.nil ?_
  refine At.next ?_
  refine G.seq ?_
  refine G.rg ?_
  refine K.nilRow 101 37 eTItem 2 (.inl rfl) (gd0 rfl) rfl rfl rfl ?_
  refine K.nil ?_
  refine At.next ?_
  obtain ⟨x1, H1, H0⟩ := bnd H0
  refine G.seqJ (σ := { v : List TItem // x1 = v }) (fun q => [(5, .a (.c (.nv 102)))]) (fun q => [(0, rd S W0), (102, lrow 102 37 eTItem 2 q.1)]) ?_ ?_
  ·
    refine G.seq ?_
    refine G.rg ?_
    refine K.move (.inr rfl) (gd0 rfl) rfl rfl ?_
    refine K.nil ?_
    refine At.next ?_
    refine G.block ?_
    refine G.loop (σ := { q : Nat × (List TItem × Int) // R08_Items.l0 k l0 a1 q.1 q.2 = some x1 }) (fun q => [(0, SV.raw s0), (1, .a (.c (.v (.bool a1)))), (5, .a (.c (.nv 105))), (6, .a (.c (.v (.int .i64 q.1.2.2))))]) (fun q => [(0, rd S W0), (105, lrow 105 37 eTItem 2 q.1.2.1)]) (fun q => q.1.1) ⟨(k, (([] : List TItem), 0)), H1⟩ ?_ ?_
    · exact At.into [(105, 101)] [_, _] rfl ⟨rfl, rfl, rfl, rfl, trivial⟩ ⟨rfl, (fun _ => rfl), rfl, (lrow_ren rfl), trivial⟩ rfl
    ·
      rintro ⟨⟨n0, v1, v2⟩, H1⟩
      show G _ _ [(0, SV.raw s0), (1, .a (.c (.v (.bool a1)))), (5, .a (.c (.nv 105))), (6, .a (.c (.v (.int .i64 v2))))] [(0, some (rd S W0)), (105, some (lrow 105 37 eTItem 2 v1))] _ _
      cases n0 with
      | zero => exact absurd H1 (by simp [R08_Items.l0])
      | succ n0 =>
        have HL0 := H1
        rw [R08_Items.l0] at H1
        refine G.seq ?_
        refine G.seq ?_
        refine G.rg ?_
        refine K.move (.inl rfl) (gd0 rfl) rfl rfl ?_
        refine K.move (.inl rfl) (gd0 rfl) rfl rfl ?_
        refine K.lenL (rV 0 S W0 s0 b0 o0 eTR08Mark 8 l0) (hI0.is 0) (gd0 rfl) rfl rfl Try.underlying60 rfl ?_
        refine K.bin (V := .bool (decide (v2 < (l0.length : Int)))) (gd0 rfl) rfl rfl (fun _ => rfl) rfl ?_
        refine K.nil ?_
        refine At.next ?_
        refine G.cond rfl (fun h1 => ?_) (fun h1 => ?_)
        ·
          replace H1 := bif_t H1 h1
          refine G.skip ?_
          refine At.next ?_
          refine G.seq ?_
          refine G.block ?_
          refine G.seq ?_
          obtain ⟨x2, hx2, H1⟩ := bnd H1
          rcases Bool.eq_false_or_eq_true x2.op.insert with h2 | h2
          ·
            replace H1 := bif_t H1 h2
            refine G.rg ?_
            refine K.move (.inl rfl) (gd0 rfl) rfl rfl ?_
            refine K.move (.inl rfl) (gd0 rfl) rfl rfl ?_
            refine K.idxL (rV 0 S W0 s0 b0 o0 eTR08Mark 8 l0) ((v2).toNat) (hI0.is 0) (atL_get hx2) (atL_nn hx2) (gd0 rfl) rfl rfl rfl Try.underlying60 el60.size_run rfl ?_
            refine K.fieldL Y (rV 0 S W0 s0 b0 o0 eTR08Mark 8 l0) ((v2).toNat) 0 0 (hI0.is 0) (atL_get hx2) (gd0 rfl) rfl rfl t75 rfl rfl rfl rfl ?_
            refine K.fieldL Y (rV 0 S W0 s0 b0 o0 eTR08Mark 8 l0) ((v2).toNat) 0 1 (hI0.is 0) (atL_get hx2) (gd0 rfl) rfl rfl t73 rfl rfl rfl rfl ?_
            refine K.load1L Y (rV 0 S W0 s0 b0 o0 eTR08Mark 8 l0) ((v2).toNat) 1 (hI0.is 0) (atL_get hx2) (gd0 rfl) rfl rfl t4 rfl rfl ?_
            refine K.move (.inl rfl) (gd0 rfl) rfl rfl ?_
            refine K.move (.inl rfl) (gd1 rfl rfl rfl (h2)) rfl rfl ?_
            refine K.move (.inl rfl) (gd1 rfl rfl rfl (h2)) rfl rfl ?_
            refine K.idxL (rV 0 S W0 s0 b0 o0 eTR08Mark 8 l0) ((v2).toNat) (hI0.is 0) (atL_get hx2) (atL_nn hx2) (gd1 rfl rfl rfl (h2)) rfl rfl rfl Try.underlying60 el60.size_run rfl ?_
            refine K.fieldL Y (rV 0 S W0 s0 b0 o0 eTR08Mark 8 l0) ((v2).toNat) 0 4 (hI0.is 0) (atL_get hx2) (gd1 rfl rfl rfl (h2)) rfl rfl t75 rfl rfl rfl rfl ?_
            refine K.load1L Y (rV 0 S W0 s0 b0 o0 eTR08Mark 8 l0) ((v2).toNat) 4 (hI0.is 0) (atL_get hx2) (gd1 rfl rfl rfl (h2)) rfl rfl t4 rfl rfl ?_
            refine K.move (.inl rfl) (gd1 rfl rfl rfl (h2)) rfl rfl ?_
            refine K.bin (V := .bool (x2.here == a1)) (gd1 rfl rfl rfl (h2)) rfl rfl (bq_eql Try.underlying4 _ _) rfl ?_
            refine K.pickT (gd0 rfl) rfl (h2) rfl rfl ?_
            refine K.nil ?_
            refine At.next ?_
            refine G.cond rfl (fun h3 => ?_) (fun h3 => ?_)
            ·
              replace H1 := bif_t H1 h3
              obtain ⟨h4, H1⟩ := grd H1
              refine G.rg ?_
              refine K.move (.inl rfl) (gd0 rfl) rfl rfl ?_
              refine K.move (.inl rfl) (gd0 rfl) rfl rfl ?_
              refine K.move (.inl rfl) (gd0 rfl) rfl rfl ?_
              refine K.idxL (rV 0 S W0 s0 b0 o0 eTR08Mark 8 l0) ((v2).toNat) (hI0.is 0) (atL_get hx2) (atL_nn hx2) (gd0 rfl) rfl rfl rfl Try.underlying60 el60.size_run rfl ?_
              refine K.fieldL Y (rV 0 S W0 s0 b0 o0 eTR08Mark 8 l0) ((v2).toNat) 0 0 (hI0.is 0) (atL_get hx2) (gd0 rfl) rfl rfl t75 rfl rfl rfl rfl ?_
              refine K.fieldL Y (rV 0 S W0 s0 b0 o0 eTR08Mark 8 l0) ((v2).toNat) 0 2 (hI0.is 0) (atL_get hx2) (gd0 rfl) rfl rfl t73 rfl rfl rfl rfl ?_
              refine K.loadSL Y (rV 0 S W0 s0 b0 o0 eTR08Mark 8 l0) ((v2).toNat) 2 [_, _] [_, _] (hI0.is 0) (atL_get hx2) (gd0 rfl) rfl rfl t37 rfl rfl rfl rfl rfl ?_
              refine K.buildL Y 106 ([x2.op.item] : List TItem) [(0, _)] [((.tmp 34), _)] eTItem_len (gd0 rfl) (AllE.spec ⟨rfl, trivial⟩) rfl rfl Try.underlying33 t37 rfl rfl rfl rfl rfl rfl rfl rfl ?_
              refine K.appendL 107 (lrowV 106 37 eTItem 2 ([x2.op.item] : List TItem)) _ el33 (lrowV_is eTItem_len (by decide)) eTItem_one (gd0 rfl) rfl rfl rfl rfl rfl (ap_m h4) (ap_b h4 (by decide)) rfl rfl rfl rfl rfl rfl ?_
              refine K.move (.inr rfl) (gd0 rfl) rfl rfl ?_
              refine K.nil ?_
              refine At.block_normal ?_
              refine At.next ?_
              refine G.rg ?_
              refine K.move (.inl rfl) (gd0 rfl) rfl rfl ?_
              refine K.bin (V := .int .i64 (w64 (v2 + 1))) (gd0 rfl) rfl rfl (fun _ => rfl) rfl ?_
              refine K.move (.inr rfl) (gd0 rfl) rfl rfl ?_
              refine K.nil ?_
              exact At.again (σ := { q : Nat × (List TItem × Int) // R08_Items.l0 k l0 a1 q.1 q.2 = some x1 }) (Fs := fun q => [(0, SV.raw s0), (1, .a (.c (.v (.bool a1)))), (5, .a (.c (.nv 105))), (6, .a (.c (.v (.int .i64 q.1.2.2))))]) (Tl := fun q => [(0, rd S W0), (105, lrow 105 37 eTItem 2 q.1.2.1)]) (μ := fun q => q.1.1) (s := ⟨(n0 + 1, (v1, v2)), HL0⟩) ⟨(n0, ((v1 ++ ([x2.op.item] : List TItem)), (w64 (v2 + 1)))), H1⟩ [(105, 107)] [_, _] (Nat.lt_succ_self _) rfl ⟨rfl, rfl, rfl, rfl, trivial⟩ ⟨rfl, (fun _ => rfl), rfl, (lrow_ren rfl), trivial⟩ rfl
            ·
              replace H1 := bif_f H1 h3
              refine G.skip ?_
              refine At.block_normal ?_
              refine At.next ?_
              refine G.rg ?_
              refine K.move (.inl rfl) (gd0 rfl) rfl rfl ?_
              refine K.bin (V := .int .i64 (w64 (v2 + 1))) (gd0 rfl) rfl rfl (fun _ => rfl) rfl ?_
              refine K.move (.inr rfl) (gd0 rfl) rfl rfl ?_
              refine K.nil ?_
              exact At.again (σ := { q : Nat × (List TItem × Int) // R08_Items.l0 k l0 a1 q.1 q.2 = some x1 }) (Fs := fun q => [(0, SV.raw s0), (1, .a (.c (.v (.bool a1)))), (5, .a (.c (.nv 105))), (6, .a (.c (.v (.int .i64 q.1.2.2))))]) (Tl := fun q => [(0, rd S W0), (105, lrow 105 37 eTItem 2 q.1.2.1)]) (μ := fun q => q.1.1) (s := ⟨(n0 + 1, (v1, v2)), HL0⟩) ⟨(n0, (v1, (w64 (v2 + 1)))), H1⟩ [] [_, _] (Nat.lt_succ_self _) rfl ⟨rfl, rfl, rfl, rfl, trivial⟩ ⟨rfl, (fun _ => rfl), rfl, (lrow_ren rfl), trivial⟩ rfl
          ·
            replace H1 := bif_f H1 h2
            refine G.rg ?_
            refine K.move (.inl rfl) (gd0 rfl) rfl rfl ?_
            refine K.move (.inl rfl) (gd0 rfl) rfl rfl ?_
            refine K.idxL (rV 0 S W0 s0 b0 o0 eTR08Mark 8 l0) ((v2).toNat) (hI0.is 0) (atL_get hx2) (atL_nn hx2) (gd0 rfl) rfl rfl rfl Try.underlying60 el60.size_run rfl ?_
            refine K.fieldL Y (rV 0 S W0 s0 b0 o0 eTR08Mark 8 l0) ((v2).toNat) 0 0 (hI0.is 0) (atL_get hx2) (gd0 rfl) rfl rfl t75 rfl rfl rfl rfl ?_
            refine K.fieldL Y (rV 0 S W0 s0 b0 o0 eTR08Mark 8 l0) ((v2).toNat) 0 1 (hI0.is 0) (atL_get hx2) (gd0 rfl) rfl rfl t73 rfl rfl rfl rfl ?_
            refine K.load1L Y (rV 0 S W0 s0 b0 o0 eTR08Mark 8 l0) ((v2).toNat) 1 (hI0.is 0) (atL_get hx2) (gd0 rfl) rfl rfl t4 rfl rfl ?_
            refine K.move (.inl rfl) (gd0 rfl) rfl rfl ?_
            refine K.skip rfl rfl rfl rfl (h2) rfl ?_
            refine K.skip rfl rfl rfl rfl (h2) rfl ?_
            refine K.skip rfl rfl rfl rfl (h2) rfl ?_
            refine K.skip rfl rfl rfl rfl (h2) rfl ?_
            refine K.skip rfl rfl rfl rfl (h2) rfl ?_
            refine K.skip rfl rfl rfl rfl (h2) rfl ?_
            refine K.skip rfl rfl rfl rfl (h2) rfl ?_
            refine K.pickF (gd0 rfl) rfl (h2) rfl rfl ?_
            refine K.nil ?_
            refine At.next ?_
            refine G.cond rfl (fun h5 => ?_) (fun h5 => ?_)
            · cases h5
            ·
              refine G.skip ?_
              refine At.block_normal ?_
              refine At.next ?_
              refine G.rg ?_
              refine K.move (.inl rfl) (gd0 rfl) rfl rfl ?_
              refine K.bin (V := .int .i64 (w64 (v2 + 1))) (gd0 rfl) rfl rfl (fun _ => rfl) rfl ?_
              refine K.move (.inr rfl) (gd0 rfl) rfl rfl ?_
              refine K.nil ?_
              exact At.again (σ := { q : Nat × (List TItem × Int) // R08_Items.l0 k l0 a1 q.1 q.2 = some x1 }) (Fs := fun q => [(0, SV.raw s0), (1, .a (.c (.v (.bool a1)))), (5, .a (.c (.nv 105))), (6, .a (.c (.v (.int .i64 q.1.2.2))))]) (Tl := fun q => [(0, rd S W0), (105, lrow 105 37 eTItem 2 q.1.2.1)]) (μ := fun q => q.1.1) (s := ⟨(n0 + 1, (v1, v2)), HL0⟩) ⟨(n0, (v1, (w64 (v2 + 1)))), H1⟩ [] [_, _] (Nat.lt_succ_self _) rfl ⟨rfl, rfl, rfl, rfl, trivial⟩ ⟨rfl, (fun _ => rfl), rfl, (lrow_ren rfl), trivial⟩ rfl
        ·
          replace H1 := bif_f H1 h1
          refine G.exit ?_
          refine At.over_exit ?_
          refine At.over_exit ?_
          refine At.block_hit ?_
          exact At.joined (σ := { v : List TItem // x1 = v }) (Fs := fun q => [(5, .a (.c (.nv 102)))]) (Tl := fun q => [(0, rd S W0), (102, lrow 102 37 eTItem 2 q.1)]) ⟨v1, (Option.some.inj H1).symm⟩ [(102, 105)] [_, _] rfl ⟨rfl, trivial⟩ ⟨rfl, (fun _ => rfl), rfl, (lrow_ren rfl), trivial⟩ rfl
  ·
    rintro ⟨_, rfl⟩
    show G _ _ [(5, .a (.c (.nv 102)))] [(0, some (rd S W0)), (102, some (lrow 102 37 eTItem 2 x1))] _ _
    refine G.seq ?_
    obtain ⟨x3, hx3, H0⟩ := bnd H0
    refine G.rg ?_
    refine K.move (.inl rfl) (gd0 rfl) rfl rfl ?_
    refine K.callV [(.func 75, _), ((.tmp 37), _)] [(102, lrow 102 37 eTItem 2 x1)] [] [(108, _)] (fun β => [SV.raw ((lrowV 102 37 eTItem 2 x1).s.den β)]) (fun β w S2 h => R02_Sorted_con (k := k) ((lrowV_isC eTItem_len (by decide)).larg ⟨_, List.mem_cons_self⟩ h) hx3 108 rfl) (toFn_func (cf 75 rfl) rfl) (gd0 rfl) ⟨rfl, rfl, trivial⟩ (fun _ => rfl) ⟨rfl, trivial⟩ rfl rfl rfl rfl rfl rfl ?_
    refine K.move (.inr rfl) (gd0 rfl) rfl rfl ?_
    refine K.nil ?_
    refine At.next ?_
    refine G.ret ?_
    refine At.ren (fs' := [(4, .a (.c (.nv 30)))]) (tl := [(0, rd S W0), (30, lrow 30 37 eTItem 2 x3)]) [(30, 108)] [_, _] rfl ⟨rfl, trivial⟩ ⟨rfl, (fun _ => rfl), rfl, (lrow_ren rfl), trivial⟩ rfl ?_
    refine At.done Y [(.tmp 4, .c _)] rfl ⟨.tmp rfl, trivial⟩ (to' := [(0, _), (30, _)]) ⟨rfl, rfl, trivial⟩ ?_ ?_ rfl rfl rfl (.inl rfl)
    · cases H0; rfl
    · cases H0; rfl
theorem R08_Items_con {k : Nat}  {S : Foot} {W0 : World} {s0 : Value} {l0 : List TR08Mark} {a1 : Bool} {r : List TItem} (hL0 : LArg S W0 s0 eTR08Mark 8 l0) (H0 : R08_Items.f k l0 a1 = some r) (m30 : Nat) (hd : ndB [m30] = true) : SCon Try.prog 61 [SV.raw s0, .a (.c (.v (.bool a1)))] [(0, rd S W0)] (.a (.c (.nv m30))) [(0, rd S W0), (m30, lrow m30 37 eTItem 2 r)] [m30] :=
  SCon.ren (rn [(30, m30)]) (R08_Items_con0 (k := k)  hL0 H0) ⟨(fun _ => rfl), trivial⟩ ⟨(fun _ => rfl), (lrow_ren rfl), trivial⟩ (rn_nd hd rfl rfl) (rn_ks hd rfl rfl rfl)
theorem Lw08_Comes_con0 {k : Nat}  {S : Foot} {W0 : World} {s1 : Value} {a0 : TSwell} {l1 : List TR08Mark} {r : Bool} (hL1 : LArg S W0 s1 eTR08Mark 8 l1) (H0 : Lw08_Comes.f k a0 l1 = some r) : SCon Try.prog 38 [.a (.agg ((eTSwell a0).map .v)), SV.raw s1] [(0, rd S W0)] (.a (.c (.v (.bool r)))) [(0, rd S W0)] [] := by
  rw [Lw08_Comes.f] at H0
  obtain ⟨b1, o1, hI1⟩ := hL1
  refine spec_of [(0, _), (1, _)] [(0, _)] 69 Try.func38 rfl Try.ntmps38 rfl rfl rfl rfl (fun β W F => ?_)
  refine G.seq ?_
  refine G.rg ?_
  refine K.box Y 100 [_, _, _, _, _, _, _, _, _, _, _, _, _, _, _, _] (gd0 rfl) rfl rfl rfl rfl rfl rfl ?_
  refine K.move (.inr rfl) (gd0 rfl) rfl rfl ?_
  refine K.nil ?_
  refine At.next ?_
  refine G.seq ?_
  obtain ⟨x1, hx1, H0⟩ := bnd H0
  obtain ⟨x2, hx2, H0⟩ := bnd H0
  obtain ⟨x3, hx3, H0⟩ := bnd H0
  obtain ⟨x4, hx4, H0⟩ := bnd H0
  refine G.rg ?_
  refine K.move (.inl rfl) (gd0 rfl) rfl rfl ?_
  refine K.callV [(.func 58, _), ((.tmp 13), _)] [(0, rd S W0)] [] [(101, _)] (fun β => [SV.raw s1]) (fun β w S2 h => R08_Counts_con (k := k) ((hI1.isC 0).larg ⟨_, List.mem_cons_self⟩ h) hx1 101 rfl) (toFn_func (cf 58 rfl) rfl) (gd0 rfl) ⟨rfl, rfl, trivial⟩ (fun _ => rfl) ⟨rfl, trivial⟩ rfl rfl rfl rfl rfl rfl ?_
  refine K.callV [(.func 57, _), ((.tmp 14), _)] [(101, lrow 101 3 intE 1 x1)] [] [] (fun β => [SV.raw ((lrowV 101 3 intE 1 x1).s.den β)]) (fun β w S2 h => R08_Tide_con (k := k) ((lrowV_isC intE_len (by decide)).larg ⟨_, List.mem_cons_self⟩ h) hx2) (toFn_func (cf 57 rfl) rfl) (gd0 rfl) ⟨rfl, rfl, trivial⟩ (fun _ => rfl) ⟨rfl, trivial⟩ rfl rfl rfl rfl rfl rfl ?_
  refine K.move (.inl rfl) (gd0 rfl) rfl rfl ?_
  refine K.callV [(.func 59, _), ((.tmp 16), _)] [(0, rd S W0)] [] [(102, _)] (fun β => [SV.raw s1]) (fun β w S2 h => R08_Weights_con (k := k) ((hI1.isC 0).larg ⟨_, List.mem_cons_self⟩ h) hx3 102 rfl) (toFn_func (cf 59 rfl) rfl) (gd0 rfl) ⟨rfl, rfl, trivial⟩ (fun _ => rfl) ⟨rfl, trivial⟩ rfl rfl rfl rfl rfl rfl ?_
  refine K.callV [(.func 57, _), ((.tmp 17), _)] [(102, lrow 102 3 intE 1 x3)] [] [] (fun β => [SV.raw ((lrowV 102 3 intE 1 x3).s.den β)]) (fun β w S2 h => R08_Tide_con (k := k) ((lrowV_isC intE_len (by decide)).larg ⟨_, List.mem_cons_self⟩ h) hx4) (toFn_func (cf 57 rfl) rfl) (gd0 rfl) ⟨rfl, rfl, trivial⟩ (fun _ => rfl) ⟨rfl, trivial⟩ rfl rfl rfl rfl rfl rfl ?_
  refine K.alloc Y 103 [_, _, _] (gd0 rfl) t107 rfl rfl rfl rfl rfl ?_
  refine K.alloc Y 104 [_, _, _] (gd0 rfl) t107 rfl rfl rfl rfl rfl ?_
  refine K.store Y [_, _, _] (gd0 rfl) rfl rfl rfl t107 rfl rfl rfl rfl rfl ?_
  refine K.store Y [_, _, _] (gd0 rfl) rfl rfl rfl t107 rfl rfl rfl rfl rfl ?_
  refine K.nil ?_
  refine At.next ?_
  refine G.seq ?_
  obtain ⟨x5, hx5, H0⟩ := bnd H0
  refine G.rg ?_
  refine K.move (.inl rfl) (gd0 rfl) rfl rfl ?_
  refine K.callV [(.func 60, _), ((.tmp 20), _)] [(0, rd S W0)] [] [] (fun β => [SV.raw s1]) (fun β w S2 h => R08_Deletes_con (k := k) ((hI1.isC 0).larg ⟨_, List.mem_cons_self⟩ h) hx5) (toFn_func (cf 60 rfl) rfl) (gd0 rfl) ⟨rfl, rfl, trivial⟩ (fun _ => rfl) ⟨rfl, trivial⟩ rfl rfl rfl rfl rfl rfl ?_
  refine K.move (.inl rfl) (gd0 rfl) rfl rfl ?_
  refine K.extract (gd0 rfl) rfl rfl rfl ?_
  refine K.extract (gd0 rfl) rfl rfl rfl ?_
  refine K.extract (gd0 rfl) rfl rfl rfl ?_
  refine K.alloc Y 105 [_, _] (gd0 rfl) t37 rfl rfl rfl rfl rfl ?_
  refine K.move (.inr rfl) (gd0 rfl) rfl rfl ?_
  refine K.move (.inr rfl) (gd0 rfl) rfl rfl ?_
  refine K.store Y [_, _] (gd0 rfl) rfl rfl rfl t37 rfl rfl rfl rfl rfl ?_
  refine K.nil ?_
  refine At.next ?_
  refine G.seq ?_
  obtain ⟨x6, hx6, H0⟩ := bnd H0
  obtain ⟨x7, hx7, H0⟩ := bnd H0
  refine G.rg ?_
  refine K.move (.inl rfl) (gd0 rfl) rfl rfl ?_
  refine K.callV [(.func 61, _), ((.tmp 25), _), (_, _)] [(0, rd S W0)] [] [(106, _)] (fun β => [SV.raw s1, .a (.c (.v (.bool false)))]) (fun β w S2 h => R08_Items_con (k := k) ((hI1.isC 0).larg ⟨_, List.mem_cons_self⟩ h) hx6 106 rfl) (toFn_func (cf 61 rfl) rfl) (gd0 rfl) ⟨rfl, rfl, rfl, trivial⟩ (fun _ => rfl) ⟨rfl, trivial⟩ rfl rfl rfl rfl rfl rfl ?_
  refine K.move (.inl rfl) (gd0 rfl) rfl rfl ?_
  refine K.callV [(.func 61, _), ((.tmp 27), _), (_, _)] [(0, rd S W0)] [] [(107, _)] (fun β => [SV.raw s1, .a (.c (.v (.bool true)))]) (fun β w S2 h => R08_Items_con (k := k) ((hI1.isC 0).larg ⟨_, List.mem_cons_self⟩ h) hx7 107 rfl) (toFn_func (cf 61 rfl) rfl) (gd0 rfl) ⟨rfl, rfl, rfl, trivial⟩ (fun _ => rfl) ⟨rfl, trivial⟩ rfl rfl rfl rfl rfl rfl ?_
  refine K.move (.inr rfl) (gd0 rfl) rfl rfl ?_
  refine K.move (.inr rfl) (gd0 rfl) rfl rfl ?_
  refine K.nil ?_
  refine At.next ?_
  refine G.seq ?_
  refine G.rg ?_
  refine K.idxA 0 tA107 (gd0 rfl) rfl rfl rfl rfl rfl ?_
  refine K.load1 Y (gd0 rfl) rfl rfl t3 rfl rfl ?_
  refine K.idxA 1 tA107 (gd0 rfl) rfl rfl rfl rfl rfl ?_
  refine K.load1 Y (gd0 rfl) rfl rfl t3 rfl rfl ?_
  refine K.idxA 2 tA107 (gd0 rfl) rfl rfl rfl rfl rfl ?_
  refine K.load1 Y (gd0 rfl) rfl rfl t3 rfl rfl ?_
  refine K.build Y [(0, _), (1, _), (2, _)] [_, _, _] [((.tmp 30), _), ((.tmp 32), _), ((.tmp 34), _)] (gd0 rfl) (AllE.spec ⟨rfl, rfl, rfl, trivial⟩) rfl rfl t63 rfl rfl ?_
  refine K.idxA 0 tA107 (gd0 rfl) rfl rfl rfl rfl rfl ?_
  refine K.load1 Y (gd0 rfl) rfl rfl t3 rfl rfl ?_
  refine K.idxA 1 tA107 (gd0 rfl) rfl rfl rfl rfl rfl ?_
  refine K.load1 Y (gd0 rfl) rfl rfl t3 rfl rfl ?_
  refine K.idxA 2 tA107 (gd0 rfl) rfl rfl rfl rfl rfl ?_
  refine K.load1 Y (gd0 rfl) rfl rfl t3 rfl rfl ?_
  refine K.build Y [(0, _), (1, _), (2, _)] [_, _, _] [((.tmp 37), _), ((.tmp 39), _), ((.tmp 41), _)] (gd0 rfl) (AllE.spec ⟨rfl, rfl, rfl, trivial⟩) rfl rfl t63 rfl rfl ?_
  refine K.move (.inl rfl) (gd0 rfl) rfl rfl ?_
  refine K.move (.inl rfl) (gd0 rfl) rfl rfl ?_
  refine K.loadS Y [_, _] (gd0 rfl) rfl rfl t37 rfl rfl rfl ?_
  refine K.build Y [(0, _), (1, _), (2, _), (3, _), (4, _)] [_, _, _, _, _, _, _, _, _, _, _, _, _, _, _, _] [((.tmp 35), _), ((.tmp 42), _), ((.tmp 43), _), ((.tmp 44), _), ((.tmp 45), _)] (gd0 rfl) (AllE.spec ⟨rfl, rfl, rfl, rfl, rfl, trivial⟩) rfl rfl t67 rfl rfl ?_
  refine K.alloc Y 108 [_, _, _, _, _, _, _, _, _, _, _, _, _, _, _, _] (gd0 rfl) t67 rfl rfl rfl rfl rfl ?_
  refine K.store Y [_, _, _, _, _, _, _, _, _, _, _, _, _, _, _, _] (gd0 rfl) rfl rfl rfl t67 rfl rfl rfl rfl rfl ?_
  refine K.nil ?_
  refine At.next ?_
  refine G.seq ?_
  refine G.seq ?_
  refine G.rg ?_
  refine K.move (.inl rfl) (gd0 rfl) rfl rfl ?_
  refine K.lenL (lrowV 106 37 eTItem 2 x6) (lrowV_is eTItem_len (by decide)) (gd0 rfl) rfl rfl Try.underlying33 rfl ?_
  refine K.bin (V := .bool (decide ((x6.length : Int) > 0))) (gd0 rfl) rfl rfl (fun _ => rfl) rfl ?_
  refine K.nil ?_
  refine At.next ?_
  refine G.cond rfl (fun h1 => ?_) (fun h1 => ?_)
  ·
    replace H0 := bif_t H0 h1
    obtain ⟨x8, hx8, H0⟩ := bnd H0
    refine G.rg ?_
    refine K.move (.inl rfl) (gd0 rfl) rfl rfl ?_
    refine K.move (.inl rfl) (gd0 rfl) rfl rfl ?_
    refine K.lenL (lrowV 106 37 eTItem 2 x6) (lrowV_is eTItem_len (by decide)) (gd0 rfl) rfl rfl Try.underlying33 rfl ?_
    refine K.bin (V := .int .i64 (w64 ((x6.length : Int) - 1))) (gd0 rfl) rfl rfl (fun _ => rfl) rfl ?_
    refine K.idxL (lrowV 106 37 eTItem 2 x6) (((w64 ((x6.length : Int) - 1))).toNat) (lrowV_is eTItem_len (by decide)) (atL_get hx8) (atL_nn hx8) (gd0 rfl) rfl rfl rfl Try.underlying33 el33.size_run rfl ?_
    refine K.loadSL Y (lrowV 106 37 eTItem 2 x6) (((w64 ((x6.length : Int) - 1))).toNat) 0 [_, _] [_, _] (lrowV_is eTItem_len (by decide)) (atL_get hx8) (gd0 rfl) rfl rfl t37 rfl rfl rfl rfl rfl ?_
    refine K.build Y [(0, _), (1, _)] [_, _, _] [(_, _), ((.tmp 55), _)] (gd0 rfl) (AllE.spec ⟨rfl, rfl, trivial⟩) rfl rfl t65 rfl rfl ?_
    refine K.fieldAddr Y (gd0 rfl) rfl t67 rfl rfl ?_
    refine K.store Y [_, _, _, _, _, _, _, _, _, _, _, _, _, _, _, _] (gd0 rfl) rfl rfl rfl t65 rfl rfl rfl rfl rfl ?_
    refine K.nil ?_
    refine At.next ?_
    refine G.seq ?_
    refine G.seq ?_
    refine G.rg ?_
    refine K.move (.inl rfl) (gd0 rfl) rfl rfl ?_
    refine K.lenL (lrowV 107 37 eTItem 2 x7) (lrowV_is eTItem_len (by decide)) (gd0 rfl) rfl rfl Try.underlying33 rfl ?_
    refine K.bin (V := .bool (decide ((x7.length : Int) > 0))) (gd0 rfl) rfl rfl (fun _ => rfl) rfl ?_
    refine K.nil ?_
    refine At.next ?_
    refine G.cond rfl (fun h2 => ?_) (fun h2 => ?_)
    ·
      replace H0 := bif_t H0 h2
      obtain ⟨x9, hx9, H0⟩ := bnd H0
      refine G.rg ?_
      refine K.move (.inl rfl) (gd0 rfl) rfl rfl ?_
      refine K.idxL (lrowV 107 37 eTItem 2 x7) ((0 : Int).toNat) (lrowV_is eTItem_len (by decide)) (atL_get hx9) (atL_nn hx9) (gd0 rfl) rfl rfl rfl Try.underlying33 el33.size_run rfl ?_
      refine K.loadSL Y (lrowV 107 37 eTItem 2 x7) ((0 : Int).toNat) 0 [_, _] [_, _] (lrowV_is eTItem_len (by decide)) (atL_get hx9) (gd0 rfl) rfl rfl t37 rfl rfl rfl rfl rfl ?_
      refine K.build Y [(0, _), (1, _)] [_, _, _] [(_, _), ((.tmp 63), _)] (gd0 rfl) (AllE.spec ⟨rfl, rfl, trivial⟩) rfl rfl t65 rfl rfl ?_
      refine K.fieldAddr Y (gd0 rfl) rfl t67 rfl rfl ?_
      refine K.store Y [_, _, _, _, _, _, _, _, _, _, _, _, _, _, _, _] (gd0 rfl) rfl rfl rfl t65 rfl rfl rfl rfl rfl ?_
      refine K.nil ?_
      refine At.next ?_
      refine G.seq ?_
      refine G.rg ?_
      refine K.loadS Y [_, _, _, _, _, _, _, _, _, _, _, _, _, _, _, _] (gd0 rfl) rfl rfl t67 rfl rfl rfl ?_
      refine K.loadS Y [_, _, _, _, _, _, _, _, _, _, _, _, _, _, _, _] (gd0 rfl) rfl rfl t67 rfl rfl rfl ?_
      refine K.eqS [_, _, _, _, _, _, _, _, _, _, _, _, _, _, _, _] [_, _, _, _, _, _, _, _, _, _, _, _, _, _, _, _] (gd0 rfl) rfl rfl cmp67 rfl (.inl rfl) ((a0.count.n == x2.i0) && ((a0.count.sum == x2.i1) && ((a0.count.low == x2.i2) && ((a0.weight.n == x4.i0) && ((a0.weight.sum == x4.i1) && ((a0.weight.low == x4.i2) && ((a0.deletes == x5.1) && ((a0.free == x5.2.1) && ((a0.most.key == x5.2.2.key) && ((a0.most.id == x5.2.2.id) && ((a0.gone.found == true) && ((a0.gone.item.key == x8.key) && ((a0.gone.item.id == x8.id) && ((a0.least.found == true) && ((a0.least.item.key == x9.key) && ((a0.least.item.id == x9.id) && true)))))))))))))))) rfl rfl ?_
      refine K.move (.inr rfl) (gd0 rfl) rfl rfl ?_
      refine K.nil ?_
      refine At.next ?_
      refine G.ret ?_
      refine At.done Y [(.tmp 4, .c _)] rfl ⟨.tmp rfl, trivial⟩ (to' := [(0, _)]) ⟨rfl, trivial⟩ ?_ ?_ rfl rfl rfl (.inl rfl)
      · cases H0; rfl
      · cases H0; rfl
    ·
      replace H0 := bif_f H0 h2
      refine G.skip ?_
      refine At.next ?_
      refine G.seq ?_
      refine G.rg ?_
      refine K.loadS Y [_, _, _, _, _, _, _, _, _, _, _, _, _, _, _, _] (gd0 rfl) rfl rfl t67 rfl rfl rfl ?_
      refine K.loadS Y [_, _, _, _, _, _, _, _, _, _, _, _, _, _, _, _] (gd0 rfl) rfl rfl t67 rfl rfl rfl ?_
      refine K.eqS [_, _, _, _, _, _, _, _, _, _, _, _, _, _, _, _] [_, _, _, _, _, _, _, _, _, _, _, _, _, _, _, _] (gd0 rfl) rfl rfl cmp67 rfl (.inl rfl) ((a0.count.n == x2.i0) && ((a0.count.sum == x2.i1) && ((a0.count.low == x2.i2) && ((a0.weight.n == x4.i0) && ((a0.weight.sum == x4.i1) && ((a0.weight.low == x4.i2) && ((a0.deletes == x5.1) && ((a0.free == x5.2.1) && ((a0.most.key == x5.2.2.key) && ((a0.most.id == x5.2.2.id) && ((a0.gone.found == true) && ((a0.gone.item.key == x8.key) && ((a0.gone.item.id == x8.id) && ((a0.least.found == false) && ((a0.least.item.key == 0) && ((a0.least.item.id == 0) && true)))))))))))))))) rfl rfl ?_
      refine K.move (.inr rfl) (gd0 rfl) rfl rfl ?_
      refine K.nil ?_
      refine At.next ?_
      refine G.ret ?_
      refine At.done Y [(.tmp 4, .c _)] rfl ⟨.tmp rfl, trivial⟩ (to' := [(0, _)]) ⟨rfl, trivial⟩ ?_ ?_ rfl rfl rfl (.inl rfl)
      · cases H0; rfl
      · cases H0; rfl
  ·
    replace H0 := bif_f H0 h1
    refine G.skip ?_
    refine At.next ?_
    refine G.seq ?_
    refine G.seq ?_
    refine G.rg ?_
    refine K.move (.inl rfl) (gd0 rfl) rfl rfl ?_
    refine K.lenL (lrowV 107 37 eTItem 2 x7) (lrowV_is eTItem_len (by decide)) (gd0 rfl) rfl rfl Try.underlying33 rfl ?_
    refine K.bin (V := .bool (decide ((x7.length : Int) > 0))) (gd0 rfl) rfl rfl (fun _ => rfl) rfl ?_
    refine K.nil ?_
    refine At.next ?_
    refine G.cond rfl (fun h3 => ?_) (fun h3 => ?_)
    ·
      replace H0 := bif_t H0 h3
      obtain ⟨x10, hx10, H0⟩ := bnd H0
      refine G.rg ?_
      refine K.move (.inl rfl) (gd0 rfl) rfl rfl ?_
      refine K.idxL (lrowV 107 37 eTItem 2 x7) ((0 : Int).toNat) (lrowV_is eTItem_len (by decide)) (atL_get hx10) (atL_nn hx10) (gd0 rfl) rfl rfl rfl Try.underlying33 el33.size_run rfl ?_
      refine K.loadSL Y (lrowV 107 37 eTItem 2 x7) ((0 : Int).toNat) 0 [_, _] [_, _] (lrowV_is eTItem_len (by decide)) (atL_get hx10) (gd0 rfl) rfl rfl t37 rfl rfl rfl rfl rfl ?_
      refine K.build Y [(0, _), (1, _)] [_, _, _] [(_, _), ((.tmp 63), _)] (gd0 rfl) (AllE.spec ⟨rfl, rfl, trivial⟩) rfl rfl t65 rfl rfl ?_
      refine K.fieldAddr Y (gd0 rfl) rfl t67 rfl rfl ?_
      refine K.store Y [_, _, _, _, _, _, _, _, _, _, _, _, _, _, _, _] (gd0 rfl) rfl rfl rfl t65 rfl rfl rfl rfl rfl ?_
      refine K.nil ?_
      refine At.next ?_
      refine G.seq ?_
      refine G.rg ?_
      refine K.loadS Y [_, _, _, _, _, _, _, _, _, _, _, _, _, _, _, _] (gd0 rfl) rfl rfl t67 rfl rfl rfl ?_
      refine K.loadS Y [_, _, _, _, _, _, _, _, _, _, _, _, _, _, _, _] (gd0 rfl) rfl rfl t67 rfl rfl rfl ?_
      refine K.eqS [_, _, _, _, _, _, _, _, _, _, _, _, _, _, _, _] [_, _, _, _, _, _, _, _, _, _, _, _, _, _, _, _] (gd0 rfl) rfl rfl cmp67 rfl (.inl rfl) ((a0.count.n == x2.i0) && ((a0.count.sum == x2.i1) && ((a0.count.low == x2.i2) && ((a0.weight.n == x4.i0) && ((a0.weight.sum == x4.i1) && ((a0.weight.low == x4.i2) && ((a0.deletes == x5.1) && ((a0.free == x5.2.1) && ((a0.most.key == x5.2.2.key) && ((a0.most.id == x5.2.2.id) && ((a0.gone.found == false) && ((a0.gone.item.key == 0) && ((a0.gone.item.id == 0) && ((a0.least.found == true) && ((a0.least.item.key == x10.key) && ((a0.least.item.id == x10.id) && true)))))))))))))))) rfl rfl ?_
      refine K.move (.inr rfl) (gd0 rfl) rfl rfl ?_
      refine K.nil ?_
      refine At.next ?_
      refine G.ret ?_
      refine At.done Y [(.tmp 4, .c _)] rfl ⟨.tmp rfl, trivial⟩ (to' := [(0, _)]) ⟨rfl, trivial⟩ ?_ ?_ rfl rfl rfl (.inl rfl)
      · cases H0; rfl
      · cases H0; rfl
    ·
      replace H0 := bif_f H0 h3
      refine G.skip ?_
      refine At.next ?_
      refine G.seq ?_
      refine G.rg ?_
      refine K.loadS Y [_, _, _, _, _, _, _, _, _, _, _, _, _, _, _, _] (gd0 rfl) rfl rfl t67 rfl rfl rfl ?_
      refine K.loadS Y [_, _, _, _, _, _, _, _, _, _, _, _, _, _, _, _] (gd0 rfl) rfl rfl t67 rfl rfl rfl ?_
      refine K.eqS [_, _, _, _, _, _, _, _, _, _, _, _, _, _, _, _] [_, _, _, _, _, _, _, _, _, _, _, _, _, _, _, _] (gd0 rfl) rfl rfl cmp67 rfl (.inl rfl) ((a0.count.n == x2.i0) && ((a0.count.sum == x2.i1) && ((a0.count.low == x2.i2) && ((a0.weight.n == x4.i0) && ((a0.weight.sum == x4.i1) && ((a0.weight.low == x4.i2) && ((a0.deletes == x5.1) && ((a0.free == x5.2.1) && ((a0.most.key == x5.2.2.key) && ((a0.most.id == x5.2.2.id) && ((a0.gone.found == false) && ((a0.gone.item.key == 0) && ((a0.gone.item.id == 0) && ((a0.least.found == false) && ((a0.least.item.key == 0) && ((a0.least.item.id == 0) && true)))))))))))))))) rfl rfl ?_
      refine K.move (.inr rfl) (gd0 rfl) rfl rfl ?_
      refine K.nil ?_
      refine At.next ?_
      refine G.ret ?_
      refine At.done Y [(.tmp 4, .c _)] rfl ⟨.tmp rfl, trivial⟩ (to' := [(0, _)]) ⟨rfl, trivial⟩ ?_ ?_ rfl rfl rfl (.inl rfl)
      · cases H0; rfl
      · cases H0; rfl
theorem Lw08_Comes_con {k : Nat}  {S : Foot} {W0 : World} {s1 : Value} {a0 : TSwell} {l1 : List TR08Mark} {r : Bool} (hL1 : LArg S W0 s1 eTR08Mark 8 l1) (H0 : Lw08_Comes.f k a0 l1 = some r) : SCon Try.prog 38 [.a (.agg ((eTSwell a0).map .v)), SV.raw s1] [(0, rd S W0)] (.a (.c (.v (.bool r)))) [(0, rd S W0)] [] :=
  SCon.ren (rn []) (Lw08_Comes_con0 (k := k)  hL1 H0) ⟨(fun _ => rfl), trivial⟩ ⟨(fun _ => rfl), trivial⟩ (by simp) (by simp)
theorem R01_Rest_con0 {k : Nat}  {a0 : Int} {a1 : Int} {r : Int}  (H0 : R01_Rest.f k a0 a1 = some r) : SCon Try.prog 19 [.a (.c (.v (.int .i64 a0))), .a (.c (.v (.int .i64 a1)))] [] (.a (.c (.v (.int .i64 r)))) [] [] := by
  rw [R01_Rest.f] at H0
  refine spec_of [(0, _), (1, _)] [] 12 Try.func19 rfl Try.ntmps19 rfl rfl rfl rfl (fun β W F => ?_)
  refine G.seq ?_
  refine G.rg ?_
  refine K.move (.inr rfl) (gd0 rfl) rfl rfl ?_
  refine K.nil ?_
  refine At.next ?_
  refine G.seq ?_
  obtain ⟨h1, H0⟩ := grd H0
  obtain ⟨h2, H0⟩ := grd H0
  refine G.rg ?_
  refine K.move (.inl rfl) (gd0 rfl) rfl rfl ?_
  refine K.move (.inl rfl) (gd0 rfl) rfl rfl ?_
  refine K.bin (V := .int .i64 (a0.tmod a1)) (gd0 rfl) rfl rfl (rem_run h1) rfl ?_
  refine K.move (.inl rfl) (gd0 rfl) rfl rfl ?_
  refine K.bin (V := .int .i64 (w64 ((a0.tmod a1) + a1))) (gd0 rfl) rfl rfl (fun _ => rfl) rfl ?_
  refine K.move (.inl rfl) (gd0 rfl) rfl rfl ?_
  refine K.bin (V := .int .i64 ((w64 ((a0.tmod a1) + a1)).tmod a1)) (gd0 rfl) rfl rfl (rem_run h2) rfl ?_
  refine K.move (.inr rfl) (gd0 rfl) rfl rfl ?_
  refine K.nil ?_
  refine At.next ?_
  refine G.ret ?_
  refine At.done Y [(.tmp 4, .c _)] rfl ⟨.tmp rfl, trivial⟩ (to' := []) trivial ?_ ?_ rfl rfl rfl (.inl rfl)
  · cases H0; rfl
  · cases H0; rfl
theorem R01_Rest_con {k : Nat}  {a0 : Int} {a1 : Int} {r : Int}  (H0 : R01_Rest.f k a0 a1 = some r) : SCon Try.prog 19 [.a (.c (.v (.int .i64 a0))), .a (.c (.v (.int .i64 a1)))] [] (.a (.c (.v (.int .i64 r)))) [] [] :=
  SCon.ren (rn []) (R01_Rest_con0 (k := k)   H0) trivial trivial (by simp) (by simp)
theorem wave_Swell_Above_con0 {k : Nat}  {a0 : TSwell} {a1 : TItem} {r : Bool}  (H0 : wave_Swell_Above.f k a0 a1 = some r) : SCon Try.prog 42 [.a (.agg ((eTSwell a0).map .v)), .a (.agg ((eTItem a1).map .v))] [] (.a (.c (.v (.bool r)))) [] [] := by
  rw [wave_Swell_Above.f] at H0
  refine spec_of [(0, _), (1, _)] [] 22 Try.func42 rfl Try.ntmps42 rfl rfl rfl rfl (fun β W F => ?_)
  refine G.seq ?_
  refine G.rg ?_
  refine K.box Y 100 [_, _, _, _, _, _, _, _, _, _, _, _, _, _, _, _] (gd0 rfl) rfl rfl rfl rfl rfl rfl ?_
  refine K.box Y 101 [_, _] (gd0 rfl) rfl rfl rfl rfl rfl rfl ?_
  refine K.move (.inr rfl) (gd0 rfl) rfl rfl ?_
  refine K.nil ?_
  refine At.next ?_
  refine G.seq ?_
  obtain ⟨x1, hx1, H0⟩ := bnd H0
  refine G.rg ?_
  refine K.loadS Y [_, _, _, _, _, _, _, _, _, _, _, _, _, _, _, _] (gd0 rfl) rfl rfl t67 rfl rfl rfl ?_
  refine K.callR [(.func 64, _), ((.tmp 6), _)] (wave_Swell_taken_con (k := k) hx1) (toFn_func (cf 64 rfl) rfl) (gd0 rfl) ⟨rfl, rfl, trivial⟩ trivial rfl rfl rfl ?_
  refine K.alloc Y 102 [_, _, _] (gd0 rfl) t65 rfl rfl rfl rfl rfl ?_
  refine K.store Y [_, _, _] (gd0 rfl) rfl rfl rfl t65 rfl rfl rfl rfl rfl ?_
  refine K.nil ?_
  refine At.next ?_
  refine G.seq ?_
  rcases Bool.eq_false_or_eq_true (decide (a0.free > 0)) with h1 | h1
  ·
    replace H0 := bif_t H0 h1
    refine G.rg ?_
    refine K.fieldAddr Y (gd0 rfl) rfl t67 rfl rfl ?_
    refine K.load1 Y (gd0 rfl) rfl rfl t3 rfl rfl ?_
    refine K.bin (V := .bool (decide (a0.free > 0))) (gd0 rfl) rfl rfl (fun _ => rfl) rfl ?_
    refine K.move (.inl rfl) (gd0 rfl) rfl rfl ?_
    refine K.skip rfl rfl rfl rfl (h1) rfl ?_
    refine K.skip rfl rfl rfl rfl (h1) rfl ?_
    refine K.skip rfl rfl rfl rfl (h1) rfl ?_
    refine K.skipU rfl rfl rfl rfl rfl ?_
    refine K.skipU rfl rfl rfl rfl rfl ?_
    refine K.skipU rfl rfl rfl rfl rfl ?_
    refine K.skipU rfl rfl rfl rfl rfl ?_
    refine K.skipU rfl rfl rfl rfl rfl ?_
    refine K.skip rfl rfl rfl rfl (h1) rfl ?_
    refine K.pickT (gd0 rfl) rfl (h1) rfl rfl ?_
    refine K.move (.inr rfl) (gd0 rfl) rfl rfl ?_
    refine K.nil ?_
    refine At.next ?_
    refine G.ret ?_
    refine At.done Y [(.tmp 4, .c _)] rfl ⟨.tmp rfl, trivial⟩ (to' := []) trivial ?_ ?_ rfl rfl rfl (.inl rfl)
    · cases H0; rfl
    · cases H0; rfl
  ·
    replace H0 := bif_f H0 h1
    rcases Bool.eq_false_or_eq_true x1.found with h2 | h2
    ·
      replace H0 := bif_t H0 h2
      obtain ⟨x2, hx2, H0⟩ := bnd H0
      refine G.rg ?_
      refine K.fieldAddr Y (gd0 rfl) rfl t67 rfl rfl ?_
      refine K.load1 Y (gd0 rfl) rfl rfl t3 rfl rfl ?_
      refine K.bin (V := .bool (decide (a0.free > 0))) (gd0 rfl) rfl rfl (fun _ => rfl) rfl ?_
      refine K.move (.inl rfl) (gd0 rfl) rfl rfl ?_
      refine K.fieldAddr Y (gd1 rfl rfl rfl (h1)) rfl t65 rfl rfl ?_
      refine K.load1 Y (gd1 rfl rfl rfl (h1)) rfl rfl t4 rfl rfl ?_
      refine K.move (.inl rfl) (gd1 rfl rfl rfl (h1)) rfl rfl ?_
      refine K.fieldAddr Y (gd1 rfl rfl rfl (h2)) rfl t65 rfl rfl ?_
      refine K.loadS Y [_, _] (gd1 rfl rfl rfl (h2)) rfl rfl t37 rfl rfl rfl ?_
      refine K.loadS Y [_, _] (gd1 rfl rfl rfl (h2)) rfl rfl t37 rfl rfl rfl ?_
      refine K.callR [(.func 65, _), ((.tmp 16), _), ((.tmp 17), _)] (item_Compare_con (k := k) hx2) (toFn_func (cf 65 rfl) rfl) (gd1 rfl rfl rfl (h2)) ⟨rfl, rfl, rfl, trivial⟩ trivial rfl rfl rfl ?_
      refine K.bin (V := .bool (decide (x2 > 0))) (gd1 rfl rfl rfl (h2)) rfl rfl (fun _ => rfl) rfl ?_
      refine K.pickT (gd1 rfl rfl rfl (h1)) rfl (h2) rfl rfl ?_
      refine K.pickF (gd0 rfl) rfl (h1) rfl rfl ?_
      refine K.move (.inr rfl) (gd0 rfl) rfl rfl ?_
      refine K.nil ?_
      refine At.next ?_
      refine G.ret ?_
      refine At.done Y [(.tmp 4, .c _)] rfl ⟨.tmp rfl, trivial⟩ (to' := []) trivial ?_ ?_ rfl rfl rfl (.inl rfl)
      · cases H0; rfl
      · cases H0; rfl
    ·
      replace H0 := bif_f H0 h2
      refine G.rg ?_
      refine K.fieldAddr Y (gd0 rfl) rfl t67 rfl rfl ?_
      refine K.load1 Y (gd0 rfl) rfl rfl t3 rfl rfl ?_
      refine K.bin (V := .bool (decide (a0.free > 0))) (gd0 rfl) rfl rfl (fun _ => rfl) rfl ?_
      refine K.move (.inl rfl) (gd0 rfl) rfl rfl ?_
      refine K.fieldAddr Y (gd1 rfl rfl rfl (h1)) rfl t65 rfl rfl ?_
      refine K.load1 Y (gd1 rfl rfl rfl (h1)) rfl rfl t4 rfl rfl ?_
      refine K.move (.inl rfl) (gd1 rfl rfl rfl (h1)) rfl rfl ?_
      refine K.skip rfl rfl rfl rfl (h2) rfl ?_
      refine K.skip rfl rfl rfl rfl (h2) rfl ?_
      refine K.skip rfl rfl rfl rfl (h2) rfl ?_
      refine K.skip rfl rfl rfl rfl (h2) rfl ?_
      refine K.skip rfl rfl rfl rfl (h2) rfl ?_
      refine K.pickF (gd1 rfl rfl rfl (h1)) rfl (h2) rfl rfl ?_
      refine K.pickF (gd0 rfl) rfl (h1) rfl rfl ?_
      refine K.move (.inr rfl) (gd0 rfl) rfl rfl ?_
      refine K.nil ?_
      refine At.next ?_
      refine G.ret ?_
      refine At.done Y [(.tmp 4, .c _)] rfl ⟨.tmp rfl, trivial⟩ (to' := []) trivial ?_ ?_ rfl rfl rfl (.inl rfl)
      · cases H0; rfl
      · cases H0; rfl
theorem wave_Swell_Above_con {k : Nat}  {a0 : TSwell} {a1 : TItem} {r : Bool}  (H0 : wave_Swell_Above.f k a0 a1 = some r) : SCon Try.prog 42 [.a (.agg ((eTSwell a0).map .v)), .a (.agg ((eTItem a1).map .v))] [] (.a (.c (.v (.bool r)))) [] [] :=
  SCon.ren (rn []) (wave_Swell_Above_con0 (k := k)   H0) trivial trivial (by simp) (by simp)
theorem wave_New_con0 {k : Nat}  {a0 : Int} {r : TRef × Pool (TNode TMark TSwell)}  (H0 : wave_New.f k a0 = some r) : SCon Try.prog 43 [.a (.c (.v (.int .i64 a0)))] [] (.a (.c (.p 40 0))) [(40, blk 40 [.p 41 0, .i r.1.index, .i r.1.gen] 120), (41, plM 41 r.2)] [40, 41] := by
  rw [wave_New.f] at H0
  refine spec_of [(0, _)] [] 5 Try.func43 rfl Try.ntmps43 rfl rfl rfl rfl (fun β W F => ?_)
  refine G.seq ?_
  refine G.rg ?_
  refine K.move (.inr rfl) (gd0 rfl) rfl rfl ?_
  refine K.nil ?_
  refine At.next ?_
  refine G.seq ?_
  obtain ⟨x1, hx1, H0⟩ := bnd H0
  refine G.rg ?_
  refine K.move (.inl rfl) (gd0 rfl) rfl rfl ?_
  refine K.call0 [(.func 66, _), ((.tmp 3), _)] (Tree_NewM_con (k := k) hx1 100 101 rfl) (toFn_func (cf 66 rfl) rfl) (gd0 rfl) ⟨rfl, rfl, trivial⟩ trivial rfl rfl rfl rfl rfl rfl ?_
  refine K.move (.inr rfl) (gd0 rfl) rfl rfl ?_
  refine K.nil ?_
  refine At.next ?_
  refine G.ret ?_
  refine At.ren (fs' := [(2, .a (.c (.p 40 0)))]) (tl := [(40, blk 40 [.p 41 0, .v (.int .i64 x1.1.index), .v (.int .i64 x1.1.gen)] 120), (41, plM 41 x1.2)]) [(40, 100), (41, 101)] [_, _] rfl ⟨rfl, trivial⟩ ⟨rfl, (blk_ren rfl rfl), rfl, (pl_ren rfl), trivial⟩ rfl ?_
  refine At.done Y [(.tmp 2, .c _)] rfl ⟨.tmp rfl, trivial⟩ (to' := [(40, _), (41, _)]) ⟨rfl, rfl, trivial⟩ ?_ ?_ rfl rfl rfl (.inl rfl)
  · cases H0; rfl
  · cases H0; rfl
theorem wave_New_con {k : Nat}  {a0 : Int} {r : TRef × Pool (TNode TMark TSwell)}  (H0 : wave_New.f k a0 = some r) (m40 m41 : Nat) (hd : ndB [m40, m41] = true) : SCon Try.prog 43 [.a (.c (.v (.int .i64 a0)))] [] (.a (.c (.p m40 0))) [(m40, blk m40 [.p m41 0, .i r.1.index, .i r.1.gen] 120), (m41, plM m41 r.2)] [m40, m41] :=
  SCon.ren (rn [(40, m40), (41, m41)]) (wave_New_con0 (k := k)   H0) trivial ⟨(blk_ren rfl rfl), (pl_ren rfl), trivial⟩ (rn_nd hd rfl rfl) (rn_ks hd rfl rfl rfl)
end Go.Proofs.Ytgogiehpenfdpaa


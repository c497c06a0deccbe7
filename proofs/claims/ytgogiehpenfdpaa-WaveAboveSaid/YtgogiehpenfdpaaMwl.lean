/- Layer 8: the laws' walks. Printed by a program of mine. -/
import Derived.KernelRfl
import Derived.Test.YtgogiehpenfdpaaMwa
namespace Go.Proofs.Ytgogiehpenfdpaa
open Go Go.Proofs.Ytgogiehpenfdpaa.Sx
set_option linter.unusedVariables false
set_option linter.unusedSimpArgs false
theorem Lw08_awake_con0 {k : Nat} {r : Bool}  (H0 : Lw08_awake.f k = some r) : SCon Try.prog 37 [] [] (.a (.c (.v (.bool r)))) [] [] := by
  rw [Lw08_awake.f] at H0
  refine spec_of [] [] 39 Try.func37 rfl Try.ntmps37 rfl rfl rfl rfl (fun β W F => ?_)
  refine G.seq ?_
  refine G.rg ?_
  refine K.move (.inr rfl) (gd0 rfl) rfl rfl ?_
  refine K.nil ?_
  refine At.next ?_
  refine G.seq ?_
  refine G.rg ?_
  refine K.build Y [(0, _), (1, _)] [_, _] [(_, _), (_, _)] (gd0 rfl) (AllE.spec ⟨rfl, rfl, trivial⟩) rfl rfl t37 rfl rfl ?_
  refine K.build Y [(0, _), (1, _), (2, _)] [_, _, _, _] [(_, _), (_, _), ((.tmp 3), _)] (gd0 rfl) (AllE.spec ⟨rfl, rfl, rfl, trivial⟩) rfl rfl t73 rfl rfl ?_
  refine K.build Y [(0, _), (1, _)] [_, _, _, _, _, _, _, _] [((.tmp 4), _), (_, _)] (gd0 rfl) (AllE.spec ⟨rfl, rfl, trivial⟩) rfl rfl t82 rfl rfl ?_
  refine K.alloc Y 100 [_, _, _, _, _, _, _, _] (gd0 rfl) t82 rfl rfl rfl rfl rfl ?_
  refine K.store Y [_, _, _, _, _, _, _, _] (gd0 rfl) rfl rfl rfl t82 rfl rfl rfl rfl rfl ?_
  refine K.nil ?_
  refine At.next ?_
  refine G.seq ?_
  obtain ⟨x1, hx1, H0⟩ := bnd H0
  refine G.rg ?_
  refine K.loadS Y [_, _, _, _, _, _, _, _] (gd0 rfl) rfl rfl t82 rfl rfl rfl ?_
  refine K.callR [(.func 55, _), ((.tmp 6), _)] (wave_Mark_Sum_con hx1) (toFn_func (cf 55 rfl) rfl) (gd0 rfl) ⟨rfl, rfl, trivial⟩ trivial rfl rfl rfl ?_
  refine K.alloc Y 101 [_, _, _, _, _, _, _, _, _, _, _, _, _, _, _, _] (gd0 rfl) t67 rfl rfl rfl rfl rfl ?_
  refine K.store Y [_, _, _, _, _, _, _, _, _, _, _, _, _, _, _, _] (gd0 rfl) rfl rfl rfl t67 rfl rfl rfl rfl rfl ?_
  refine K.nil ?_
  refine At.next ?_
  refine G.seq ?_
  rcases Bool.eq_false_or_eq_true ((x1.count.n == 1) && ((x1.count.sum == 1) && ((x1.count.low == 1) && true))) with h1 | h1
  ·
    replace H0 := bif_t H0 h1
    rcases Bool.eq_false_or_eq_true (x1.weight.n == 1) with h2 | h2
    ·
      replace H0 := bif_t H0 h2
      rcases Bool.eq_false_or_eq_true (x1.weight.sum == 0) with h3 | h3
      ·
        replace H0 := bif_t H0 h3
        rcases Bool.eq_false_or_eq_true ((x1.least.found == true) && ((x1.least.item.key == 5) && ((x1.least.item.id == 1) && true))) with h4 | h4
        ·
          replace H0 := bif_t H0 h4
          obtain ⟨x2, hx2, H0⟩ := bnd H0
          obtain ⟨x3, hx3, H0⟩ := bnd H0
          refine G.rd mixed ?_
          refine K.fieldAddr Y (gd0 rfl) rfl t67 rfl rfl ?_
          refine K.loadS Y [_, _, _] (gd0 rfl) rfl rfl t63 rfl rfl rfl ?_
          refine K.build Y [(0, _), (1, _), (2, _)] [_, _, _] [(_, _), (_, _), (_, _)] (gd0 rfl) (AllE.spec ⟨rfl, rfl, rfl, trivial⟩) rfl rfl t63 rfl rfl ?_
          refine K.eqS [_, _, _] [_, _, _] (gd0 rfl) rfl rfl cmp63 rfl (.inl rfl) ((x1.count.n == 1) && ((x1.count.sum == 1) && ((x1.count.low == 1) && true))) rfl rfl ?_
          refine K.move (.inl rfl) (gd0 rfl) rfl rfl ?_
          refine K.fieldAddr Y (gd1 rfl rfl rfl (h1)) rfl t67 rfl rfl ?_
          refine K.fieldAddr Y (gd1 rfl rfl rfl (h1)) rfl t63 rfl rfl ?_
          refine K.load1 Y (gd1 rfl rfl rfl (h1)) rfl rfl t3 rfl rfl ?_
          refine K.bin (V := .bool (x1.weight.n == 1)) (gd1 rfl rfl rfl (h1)) rfl rfl (fun _ => rfl) rfl ?_
          refine K.pickT (gd0 rfl) rfl (h1) rfl rfl ?_
          refine K.move (.inl rfl) (gd0 rfl) rfl rfl ?_
          refine K.fieldAddr Y (gd1 rfl rfl rfl (h2)) rfl t67 rfl rfl ?_
          refine K.fieldAddr Y (gd1 rfl rfl rfl (h2)) rfl t63 rfl rfl ?_
          refine K.load1 Y (gd1 rfl rfl rfl (h2)) rfl rfl t3 rfl rfl ?_
          refine K.bin (V := .bool (x1.weight.sum == 0)) (gd1 rfl rfl rfl (h2)) rfl rfl (fun _ => rfl) rfl ?_
          refine K.pickT (gd0 rfl) rfl (h2) rfl rfl ?_
          refine K.move (.inl rfl) (gd0 rfl) rfl rfl ?_
          refine K.fieldAddr Y (gd1 rfl rfl rfl (h3)) rfl t67 rfl rfl ?_
          refine K.loadS Y [_, _, _] (gd1 rfl rfl rfl (h3)) rfl rfl t65 rfl rfl rfl ?_
          refine K.fieldAddr Y (gd1 rfl rfl rfl (h3)) rfl t82 rfl rfl ?_
          refine K.fieldAddr Y (gd1 rfl rfl rfl (h3)) rfl t73 rfl rfl ?_
          refine K.loadS Y [_, _] (gd1 rfl rfl rfl (h3)) rfl rfl t37 rfl rfl rfl ?_
          refine K.build Y [(0, _), (1, _)] [_, _, _] [(_, _), ((.tmp 29), _)] (gd1 rfl rfl rfl (h3)) (AllE.spec ⟨rfl, rfl, trivial⟩) rfl rfl t65 rfl rfl ?_
          refine K.eqS [_, _, _] [_, _, _] (gd1 rfl rfl rfl (h3)) rfl rfl cmp65 rfl (.inl rfl) ((x1.least.found == true) && ((x1.least.item.key == 5) && ((x1.least.item.id == 1) && true))) rfl rfl ?_
          refine K.pickT (gd0 rfl) rfl (h3) rfl rfl ?_
          refine K.move (.inl rfl) (gd0 rfl) rfl rfl ?_
          refine K.callR [(.func 47, _), (_, _)] (wave_Key_con hx2) (toFn_func (cf 47 rfl) rfl) (gd1 rfl rfl rfl (h4)) ⟨rfl, rfl, trivial⟩ trivial rfl rfl rfl ?_
          refine K.loadS Y [_, _, _, _, _, _, _, _] (gd1 rfl rfl rfl (h4)) rfl rfl t82 rfl rfl rfl ?_
          refine K.callR [(.func 56, _), ((.tmp 34), _), ((.tmp 35), _)] (wave_Mark_Compare_con hx3) (toFn_func (cf 56 rfl) rfl) (gd1 rfl rfl rfl (h4)) ⟨rfl, rfl, rfl, trivial⟩ trivial rfl rfl rfl ?_
          refine K.bin (V := .bool (x3 == 0)) (gd1 rfl rfl rfl (h4)) rfl rfl (fun _ => rfl) rfl ?_
          refine K.pickT (gd0 rfl) rfl (h4) rfl rfl ?_
          refine K.move (.inr rfl) (gd0 rfl) rfl rfl ?_
          refine K.nil ?_
          refine ⟨by kernel_rfl, ?_⟩
          refine At.next ?_
          refine G.ret ?_
          refine At.done Y [(.tmp 0, .c _)] rfl ⟨.tmp rfl, trivial⟩ (to' := []) trivial ?_ ?_ rfl rfl rfl (.inl rfl)
          · cases H0; rfl
          · cases H0; rfl
        ·
          replace H0 := bif_f H0 h4
          refine G.rd mixed ?_
          refine K.fieldAddr Y (gd0 rfl) rfl t67 rfl rfl ?_
          refine K.loadS Y [_, _, _] (gd0 rfl) rfl rfl t63 rfl rfl rfl ?_
          refine K.build Y [(0, _), (1, _), (2, _)] [_, _, _] [(_, _), (_, _), (_, _)] (gd0 rfl) (AllE.spec ⟨rfl, rfl, rfl, trivial⟩) rfl rfl t63 rfl rfl ?_
          refine K.eqS [_, _, _] [_, _, _] (gd0 rfl) rfl rfl cmp63 rfl (.inl rfl) ((x1.count.n == 1) && ((x1.count.sum == 1) && ((x1.count.low == 1) && true))) rfl rfl ?_
          refine K.move (.inl rfl) (gd0 rfl) rfl rfl ?_
          refine K.fieldAddr Y (gd1 rfl rfl rfl (h1)) rfl t67 rfl rfl ?_
          refine K.fieldAddr Y (gd1 rfl rfl rfl (h1)) rfl t63 rfl rfl ?_
          refine K.load1 Y (gd1 rfl rfl rfl (h1)) rfl rfl t3 rfl rfl ?_
          refine K.bin (V := .bool (x1.weight.n == 1)) (gd1 rfl rfl rfl (h1)) rfl rfl (fun _ => rfl) rfl ?_
          refine K.pickT (gd0 rfl) rfl (h1) rfl rfl ?_
          refine K.move (.inl rfl) (gd0 rfl) rfl rfl ?_
          refine K.fieldAddr Y (gd1 rfl rfl rfl (h2)) rfl t67 rfl rfl ?_
          refine K.fieldAddr Y (gd1 rfl rfl rfl (h2)) rfl t63 rfl rfl ?_
          refine K.load1 Y (gd1 rfl rfl rfl (h2)) rfl rfl t3 rfl rfl ?_
          refine K.bin (V := .bool (x1.weight.sum == 0)) (gd1 rfl rfl rfl (h2)) rfl rfl (fun _ => rfl) rfl ?_
          refine K.pickT (gd0 rfl) rfl (h2) rfl rfl ?_
          refine K.move (.inl rfl) (gd0 rfl) rfl rfl ?_
          refine K.fieldAddr Y (gd1 rfl rfl rfl (h3)) rfl t67 rfl rfl ?_
          refine K.loadS Y [_, _, _] (gd1 rfl rfl rfl (h3)) rfl rfl t65 rfl rfl rfl ?_
          refine K.fieldAddr Y (gd1 rfl rfl rfl (h3)) rfl t82 rfl rfl ?_
          refine K.fieldAddr Y (gd1 rfl rfl rfl (h3)) rfl t73 rfl rfl ?_
          refine K.loadS Y [_, _] (gd1 rfl rfl rfl (h3)) rfl rfl t37 rfl rfl rfl ?_
          refine K.build Y [(0, _), (1, _)] [_, _, _] [(_, _), ((.tmp 29), _)] (gd1 rfl rfl rfl (h3)) (AllE.spec ⟨rfl, rfl, trivial⟩) rfl rfl t65 rfl rfl ?_
          refine K.eqS [_, _, _] [_, _, _] (gd1 rfl rfl rfl (h3)) rfl rfl cmp65 rfl (.inl rfl) ((x1.least.found == true) && ((x1.least.item.key == 5) && ((x1.least.item.id == 1) && true))) rfl rfl ?_
          refine K.pickT (gd0 rfl) rfl (h3) rfl rfl ?_
          refine K.move (.inl rfl) (gd0 rfl) rfl rfl ?_
          refine K.skip rfl rfl rfl rfl (h4) rfl ?_
          refine K.skip rfl rfl rfl rfl (h4) rfl ?_
          refine K.skip rfl rfl rfl rfl (h4) rfl ?_
          refine K.skip rfl rfl rfl rfl (h4) rfl ?_
          refine K.pickF (gd0 rfl) rfl (h4) rfl rfl ?_
          refine K.move (.inr rfl) (gd0 rfl) rfl rfl ?_
          refine K.nil ?_
          refine ⟨by kernel_rfl, ?_⟩
          refine At.next ?_
          refine G.ret ?_
          refine At.done Y [(.tmp 0, .c _)] rfl ⟨.tmp rfl, trivial⟩ (to' := []) trivial ?_ ?_ rfl rfl rfl (.inl rfl)
          · cases H0; rfl
          · cases H0; rfl
      ·
        replace H0 := bif_f H0 h3
        refine G.rd mixed ?_
        refine K.fieldAddr Y (gd0 rfl) rfl t67 rfl rfl ?_
        refine K.loadS Y [_, _, _] (gd0 rfl) rfl rfl t63 rfl rfl rfl ?_
        refine K.build Y [(0, _), (1, _), (2, _)] [_, _, _] [(_, _), (_, _), (_, _)] (gd0 rfl) (AllE.spec ⟨rfl, rfl, rfl, trivial⟩) rfl rfl t63 rfl rfl ?_
        refine K.eqS [_, _, _] [_, _, _] (gd0 rfl) rfl rfl cmp63 rfl (.inl rfl) ((x1.count.n == 1) && ((x1.count.sum == 1) && ((x1.count.low == 1) && true))) rfl rfl ?_
        refine K.move (.inl rfl) (gd0 rfl) rfl rfl ?_
        refine K.fieldAddr Y (gd1 rfl rfl rfl (h1)) rfl t67 rfl rfl ?_
        refine K.fieldAddr Y (gd1 rfl rfl rfl (h1)) rfl t63 rfl rfl ?_
        refine K.load1 Y (gd1 rfl rfl rfl (h1)) rfl rfl t3 rfl rfl ?_
        refine K.bin (V := .bool (x1.weight.n == 1)) (gd1 rfl rfl rfl (h1)) rfl rfl (fun _ => rfl) rfl ?_
        refine K.pickT (gd0 rfl) rfl (h1) rfl rfl ?_
        refine K.move (.inl rfl) (gd0 rfl) rfl rfl ?_
        refine K.fieldAddr Y (gd1 rfl rfl rfl (h2)) rfl t67 rfl rfl ?_
        refine K.fieldAddr Y (gd1 rfl rfl rfl (h2)) rfl t63 rfl rfl ?_
        refine K.load1 Y (gd1 rfl rfl rfl (h2)) rfl rfl t3 rfl rfl ?_
        refine K.bin (V := .bool (x1.weight.sum == 0)) (gd1 rfl rfl rfl (h2)) rfl rfl (fun _ => rfl) rfl ?_
        refine K.pickT (gd0 rfl) rfl (h2) rfl rfl ?_
        refine K.move (.inl rfl) (gd0 rfl) rfl rfl ?_
        refine K.skip rfl rfl rfl rfl (h3) rfl ?_
        refine K.skip rfl rfl rfl rfl (h3) rfl ?_
        refine K.skip rfl rfl rfl rfl (h3) rfl ?_
        refine K.skip rfl rfl rfl rfl (h3) rfl ?_
        refine K.skip rfl rfl rfl rfl (h3) rfl ?_
        refine K.skip rfl rfl rfl rfl (h3) rfl ?_
        refine K.skip rfl rfl rfl rfl (h3) rfl ?_
        refine K.pickF (gd0 rfl) rfl (h3) rfl rfl ?_
        refine K.move (.inl rfl) (gd0 rfl) rfl rfl ?_
        refine K.skip rfl rfl rfl rfl (rfl) rfl ?_
        refine K.skip rfl rfl rfl rfl (rfl) rfl ?_
        refine K.skip rfl rfl rfl rfl (rfl) rfl ?_
        refine K.skip rfl rfl rfl rfl (rfl) rfl ?_
        refine K.pickF (gd0 rfl) rfl (rfl) rfl rfl ?_
        refine K.move (.inr rfl) (gd0 rfl) rfl rfl ?_
        refine K.nil ?_
        refine ⟨by kernel_rfl, ?_⟩
        refine At.next ?_
        refine G.ret ?_
        refine At.done Y [(.tmp 0, .c _)] rfl ⟨.tmp rfl, trivial⟩ (to' := []) trivial ?_ ?_ rfl rfl rfl (.inl rfl)
        · cases H0; rfl
        · cases H0; rfl
    ·
      replace H0 := bif_f H0 h2
      refine G.rd mixed ?_
      refine K.fieldAddr Y (gd0 rfl) rfl t67 rfl rfl ?_
      refine K.loadS Y [_, _, _] (gd0 rfl) rfl rfl t63 rfl rfl rfl ?_
      refine K.build Y [(0, _), (1, _), (2, _)] [_, _, _] [(_, _), (_, _), (_, _)] (gd0 rfl) (AllE.spec ⟨rfl, rfl, rfl, trivial⟩) rfl rfl t63 rfl rfl ?_
      refine K.eqS [_, _, _] [_, _, _] (gd0 rfl) rfl rfl cmp63 rfl (.inl rfl) ((x1.count.n == 1) && ((x1.count.sum == 1) && ((x1.count.low == 1) && true))) rfl rfl ?_
      refine K.move (.inl rfl) (gd0 rfl) rfl rfl ?_
      refine K.fieldAddr Y (gd1 rfl rfl rfl (h1)) rfl t67 rfl rfl ?_
      refine K.fieldAddr Y (gd1 rfl rfl rfl (h1)) rfl t63 rfl rfl ?_
      refine K.load1 Y (gd1 rfl rfl rfl (h1)) rfl rfl t3 rfl rfl ?_
      refine K.bin (V := .bool (x1.weight.n == 1)) (gd1 rfl rfl rfl (h1)) rfl rfl (fun _ => rfl) rfl ?_
      refine K.pickT (gd0 rfl) rfl (h1) rfl rfl ?_
      refine K.move (.inl rfl) (gd0 rfl) rfl rfl ?_
      refine K.skip rfl rfl rfl rfl (h2) rfl ?_
      refine K.skip rfl rfl rfl rfl (h2) rfl ?_
      refine K.skip rfl rfl rfl rfl (h2) rfl ?_
      refine K.skip rfl rfl rfl rfl (h2) rfl ?_
      refine K.pickF (gd0 rfl) rfl (h2) rfl rfl ?_
      refine K.move (.inl rfl) (gd0 rfl) rfl rfl ?_
      refine K.skip rfl rfl rfl rfl (rfl) rfl ?_
      refine K.skip rfl rfl rfl rfl (rfl) rfl ?_
      refine K.skip rfl rfl rfl rfl (rfl) rfl ?_
      refine K.skip rfl rfl rfl rfl (rfl) rfl ?_
      refine K.skip rfl rfl rfl rfl (rfl) rfl ?_
      refine K.skip rfl rfl rfl rfl (rfl) rfl ?_
      refine K.skip rfl rfl rfl rfl (rfl) rfl ?_
      refine K.pickF (gd0 rfl) rfl (rfl) rfl rfl ?_
      refine K.move (.inl rfl) (gd0 rfl) rfl rfl ?_
      refine K.skip rfl rfl rfl rfl (rfl) rfl ?_
      refine K.skip rfl rfl rfl rfl (rfl) rfl ?_
      refine K.skip rfl rfl rfl rfl (rfl) rfl ?_
      refine K.skip rfl rfl rfl rfl (rfl) rfl ?_
      refine K.pickF (gd0 rfl) rfl (rfl) rfl rfl ?_
      refine K.move (.inr rfl) (gd0 rfl) rfl rfl ?_
      refine K.nil ?_
      refine ⟨by kernel_rfl, ?_⟩
      refine At.next ?_
      refine G.ret ?_
      refine At.done Y [(.tmp 0, .c _)] rfl ⟨.tmp rfl, trivial⟩ (to' := []) trivial ?_ ?_ rfl rfl rfl (.inl rfl)
      · cases H0; rfl
      · cases H0; rfl
  ·
    replace H0 := bif_f H0 h1
    refine G.rd mixed ?_
    refine K.fieldAddr Y (gd0 rfl) rfl t67 rfl rfl ?_
    refine K.loadS Y [_, _, _] (gd0 rfl) rfl rfl t63 rfl rfl rfl ?_
    refine K.build Y [(0, _), (1, _), (2, _)] [_, _, _] [(_, _), (_, _), (_, _)] (gd0 rfl) (AllE.spec ⟨rfl, rfl, rfl, trivial⟩) rfl rfl t63 rfl rfl ?_
    refine K.eqS [_, _, _] [_, _, _] (gd0 rfl) rfl rfl cmp63 rfl (.inl rfl) ((x1.count.n == 1) && ((x1.count.sum == 1) && ((x1.count.low == 1) && true))) rfl rfl ?_
    refine K.move (.inl rfl) (gd0 rfl) rfl rfl ?_
    refine K.skip rfl rfl rfl rfl (h1) rfl ?_
    refine K.skip rfl rfl rfl rfl (h1) rfl ?_
    refine K.skip rfl rfl rfl rfl (h1) rfl ?_
    refine K.skip rfl rfl rfl rfl (h1) rfl ?_
    refine K.pickF (gd0 rfl) rfl (h1) rfl rfl ?_
    refine K.move (.inl rfl) (gd0 rfl) rfl rfl ?_
    refine K.skip rfl rfl rfl rfl (rfl) rfl ?_
    refine K.skip rfl rfl rfl rfl (rfl) rfl ?_
    refine K.skip rfl rfl rfl rfl (rfl) rfl ?_
    refine K.skip rfl rfl rfl rfl (rfl) rfl ?_
    refine K.pickF (gd0 rfl) rfl (rfl) rfl rfl ?_
    refine K.move (.inl rfl) (gd0 rfl) rfl rfl ?_
    refine K.skip rfl rfl rfl rfl (rfl) rfl ?_
    refine K.skip rfl rfl rfl rfl (rfl) rfl ?_
    refine K.skip rfl rfl rfl rfl (rfl) rfl ?_
    refine K.skip rfl rfl rfl rfl (rfl) rfl ?_
    refine K.skip rfl rfl rfl rfl (rfl) rfl ?_
    refine K.skip rfl rfl rfl rfl (rfl) rfl ?_
    refine K.skip rfl rfl rfl rfl (rfl) rfl ?_
    refine K.pickF (gd0 rfl) rfl (rfl) rfl rfl ?_
    refine K.move (.inl rfl) (gd0 rfl) rfl rfl ?_
    refine K.skip rfl rfl rfl rfl (rfl) rfl ?_
    refine K.skip rfl rfl rfl rfl (rfl) rfl ?_
    refine K.skip rfl rfl rfl rfl (rfl) rfl ?_
    refine K.skip rfl rfl rfl rfl (rfl) rfl ?_
    refine K.pickF (gd0 rfl) rfl (rfl) rfl rfl ?_
    refine K.move (.inr rfl) (gd0 rfl) rfl rfl ?_
    refine K.nil ?_
    refine ⟨by kernel_rfl, ?_⟩
    refine At.next ?_
    refine G.ret ?_
    refine At.done Y [(.tmp 0, .c _)] rfl ⟨.tmp rfl, trivial⟩ (to' := []) trivial ?_ ?_ rfl rfl rfl (.inl rfl)
    · cases H0; rfl
    · cases H0; rfl
theorem Lw08_awake_con {k : Nat} {r : Bool}  (H0 : Lw08_awake.f k = some r) : SCon Try.prog 37 [] [] (.a (.c (.v (.bool r)))) [] [] :=
  SCon.ren (rn []) (Lw08_awake_con0  H0) trivial trivial (by simp) (by simp)
theorem Lw08_Comes_con0 {k : Nat} {S : Foot} {W0 : World} {s1 : Value} {a0 : TSwell} {l1 : List TR08Mark} {r : Bool} (hL1 : LArg S W0 s1 eTR08Mark 8 l1) (H0 : Lw08_Comes.f k a0 l1 = some r) : SCon Try.prog 38 [.a (.agg ((eTSwell a0).map .v)), SV.raw s1] [(0, rd S W0)] (.a (.c (.v (.bool r)))) [(0, rd S W0)] [] := by
  rw [Lw08_Comes.f] at H0
  obtain ⟨b1, o1, hI1⟩ := hL1
  refine spec_of [(0, _), (1, _)] [(0, _)] 69 Try.func38 rfl Try.ntmps38 rfl rfl rfl rfl (fun β W F => ?_)
  refine G.seq ?_
  refine G.rg ?_
  refine K.box Y 100 [_, _, _, _, _, _, _, _, _, _, _, _, _, _, _, _] (gd0 rfl) rfl rfl rfl rfl rfl rfl ?_
  refine K.move (.inr rfl) (gd0 rfl) rfl rfl ?_
  refine K.nil ?_
  refine At.next ?_
  refine G.seq ?_
  obtain ⟨x1, hx1, H0⟩ := bnd H0
  obtain ⟨x2, hx2, H0⟩ := bnd H0
  obtain ⟨x3, hx3, H0⟩ := bnd H0
  obtain ⟨x4, hx4, H0⟩ := bnd H0
  refine G.rg ?_
  refine K.move (.inl rfl) (gd0 rfl) rfl rfl ?_
  refine K.callV [(.func 58, _), ((.tmp 13), _)] [(0, rd S W0)] [] [(101, _)] (fun β => [SV.raw s1]) (fun β w S2 h => R08_Counts_con ((hI1.isC 0).larg ⟨_, List.mem_cons_self⟩ h) hx1 101 rfl) (toFn_func (cf 58 rfl) rfl) (gd0 rfl) ⟨rfl, rfl, trivial⟩ (fun _ => rfl) ⟨rfl, trivial⟩ rfl rfl rfl rfl rfl rfl ?_
  refine K.callV [(.func 57, _), ((.tmp 14), _)] [(101, lrow 101 3 intE 1 x1)] [] [] (fun β => [SV.raw ((lrowV 101 3 intE 1 x1).s.den β)]) (fun β w S2 h => R08_Tide_con ((lrowV_isC intE_len (by decide)).larg ⟨_, List.mem_cons_self⟩ h) hx2) (toFn_func (cf 57 rfl) rfl) (gd0 rfl) ⟨rfl, rfl, trivial⟩ (fun _ => rfl) ⟨rfl, trivial⟩ rfl rfl rfl rfl rfl rfl ?_
  refine K.move (.inl rfl) (gd0 rfl) rfl rfl ?_
  refine K.callV [(.func 59, _), ((.tmp 16), _)] [(0, rd S W0)] [] [(102, _)] (fun β => [SV.raw s1]) (fun β w S2 h => R08_Weights_con ((hI1.isC 0).larg ⟨_, List.mem_cons_self⟩ h) hx3 102 rfl) (toFn_func (cf 59 rfl) rfl) (gd0 rfl) ⟨rfl, rfl, trivial⟩ (fun _ => rfl) ⟨rfl, trivial⟩ rfl rfl rfl rfl rfl rfl ?_
  refine K.callV [(.func 57, _), ((.tmp 17), _)] [(102, lrow 102 3 intE 1 x3)] [] [] (fun β => [SV.raw ((lrowV 102 3 intE 1 x3).s.den β)]) (fun β w S2 h => R08_Tide_con ((lrowV_isC intE_len (by decide)).larg ⟨_, List.mem_cons_self⟩ h) hx4) (toFn_func (cf 57 rfl) rfl) (gd0 rfl) ⟨rfl, rfl, trivial⟩ (fun _ => rfl) ⟨rfl, trivial⟩ rfl rfl rfl rfl rfl rfl ?_
  refine K.alloc Y 103 [_, _, _] (gd0 rfl) t107 rfl rfl rfl rfl rfl ?_
  refine K.alloc Y 104 [_, _, _] (gd0 rfl) t107 rfl rfl rfl rfl rfl ?_
  refine K.store Y [_, _, _] (gd0 rfl) rfl rfl rfl t107 rfl rfl rfl rfl rfl ?_
  refine K.store Y [_, _, _] (gd0 rfl) rfl rfl rfl t107 rfl rfl rfl rfl rfl ?_
  refine K.nil ?_
  refine At.next ?_
  refine G.seq ?_
  obtain ⟨x5, hx5, H0⟩ := bnd H0
  refine G.rg ?_
  refine K.move (.inl rfl) (gd0 rfl) rfl rfl ?_
  refine K.callV [(.func 60, _), ((.tmp 20), _)] [(0, rd S W0)] [] [] (fun β => [SV.raw s1]) (fun β w S2 h => R08_Deletes_con ((hI1.isC 0).larg ⟨_, List.mem_cons_self⟩ h) hx5) (toFn_func (cf 60 rfl) rfl) (gd0 rfl) ⟨rfl, rfl, trivial⟩ (fun _ => rfl) ⟨rfl, trivial⟩ rfl rfl rfl rfl rfl rfl ?_
  refine K.move (.inl rfl) (gd0 rfl) rfl rfl ?_
  refine K.extract (gd0 rfl) rfl rfl rfl ?_
  refine K.extract (gd0 rfl) rfl rfl rfl ?_
  refine K.extract (gd0 rfl) rfl rfl rfl ?_
  refine K.alloc Y 105 [_, _] (gd0 rfl) t37 rfl rfl rfl rfl rfl ?_
  refine K.move (.inr rfl) (gd0 rfl) rfl rfl ?_
  refine K.move (.inr rfl) (gd0 rfl) rfl rfl ?_
  refine K.store Y [_, _] (gd0 rfl) rfl rfl rfl t37 rfl rfl rfl rfl rfl ?_
  refine K.nil ?_
  refine At.next ?_
  refine G.seq ?_
  obtain ⟨x6, hx6, H0⟩ := bnd H0
  obtain ⟨x7, hx7, H0⟩ := bnd H0
  refine G.rg ?_
  refine K.move (.inl rfl) (gd0 rfl) rfl rfl ?_
  refine K.callV [(.func 61, _), ((.tmp 25), _), (_, _)] [(0, rd S W0)] [] [(106, _)] (fun β => [SV.raw s1, .a (.c (.v (.bool false)))]) (fun β w S2 h => R08_Items_con ((hI1.isC 0).larg ⟨_, List.mem_cons_self⟩ h) hx6 106 rfl) (toFn_func (cf 61 rfl) rfl) (gd0 rfl) ⟨rfl, rfl, rfl, trivial⟩ (fun _ => rfl) ⟨rfl, trivial⟩ rfl rfl rfl rfl rfl rfl ?_
  refine K.move (.inl rfl) (gd0 rfl) rfl rfl ?_
  refine K.callV [(.func 61, _), ((.tmp 27), _), (_, _)] [(0, rd S W0)] [] [(107, _)] (fun β => [SV.raw s1, .a (.c (.v (.bool true)))]) (fun β w S2 h => R08_Items_con ((hI1.isC 0).larg ⟨_, List.mem_cons_self⟩ h) hx7 107 rfl) (toFn_func (cf 61 rfl) rfl) (gd0 rfl) ⟨rfl, rfl, rfl, trivial⟩ (fun _ => rfl) ⟨rfl, trivial⟩ rfl rfl rfl rfl rfl rfl ?_
  refine K.move (.inr rfl) (gd0 rfl) rfl rfl ?_
  refine K.move (.inr rfl) (gd0 rfl) rfl rfl ?_
  refine K.nil ?_
  refine At.next ?_
  refine G.seq ?_
  refine G.rg ?_
  refine K.idxA 0 tA107 (gd0 rfl) rfl rfl rfl rfl rfl ?_
  refine K.load1 Y (gd0 rfl) rfl rfl t3 rfl rfl ?_
  refine K.idxA 1 tA107 (gd0 rfl) rfl rfl rfl rfl rfl ?_
  refine K.load1 Y (gd0 rfl) rfl rfl t3 rfl rfl ?_
  refine K.idxA 2 tA107 (gd0 rfl) rfl rfl rfl rfl rfl ?_
  refine K.load1 Y (gd0 rfl) rfl rfl t3 rfl rfl ?_
  refine K.build Y [(0, _), (1, _), (2, _)] [_, _, _] [((.tmp 30), _), ((.tmp 32), _), ((.tmp 34), _)] (gd0 rfl) (AllE.spec ⟨rfl, rfl, rfl, trivial⟩) rfl rfl t63 rfl rfl ?_
  refine K.idxA 0 tA107 (gd0 rfl) rfl rfl rfl rfl rfl ?_
  refine K.load1 Y (gd0 rfl) rfl rfl t3 rfl rfl ?_
  refine K.idxA 1 tA107 (gd0 rfl) rfl rfl rfl rfl rfl ?_
  refine K.load1 Y (gd0 rfl) rfl rfl t3 rfl rfl ?_
  refine K.idxA 2 tA107 (gd0 rfl) rfl rfl rfl rfl rfl ?_
  refine K.load1 Y (gd0 rfl) rfl rfl t3 rfl rfl ?_
  refine K.build Y [(0, _), (1, _), (2, _)] [_, _, _] [((.tmp 37), _), ((.tmp 39), _), ((.tmp 41), _)] (gd0 rfl) (AllE.spec ⟨rfl, rfl, rfl, trivial⟩) rfl rfl t63 rfl rfl ?_
  refine K.move (.inl rfl) (gd0 rfl) rfl rfl ?_
  refine K.move (.inl rfl) (gd0 rfl) rfl rfl ?_
  refine K.loadS Y [_, _] (gd0 rfl) rfl rfl t37 rfl rfl rfl ?_
  refine K.build Y [(0, _), (1, _), (2, _), (3, _), (4, _)] [_, _, _, _, _, _, _, _, _, _, _, _, _, _, _, _] [((.tmp 35), _), ((.tmp 42), _), ((.tmp 43), _), ((.tmp 44), _), ((.tmp 45), _)] (gd0 rfl) (AllE.spec ⟨rfl, rfl, rfl, rfl, rfl, trivial⟩) rfl rfl t67 rfl rfl ?_
  refine K.alloc Y 108 [_, _, _, _, _, _, _, _, _, _, _, _, _, _, _, _] (gd0 rfl) t67 rfl rfl rfl rfl rfl ?_
  refine K.store Y [_, _, _, _, _, _, _, _, _, _, _, _, _, _, _, _] (gd0 rfl) rfl rfl rfl t67 rfl rfl rfl rfl rfl ?_
  refine K.nil ?_
  refine At.next ?_
  refine G.seq ?_
  refine G.seq ?_
  refine G.rg ?_
  refine K.move (.inl rfl) (gd0 rfl) rfl rfl ?_
  refine K.lenL (lrowV 106 37 eTItem 2 x6) (lrowV_is eTItem_len (by decide)) (gd0 rfl) rfl rfl Try.underlying33 rfl ?_
  refine K.bin (V := .bool (decide ((x6.length : Int) > 0))) (gd0 rfl) rfl rfl (fun _ => rfl) rfl ?_
  refine K.nil ?_
  refine At.next ?_
  refine G.cond rfl (fun h1 => ?_) (fun h1 => ?_)
  ·
    replace H0 := bif_t H0 h1
    obtain ⟨x8, hx8, H0⟩ := bnd H0
    refine G.rg ?_
    refine K.move (.inl rfl) (gd0 rfl) rfl rfl ?_
    refine K.move (.inl rfl) (gd0 rfl) rfl rfl ?_
    refine K.lenL (lrowV 106 37 eTItem 2 x6) (lrowV_is eTItem_len (by decide)) (gd0 rfl) rfl rfl Try.underlying33 rfl ?_
    refine K.bin (V := .int .i64 (w64 ((x6.length : Int) - 1))) (gd0 rfl) rfl rfl (fun _ => rfl) rfl ?_
    refine K.idxL (lrowV 106 37 eTItem 2 x6) (((w64 ((x6.length : Int) - 1))).toNat) (lrowV_is eTItem_len (by decide)) (atL_get hx8) (atL_nn hx8) (gd0 rfl) rfl rfl rfl Try.underlying33 el33.size_run rfl ?_
    refine K.loadSL Y (lrowV 106 37 eTItem 2 x6) (((w64 ((x6.length : Int) - 1))).toNat) 0 [_, _] [_, _] (lrowV_is eTItem_len (by decide)) (atL_get hx8) (gd0 rfl) rfl rfl t37 rfl rfl rfl rfl rfl ?_
    refine K.build Y [(0, _), (1, _)] [_, _, _] [(_, _), ((.tmp 55), _)] (gd0 rfl) (AllE.spec ⟨rfl, rfl, trivial⟩) rfl rfl t65 rfl rfl ?_
    refine K.fieldAddr Y (gd0 rfl) rfl t67 rfl rfl ?_
    refine K.store Y [_, _, _, _, _, _, _, _, _, _, _, _, _, _, _, _] (gd0 rfl) rfl rfl rfl t65 rfl rfl rfl rfl rfl ?_
    refine K.nil ?_
    refine At.next ?_
    refine G.seq ?_
    refine G.seq ?_
    refine G.rg ?_
    refine K.move (.inl rfl) (gd0 rfl) rfl rfl ?_
    refine K.lenL (lrowV 107 37 eTItem 2 x7) (lrowV_is eTItem_len (by decide)) (gd0 rfl) rfl rfl Try.underlying33 rfl ?_
    refine K.bin (V := .bool (decide ((x7.length : Int) > 0))) (gd0 rfl) rfl rfl (fun _ => rfl) rfl ?_
    refine K.nil ?_
    refine At.next ?_
    refine G.cond rfl (fun h2 => ?_) (fun h2 => ?_)
    ·
      replace H0 := bif_t H0 h2
      obtain ⟨x9, hx9, H0⟩ := bnd H0
      refine G.rg ?_
      refine K.move (.inl rfl) (gd0 rfl) rfl rfl ?_
      refine K.idxL (lrowV 107 37 eTItem 2 x7) ((0 : Int).toNat) (lrowV_is eTItem_len (by decide)) (atL_get hx9) (atL_nn hx9) (gd0 rfl) rfl rfl rfl Try.underlying33 el33.size_run rfl ?_
      refine K.loadSL Y (lrowV 107 37 eTItem 2 x7) ((0 : Int).toNat) 0 [_, _] [_, _] (lrowV_is eTItem_len (by decide)) (atL_get hx9) (gd0 rfl) rfl rfl t37 rfl rfl rfl rfl rfl ?_
      refine K.build Y [(0, _), (1, _)] [_, _, _] [(_, _), ((.tmp 63), _)] (gd0 rfl) (AllE.spec ⟨rfl, rfl, trivial⟩) rfl rfl t65 rfl rfl ?_
      refine K.fieldAddr Y (gd0 rfl) rfl t67 rfl rfl ?_
      refine K.store Y [_, _, _, _, _, _, _, _, _, _, _, _, _, _, _, _] (gd0 rfl) rfl rfl rfl t65 rfl rfl rfl rfl rfl ?_
      refine K.nil ?_
      refine At.next ?_
      refine G.seq ?_
      refine G.rg ?_
      refine K.loadS Y [_, _, _, _, _, _, _, _, _, _, _, _, _, _, _, _] (gd0 rfl) rfl rfl t67 rfl rfl rfl ?_
      refine K.loadS Y [_, _, _, _, _, _, _, _, _, _, _, _, _, _, _, _] (gd0 rfl) rfl rfl t67 rfl rfl rfl ?_
      refine K.eqS [_, _, _, _, _, _, _, _, _, _, _, _, _, _, _, _] [_, _, _, _, _, _, _, _, _, _, _, _, _, _, _, _] (gd0 rfl) rfl rfl cmp67 rfl (.inl rfl) ((a0.count.n == x2.i0) && ((a0.count.sum == x2.i1) && ((a0.count.low == x2.i2) && ((a0.weight.n == x4.i0) && ((a0.weight.sum == x4.i1) && ((a0.weight.low == x4.i2) && ((a0.deletes == x5.1) && ((a0.free == x5.2.1) && ((a0.most.key == x5.2.2.key) && ((a0.most.id == x5.2.2.id) && ((a0.gone.found == true) && ((a0.gone.item.key == x8.key) && ((a0.gone.item.id == x8.id) && ((a0.least.found == true) && ((a0.least.item.key == x9.key) && ((a0.least.item.id == x9.id) && true)))))))))))))))) rfl rfl ?_
      refine K.move (.inr rfl) (gd0 rfl) rfl rfl ?_
      refine K.nil ?_
      refine At.next ?_
      refine G.ret ?_
      refine At.done Y [(.tmp 4, .c _)] rfl ⟨.tmp rfl, trivial⟩ (to' := [(0, _)]) ⟨rfl, trivial⟩ ?_ ?_ rfl rfl rfl (.inl rfl)
      · cases H0; rfl
      · cases H0; rfl
    ·
      replace H0 := bif_f H0 h2
      refine G.skip ?_
      refine At.next ?_
      refine G.seq ?_
      refine G.rg ?_
      refine K.loadS Y [_, _, _, _, _, _, _, _, _, _, _, _, _, _, _, _] (gd0 rfl) rfl rfl t67 rfl rfl rfl ?_
      refine K.loadS Y [_, _, _, _, _, _, _, _, _, _, _, _, _, _, _, _] (gd0 rfl) rfl rfl t67 rfl rfl rfl ?_
      refine K.eqS [_, _, _, _, _, _, _, _, _, _, _, _, _, _, _, _] [_, _, _, _, _, _, _, _, _, _, _, _, _, _, _, _] (gd0 rfl) rfl rfl cmp67 rfl (.inl rfl) ((a0.count.n == x2.i0) && ((a0.count.sum == x2.i1) && ((a0.count.low == x2.i2) && ((a0.weight.n == x4.i0) && ((a0.weight.sum == x4.i1) && ((a0.weight.low == x4.i2) && ((a0.deletes == x5.1) && ((a0.free == x5.2.1) && ((a0.most.key == x5.2.2.key) && ((a0.most.id == x5.2.2.id) && ((a0.gone.found == true) && ((a0.gone.item.key == x8.key) && ((a0.gone.item.id == x8.id) && ((a0.least.found == false) && ((a0.least.item.key == 0) && ((a0.least.item.id == 0) && true)))))))))))))))) rfl rfl ?_
      refine K.move (.inr rfl) (gd0 rfl) rfl rfl ?_
      refine K.nil ?_
      refine At.next ?_
      refine G.ret ?_
      refine At.done Y [(.tmp 4, .c _)] rfl ⟨.tmp rfl, trivial⟩ (to' := [(0, _)]) ⟨rfl, trivial⟩ ?_ ?_ rfl rfl rfl (.inl rfl)
      · cases H0; rfl
      · cases H0; rfl
  ·
    replace H0 := bif_f H0 h1
    refine G.skip ?_
    refine At.next ?_
    refine G.seq ?_
    refine G.seq ?_
    refine G.rg ?_
    refine K.move (.inl rfl) (gd0 rfl) rfl rfl ?_
    refine K.lenL (lrowV 107 37 eTItem 2 x7) (lrowV_is eTItem_len (by decide)) (gd0 rfl) rfl rfl Try.underlying33 rfl ?_
    refine K.bin (V := .bool (decide ((x7.length : Int) > 0))) (gd0 rfl) rfl rfl (fun _ => rfl) rfl ?_
    refine K.nil ?_
    refine At.next ?_
    refine G.cond rfl (fun h3 => ?_) (fun h3 => ?_)
    ·
      replace H0 := bif_t H0 h3
      obtain ⟨x10, hx10, H0⟩ := bnd H0
      refine G.rg ?_
      refine K.move (.inl rfl) (gd0 rfl) rfl rfl ?_
      refine K.idxL (lrowV 107 37 eTItem 2 x7) ((0 : Int).toNat) (lrowV_is eTItem_len (by decide)) (atL_get hx10) (atL_nn hx10) (gd0 rfl) rfl rfl rfl Try.underlying33 el33.size_run rfl ?_
      refine K.loadSL Y (lrowV 107 37 eTItem 2 x7) ((0 : Int).toNat) 0 [_, _] [_, _] (lrowV_is eTItem_len (by decide)) (atL_get hx10) (gd0 rfl) rfl rfl t37 rfl rfl rfl rfl rfl ?_
      refine K.build Y [(0, _), (1, _)] [_, _, _] [(_, _), ((.tmp 63), _)] (gd0 rfl) (AllE.spec ⟨rfl, rfl, trivial⟩) rfl rfl t65 rfl rfl ?_
      refine K.fieldAddr Y (gd0 rfl) rfl t67 rfl rfl ?_
      refine K.store Y [_, _, _, _, _, _, _, _, _, _, _, _, _, _, _, _] (gd0 rfl) rfl rfl rfl t65 rfl rfl rfl rfl rfl ?_
      refine K.nil ?_
      refine At.next ?_
      refine G.seq ?_
      refine G.rg ?_
      refine K.loadS Y [_, _, _, _, _, _, _, _, _, _, _, _, _, _, _, _] (gd0 rfl) rfl rfl t67 rfl rfl rfl ?_
      refine K.loadS Y [_, _, _, _, _, _, _, _, _, _, _, _, _, _, _, _] (gd0 rfl) rfl rfl t67 rfl rfl rfl ?_
      refine K.eqS [_, _, _, _, _, _, _, _, _, _, _, _, _, _, _, _] [_, _, _, _, _, _, _, _, _, _, _, _, _, _, _, _] (gd0 rfl) rfl rfl cmp67 rfl (.inl rfl) ((a0.count.n == x2.i0) && ((a0.count.sum == x2.i1) && ((a0.count.low == x2.i2) && ((a0.weight.n == x4.i0) && ((a0.weight.sum == x4.i1) && ((a0.weight.low == x4.i2) && ((a0.deletes == x5.1) && ((a0.free == x5.2.1) && ((a0.most.key == x5.2.2.key) && ((a0.most.id == x5.2.2.id) && ((a0.gone.found == false) && ((a0.gone.item.key == 0) && ((a0.gone.item.id == 0) && ((a0.least.found == true) && ((a0.least.item.key == x10.key) && ((a0.least.item.id == x10.id) && true)))))))))))))))) rfl rfl ?_
      refine K.move (.inr rfl) (gd0 rfl) rfl rfl ?_
      refine K.nil ?_
      refine At.next ?_
      refine G.ret ?_
      refine At.done Y [(.tmp 4, .c _)] rfl ⟨.tmp rfl, trivial⟩ (to' := [(0, _)]) ⟨rfl, trivial⟩ ?_ ?_ rfl rfl rfl (.inl rfl)
      · cases H0; rfl
      · cases H0; rfl
    ·
      replace H0 := bif_f H0 h3
      refine G.skip ?_
      refine At.next ?_
      refine G.seq ?_
      refine G.rg ?_
      refine K.loadS Y [_, _, _, _, _, _, _, _, _, _, _, _, _, _, _, _] (gd0 rfl) rfl rfl t67 rfl rfl rfl ?_
      refine K.loadS Y [_, _, _, _, _, _, _, _, _, _, _, _, _, _, _, _] (gd0 rfl) rfl rfl t67 rfl rfl rfl ?_
      refine K.eqS [_, _, _, _, _, _, _, _, _, _, _, _, _, _, _, _] [_, _, _, _, _, _, _, _, _, _, _, _, _, _, _, _] (gd0 rfl) rfl rfl cmp67 rfl (.inl rfl) ((a0.count.n == x2.i0) && ((a0.count.sum == x2.i1) && ((a0.count.low == x2.i2) && ((a0.weight.n == x4.i0) && ((a0.weight.sum == x4.i1) && ((a0.weight.low == x4.i2) && ((a0.deletes == x5.1) && ((a0.free == x5.2.1) && ((a0.most.key == x5.2.2.key) && ((a0.most.id == x5.2.2.id) && ((a0.gone.found == false) && ((a0.gone.item.key == 0) && ((a0.gone.item.id == 0) && ((a0.least.found == false) && ((a0.least.item.key == 0) && ((a0.least.item.id == 0) && true)))))))))))))))) rfl rfl ?_
      refine K.move (.inr rfl) (gd0 rfl) rfl rfl ?_
      refine K.nil ?_
      refine At.next ?_
      refine G.ret ?_
      refine At.done Y [(.tmp 4, .c _)] rfl ⟨.tmp rfl, trivial⟩ (to' := [(0, _)]) ⟨rfl, trivial⟩ ?_ ?_ rfl rfl rfl (.inl rfl)
      · cases H0; rfl
      · cases H0; rfl
theorem Lw08_Comes_con {k : Nat} {S : Foot} {W0 : World} {s1 : Value} {a0 : TSwell} {l1 : List TR08Mark} {r : Bool} (hL1 : LArg S W0 s1 eTR08Mark 8 l1) (H0 : Lw08_Comes.f k a0 l1 = some r) : SCon Try.prog 38 [.a (.agg ((eTSwell a0).map .v)), SV.raw s1] [(0, rd S W0)] (.a (.c (.v (.bool r)))) [(0, rd S W0)] [] :=
  SCon.ren (rn []) (Lw08_Comes_con0 hL1 H0) ⟨(fun _ => rfl), trivial⟩ ⟨(fun _ => rfl), trivial⟩ (by simp) (by simp)
theorem Lw08_sums_con0 {k : Nat} {S : Foot} {W0 : World} {s0 : Value} {l0 : List TR08Mark} {r : TSwell} (hL0 : LArg S W0 s0 eTR08Mark 8 l0) (H0 : Lw08_sums.f k l0 = some r) : SCon Try.prog 39 [SV.raw s0] [(0, rd S W0)] (.a (.agg ((eTSwell r).map .v))) [(0, rd S W0)] [] := by
  rw [Lw08_sums.f] at H0
  obtain ⟨b0, o0, hI0⟩ := hL0
  refine spec_of [(0, _)] [(0, _)] 32 Try.func39 rfl Try.ntmps39 rfl rfl rfl rfl (fun β W F => ?_)
  refine G.seq ?_
  refine G.rg ?_
  refine K.alloc Y 100 [_, _, _, _, _, _, _, _, _, _, _, _, _, _, _, _] (gd0 rfl) t67 rfl rfl rfl rfl rfl ?_
  refine K.nil ?_
  refine At.next ?_
  refine G.seq ?_
  refine G.rg ?_
  refine K.build Y [] [_, _, _, _, _, _, _, _, _, _, _, _, _, _, _, _] [] (gd0 rfl) (AllE.spec trivial) rfl rfl t67 rfl rfl ?_
  refine K.alloc Y 101 [_, _, _, _, _, _, _, _, _, _, _, _, _, _, _, _] (gd0 rfl) t67 rfl rfl rfl rfl rfl ?_
  refine K.store Y [_, _, _, _, _, _, _, _, _, _, _, _, _, _, _, _] (gd0 rfl) rfl rfl rfl t67 rfl rfl rfl rfl rfl ?_
  refine K.nil ?_
  refine At.next ?_
  obtain ⟨x1, H1, H0⟩ := bnd H0
  refine G.seqJ (σ := { v : TSwell // x1 = v }) (fun q => [(2, .a (.c (.p 102 0))), (3, .a (.c (.p 103 0)))]) (fun q => [(0, rd S W0), (102, blk 102 [.v (.int .i64 0), .v (.int .i64 0), .v (.int .i64 0), .v (.int .i64 0), .v (.int .i64 0), .v (.int .i64 0), .v (.int .i64 0), .v (.int .i64 0), .v (.int .i64 0), .v (.int .i64 0), .v (.bool false), .v (.int .i64 0), .v (.int .i64 0), .v (.bool false), .v (.int .i64 0), .v (.int .i64 0)] 67), (103, blk 103 [.v (.int .i64 q.1.count.n), .v (.int .i64 q.1.count.sum), .v (.int .i64 q.1.count.low), .v (.int .i64 q.1.weight.n), .v (.int .i64 q.1.weight.sum), .v (.int .i64 q.1.weight.low), .v (.int .i64 q.1.deletes), .v (.int .i64 q.1.free), .v (.int .i64 q.1.most.key), .v (.int .i64 q.1.most.id), .v (.bool q.1.gone.found), .v (.int .i64 q.1.gone.item.key), .v (.int .i64 q.1.gone.item.id), .v (.bool q.1.least.found), .v (.int .i64 q.1.least.item.key), .v (.int .i64 q.1.least.item.id)] 67)]) ?_ ?_
  ·
    refine G.seq ?_
    refine G.rg ?_
    refine K.move (.inr rfl) (gd0 rfl) rfl rfl ?_
    refine K.nil ?_
    refine At.next ?_
    refine G.block ?_
    refine G.loop (σ := { q : Nat × (TSwell × Int) // Lw08_sums.l0 k l0 q.1 q.2 = some x1 }) (fun q => [(0, SV.raw s0), (2, .a (.c (.p 108 0))), (3, .a (.c (.p 109 0))), (4, .a (.c (.v (.int .i64 q.1.2.2))))]) (fun q => [(0, rd S W0), (108, blk 108 [.v (.int .i64 0), .v (.int .i64 0), .v (.int .i64 0), .v (.int .i64 0), .v (.int .i64 0), .v (.int .i64 0), .v (.int .i64 0), .v (.int .i64 0), .v (.int .i64 0), .v (.int .i64 0), .v (.bool false), .v (.int .i64 0), .v (.int .i64 0), .v (.bool false), .v (.int .i64 0), .v (.int .i64 0)] 67), (109, blk 109 [.v (.int .i64 q.1.2.1.count.n), .v (.int .i64 q.1.2.1.count.sum), .v (.int .i64 q.1.2.1.count.low), .v (.int .i64 q.1.2.1.weight.n), .v (.int .i64 q.1.2.1.weight.sum), .v (.int .i64 q.1.2.1.weight.low), .v (.int .i64 q.1.2.1.deletes), .v (.int .i64 q.1.2.1.free), .v (.int .i64 q.1.2.1.most.key), .v (.int .i64 q.1.2.1.most.id), .v (.bool q.1.2.1.gone.found), .v (.int .i64 q.1.2.1.gone.item.key), .v (.int .i64 q.1.2.1.gone.item.id), .v (.bool q.1.2.1.least.found), .v (.int .i64 q.1.2.1.least.item.key), .v (.int .i64 q.1.2.1.least.item.id)] 67)]) (fun q => q.1.1) ⟨(k, (zTSwell, 0)), H1⟩ ?_ ?_
    · exact At.into [(108, 100), (109, 101)] [_, _, _] rfl ⟨rfl, rfl, rfl, rfl, trivial⟩ ⟨rfl, (fun _ => rfl), rfl, (blk_ren rfl rfl), rfl, (blk_ren rfl rfl), trivial⟩ rfl
    ·
      rintro ⟨⟨n0, v1, v2⟩, H1⟩
      show G _ _ [(0, SV.raw s0), (2, .a (.c (.p 108 0))), (3, .a (.c (.p 109 0))), (4, .a (.c (.v (.int .i64 v2))))] [(0, some (rd S W0)), (108, some (blk 108 [.v (.int .i64 0), .v (.int .i64 0), .v (.int .i64 0), .v (.int .i64 0), .v (.int .i64 0), .v (.int .i64 0), .v (.int .i64 0), .v (.int .i64 0), .v (.int .i64 0), .v (.int .i64 0), .v (.bool false), .v (.int .i64 0), .v (.int .i64 0), .v (.bool false), .v (.int .i64 0), .v (.int .i64 0)] 67)), (109, some (blk 109 [.v (.int .i64 v1.count.n), .v (.int .i64 v1.count.sum), .v (.int .i64 v1.count.low), .v (.int .i64 v1.weight.n), .v (.int .i64 v1.weight.sum), .v (.int .i64 v1.weight.low), .v (.int .i64 v1.deletes), .v (.int .i64 v1.free), .v (.int .i64 v1.most.key), .v (.int .i64 v1.most.id), .v (.bool v1.gone.found), .v (.int .i64 v1.gone.item.key), .v (.int .i64 v1.gone.item.id), .v (.bool v1.least.found), .v (.int .i64 v1.least.item.key), .v (.int .i64 v1.least.item.id)] 67))] _ _
      cases n0 with
      | zero => exact absurd H1 (by simp [Lw08_sums.l0])
      | succ n0 =>
        have HL0 := H1
        rw [Lw08_sums.l0] at H1
        refine G.seq ?_
        refine G.seq ?_
        refine G.rg ?_
        refine K.move (.inl rfl) (gd0 rfl) rfl rfl ?_
        refine K.move (.inl rfl) (gd0 rfl) rfl rfl ?_
        refine K.lenL (rV 0 S W0 s0 b0 o0 eTR08Mark 8 l0) (hI0.is 0) (gd0 rfl) rfl rfl Try.underlying60 rfl ?_
        refine K.bin (V := .bool (decide (v2 < (l0.length : Int)))) (gd0 rfl) rfl rfl (fun _ => rfl) rfl ?_
        refine K.nil ?_
        refine At.next ?_
        refine G.cond rfl (fun h1 => ?_) (fun h1 => ?_)
        ·
          replace H1 := bif_t H1 h1
          refine G.skip ?_
          refine At.next ?_
          refine G.seq ?_
          refine G.block ?_
          obtain ⟨x2, hx2, H1⟩ := bnd H1
          obtain ⟨x3, hx3, H1⟩ := bnd H1
          obtain ⟨x4, hx4, H1⟩ := bnd H1
          refine G.rd mixed ?_
          refine K.loadS Y [_, _, _, _, _, _, _, _, _, _, _, _, _, _, _, _] (gd0 rfl) rfl rfl t67 rfl rfl rfl ?_
          refine K.move (.inl rfl) (gd0 rfl) rfl rfl ?_
          refine K.move (.inl rfl) (gd0 rfl) rfl rfl ?_
          refine K.idxL (rV 0 S W0 s0 b0 o0 eTR08Mark 8 l0) ((v2).toNat) (hI0.is 0) (atL_get hx2) (atL_nn hx2) (gd0 rfl) rfl rfl rfl Try.underlying60 el60.size_run rfl ?_
          refine K.fieldL Y (rV 0 S W0 s0 b0 o0 eTR08Mark 8 l0) ((v2).toNat) 0 0 (hI0.is 0) (atL_get hx2) (gd0 rfl) rfl rfl t75 rfl rfl rfl rfl ?_
          refine K.loadSL Y (rV 0 S W0 s0 b0 o0 eTR08Mark 8 l0) ((v2).toNat) 0 [_, _, _, _] [_, _, _, _] (hI0.is 0) (atL_get hx2) (gd0 rfl) rfl rfl t73 rfl rfl rfl rfl rfl ?_
          refine K.move (.inl rfl) (gd0 rfl) rfl rfl ?_
          refine K.move (.inl rfl) (gd0 rfl) rfl rfl ?_
          refine K.idxL (rV 0 S W0 s0 b0 o0 eTR08Mark 8 l0) ((v2).toNat) (hI0.is 0) (atL_get hx2) (atL_nn hx2) (gd0 rfl) rfl rfl rfl Try.underlying60 el60.size_run rfl ?_
          refine K.fieldL Y (rV 0 S W0 s0 b0 o0 eTR08Mark 8 l0) ((v2).toNat) 0 4 (hI0.is 0) (atL_get hx2) (gd0 rfl) rfl rfl t75 rfl rfl rfl rfl ?_
          refine K.load1L Y (rV 0 S W0 s0 b0 o0 eTR08Mark 8 l0) ((v2).toNat) 4 (hI0.is 0) (atL_get hx2) (gd0 rfl) rfl rfl t4 rfl rfl ?_
          refine K.move (.inl rfl) (gd0 rfl) rfl rfl ?_
          refine K.move (.inl rfl) (gd0 rfl) rfl rfl ?_
          refine K.idxL (rV 0 S W0 s0 b0 o0 eTR08Mark 8 l0) ((v2).toNat) (hI0.is 0) (atL_get hx2) (atL_nn hx2) (gd0 rfl) rfl rfl rfl Try.underlying60 el60.size_run rfl ?_
          refine K.fieldL Y (rV 0 S W0 s0 b0 o0 eTR08Mark 8 l0) ((v2).toNat) 0 5 (hI0.is 0) (atL_get hx2) (gd0 rfl) rfl rfl t75 rfl rfl rfl rfl ?_
          refine K.loadSL Y (rV 0 S W0 s0 b0 o0 eTR08Mark 8 l0) ((v2).toNat) 5 [_, _, _] [_, _, _] (hI0.is 0) (atL_get hx2) (gd0 rfl) rfl rfl t65 rfl rfl rfl rfl rfl ?_
          refine K.build Y [(0, _), (1, _), (2, _)] [_, _, _, _, _, _, _, _] [((.tmp 17), _), ((.tmp 22), _), ((.tmp 27), _)] (gd0 rfl) (AllE.spec ⟨rfl, rfl, rfl, trivial⟩) rfl rfl t82 rfl rfl ?_
          refine K.callR [(.func 55, _), ((.tmp 28), _)] (wave_Mark_Sum_con hx3) (toFn_func (cf 55 rfl) rfl) (gd0 rfl) ⟨rfl, rfl, trivial⟩ trivial rfl rfl rfl ?_
          refine K.callR [(.func 40, _), ((.tmp 12), _), ((.tmp 29), _)] (wave_Swell_Plus_con hx4) (toFn_func (cf 40 rfl) rfl) (gd0 rfl) ⟨rfl, rfl, rfl, trivial⟩ trivial rfl rfl rfl ?_
          refine K.store Y [_, _, _, _, _, _, _, _, _, _, _, _, _, _, _, _] (gd0 rfl) rfl rfl rfl t67 rfl rfl rfl rfl rfl ?_
          refine K.nil ?_
          refine ⟨by kernel_rfl, ?_⟩
          refine At.block_normal ?_
          refine At.next ?_
          refine G.rg ?_
          refine K.move (.inl rfl) (gd0 rfl) rfl rfl ?_
          refine K.bin (V := .int .i64 (w64 (v2 + 1))) (gd0 rfl) rfl rfl (fun _ => rfl) rfl ?_
          refine K.move (.inr rfl) (gd0 rfl) rfl rfl ?_
          refine K.nil ?_
          exact At.again (σ := { q : Nat × (TSwell × Int) // Lw08_sums.l0 k l0 q.1 q.2 = some x1 }) (Fs := fun q => [(0, SV.raw s0), (2, .a (.c (.p 108 0))), (3, .a (.c (.p 109 0))), (4, .a (.c (.v (.int .i64 q.1.2.2))))]) (Tl := fun q => [(0, rd S W0), (108, blk 108 [.v (.int .i64 0), .v (.int .i64 0), .v (.int .i64 0), .v (.int .i64 0), .v (.int .i64 0), .v (.int .i64 0), .v (.int .i64 0), .v (.int .i64 0), .v (.int .i64 0), .v (.int .i64 0), .v (.bool false), .v (.int .i64 0), .v (.int .i64 0), .v (.bool false), .v (.int .i64 0), .v (.int .i64 0)] 67), (109, blk 109 [.v (.int .i64 q.1.2.1.count.n), .v (.int .i64 q.1.2.1.count.sum), .v (.int .i64 q.1.2.1.count.low), .v (.int .i64 q.1.2.1.weight.n), .v (.int .i64 q.1.2.1.weight.sum), .v (.int .i64 q.1.2.1.weight.low), .v (.int .i64 q.1.2.1.deletes), .v (.int .i64 q.1.2.1.free), .v (.int .i64 q.1.2.1.most.key), .v (.int .i64 q.1.2.1.most.id), .v (.bool q.1.2.1.gone.found), .v (.int .i64 q.1.2.1.gone.item.key), .v (.int .i64 q.1.2.1.gone.item.id), .v (.bool q.1.2.1.least.found), .v (.int .i64 q.1.2.1.least.item.key), .v (.int .i64 q.1.2.1.least.item.id)] 67)]) (μ := fun q => q.1.1) (s := ⟨(n0 + 1, (v1, v2)), HL0⟩) ⟨(n0, (x4, (w64 (v2 + 1)))), H1⟩ [] [_, _, _] (Nat.lt_succ_self _) rfl ⟨rfl, rfl, rfl, rfl, trivial⟩ ⟨rfl, (fun _ => rfl), rfl, (blk_ren rfl rfl), rfl, (blk_ren rfl rfl), trivial⟩ rfl
        ·
          replace H1 := bif_f H1 h1
          refine G.exit ?_
          refine At.over_exit ?_
          refine At.over_exit ?_
          refine At.block_hit ?_
          exact At.joined (σ := { v : TSwell // x1 = v }) (Fs := fun q => [(2, .a (.c (.p 102 0))), (3, .a (.c (.p 103 0)))]) (Tl := fun q => [(0, rd S W0), (102, blk 102 [.v (.int .i64 0), .v (.int .i64 0), .v (.int .i64 0), .v (.int .i64 0), .v (.int .i64 0), .v (.int .i64 0), .v (.int .i64 0), .v (.int .i64 0), .v (.int .i64 0), .v (.int .i64 0), .v (.bool false), .v (.int .i64 0), .v (.int .i64 0), .v (.bool false), .v (.int .i64 0), .v (.int .i64 0)] 67), (103, blk 103 [.v (.int .i64 q.1.count.n), .v (.int .i64 q.1.count.sum), .v (.int .i64 q.1.count.low), .v (.int .i64 q.1.weight.n), .v (.int .i64 q.1.weight.sum), .v (.int .i64 q.1.weight.low), .v (.int .i64 q.1.deletes), .v (.int .i64 q.1.free), .v (.int .i64 q.1.most.key), .v (.int .i64 q.1.most.id), .v (.bool q.1.gone.found), .v (.int .i64 q.1.gone.item.key), .v (.int .i64 q.1.gone.item.id), .v (.bool q.1.least.found), .v (.int .i64 q.1.least.item.key), .v (.int .i64 q.1.least.item.id)] 67)]) ⟨v1, (Option.some.inj H1).symm⟩ [(102, 108), (103, 109)] [_, _, _] rfl ⟨rfl, rfl, trivial⟩ ⟨rfl, (fun _ => rfl), rfl, (blk_ren rfl rfl), rfl, (blk_ren rfl rfl), trivial⟩ rfl
  ·
    rintro ⟨_, rfl⟩
    show G _ _ [(2, .a (.c (.p 102 0))), (3, .a (.c (.p 103 0)))] [(0, some (rd S W0)), (102, some (blk 102 [.v (.int .i64 0), .v (.int .i64 0), .v (.int .i64 0), .v (.int .i64 0), .v (.int .i64 0), .v (.int .i64 0), .v (.int .i64 0), .v (.int .i64 0), .v (.int .i64 0), .v (.int .i64 0), .v (.bool false), .v (.int .i64 0), .v (.int .i64 0), .v (.bool false), .v (.int .i64 0), .v (.int .i64 0)] 67)), (103, some (blk 103 [.v (.int .i64 x1.count.n), .v (.int .i64 x1.count.sum), .v (.int .i64 x1.count.low), .v (.int .i64 x1.weight.n), .v (.int .i64 x1.weight.sum), .v (.int .i64 x1.weight.low), .v (.int .i64 x1.deletes), .v (.int .i64 x1.free), .v (.int .i64 x1.most.key), .v (.int .i64 x1.most.id), .v (.bool x1.gone.found), .v (.int .i64 x1.gone.item.key), .v (.int .i64 x1.gone.item.id), .v (.bool x1.least.found), .v (.int .i64 x1.least.item.key), .v (.int .i64 x1.least.item.id)] 67))] _ _
    refine G.seq ?_
    refine G.rg ?_
    refine K.loadS Y [_, _, _, _, _, _, _, _, _, _, _, _, _, _, _, _] (gd0 rfl) rfl rfl t67 rfl rfl rfl ?_
    refine K.store Y [_, _, _, _, _, _, _, _, _, _, _, _, _, _, _, _] (gd0 rfl) rfl rfl rfl t67 rfl rfl rfl rfl rfl ?_
    refine K.nil ?_
    refine At.next ?_
    refine G.ret ?_
    refine At.done Y [(.cell 2 67, .agg [_, _, _, _, _, _, _, _, _, _, _, _, _, _, _, _])] rfl ⟨.st rfl rfl t67 rfl rfl, trivial⟩ (to' := [(0, _)]) ⟨rfl, trivial⟩ ?_ ?_ rfl rfl rfl (.inl rfl)
    · cases H0; rfl
    · cases H0; rfl
theorem Lw08_sums_con {k : Nat} {S : Foot} {W0 : World} {s0 : Value} {l0 : List TR08Mark} {r : TSwell} (hL0 : LArg S W0 s0 eTR08Mark 8 l0) (H0 : Lw08_sums.f k l0 = some r) : SCon Try.prog 39 [SV.raw s0] [(0, rd S W0)] (.a (.agg ((eTSwell r).map .v))) [(0, rd S W0)] [] :=
  SCon.ren (rn []) (Lw08_sums_con0 hL0 H0) ⟨(fun _ => rfl), trivial⟩ ⟨(fun _ => rfl), trivial⟩ (by simp) (by simp)
theorem Lw08_WaveSums_con0 {k : Nat} {S : Foot} {W0 : World} {s0 : Value} {l0 : List TR08Mark} {r : Bool} (hL0 : LArg S W0 s0 eTR08Mark 8 l0) (H0 : Lw08_WaveSums.f k l0 = some r) : SCon Try.prog 7 [SV.raw s0] [(0, rd S W0)] (.a (.c (.v (.bool r)))) [(0, rd S W0)] [] := by
  rw [Lw08_WaveSums.f] at H0
  obtain ⟨b0, o0, hI0⟩ := hL0
  refine spec_of [(0, _)] [(0, _)] 15 Try.func7 rfl Try.ntmps7 rfl rfl rfl rfl (fun β W F => ?_)
  refine G.seq ?_
  refine G.rg ?_
  refine K.move (.inr rfl) (gd0 rfl) rfl rfl ?_
  refine K.nil ?_
  refine At.next ?_
  refine G.seq ?_
  refine G.seq ?_
  obtain ⟨x1, hx1, H0⟩ := bnd H0
  rcases Bool.eq_false_or_eq_true (!x1) with h1 | h1
  ·
    replace H0 := bif_t H0 h1
    refine G.rg ?_
    refine K.callR [(.func 37, _)] (Lw08_awake_con hx1) (toFn_func (cf 37 rfl) rfl) (gd0 rfl) ⟨rfl, trivial⟩ trivial rfl rfl rfl ?_
    refine K.un (V := .bool (!x1)) (gd0 rfl) rfl (fun _ => rfl) rfl ?_
    refine K.move (.inl rfl) (gd0 rfl) rfl rfl ?_
    refine K.skip rfl rfl rfl rfl (h1) rfl ?_
    refine K.skip rfl rfl rfl rfl (h1) rfl ?_
    refine K.skip rfl rfl rfl rfl (h1) rfl ?_
    refine K.pickT (gd0 rfl) rfl (h1) rfl rfl ?_
    refine K.nil ?_
    refine At.next ?_
    refine G.cond rfl (fun h2 => ?_) (fun h2 => ?_)
    ·
      refine G.seq ?_
      obtain ⟨x2, hx2, H0⟩ := bnd H0
      refine G.rg ?_
      refine K.callR [(.func 37, _)] (Lw08_awake_con hx2) (toFn_func (cf 37 rfl) rfl) (gd0 rfl) ⟨rfl, trivial⟩ trivial rfl rfl rfl ?_
      refine K.move (.inr rfl) (gd0 rfl) rfl rfl ?_
      refine K.nil ?_
      refine At.next ?_
      refine G.ret ?_
      refine At.over_ret ?_
      refine At.done Y [(.tmp 2, .c _)] rfl ⟨.tmp rfl, trivial⟩ (to' := [(0, _)]) ⟨rfl, trivial⟩ ?_ ?_ rfl rfl rfl (.inl rfl)
      · cases H0; rfl
      · cases H0; rfl
    · cases h2
  ·
    replace H0 := bif_f H0 h1
    refine G.rg ?_
    refine K.callR [(.func 37, _)] (Lw08_awake_con hx1) (toFn_func (cf 37 rfl) rfl) (gd0 rfl) ⟨rfl, trivial⟩ trivial rfl rfl rfl ?_
    refine K.un (V := .bool (!x1)) (gd0 rfl) rfl (fun _ => rfl) rfl ?_
    refine K.move (.inl rfl) (gd0 rfl) rfl rfl ?_
    refine K.move (.inl rfl) (gd1 rfl rfl rfl (h1)) rfl rfl ?_
    refine K.lenL (rV 0 S W0 s0 b0 o0 eTR08Mark 8 l0) (hI0.is 0) (gd1 rfl rfl rfl (h1)) rfl rfl Try.underlying60 rfl ?_
    refine K.bin (V := .bool (decide ((l0.length : Int) > 60))) (gd1 rfl rfl rfl (h1)) rfl rfl (fun _ => rfl) rfl ?_
    refine K.pickF (gd0 rfl) rfl (h1) rfl rfl ?_
    refine K.nil ?_
    refine At.next ?_
    refine G.cond rfl (fun h3 => ?_) (fun h3 => ?_)
    ·
      replace H0 := bif_t H0 h3
      refine G.seq ?_
      obtain ⟨x3, hx3, H0⟩ := bnd H0
      refine G.rg ?_
      refine K.callR [(.func 37, _)] (Lw08_awake_con hx3) (toFn_func (cf 37 rfl) rfl) (gd0 rfl) ⟨rfl, trivial⟩ trivial rfl rfl rfl ?_
      refine K.move (.inr rfl) (gd0 rfl) rfl rfl ?_
      refine K.nil ?_
      refine At.next ?_
      refine G.ret ?_
      refine At.over_ret ?_
      refine At.done Y [(.tmp 2, .c _)] rfl ⟨.tmp rfl, trivial⟩ (to' := [(0, _)]) ⟨rfl, trivial⟩ ?_ ?_ rfl rfl rfl (.inl rfl)
      · cases H0; rfl
      · cases H0; rfl
    ·
      replace H0 := bif_f H0 h3
      refine G.skip ?_
      refine At.next ?_
      refine G.seq ?_
      obtain ⟨x4, hx4, H0⟩ := bnd H0
      obtain ⟨x5, hx5, H0⟩ := bnd H0
      refine G.rg ?_
      refine K.move (.inl rfl) (gd0 rfl) rfl rfl ?_
      refine K.callV [(.func 39, _), ((.tmp 11), _)] [(0, rd S W0)] [] [] (fun β => [SV.raw s0]) (fun β w S2 h => Lw08_sums_con ((hI0.isC 0).larg ⟨_, List.mem_cons_self⟩ h) hx4) (toFn_func (cf 39 rfl) rfl) (gd0 rfl) ⟨rfl, rfl, trivial⟩ (fun _ => rfl) ⟨rfl, trivial⟩ rfl rfl rfl rfl rfl rfl ?_
      refine K.move (.inl rfl) (gd0 rfl) rfl rfl ?_
      refine K.callV [(.func 38, _), ((.tmp 12), _), ((.tmp 13), _)] [(0, rd S W0)] [] [] (fun β => [.a (.agg ((eTSwell x4).map .v)), SV.raw s0]) (fun β w S2 h => Lw08_Comes_con ((hI0.isC 0).larg ⟨_, List.mem_cons_self⟩ h) hx5) (toFn_func (cf 38 rfl) rfl) (gd0 rfl) ⟨rfl, rfl, rfl, trivial⟩ (fun _ => rfl) ⟨rfl, trivial⟩ rfl rfl rfl rfl rfl rfl ?_
      refine K.move (.inr rfl) (gd0 rfl) rfl rfl ?_
      refine K.nil ?_
      refine At.next ?_
      refine G.ret ?_
      refine At.done Y [(.tmp 2, .c _)] rfl ⟨.tmp rfl, trivial⟩ (to' := [(0, _)]) ⟨rfl, trivial⟩ ?_ ?_ rfl rfl rfl (.inl rfl)
      · cases H0; rfl
      · cases H0; rfl
theorem Lw08_WaveSums_con {k : Nat} {S : Foot} {W0 : World} {s0 : Value} {l0 : List TR08Mark} {r : Bool} (hL0 : LArg S W0 s0 eTR08Mark 8 l0) (H0 : Lw08_WaveSums.f k l0 = some r) : SCon Try.prog 7 [SV.raw s0] [(0, rd S W0)] (.a (.c (.v (.bool r)))) [(0, rd S W0)] [] :=
  SCon.ren (rn []) (Lw08_WaveSums_con0 hL0 H0) ⟨(fun _ => rfl), trivial⟩ ⟨(fun _ => rfl), trivial⟩ (by simp) (by simp)
theorem Lw08_WaveParts_con0 {k : Nat} {S : Foot} {W0 : World} {s0 : Value} {l0 : List TR08Mark} {a1 : Int} {a2 : Int} {r : Bool} (hL0 : LArg S W0 s0 eTR08Mark 8 l0) (H0 : Lw08_WaveParts.f k l0 a1 a2 = some r) : SCon Try.prog 8 [SV.raw s0, .a (.c (.v (.int .i64 a1))), .a (.c (.v (.int .i64 a2)))] [(0, rd S W0)] (.a (.c (.v (.bool r)))) [(0, rd S W0)] [] := by
  rw [Lw08_WaveParts.f] at H0
  obtain ⟨b0, o0, hI0⟩ := hL0
  refine spec_of [(0, _), (1, _), (2, _)] [(0, _)] 69 Try.func8 rfl Try.ntmps8 rfl rfl rfl rfl (fun β W F => ?_)
  refine G.seq ?_
  refine G.rg ?_
  refine K.move (.inr rfl) (gd0 rfl) rfl rfl ?_
  refine K.nil ?_
  refine At.next ?_
  obtain ⟨x1, H1, H0⟩ := bnd H0
  refine G.seqJ (σ := { v : Unit // x1 = Sum.inr v }) (fun q => [(0, SV.raw s0), (1, .a (.c (.v (.int .i64 a1)))), (2, .a (.c (.v (.int .i64 a2))))]) (fun q => [(0, rd S W0)]) ?_ ?_
  ·
    refine G.seq ?_
    obtain ⟨x2, hx2, H1⟩ := bnd H1
    rcases Bool.eq_false_or_eq_true (!x2) with h1 | h1
    ·
      replace H1 := bif_t H1 h1
      refine G.rg ?_
      refine K.callR [(.func 37, _)] (Lw08_awake_con hx2) (toFn_func (cf 37 rfl) rfl) (gd0 rfl) ⟨rfl, trivial⟩ trivial rfl rfl rfl ?_
      refine K.un (V := .bool (!x2)) (gd0 rfl) rfl (fun _ => rfl) rfl ?_
      refine K.move (.inl rfl) (gd0 rfl) rfl rfl ?_
      refine K.skip rfl rfl rfl rfl (h1) rfl ?_
      refine K.skip rfl rfl rfl rfl (h1) rfl ?_
      refine K.skip rfl rfl rfl rfl (h1) rfl ?_
      refine K.pickT (gd0 rfl) rfl (h1) rfl rfl ?_
      refine K.nil ?_
      refine At.next ?_
      refine G.cond rfl (fun h2 => ?_) (fun h2 => ?_)
      ·
        refine G.seq ?_
        obtain ⟨x3, hx3, H1⟩ := bnd H1
        refine G.rg ?_
        refine K.callR [(.func 37, _)] (Lw08_awake_con hx3) (toFn_func (cf 37 rfl) rfl) (gd0 rfl) ⟨rfl, trivial⟩ trivial rfl rfl rfl ?_
        refine K.move (.inr rfl) (gd0 rfl) rfl rfl ?_
        refine K.nil ?_
        refine At.next ?_
        refine G.ret ?_
        refine At.over_ret ?_
        cases H1
        replace H0 := sum_l H0
        refine At.done Y [(.tmp 6, .c _)] rfl ⟨.tmp rfl, trivial⟩ (to' := [(0, _)]) ⟨rfl, trivial⟩ ?_ ?_ rfl rfl rfl (.inl rfl)
        · cases H0; rfl
        · cases H0; rfl
      · cases h2
    ·
      replace H1 := bif_f H1 h1
      refine G.rg ?_
      refine K.callR [(.func 37, _)] (Lw08_awake_con hx2) (toFn_func (cf 37 rfl) rfl) (gd0 rfl) ⟨rfl, trivial⟩ trivial rfl rfl rfl ?_
      refine K.un (V := .bool (!x2)) (gd0 rfl) rfl (fun _ => rfl) rfl ?_
      refine K.move (.inl rfl) (gd0 rfl) rfl rfl ?_
      refine K.move (.inl rfl) (gd1 rfl rfl rfl (h1)) rfl rfl ?_
      refine K.lenL (rV 0 S W0 s0 b0 o0 eTR08Mark 8 l0) (hI0.is 0) (gd1 rfl rfl rfl (h1)) rfl rfl Try.underlying60 rfl ?_
      refine K.bin (V := .bool (decide ((l0.length : Int) > 60))) (gd1 rfl rfl rfl (h1)) rfl rfl (fun _ => rfl) rfl ?_
      refine K.pickF (gd0 rfl) rfl (h1) rfl rfl ?_
      refine K.nil ?_
      refine At.next ?_
      refine G.cond rfl (fun h3 => ?_) (fun h3 => ?_)
      ·
        replace H1 := bif_t H1 h3
        refine G.seq ?_
        obtain ⟨x4, hx4, H1⟩ := bnd H1
        refine G.rg ?_
        refine K.callR [(.func 37, _)] (Lw08_awake_con hx4) (toFn_func (cf 37 rfl) rfl) (gd0 rfl) ⟨rfl, trivial⟩ trivial rfl rfl rfl ?_
        refine K.move (.inr rfl) (gd0 rfl) rfl rfl ?_
        refine K.nil ?_
        refine At.next ?_
        refine G.ret ?_
        refine At.over_ret ?_
        cases H1
        replace H0 := sum_l H0
        refine At.done Y [(.tmp 6, .c _)] rfl ⟨.tmp rfl, trivial⟩ (to' := [(0, _)]) ⟨rfl, trivial⟩ ?_ ?_ rfl rfl rfl (.inl rfl)
        · cases H0; rfl
        · cases H0; rfl
      ·
        replace H1 := bif_f H1 h3
        refine G.skip ?_
        exact At.joined (σ := { v : Unit // x1 = Sum.inr v }) (Fs := fun q => [(0, SV.raw s0), (1, .a (.c (.v (.int .i64 a1)))), (2, .a (.c (.v (.int .i64 a2))))]) (Tl := fun q => [(0, rd S W0)]) ⟨(), (Option.some.inj H1).symm⟩ [] [_] rfl ⟨rfl, rfl, rfl, trivial⟩ ⟨rfl, (fun _ => rfl), trivial⟩ rfl
  ·
    rintro ⟨v1, rfl⟩
    replace H0 := sum_r H0
    show G _ _ [(0, SV.raw s0), (1, .a (.c (.v (.int .i64 a1)))), (2, .a (.c (.v (.int .i64 a2))))] [(0, some (rd S W0))] _ _
    refine G.seq ?_
    obtain ⟨x5, hx5, H0⟩ := bnd H0
    obtain ⟨x6, hx6, H0⟩ := bnd H0
    refine G.rg ?_
    refine K.move (.inl rfl) (gd0 rfl) rfl rfl ?_
    refine K.move (.inl rfl) (gd0 rfl) rfl rfl ?_
    refine K.lenL (rV 0 S W0 s0 b0 o0 eTR08Mark 8 l0) (hI0.is 0) (gd0 rfl) rfl rfl Try.underlying60 rfl ?_
    refine K.bin (V := .int .i64 (w64 ((l0.length : Int) + 1))) (gd0 rfl) rfl rfl (fun _ => rfl) rfl ?_
    refine K.callR [(.func 19, _), ((.tmp 20), _), ((.tmp 23), _)] (R01_Rest_con hx5) (toFn_func (cf 19 rfl) rfl) (gd0 rfl) ⟨rfl, rfl, rfl, trivial⟩ trivial rfl rfl rfl ?_
    refine K.move (.inl rfl) (gd0 rfl) rfl rfl ?_
    refine K.move (.inl rfl) (gd0 rfl) rfl rfl ?_
    refine K.lenL (rV 0 S W0 s0 b0 o0 eTR08Mark 8 l0) (hI0.is 0) (gd0 rfl) rfl rfl Try.underlying60 rfl ?_
    refine K.bin (V := .int .i64 (w64 ((l0.length : Int) + 1))) (gd0 rfl) rfl rfl (fun _ => rfl) rfl ?_
    refine K.callR [(.func 19, _), ((.tmp 25), _), ((.tmp 28), _)] (R01_Rest_con hx6) (toFn_func (cf 19 rfl) rfl) (gd0 rfl) ⟨rfl, rfl, rfl, trivial⟩ trivial rfl rfl rfl ?_
    refine K.move (.inr rfl) (gd0 rfl) rfl rfl ?_
    refine K.move (.inr rfl) (gd0 rfl) rfl rfl ?_
    refine K.nil ?_
    refine At.next ?_
    refine G.seq ?_
    refine G.rg ?_
    refine K.move (.inl rfl) (gd0 rfl) rfl rfl ?_
    refine K.move (.inl rfl) (gd0 rfl) rfl rfl ?_
    refine K.bi2 (V := .int .i64 (gmin x5 x6)) (gd0 rfl) rfl rfl (fun _ _ => rfl) rfl ?_
    refine K.move (.inl rfl) (gd0 rfl) rfl rfl ?_
    refine K.move (.inl rfl) (gd0 rfl) rfl rfl ?_
    refine K.bi2 (V := .int .i64 (gmax x5 x6)) (gd0 rfl) rfl rfl (fun _ _ => rfl) rfl ?_
    refine K.move (.inr rfl) (gd0 rfl) rfl rfl ?_
    refine K.move (.inr rfl) (gd0 rfl) rfl rfl ?_
    refine K.nil ?_
    refine At.next ?_
    refine G.seq ?_
    obtain ⟨h4, H0⟩ := grd H0
    obtain ⟨x7, hx7, H0⟩ := bnd H0
    obtain ⟨h6, H0⟩ := grd H0
    obtain ⟨x8, hx8, H0⟩ := bnd H0
    obtain ⟨h8, H0⟩ := grd H0
    obtain ⟨x9, hx9, H0⟩ := bnd H0
    refine G.rd mixed ?_
    refine K.move (.inl rfl) (gd0 rfl) rfl rfl ?_
    refine K.move (.inl rfl) (gd0 rfl) rfl rfl ?_
    refine K.partR 0 (((gmin x5 x6)).toNat) hI0 (gd0 rfl) rfl .no (.at_ rfl h4.1 rfl) Try.underlying60 el60.size_run (Nat.zero_le _) (tn_len h4.2) rfl ?_
    refine K.callV [(.func 39, _), ((.tmp 38), _)] [(0, rd S W0)] [] [] (fun β => [SV.raw (partOf 0 (((gmin x5 x6)).toNat) 8 s0)]) (fun β w S2 h => Lw08_sums_con (((hI0.part (Nat.zero_le _) (tn_len h4.2)).isC 0).larg ⟨_, List.mem_cons_self⟩ h) hx7) (toFn_func (cf 39 rfl) rfl) (gd0 rfl) ⟨rfl, rfl, trivial⟩ (fun _ => rfl) ⟨rfl, trivial⟩ rfl rfl rfl rfl rfl rfl ?_
    refine K.move (.inl rfl) (gd0 rfl) rfl rfl ?_
    refine K.move (.inl rfl) (gd0 rfl) rfl rfl ?_
    refine K.move (.inl rfl) (gd0 rfl) rfl rfl ?_
    refine K.partR (((gmin x5 x6)).toNat) (((gmax x5 x6)).toNat) hI0 (gd0 rfl) rfl (.at_ rfl h6.1 rfl) (.at_ rfl (Int.le_trans h6.1 h6.2.1) rfl) Try.underlying60 el60.size_run (tn_le h6.2.1) (tn_len h6.2.2) rfl ?_
    refine K.callV [(.func 39, _), ((.tmp 43), _)] [(0, rd S W0)] [] [] (fun β => [SV.raw (partOf (((gmin x5 x6)).toNat) (((gmax x5 x6)).toNat) 8 s0)]) (fun β w S2 h => Lw08_sums_con (((hI0.part (tn_le h6.2.1) (tn_len h6.2.2)).isC 0).larg ⟨_, List.mem_cons_self⟩ h) hx8) (toFn_func (cf 39 rfl) rfl) (gd0 rfl) ⟨rfl, rfl, trivial⟩ (fun _ => rfl) ⟨rfl, trivial⟩ rfl rfl rfl rfl rfl rfl ?_
    refine K.move (.inl rfl) (gd0 rfl) rfl rfl ?_
    refine K.move (.inl rfl) (gd0 rfl) rfl rfl ?_
    refine K.partR (((gmax x5 x6)).toNat) l0.length hI0 (gd0 rfl) rfl (.at_ rfl h8.1 rfl) .no Try.underlying60 el60.size_run (tn_len h8.2) (Nat.le_refl _) rfl ?_
    refine K.callV [(.func 39, _), ((.tmp 47), _)] [(0, rd S W0)] [] [] (fun β => [SV.raw (partOf (((gmax x5 x6)).toNat) l0.length 8 s0)]) (fun β w S2 h => Lw08_sums_con (((hI0.part (tn_len h8.2) (Nat.le_refl _)).isC 0).larg ⟨_, List.mem_cons_self⟩ h) hx9) (toFn_func (cf 39 rfl) rfl) (gd0 rfl) ⟨rfl, rfl, trivial⟩ (fun _ => rfl) ⟨rfl, trivial⟩ rfl rfl rfl rfl rfl rfl ?_
    refine K.alloc Y 100 [_, _, _, _, _, _, _, _, _, _, _, _, _, _, _, _] (gd0 rfl) t67 rfl rfl rfl rfl rfl ?_
    refine K.alloc Y 101 [_, _, _, _, _, _, _, _, _, _, _, _, _, _, _, _] (gd0 rfl) t67 rfl rfl rfl rfl rfl ?_
    refine K.alloc Y 102 [_, _, _, _, _, _, _, _, _, _, _, _, _, _, _, _] (gd0 rfl) t67 rfl rfl rfl rfl rfl ?_
    refine K.store Y [_, _, _, _, _, _, _, _, _, _, _, _, _, _, _, _] (gd0 rfl) rfl rfl rfl t67 rfl rfl rfl rfl rfl ?_
    refine K.store Y [_, _, _, _, _, _, _, _, _, _, _, _, _, _, _, _] (gd0 rfl) rfl rfl rfl t67 rfl rfl rfl rfl rfl ?_
    refine K.store Y [_, _, _, _, _, _, _, _, _, _, _, _, _, _, _, _] (gd0 rfl) rfl rfl rfl t67 rfl rfl rfl rfl rfl ?_
    refine K.nil ?_
    refine ⟨by kernel_rfl, ?_⟩
    refine At.next ?_
    refine G.seq ?_
    obtain ⟨x10, hx10, H0⟩ := bnd H0
    obtain ⟨x11, hx11, H0⟩ := bnd H0
    obtain ⟨x12, hx12, H0⟩ := bnd H0
    obtain ⟨x13, hx13, H0⟩ := bnd H0
    rcases Bool.eq_false_or_eq_true ((x11.count.n == x13.count.n) && ((x11.count.sum == x13.count.sum) && ((x11.count.low == x13.count.low) && ((x11.weight.n == x13.weight.n) && ((x11.weight.sum == x13.weight.sum) && ((x11.weight.low == x13.weight.low) && ((x11.deletes == x13.deletes) && ((x11.free == x13.free) && ((x11.most.key == x13.most.key) && ((x11.most.id == x13.most.id) && ((x11.gone.found == x13.gone.found) && ((x11.gone.item.key == x13.gone.item.key) && ((x11.gone.item.id == x13.gone.item.id) && ((x11.least.found == x13.least.found) && ((x11.least.item.key == x13.least.item.key) && ((x11.least.item.id == x13.least.item.id) && true)))))))))))))))) with h10 | h10
    ·
      replace H0 := bif_t H0 h10
      obtain ⟨x14, hx14, H0⟩ := bnd H0
      obtain ⟨x15, hx15, H0⟩ := bnd H0
      obtain ⟨x16, hx16, H0⟩ := bnd H0
      refine G.rd mixed ?_
      refine K.loadS Y [_, _, _, _, _, _, _, _, _, _, _, _, _, _, _, _] (gd0 rfl) rfl rfl t67 rfl rfl rfl ?_
      refine K.loadS Y [_, _, _, _, _, _, _, _, _, _, _, _, _, _, _, _] (gd0 rfl) rfl rfl t67 rfl rfl rfl ?_
      refine K.callR [(.func 40, _), ((.tmp 49), _), ((.tmp 50), _)] (wave_Swell_Plus_con hx10) (toFn_func (cf 40 rfl) rfl) (gd0 rfl) ⟨rfl, rfl, rfl, trivial⟩ trivial rfl rfl rfl ?_
      refine K.loadS Y [_, _, _, _, _, _, _, _, _, _, _, _, _, _, _, _] (gd0 rfl) rfl rfl t67 rfl rfl rfl ?_
      refine K.callR [(.func 40, _), ((.tmp 51), _), ((.tmp 52), _)] (wave_Swell_Plus_con hx11) (toFn_func (cf 40 rfl) rfl) (gd0 rfl) ⟨rfl, rfl, rfl, trivial⟩ trivial rfl rfl rfl ?_
      refine K.loadS Y [_, _, _, _, _, _, _, _, _, _, _, _, _, _, _, _] (gd0 rfl) rfl rfl t67 rfl rfl rfl ?_
      refine K.loadS Y [_, _, _, _, _, _, _, _, _, _, _, _, _, _, _, _] (gd0 rfl) rfl rfl t67 rfl rfl rfl ?_
      refine K.loadS Y [_, _, _, _, _, _, _, _, _, _, _, _, _, _, _, _] (gd0 rfl) rfl rfl t67 rfl rfl rfl ?_
      refine K.callR [(.func 40, _), ((.tmp 55), _), ((.tmp 56), _)] (wave_Swell_Plus_con hx12) (toFn_func (cf 40 rfl) rfl) (gd0 rfl) ⟨rfl, rfl, rfl, trivial⟩ trivial rfl rfl rfl ?_
      refine K.callR [(.func 40, _), ((.tmp 54), _), ((.tmp 57), _)] (wave_Swell_Plus_con hx13) (toFn_func (cf 40 rfl) rfl) (gd0 rfl) ⟨rfl, rfl, rfl, trivial⟩ trivial rfl rfl rfl ?_
      refine K.eqS [_, _, _, _, _, _, _, _, _, _, _, _, _, _, _, _] [_, _, _, _, _, _, _, _, _, _, _, _, _, _, _, _] (gd0 rfl) rfl rfl cmp67 rfl (.inl rfl) ((x11.count.n == x13.count.n) && ((x11.count.sum == x13.count.sum) && ((x11.count.low == x13.count.low) && ((x11.weight.n == x13.weight.n) && ((x11.weight.sum == x13.weight.sum) && ((x11.weight.low == x13.weight.low) && ((x11.deletes == x13.deletes) && ((x11.free == x13.free) && ((x11.most.key == x13.most.key) && ((x11.most.id == x13.most.id) && ((x11.gone.found == x13.gone.found) && ((x11.gone.item.key == x13.gone.item.key) && ((x11.gone.item.id == x13.gone.item.id) && ((x11.least.found == x13.least.found) && ((x11.least.item.key == x13.least.item.key) && ((x11.least.item.id == x13.least.item.id) && true)))))))))))))))) rfl rfl ?_
      refine K.move (.inl rfl) (gd0 rfl) rfl rfl ?_
      refine K.loadS Y [_, _, _, _, _, _, _, _, _, _, _, _, _, _, _, _] (gd1 rfl rfl rfl (h10)) rfl rfl t67 rfl rfl rfl ?_
      refine K.loadS Y [_, _, _, _, _, _, _, _, _, _, _, _, _, _, _, _] (gd1 rfl rfl rfl (h10)) rfl rfl t67 rfl rfl rfl ?_
      refine K.loadS Y [_, _, _, _, _, _, _, _, _, _, _, _, _, _, _, _] (gd1 rfl rfl rfl (h10)) rfl rfl t67 rfl rfl rfl ?_
      refine K.callR [(.func 40, _), ((.tmp 62), _), ((.tmp 63), _)] (wave_Swell_Plus_con hx14) (toFn_func (cf 40 rfl) rfl) (gd1 rfl rfl rfl (h10)) ⟨rfl, rfl, rfl, trivial⟩ trivial rfl rfl rfl ?_
      refine K.callR [(.func 40, _), ((.tmp 61), _), ((.tmp 64), _)] (wave_Swell_Plus_con hx15) (toFn_func (cf 40 rfl) rfl) (gd1 rfl rfl rfl (h10)) ⟨rfl, rfl, rfl, trivial⟩ trivial rfl rfl rfl ?_
      refine K.move (.inl rfl) (gd1 rfl rfl rfl (h10)) rfl rfl ?_
      refine K.callV [(.func 38, _), ((.tmp 65), _), ((.tmp 66), _)] [(0, rd S W0)] [] [] (fun β => [.a (.agg ((eTSwell x15).map .v)), SV.raw s0]) (fun β w S2 h => Lw08_Comes_con ((hI0.isC 0).larg ⟨_, List.mem_cons_self⟩ h) hx16) (toFn_func (cf 38 rfl) rfl) (gd1 rfl rfl rfl (h10)) ⟨rfl, rfl, rfl, trivial⟩ (fun _ => rfl) ⟨rfl, trivial⟩ rfl rfl rfl rfl rfl rfl ?_
      refine K.pickT (gd0 rfl) rfl (h10) rfl rfl ?_
      refine K.move (.inr rfl) (gd0 rfl) rfl rfl ?_
      refine K.nil ?_
      refine ⟨by kernel_rfl, ?_⟩
      refine At.next ?_
      refine G.ret ?_
      refine At.done Y [(.tmp 6, .c _)] rfl ⟨.tmp rfl, trivial⟩ (to' := [(0, _)]) ⟨rfl, trivial⟩ ?_ ?_ rfl rfl rfl (.inl rfl)
      · cases H0; rfl
      · cases H0; rfl
    ·
      replace H0 := bif_f H0 h10
      refine G.rd mixed ?_
      refine K.loadS Y [_, _, _, _, _, _, _, _, _, _, _, _, _, _, _, _] (gd0 rfl) rfl rfl t67 rfl rfl rfl ?_
      refine K.loadS Y [_, _, _, _, _, _, _, _, _, _, _, _, _, _, _, _] (gd0 rfl) rfl rfl t67 rfl rfl rfl ?_
      refine K.callR [(.func 40, _), ((.tmp 49), _), ((.tmp 50), _)] (wave_Swell_Plus_con hx10) (toFn_func (cf 40 rfl) rfl) (gd0 rfl) ⟨rfl, rfl, rfl, trivial⟩ trivial rfl rfl rfl ?_
      refine K.loadS Y [_, _, _, _, _, _, _, _, _, _, _, _, _, _, _, _] (gd0 rfl) rfl rfl t67 rfl rfl rfl ?_
      refine K.callR [(.func 40, _), ((.tmp 51), _), ((.tmp 52), _)] (wave_Swell_Plus_con hx11) (toFn_func (cf 40 rfl) rfl) (gd0 rfl) ⟨rfl, rfl, rfl, trivial⟩ trivial rfl rfl rfl ?_
      refine K.loadS Y [_, _, _, _, _, _, _, _, _, _, _, _, _, _, _, _] (gd0 rfl) rfl rfl t67 rfl rfl rfl ?_
      refine K.loadS Y [_, _, _, _, _, _, _, _, _, _, _, _, _, _, _, _] (gd0 rfl) rfl rfl t67 rfl rfl rfl ?_
      refine K.loadS Y [_, _, _, _, _, _, _, _, _, _, _, _, _, _, _, _] (gd0 rfl) rfl rfl t67 rfl rfl rfl ?_
      refine K.callR [(.func 40, _), ((.tmp 55), _), ((.tmp 56), _)] (wave_Swell_Plus_con hx12) (toFn_func (cf 40 rfl) rfl) (gd0 rfl) ⟨rfl, rfl, rfl, trivial⟩ trivial rfl rfl rfl ?_
      refine K.callR [(.func 40, _), ((.tmp 54), _), ((.tmp 57), _)] (wave_Swell_Plus_con hx13) (toFn_func (cf 40 rfl) rfl) (gd0 rfl) ⟨rfl, rfl, rfl, trivial⟩ trivial rfl rfl rfl ?_
      refine K.eqS [_, _, _, _, _, _, _, _, _, _, _, _, _, _, _, _] [_, _, _, _, _, _, _, _, _, _, _, _, _, _, _, _] (gd0 rfl) rfl rfl cmp67 rfl (.inl rfl) ((x11.count.n == x13.count.n) && ((x11.count.sum == x13.count.sum) && ((x11.count.low == x13.count.low) && ((x11.weight.n == x13.weight.n) && ((x11.weight.sum == x13.weight.sum) && ((x11.weight.low == x13.weight.low) && ((x11.deletes == x13.deletes) && ((x11.free == x13.free) && ((x11.most.key == x13.most.key) && ((x11.most.id == x13.most.id) && ((x11.gone.found == x13.gone.found) && ((x11.gone.item.key == x13.gone.item.key) && ((x11.gone.item.id == x13.gone.item.id) && ((x11.least.found == x13.least.found) && ((x11.least.item.key == x13.least.item.key) && ((x11.least.item.id == x13.least.item.id) && true)))))))))))))))) rfl rfl ?_
      refine K.move (.inl rfl) (gd0 rfl) rfl rfl ?_
      refine K.skip rfl rfl rfl rfl (h10) rfl ?_
      refine K.skip rfl rfl rfl rfl (h10) rfl ?_
      refine K.skip rfl rfl rfl rfl (h10) rfl ?_
      refine K.skip rfl rfl rfl rfl (h10) rfl ?_
      refine K.skip rfl rfl rfl rfl (h10) rfl ?_
      refine K.skip rfl rfl rfl rfl (h10) rfl ?_
      refine K.skip rfl rfl rfl rfl (h10) rfl ?_
      refine K.pickF (gd0 rfl) rfl (h10) rfl rfl ?_
      refine K.move (.inr rfl) (gd0 rfl) rfl rfl ?_
      refine K.nil ?_
      refine ⟨by kernel_rfl, ?_⟩
      refine At.next ?_
      refine G.ret ?_
      refine At.done Y [(.tmp 6, .c _)] rfl ⟨.tmp rfl, trivial⟩ (to' := [(0, _)]) ⟨rfl, trivial⟩ ?_ ?_ rfl rfl rfl (.inl rfl)
      · cases H0; rfl
      · cases H0; rfl
theorem Lw08_WaveParts_con {k : Nat} {S : Foot} {W0 : World} {s0 : Value} {l0 : List TR08Mark} {a1 : Int} {a2 : Int} {r : Bool} (hL0 : LArg S W0 s0 eTR08Mark 8 l0) (H0 : Lw08_WaveParts.f k l0 a1 a2 = some r) : SCon Try.prog 8 [SV.raw s0, .a (.c (.v (.int .i64 a1))), .a (.c (.v (.int .i64 a2)))] [(0, rd S W0)] (.a (.c (.v (.bool r)))) [(0, rd S W0)] [] :=
  SCon.ren (rn []) (Lw08_WaveParts_con0 hL0 H0) ⟨(fun _ => rfl), trivial⟩ ⟨(fun _ => rfl), trivial⟩ (by simp) (by simp)
theorem Lw08_WaveAbove_con0 {k : Nat} {S : Foot} {W0 : World} {s0 : Value} {l0 : List TR08Mark} {a1 : TItem} {r : Bool} (hL0 : LArg S W0 s0 eTR08Mark 8 l0) (H0 : Lw08_WaveAbove.f k l0 a1 = some r) : SCon Try.prog 9 [SV.raw s0, .a (.agg ((eTItem a1).map .v))] [(0, rd S W0)] (.a (.c (.v (.bool r)))) [(0, rd S W0)] [] := by
  rw [Lw08_WaveAbove.f] at H0
  obtain ⟨b0, o0, hI0⟩ := hL0
  refine spec_of [(0, _), (1, _)] [(0, _)] 56 Try.func9 rfl Try.ntmps9 rfl rfl rfl rfl (fun β W F => ?_)
  refine G.seq ?_
  refine G.rg ?_
  refine K.box Y 100 [_, _] (gd0 rfl) rfl rfl rfl rfl rfl rfl ?_
  refine K.move (.inr rfl) (gd0 rfl) rfl rfl ?_
  refine K.nil ?_
  refine At.next ?_
  obtain ⟨x1, H1, H0⟩ := bnd H0
  refine G.seqJ (σ := { v : Unit // x1 = Sum.inr v }) (fun q => [(0, SV.raw s0), (3, .a (.c (.p 101 0)))]) (fun q => [(0, rd S W0), (101, blk 101 [.v (.int .i64 a1.key), .v (.int .i64 a1.id)] 37)]) ?_ ?_
  ·
    refine G.seq ?_
    obtain ⟨x2, hx2, H1⟩ := bnd H1
    rcases Bool.eq_false_or_eq_true (!x2) with h1 | h1
    ·
      replace H1 := bif_t H1 h1
      refine G.rg ?_
      refine K.callR [(.func 37, _)] (Lw08_awake_con hx2) (toFn_func (cf 37 rfl) rfl) (gd0 rfl) ⟨rfl, trivial⟩ trivial rfl rfl rfl ?_
      refine K.un (V := .bool (!x2)) (gd0 rfl) rfl (fun _ => rfl) rfl ?_
      refine K.move (.inl rfl) (gd0 rfl) rfl rfl ?_
      refine K.skip rfl rfl rfl rfl (h1) rfl ?_
      refine K.skip rfl rfl rfl rfl (h1) rfl ?_
      refine K.skip rfl rfl rfl rfl (h1) rfl ?_
      refine K.pickT (gd0 rfl) rfl (h1) rfl rfl ?_
      refine K.nil ?_
      refine At.next ?_
      refine G.cond rfl (fun h2 => ?_) (fun h2 => ?_)
      ·
        refine G.seq ?_
        obtain ⟨x3, hx3, H1⟩ := bnd H1
        refine G.rg ?_
        refine K.callR [(.func 37, _)] (Lw08_awake_con hx3) (toFn_func (cf 37 rfl) rfl) (gd0 rfl) ⟨rfl, trivial⟩ trivial rfl rfl rfl ?_
        refine K.move (.inr rfl) (gd0 rfl) rfl rfl ?_
        refine K.nil ?_
        refine At.next ?_
        refine G.ret ?_
        refine At.over_ret ?_
        cases H1
        replace H0 := sum_l H0
        refine At.done Y [(.tmp 4, .c _)] rfl ⟨.tmp rfl, trivial⟩ (to' := [(0, _)]) ⟨rfl, trivial⟩ ?_ ?_ rfl rfl rfl (.inl rfl)
        · cases H0; rfl
        · cases H0; rfl
      · cases h2
    ·
      replace H1 := bif_f H1 h1
      refine G.rg ?_
      refine K.callR [(.func 37, _)] (Lw08_awake_con hx2) (toFn_func (cf 37 rfl) rfl) (gd0 rfl) ⟨rfl, trivial⟩ trivial rfl rfl rfl ?_
      refine K.un (V := .bool (!x2)) (gd0 rfl) rfl (fun _ => rfl) rfl ?_
      refine K.move (.inl rfl) (gd0 rfl) rfl rfl ?_
      refine K.move (.inl rfl) (gd1 rfl rfl rfl (h1)) rfl rfl ?_
      refine K.lenL (rV 0 S W0 s0 b0 o0 eTR08Mark 8 l0) (hI0.is 0) (gd1 rfl rfl rfl (h1)) rfl rfl Try.underlying60 rfl ?_
      refine K.bin (V := .bool (decide ((l0.length : Int) > 60))) (gd1 rfl rfl rfl (h1)) rfl rfl (fun _ => rfl) rfl ?_
      refine K.pickF (gd0 rfl) rfl (h1) rfl rfl ?_
      refine K.nil ?_
      refine At.next ?_
      refine G.cond rfl (fun h3 => ?_) (fun h3 => ?_)
      ·
        replace H1 := bif_t H1 h3
        refine G.seq ?_
        obtain ⟨x4, hx4, H1⟩ := bnd H1
        refine G.rg ?_
        refine K.callR [(.func 37, _)] (Lw08_awake_con hx4) (toFn_func (cf 37 rfl) rfl) (gd0 rfl) ⟨rfl, trivial⟩ trivial rfl rfl rfl ?_
        refine K.move (.inr rfl) (gd0 rfl) rfl rfl ?_
        refine K.nil ?_
        refine At.next ?_
        refine G.ret ?_
        refine At.over_ret ?_
        cases H1
        replace H0 := sum_l H0
        refine At.done Y [(.tmp 4, .c _)] rfl ⟨.tmp rfl, trivial⟩ (to' := [(0, _)]) ⟨rfl, trivial⟩ ?_ ?_ rfl rfl rfl (.inl rfl)
        · cases H0; rfl
        · cases H0; rfl
      ·
        replace H1 := bif_f H1 h3
        refine G.skip ?_
        exact At.joined (σ := { v : Unit // x1 = Sum.inr v }) (Fs := fun q => [(0, SV.raw s0), (3, .a (.c (.p 101 0)))]) (Tl := fun q => [(0, rd S W0), (101, blk 101 [.v (.int .i64 a1.key), .v (.int .i64 a1.id)] 37)]) ⟨(), (Option.some.inj H1).symm⟩ [(101, 100)] [_, _] rfl ⟨rfl, rfl, trivial⟩ ⟨rfl, (fun _ => rfl), rfl, (blk_ren rfl rfl), trivial⟩ rfl
  ·
    rintro ⟨v1, rfl⟩
    replace H0 := sum_r H0
    show G _ _ [(0, SV.raw s0), (3, .a (.c (.p 101 0)))] [(0, some (rd S W0)), (101, some (blk 101 [.v (.int .i64 a1.key), .v (.int .i64 a1.id)] 37))] _ _
    refine G.seq ?_
    refine G.rg ?_
    refine K.move (.inr rfl) (gd0 rfl) rfl rfl ?_
    refine K.nil ?_
    refine At.next ?_
    obtain ⟨x5, H1, H0⟩ := bnd H0
    refine G.seqJ (σ := { v : Bool // x5 = v }) (fun q => [(0, SV.raw s0), (3, .a (.c (.p 102 0))), (5, .a (.c (.v (.bool q.1))))]) (fun q => [(0, rd S W0), (102, blk 102 [.v (.int .i64 a1.key), .v (.int .i64 a1.id)] 37)]) ?_ ?_
    ·
      refine G.seq ?_
      refine G.rg ?_
      refine K.move (.inr rfl) (gd0 rfl) rfl rfl ?_
      refine K.nil ?_
      refine At.next ?_
      refine G.block ?_
      refine G.loop (σ := { q : Nat × (Bool × Int) // Lw08_WaveAbove.l0 k l0 a1 q.1 q.2 = some x5 }) (fun q => [(0, SV.raw s0), (3, .a (.c (.p 105 0))), (5, .a (.c (.v (.bool q.1.2.1)))), (6, .a (.c (.v (.int .i64 q.1.2.2))))]) (fun q => [(0, rd S W0), (105, blk 105 [.v (.int .i64 a1.key), .v (.int .i64 a1.id)] 37)]) (fun q => q.1.1) ⟨(k, (false, 0)), H1⟩ ?_ ?_
      · exact At.into [(105, 101)] [_, _] rfl ⟨rfl, rfl, rfl, rfl, trivial⟩ ⟨rfl, (fun _ => rfl), rfl, (blk_ren rfl rfl), trivial⟩ rfl
      ·
        rintro ⟨⟨n0, v1, v2⟩, H1⟩
        show G _ _ [(0, SV.raw s0), (3, .a (.c (.p 105 0))), (5, .a (.c (.v (.bool v1)))), (6, .a (.c (.v (.int .i64 v2))))] [(0, some (rd S W0)), (105, some (blk 105 [.v (.int .i64 a1.key), .v (.int .i64 a1.id)] 37))] _ _
        cases n0 with
        | zero => exact absurd H1 (by simp [Lw08_WaveAbove.l0])
        | succ n0 =>
          have HL0 := H1
          rw [Lw08_WaveAbove.l0] at H1
          refine G.seq ?_
          refine G.seq ?_
          refine G.rg ?_
          refine K.move (.inl rfl) (gd0 rfl) rfl rfl ?_
          refine K.move (.inl rfl) (gd0 rfl) rfl rfl ?_
          refine K.lenL (rV 0 S W0 s0 b0 o0 eTR08Mark 8 l0) (hI0.is 0) (gd0 rfl) rfl rfl Try.underlying60 rfl ?_
          refine K.bin (V := .bool (decide (v2 < (l0.length : Int)))) (gd0 rfl) rfl rfl (fun _ => rfl) rfl ?_
          refine K.nil ?_
          refine At.next ?_
          refine G.cond rfl (fun h4 => ?_) (fun h4 => ?_)
          ·
            replace H1 := bif_t H1 h4
            refine G.skip ?_
            refine At.next ?_
            refine G.seq ?_
            refine G.block ?_
            rcases Bool.eq_false_or_eq_true v1 with h5 | h5
            ·
              replace H1 := bif_t H1 h5
              refine G.rd mixed ?_
              refine K.move (.inl rfl) (gd0 rfl) rfl rfl ?_
              refine K.move (.inl rfl) (gd0 rfl) rfl rfl ?_
              refine K.skip rfl rfl rfl rfl (h5) rfl ?_
              refine K.skip rfl rfl rfl rfl (h5) rfl ?_
              refine K.skip rfl rfl rfl rfl (h5) rfl ?_
              refine K.skip rfl rfl rfl rfl (h5) rfl ?_
              refine K.skip rfl rfl rfl rfl (h5) rfl ?_
              refine K.skip rfl rfl rfl rfl (h5) rfl ?_
              refine K.skip rfl rfl rfl rfl (h5) rfl ?_
              refine K.skip rfl rfl rfl rfl (h5) rfl ?_
              refine K.skipU rfl rfl rfl rfl rfl ?_
              refine K.skipU rfl rfl rfl rfl rfl ?_
              refine K.skipU rfl rfl rfl rfl rfl ?_
              refine K.skipU rfl rfl rfl rfl rfl ?_
              refine K.skipU rfl rfl rfl rfl rfl ?_
              refine K.skipU rfl rfl rfl rfl rfl ?_
              refine K.skipU rfl rfl rfl rfl rfl ?_
              refine K.skipU rfl rfl rfl rfl rfl ?_
              refine K.skipU rfl rfl rfl rfl rfl ?_
              refine K.skipU rfl rfl rfl rfl rfl ?_
              refine K.skipU rfl rfl rfl rfl rfl ?_
              refine K.skipU rfl rfl rfl rfl rfl ?_
              refine K.skipU rfl rfl rfl rfl rfl ?_
              refine K.skipU rfl rfl rfl rfl rfl ?_
              refine K.skipU rfl rfl rfl rfl rfl ?_
              refine K.skipU rfl rfl rfl rfl rfl ?_
              refine K.skipU rfl rfl rfl rfl rfl ?_
              refine K.skip rfl rfl rfl rfl (h5) rfl ?_
              refine K.pickT (gd0 rfl) rfl (h5) rfl rfl ?_
              refine K.move (.inr rfl) (gd0 rfl) rfl rfl ?_
              refine K.nil ?_
              refine ⟨by kernel_rfl, ?_⟩
              refine At.block_normal ?_
              refine At.next ?_
              refine G.rg ?_
              refine K.move (.inl rfl) (gd0 rfl) rfl rfl ?_
              refine K.bin (V := .int .i64 (w64 (v2 + 1))) (gd0 rfl) rfl rfl (fun _ => rfl) rfl ?_
              refine K.move (.inr rfl) (gd0 rfl) rfl rfl ?_
              refine K.nil ?_
              exact At.again (σ := { q : Nat × (Bool × Int) // Lw08_WaveAbove.l0 k l0 a1 q.1 q.2 = some x5 }) (Fs := fun q => [(0, SV.raw s0), (3, .a (.c (.p 105 0))), (5, .a (.c (.v (.bool q.1.2.1)))), (6, .a (.c (.v (.int .i64 q.1.2.2))))]) (Tl := fun q => [(0, rd S W0), (105, blk 105 [.v (.int .i64 a1.key), .v (.int .i64 a1.id)] 37)]) (μ := fun q => q.1.1) (s := ⟨(n0 + 1, (v1, v2)), HL0⟩) ⟨(n0, (true, (w64 (v2 + 1)))), H1⟩ [] [_, _] (Nat.lt_succ_self _) rfl ⟨rfl, rfl, rfl, rfl, trivial⟩ ⟨rfl, (fun _ => rfl), rfl, (blk_ren rfl rfl), trivial⟩ rfl
            ·
              replace H1 := bif_f H1 h5
              obtain ⟨x6, hx6, H1⟩ := bnd H1
              rcases Bool.eq_false_or_eq_true (!x6.op.insert) with h6 | h6
              ·
                replace H1 := bif_t H1 h6
                rcases Bool.eq_false_or_eq_true (!x6.took.found) with h7 | h7
                ·
                  replace H1 := bif_t H1 h7
                  refine G.rd mixed ?_
                  refine K.move (.inl rfl) (gd0 rfl) rfl rfl ?_
                  refine K.move (.inl rfl) (gd0 rfl) rfl rfl ?_
                  refine K.move (.inl rfl) (gd1 rfl rfl rfl (h5)) rfl rfl ?_
                  refine K.move (.inl rfl) (gd1 rfl rfl rfl (h5)) rfl rfl ?_
                  refine K.idxL (rV 0 S W0 s0 b0 o0 eTR08Mark 8 l0) ((v2).toNat) (hI0.is 0) (atL_get hx6) (atL_nn hx6) (gd1 rfl rfl rfl (h5)) rfl rfl rfl Try.underlying60 el60.size_run rfl ?_
                  refine K.fieldL Y (rV 0 S W0 s0 b0 o0 eTR08Mark 8 l0) ((v2).toNat) 0 0 (hI0.is 0) (atL_get hx6) (gd1 rfl rfl rfl (h5)) rfl rfl t75 rfl rfl rfl rfl ?_
                  refine K.fieldL Y (rV 0 S W0 s0 b0 o0 eTR08Mark 8 l0) ((v2).toNat) 0 1 (hI0.is 0) (atL_get hx6) (gd1 rfl rfl rfl (h5)) rfl rfl t73 rfl rfl rfl rfl ?_
                  refine K.load1L Y (rV 0 S W0 s0 b0 o0 eTR08Mark 8 l0) ((v2).toNat) 1 (hI0.is 0) (atL_get hx6) (gd1 rfl rfl rfl (h5)) rfl rfl t4 rfl rfl ?_
                  refine K.un (V := .bool (!x6.op.insert)) (gd1 rfl rfl rfl (h5)) rfl (fun _ => rfl) rfl ?_
                  refine K.move (.inl rfl) (gd1 rfl rfl rfl (h5)) rfl rfl ?_
                  refine K.move (.inl rfl) (gd1 rfl rfl rfl (h6)) rfl rfl ?_
                  refine K.move (.inl rfl) (gd1 rfl rfl rfl (h6)) rfl rfl ?_
                  refine K.idxL (rV 0 S W0 s0 b0 o0 eTR08Mark 8 l0) ((v2).toNat) (hI0.is 0) (atL_get hx6) (atL_nn hx6) (gd1 rfl rfl rfl (h6)) rfl rfl rfl Try.underlying60 el60.size_run rfl ?_
                  refine K.fieldL Y (rV 0 S W0 s0 b0 o0 eTR08Mark 8 l0) ((v2).toNat) 0 5 (hI0.is 0) (atL_get hx6) (gd1 rfl rfl rfl (h6)) rfl rfl t75 rfl rfl rfl rfl ?_
                  refine K.fieldL Y (rV 0 S W0 s0 b0 o0 eTR08Mark 8 l0) ((v2).toNat) 5 5 (hI0.is 0) (atL_get hx6) (gd1 rfl rfl rfl (h6)) rfl rfl t65 rfl rfl rfl rfl ?_
                  refine K.load1L Y (rV 0 S W0 s0 b0 o0 eTR08Mark 8 l0) ((v2).toNat) 5 (hI0.is 0) (atL_get hx6) (gd1 rfl rfl rfl (h6)) rfl rfl t4 rfl rfl ?_
                  refine K.un (V := .bool (!x6.took.found)) (gd1 rfl rfl rfl (h6)) rfl (fun _ => rfl) rfl ?_
                  refine K.move (.inl rfl) (gd1 rfl rfl rfl (h6)) rfl rfl ?_
                  refine K.skip rfl rfl rfl rfl (h7) rfl ?_
                  refine K.skip rfl rfl rfl rfl (h7) rfl ?_
                  refine K.skip rfl rfl rfl rfl (h7) rfl ?_
                  refine K.skip rfl rfl rfl rfl (h7) rfl ?_
                  refine K.skip rfl rfl rfl rfl (h7) rfl ?_
                  refine K.skip rfl rfl rfl rfl (h7) rfl ?_
                  refine K.skip rfl rfl rfl rfl (h7) rfl ?_
                  refine K.skip rfl rfl rfl rfl (h7) rfl ?_
                  refine K.pickT (gd1 rfl rfl rfl (h6)) rfl (h7) rfl rfl ?_
                  refine K.pickT (gd1 rfl rfl rfl (h5)) rfl (h6) rfl rfl ?_
                  refine K.pickF (gd0 rfl) rfl (h5) rfl rfl ?_
                  refine K.move (.inr rfl) (gd0 rfl) rfl rfl ?_
                  refine K.nil ?_
                  refine ⟨by kernel_rfl, ?_⟩
                  refine At.block_normal ?_
                  refine At.next ?_
                  refine G.rg ?_
                  refine K.move (.inl rfl) (gd0 rfl) rfl rfl ?_
                  refine K.bin (V := .int .i64 (w64 (v2 + 1))) (gd0 rfl) rfl rfl (fun _ => rfl) rfl ?_
                  refine K.move (.inr rfl) (gd0 rfl) rfl rfl ?_
                  refine K.nil ?_
                  exact At.again (σ := { q : Nat × (Bool × Int) // Lw08_WaveAbove.l0 k l0 a1 q.1 q.2 = some x5 }) (Fs := fun q => [(0, SV.raw s0), (3, .a (.c (.p 105 0))), (5, .a (.c (.v (.bool q.1.2.1)))), (6, .a (.c (.v (.int .i64 q.1.2.2))))]) (Tl := fun q => [(0, rd S W0), (105, blk 105 [.v (.int .i64 a1.key), .v (.int .i64 a1.id)] 37)]) (μ := fun q => q.1.1) (s := ⟨(n0 + 1, (v1, v2)), HL0⟩) ⟨(n0, (true, (w64 (v2 + 1)))), H1⟩ [] [_, _] (Nat.lt_succ_self _) rfl ⟨rfl, rfl, rfl, rfl, trivial⟩ ⟨rfl, (fun _ => rfl), rfl, (blk_ren rfl rfl), trivial⟩ rfl
                ·
                  replace H1 := bif_f H1 h7
                  obtain ⟨x7, hx7, H1⟩ := bnd H1
                  refine G.rd mixed ?_
                  refine K.move (.inl rfl) (gd0 rfl) rfl rfl ?_
                  refine K.move (.inl rfl) (gd0 rfl) rfl rfl ?_
                  refine K.move (.inl rfl) (gd1 rfl rfl rfl (h5)) rfl rfl ?_
                  refine K.move (.inl rfl) (gd1 rfl rfl rfl (h5)) rfl rfl ?_
                  refine K.idxL (rV 0 S W0 s0 b0 o0 eTR08Mark 8 l0) ((v2).toNat) (hI0.is 0) (atL_get hx6) (atL_nn hx6) (gd1 rfl rfl rfl (h5)) rfl rfl rfl Try.underlying60 el60.size_run rfl ?_
                  refine K.fieldL Y (rV 0 S W0 s0 b0 o0 eTR08Mark 8 l0) ((v2).toNat) 0 0 (hI0.is 0) (atL_get hx6) (gd1 rfl rfl rfl (h5)) rfl rfl t75 rfl rfl rfl rfl ?_
                  refine K.fieldL Y (rV 0 S W0 s0 b0 o0 eTR08Mark 8 l0) ((v2).toNat) 0 1 (hI0.is 0) (atL_get hx6) (gd1 rfl rfl rfl (h5)) rfl rfl t73 rfl rfl rfl rfl ?_
                  refine K.load1L Y (rV 0 S W0 s0 b0 o0 eTR08Mark 8 l0) ((v2).toNat) 1 (hI0.is 0) (atL_get hx6) (gd1 rfl rfl rfl (h5)) rfl rfl t4 rfl rfl ?_
                  refine K.un (V := .bool (!x6.op.insert)) (gd1 rfl rfl rfl (h5)) rfl (fun _ => rfl) rfl ?_
                  refine K.move (.inl rfl) (gd1 rfl rfl rfl (h5)) rfl rfl ?_
                  refine K.move (.inl rfl) (gd1 rfl rfl rfl (h6)) rfl rfl ?_
                  refine K.move (.inl rfl) (gd1 rfl rfl rfl (h6)) rfl rfl ?_
                  refine K.idxL (rV 0 S W0 s0 b0 o0 eTR08Mark 8 l0) ((v2).toNat) (hI0.is 0) (atL_get hx6) (atL_nn hx6) (gd1 rfl rfl rfl (h6)) rfl rfl rfl Try.underlying60 el60.size_run rfl ?_
                  refine K.fieldL Y (rV 0 S W0 s0 b0 o0 eTR08Mark 8 l0) ((v2).toNat) 0 5 (hI0.is 0) (atL_get hx6) (gd1 rfl rfl rfl (h6)) rfl rfl t75 rfl rfl rfl rfl ?_
                  refine K.fieldL Y (rV 0 S W0 s0 b0 o0 eTR08Mark 8 l0) ((v2).toNat) 5 5 (hI0.is 0) (atL_get hx6) (gd1 rfl rfl rfl (h6)) rfl rfl t65 rfl rfl rfl rfl ?_
                  refine K.load1L Y (rV 0 S W0 s0 b0 o0 eTR08Mark 8 l0) ((v2).toNat) 5 (hI0.is 0) (atL_get hx6) (gd1 rfl rfl rfl (h6)) rfl rfl t4 rfl rfl ?_
                  refine K.un (V := .bool (!x6.took.found)) (gd1 rfl rfl rfl (h6)) rfl (fun _ => rfl) rfl ?_
                  refine K.move (.inl rfl) (gd1 rfl rfl rfl (h6)) rfl rfl ?_
                  refine K.loadS Y [_, _] (gd1 rfl rfl rfl (h7)) rfl rfl t37 rfl rfl rfl ?_
                  refine K.move (.inl rfl) (gd1 rfl rfl rfl (h7)) rfl rfl ?_
                  refine K.move (.inl rfl) (gd1 rfl rfl rfl (h7)) rfl rfl ?_
                  refine K.idxL (rV 0 S W0 s0 b0 o0 eTR08Mark 8 l0) ((v2).toNat) (hI0.is 0) (atL_get hx6) (atL_nn hx6) (gd1 rfl rfl rfl (h7)) rfl rfl rfl Try.underlying60 el60.size_run rfl ?_
                  refine K.fieldL Y (rV 0 S W0 s0 b0 o0 eTR08Mark 8 l0) ((v2).toNat) 0 5 (hI0.is 0) (atL_get hx6) (gd1 rfl rfl rfl (h7)) rfl rfl t75 rfl rfl rfl rfl ?_
                  refine K.fieldL Y (rV 0 S W0 s0 b0 o0 eTR08Mark 8 l0) ((v2).toNat) 5 6 (hI0.is 0) (atL_get hx6) (gd1 rfl rfl rfl (h7)) rfl rfl t65 rfl rfl rfl rfl ?_
                  refine K.loadSL Y (rV 0 S W0 s0 b0 o0 eTR08Mark 8 l0) ((v2).toNat) 6 [_, _] [_, _] (hI0.is 0) (atL_get hx6) (gd1 rfl rfl rfl (h7)) rfl rfl t37 rfl rfl rfl rfl rfl ?_
                  refine K.callR [(.func 41, _), ((.tmp 39), _), ((.tmp 45), _)] (R02_Ahead_con hx7) (toFn_func (cf 41 rfl) rfl) (gd1 rfl rfl rfl (h7)) ⟨rfl, rfl, rfl, trivial⟩ trivial rfl rfl rfl ?_
                  refine K.pickF (gd1 rfl rfl rfl (h6)) rfl (h7) rfl rfl ?_
                  refine K.pickT (gd1 rfl rfl rfl (h5)) rfl (h6) rfl rfl ?_
                  refine K.pickF (gd0 rfl) rfl (h5) rfl rfl ?_
                  refine K.move (.inr rfl) (gd0 rfl) rfl rfl ?_
                  refine K.nil ?_
                  refine ⟨by kernel_rfl, ?_⟩
                  refine At.block_normal ?_
                  refine At.next ?_
                  refine G.rg ?_
                  refine K.move (.inl rfl) (gd0 rfl) rfl rfl ?_
                  refine K.bin (V := .int .i64 (w64 (v2 + 1))) (gd0 rfl) rfl rfl (fun _ => rfl) rfl ?_
                  refine K.move (.inr rfl) (gd0 rfl) rfl rfl ?_
                  refine K.nil ?_
                  exact At.again (σ := { q : Nat × (Bool × Int) // Lw08_WaveAbove.l0 k l0 a1 q.1 q.2 = some x5 }) (Fs := fun q => [(0, SV.raw s0), (3, .a (.c (.p 105 0))), (5, .a (.c (.v (.bool q.1.2.1)))), (6, .a (.c (.v (.int .i64 q.1.2.2))))]) (Tl := fun q => [(0, rd S W0), (105, blk 105 [.v (.int .i64 a1.key), .v (.int .i64 a1.id)] 37)]) (μ := fun q => q.1.1) (s := ⟨(n0 + 1, (v1, v2)), HL0⟩) ⟨(n0, (x7, (w64 (v2 + 1)))), H1⟩ [] [_, _] (Nat.lt_succ_self _) rfl ⟨rfl, rfl, rfl, rfl, trivial⟩ ⟨rfl, (fun _ => rfl), rfl, (blk_ren rfl rfl), trivial⟩ rfl
              ·
                replace H1 := bif_f H1 h6
                refine G.rd mixed ?_
                refine K.move (.inl rfl) (gd0 rfl) rfl rfl ?_
                refine K.move (.inl rfl) (gd0 rfl) rfl rfl ?_
                refine K.move (.inl rfl) (gd1 rfl rfl rfl (h5)) rfl rfl ?_
                refine K.move (.inl rfl) (gd1 rfl rfl rfl (h5)) rfl rfl ?_
                refine K.idxL (rV 0 S W0 s0 b0 o0 eTR08Mark 8 l0) ((v2).toNat) (hI0.is 0) (atL_get hx6) (atL_nn hx6) (gd1 rfl rfl rfl (h5)) rfl rfl rfl Try.underlying60 el60.size_run rfl ?_
                refine K.fieldL Y (rV 0 S W0 s0 b0 o0 eTR08Mark 8 l0) ((v2).toNat) 0 0 (hI0.is 0) (atL_get hx6) (gd1 rfl rfl rfl (h5)) rfl rfl t75 rfl rfl rfl rfl ?_
                refine K.fieldL Y (rV 0 S W0 s0 b0 o0 eTR08Mark 8 l0) ((v2).toNat) 0 1 (hI0.is 0) (atL_get hx6) (gd1 rfl rfl rfl (h5)) rfl rfl t73 rfl rfl rfl rfl ?_
                refine K.load1L Y (rV 0 S W0 s0 b0 o0 eTR08Mark 8 l0) ((v2).toNat) 1 (hI0.is 0) (atL_get hx6) (gd1 rfl rfl rfl (h5)) rfl rfl t4 rfl rfl ?_
                refine K.un (V := .bool (!x6.op.insert)) (gd1 rfl rfl rfl (h5)) rfl (fun _ => rfl) rfl ?_
                refine K.move (.inl rfl) (gd1 rfl rfl rfl (h5)) rfl rfl ?_
                refine K.skip rfl rfl rfl rfl (h6) rfl ?_
                refine K.skip rfl rfl rfl rfl (h6) rfl ?_
                refine K.skip rfl rfl rfl rfl (h6) rfl ?_
                refine K.skip rfl rfl rfl rfl (h6) rfl ?_
                refine K.skip rfl rfl rfl rfl (h6) rfl ?_
                refine K.skip rfl rfl rfl rfl (h6) rfl ?_
                refine K.skip rfl rfl rfl rfl (h6) rfl ?_
                refine K.skip rfl rfl rfl rfl (h6) rfl ?_
                refine K.skipU rfl rfl rfl rfl rfl ?_
                refine K.skipU rfl rfl rfl rfl rfl ?_
                refine K.skipU rfl rfl rfl rfl rfl ?_
                refine K.skipU rfl rfl rfl rfl rfl ?_
                refine K.skipU rfl rfl rfl rfl rfl ?_
                refine K.skipU rfl rfl rfl rfl rfl ?_
                refine K.skipU rfl rfl rfl rfl rfl ?_
                refine K.skipU rfl rfl rfl rfl rfl ?_
                refine K.skip rfl rfl rfl rfl (h6) rfl ?_
                refine K.pickF (gd1 rfl rfl rfl (h5)) rfl (h6) rfl rfl ?_
                refine K.pickF (gd0 rfl) rfl (h5) rfl rfl ?_
                refine K.move (.inr rfl) (gd0 rfl) rfl rfl ?_
                refine K.nil ?_
                refine ⟨by kernel_rfl, ?_⟩
                refine At.block_normal ?_
                refine At.next ?_
                refine G.rg ?_
                refine K.move (.inl rfl) (gd0 rfl) rfl rfl ?_
                refine K.bin (V := .int .i64 (w64 (v2 + 1))) (gd0 rfl) rfl rfl (fun _ => rfl) rfl ?_
                refine K.move (.inr rfl) (gd0 rfl) rfl rfl ?_
                refine K.nil ?_
                exact At.again (σ := { q : Nat × (Bool × Int) // Lw08_WaveAbove.l0 k l0 a1 q.1 q.2 = some x5 }) (Fs := fun q => [(0, SV.raw s0), (3, .a (.c (.p 105 0))), (5, .a (.c (.v (.bool q.1.2.1)))), (6, .a (.c (.v (.int .i64 q.1.2.2))))]) (Tl := fun q => [(0, rd S W0), (105, blk 105 [.v (.int .i64 a1.key), .v (.int .i64 a1.id)] 37)]) (μ := fun q => q.1.1) (s := ⟨(n0 + 1, (v1, v2)), HL0⟩) ⟨(n0, (false, (w64 (v2 + 1)))), H1⟩ [] [_, _] (Nat.lt_succ_self _) rfl ⟨rfl, rfl, rfl, rfl, trivial⟩ ⟨rfl, (fun _ => rfl), rfl, (blk_ren rfl rfl), trivial⟩ rfl
          ·
            replace H1 := bif_f H1 h4
            refine G.exit ?_
            refine At.over_exit ?_
            refine At.over_exit ?_
            refine At.block_hit ?_
            exact At.joined (σ := { v : Bool // x5 = v }) (Fs := fun q => [(0, SV.raw s0), (3, .a (.c (.p 102 0))), (5, .a (.c (.v (.bool q.1))))]) (Tl := fun q => [(0, rd S W0), (102, blk 102 [.v (.int .i64 a1.key), .v (.int .i64 a1.id)] 37)]) ⟨v1, (Option.some.inj H1).symm⟩ [(102, 105)] [_, _] rfl ⟨rfl, rfl, rfl, trivial⟩ ⟨rfl, (fun _ => rfl), rfl, (blk_ren rfl rfl), trivial⟩ rfl
    ·
      rintro ⟨_, rfl⟩
      show G _ _ [(0, SV.raw s0), (3, .a (.c (.p 102 0))), (5, .a (.c (.v (.bool x5))))] [(0, some (rd S W0)), (102, some (blk 102 [.v (.int .i64 a1.key), .v (.int .i64 a1.id)] 37))] _ _
      refine G.seq ?_
      obtain ⟨x8, hx8, H0⟩ := bnd H0
      obtain ⟨x9, hx9, H0⟩ := bnd H0
      refine G.rd mixed ?_
      refine K.move (.inl rfl) (gd0 rfl) rfl rfl ?_
      refine K.callV [(.func 39, _), ((.tmp 50), _)] [(0, rd S W0)] [] [] (fun β => [SV.raw s0]) (fun β w S2 h => Lw08_sums_con ((hI0.isC 0).larg ⟨_, List.mem_cons_self⟩ h) hx8) (toFn_func (cf 39 rfl) rfl) (gd0 rfl) ⟨rfl, rfl, trivial⟩ (fun _ => rfl) ⟨rfl, trivial⟩ rfl rfl rfl rfl rfl rfl ?_
      refine K.loadS Y [_, _] (gd0 rfl) rfl rfl t37 rfl rfl rfl ?_
      refine K.callR [(.func 42, _), ((.tmp 51), _), ((.tmp 52), _)] (wave_Swell_Above_con hx9) (toFn_func (cf 42 rfl) rfl) (gd0 rfl) ⟨rfl, rfl, rfl, trivial⟩ trivial rfl rfl rfl ?_
      refine K.move (.inl rfl) (gd0 rfl) rfl rfl ?_
      refine K.bin (V := .bool (x9 == x5)) (gd0 rfl) rfl rfl (bq_eql Try.underlying4 _ _) rfl ?_
      refine K.move (.inr rfl) (gd0 rfl) rfl rfl ?_
      refine K.nil ?_
      refine ⟨by kernel_rfl, ?_⟩
      refine At.next ?_
      refine G.ret ?_
      refine At.done Y [(.tmp 4, .c _)] rfl ⟨.tmp rfl, trivial⟩ (to' := [(0, _)]) ⟨rfl, trivial⟩ ?_ ?_ rfl rfl rfl (.inl rfl)
      · cases H0; rfl
      · cases H0; rfl
theorem Lw08_WaveAbove_con {k : Nat} {S : Foot} {W0 : World} {s0 : Value} {l0 : List TR08Mark} {a1 : TItem} {r : Bool} (hL0 : LArg S W0 s0 eTR08Mark 8 l0) (H0 : Lw08_WaveAbove.f k l0 a1 = some r) : SCon Try.prog 9 [SV.raw s0, .a (.agg ((eTItem a1).map .v))] [(0, rd S W0)] (.a (.c (.v (.bool r)))) [(0, rd S W0)] [] :=
  SCon.ren (rn []) (Lw08_WaveAbove_con0 hL0 H0) ⟨(fun _ => rfl), trivial⟩ ⟨(fun _ => rfl), trivial⟩ (by simp) (by simp)
end Go.Proofs.Ytgogiehpenfdpaa


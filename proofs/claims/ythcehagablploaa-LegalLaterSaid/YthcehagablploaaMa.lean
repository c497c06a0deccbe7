/- Walks of plain functions. Printed by a program of mine. -/
import Derived.KernelRfl
import Derived.Test.YthcehagablploaaMd
namespace Go.Proofs.Ythcehagablploaa
open Go Go.Proofs.Ythcehagablploaa.Sx
set_option linter.unusedVariables false
set_option linter.unusedSimpArgs false
theorem me39_95 (v : Value) (w : World) : (method (Try.prog.types.size + Made.depth) 39 v "Compare").run Try.prog w = .ok (95, v) w := meth_of (by kernel_rfl) v w
theorem me39_96 (v : Value) (w : World) : (method (Try.prog.types.size + Made.depth) 39 v "Sum").run Try.prog w = .ok (96, v) w := meth_of (by kernel_rfl) v w
theorem me43_101 (v : Value) (w : World) : (method (Try.prog.types.size + Made.depth) 43 v "Plus").run Try.prog w = .ok (101, v) w := meth_of (by kernel_rfl) v w
theorem tide_Tide_Plus_con0 {k : Nat}  {a0 : TTide} {a1 : TTide} {r : TTide}  (H0 : tide_Tide_Plus.f k a0 a1 = some r) : SCon Try.prog 100 [.a (.agg ((eTTide a0).map .v)), .a (.agg ((eTTide a1).map .v))] [] (.a (.agg ((eTTide r).map .v))) [] [] := by
  rw [tide_Tide_Plus.f] at H0
  refine spec_of [(0, _), (1, _)] [] 32 Try.func100 rfl Try.ntmps100 rfl rfl rfl rfl (fun β W F => ?_)
  refine G.seq ?_
  refine G.rg ?_
  refine K.box Y 100 [_, _, _] (gd0 rfl) rfl rfl rfl rfl rfl rfl ?_
  refine K.box Y 101 [_, _, _] (gd0 rfl) rfl rfl rfl rfl rfl rfl ?_
  refine K.alloc Y 102 [_, _, _] (gd0 rfl) t41 rfl rfl rfl rfl rfl ?_
  refine K.nil ?_
  refine At.next ?_
  refine G.seq ?_
  refine G.seq ?_
  refine G.rg ?_
  refine K.fieldAddr Y (gd0 rfl) rfl t41 rfl rfl ?_
  refine K.load1 Y (gd0 rfl) rfl rfl t3 rfl rfl ?_
  refine K.bin (V := .bool (a0.n == 0)) (gd0 rfl) rfl rfl (fun _ => rfl) rfl ?_
  refine K.nil ?_
  refine At.next ?_
  refine G.cond rfl (fun h1 => ?_) (fun h1 => ?_)
  ·
    replace H0 := bif_t H0 h1
    refine G.seq ?_
    refine G.rg ?_
    refine K.loadS Y [_, _, _] (gd0 rfl) rfl rfl t41 rfl rfl rfl ?_
    refine K.store Y [_, _, _] (gd0 rfl) rfl rfl rfl t41 rfl rfl rfl rfl rfl ?_
    refine K.nil ?_
    refine At.next ?_
    refine G.ret ?_
    refine At.over_ret ?_
    refine At.done Y [(.cell 4 41, .agg [_, _, _])] rfl ⟨.st rfl rfl t41 rfl rfl, trivial⟩ (to' := []) trivial ?_ ?_ rfl rfl rfl (.inl rfl)
    · cases H0; rfl
    · cases H0; rfl
  ·
    replace H0 := bif_f H0 h1
    refine G.skip ?_
    refine At.next ?_
    refine G.seq ?_
    refine G.seq ?_
    refine G.rg ?_
    refine K.fieldAddr Y (gd0 rfl) rfl t41 rfl rfl ?_
    refine K.load1 Y (gd0 rfl) rfl rfl t3 rfl rfl ?_
    refine K.bin (V := .bool (a1.n == 0)) (gd0 rfl) rfl rfl (fun _ => rfl) rfl ?_
    refine K.nil ?_
    refine At.next ?_
    refine G.cond rfl (fun h2 => ?_) (fun h2 => ?_)
    ·
      replace H0 := bif_t H0 h2
      refine G.seq ?_
      refine G.rg ?_
      refine K.loadS Y [_, _, _] (gd0 rfl) rfl rfl t41 rfl rfl rfl ?_
      refine K.store Y [_, _, _] (gd0 rfl) rfl rfl rfl t41 rfl rfl rfl rfl rfl ?_
      refine K.nil ?_
      refine At.next ?_
      refine G.ret ?_
      refine At.over_ret ?_
      refine At.done Y [(.cell 4 41, .agg [_, _, _])] rfl ⟨.st rfl rfl t41 rfl rfl, trivial⟩ (to' := []) trivial ?_ ?_ rfl rfl rfl (.inl rfl)
      · cases H0; rfl
      · cases H0; rfl
    ·
      replace H0 := bif_f H0 h2
      refine G.skip ?_
      refine At.next ?_
      refine G.seq ?_
      refine G.rg ?_
      refine K.fieldAddr Y (gd0 rfl) rfl t41 rfl rfl ?_
      refine K.load1 Y (gd0 rfl) rfl rfl t3 rfl rfl ?_
      refine K.fieldAddr Y (gd0 rfl) rfl t41 rfl rfl ?_
      refine K.load1 Y (gd0 rfl) rfl rfl t3 rfl rfl ?_
      refine K.bin (V := .int .i64 (w64 (a0.n + a1.n))) (gd0 rfl) rfl rfl (fun _ => rfl) rfl ?_
      refine K.fieldAddr Y (gd0 rfl) rfl t41 rfl rfl ?_
      refine K.load1 Y (gd0 rfl) rfl rfl t3 rfl rfl ?_
      refine K.fieldAddr Y (gd0 rfl) rfl t41 rfl rfl ?_
      refine K.load1 Y (gd0 rfl) rfl rfl t3 rfl rfl ?_
      refine K.bin (V := .int .i64 (w64 (a0.sum + a1.sum))) (gd0 rfl) rfl rfl (fun _ => rfl) rfl ?_
      refine K.fieldAddr Y (gd0 rfl) rfl t41 rfl rfl ?_
      refine K.load1 Y (gd0 rfl) rfl rfl t3 rfl rfl ?_
      refine K.fieldAddr Y (gd0 rfl) rfl t41 rfl rfl ?_
      refine K.load1 Y (gd0 rfl) rfl rfl t3 rfl rfl ?_
      refine K.fieldAddr Y (gd0 rfl) rfl t41 rfl rfl ?_
      refine K.load1 Y (gd0 rfl) rfl rfl t3 rfl rfl ?_
      refine K.bin (V := .int .i64 (w64 (a0.sum + a1.low))) (gd0 rfl) rfl rfl (fun _ => rfl) rfl ?_
      refine K.bi2 (V := .int .i64 (gmin a0.low (w64 (a0.sum + a1.low)))) (gd0 rfl) rfl rfl (fun _ _ => rfl) rfl ?_
      refine K.build Y [(0, _), (1, _), (2, _)] [_, _, _] [((.tmp 17), _), ((.tmp 22), _), ((.tmp 30), _)] (gd0 rfl) (AllE.spec ⟨rfl, rfl, rfl, trivial⟩) rfl rfl t41 rfl rfl ?_
      refine K.store Y [_, _, _] (gd0 rfl) rfl rfl rfl t41 rfl rfl rfl rfl rfl ?_
      refine K.nil ?_
      refine At.next ?_
      refine G.ret ?_
      refine At.done Y [(.cell 4 41, .agg [_, _, _])] rfl ⟨.st rfl rfl t41 rfl rfl, trivial⟩ (to' := []) trivial ?_ ?_ rfl rfl rfl (.inl rfl)
      · cases H0; rfl
      · cases H0; rfl
theorem tide_Tide_Plus_con {k : Nat}  {a0 : TTide} {a1 : TTide} {r : TTide}  (H0 : tide_Tide_Plus.f k a0 a1 = some r) : SCon Try.prog 100 [.a (.agg ((eTTide a0).map .v)), .a (.agg ((eTTide a1).map .v))] [] (.a (.agg ((eTTide r).map .v))) [] [] :=
  SCon.ren (rn []) (tide_Tide_Plus_con0 (k := k)   H0) trivial trivial (by simp) (by simp)
theorem tide_Of_con0 {k : Nat}  {S : Foot} {W0 : World} {s0 : Value} {l0 : List Int} {r : TTide} (hL0 : LArg S W0 s0 intE 1 l0) (H0 : tide_Of.f k l0 = some r) : SCon Try.prog 98 [SV.raw s0] [(0, rd S W0)] (.a (.agg ((eTTide r).map .v))) [(0, rd S W0)] [] := by
  rw [tide_Of.f] at H0
  obtain ⟨b0, o0, hI0⟩ := hL0
  refine spec_of [(0, _)] [(0, _)] 19 Try.func98 rfl Try.ntmps98 rfl rfl rfl rfl (fun β W F => ?_)
  refine G.seq ?_
  refine G.rg ?_
  refine K.alloc Y 100 [_, _, _] (gd0 rfl) t41 rfl rfl rfl rfl rfl ?_
  refine K.nil ?_
  refine At.next ?_
  refine G.seq ?_
  refine G.rg ?_
  refine K.alloc Y 101 [_, _, _] (gd0 rfl) t41 rfl rfl rfl rfl rfl ?_
  refine K.nil ?_
  refine At.next ?_
  obtain ⟨x1, H1, H0⟩ := bnd H0
  refine G.seqJ (σ := { v : TTide // x1 = v }) (fun q => [(2, .a (.c (.p 102 0))), (3, .a (.c (.p 103 0)))]) (fun q => [(0, rd S W0), (102, blk 102 [.v (.int .i64 0), .v (.int .i64 0), .v (.int .i64 0)] 41), (103, blk 103 [.v (.int .i64 q.1.n), .v (.int .i64 q.1.sum), .v (.int .i64 q.1.low)] 41)]) ?_ ?_
  ·
    refine G.seq ?_
    refine G.rg ?_
    refine K.move (.inl rfl) (gd0 rfl) rfl rfl ?_
    refine K.lenL (rV 0 S W0 s0 b0 o0 intE 1 l0) (hI0.is 0) (gd0 rfl) rfl rfl Try.underlying60 rfl ?_
    refine K.move (.inl rfl) (gd0 rfl) rfl rfl ?_
    refine K.nil ?_
    refine At.next ?_
    refine G.block ?_
    refine G.loop (σ := { q : Nat × (TTide × Int) // tide_Of.l0 k l0 q.1 q.2 = some x1 }) (fun q => [(2, .a (.c (.p 108 0))), (3, .a (.c (.p 109 0))), (6, SV.raw s0), (7, .a (.c (.v (.int .i64 (l0.length : Int))))), (8, .a (.c (.v (.int .i64 q.1.2.2))))]) (fun q => [(0, rd S W0), (108, blk 108 [.v (.int .i64 0), .v (.int .i64 0), .v (.int .i64 0)] 41), (109, blk 109 [.v (.int .i64 q.1.2.1.n), .v (.int .i64 q.1.2.1.sum), .v (.int .i64 q.1.2.1.low)] 41)]) (fun q => q.1.1) ⟨(k, (zTTide, 0)), H1⟩ ?_ ?_
    · exact At.into [(108, 100), (109, 101)] [_, _, _] rfl ⟨rfl, rfl, rfl, rfl, rfl, trivial⟩ ⟨rfl, (fun _ => rfl), rfl, (blk_ren rfl rfl), rfl, (blk_ren rfl rfl), trivial⟩ rfl
    ·
      rintro ⟨⟨n0, v1, v2⟩, H1⟩
      show G _ _ [(2, .a (.c (.p 108 0))), (3, .a (.c (.p 109 0))), (6, SV.raw s0), (7, .a (.c (.v (.int .i64 (l0.length : Int))))), (8, .a (.c (.v (.int .i64 v2))))] [(0, some (rd S W0)), (108, some (blk 108 [.v (.int .i64 0), .v (.int .i64 0), .v (.int .i64 0)] 41)), (109, some (blk 109 [.v (.int .i64 v1.n), .v (.int .i64 v1.sum), .v (.int .i64 v1.low)] 41))] _ _
      cases n0 with
      | zero => exact absurd H1 (by simp [tide_Of.l0])
      | succ n0 =>
        have HL0 := H1
        rw [tide_Of.l0] at H1
        refine G.seq ?_
        refine G.rg ?_
        refine K.bin (V := .bool (decide (v2 < (l0.length : Int)))) (gd0 rfl) rfl rfl (fun _ => rfl) rfl ?_
        refine K.nil ?_
        refine At.next ?_
        refine G.seq ?_
        refine G.cond rfl (fun h1 => ?_) (fun h1 => ?_)
        ·
          replace H1 := bif_t H1 h1
          refine G.skip ?_
          refine At.next ?_
          refine G.seq ?_
          refine G.block ?_
          refine G.seq ?_
          obtain ⟨x2, hx2, H1⟩ := bnd H1
          refine G.rg ?_
          refine K.idxL (rV 0 S W0 s0 b0 o0 intE 1 l0) ((v2).toNat) (hI0.is 0) (atL_get hx2) (atL_nn hx2) (gd0 rfl) rfl rfl rfl Try.underlying60 el60.size_run rfl ?_
          refine K.load1L Y (rV 0 S W0 s0 b0 o0 intE 1 l0) ((v2).toNat) 0 (hI0.is 0) (atL_get hx2) (gd0 rfl) rfl rfl t3 rfl rfl ?_
          refine K.move (.inr rfl) (gd0 rfl) rfl rfl ?_
          refine K.nil ?_
          refine At.next ?_
          obtain ⟨x3, hx3, H1⟩ := bnd H1
          refine G.rg ?_
          refine K.loadS Y [_, _, _] (gd0 rfl) rfl rfl t41 rfl rfl rfl ?_
          refine K.move (.inl rfl) (gd0 rfl) rfl rfl ?_
          refine K.move (.inl rfl) (gd0 rfl) rfl rfl ?_
          refine K.build Y [(0, _), (1, _), (2, _)] [_, _, _] [(_, _), ((.tmp 13), _), ((.tmp 14), _)] (gd0 rfl) (AllE.spec ⟨rfl, rfl, rfl, trivial⟩) rfl rfl t41 rfl rfl ?_
          refine K.callR [(.func 100, _), ((.tmp 12), _), ((.tmp 15), _)] (tide_Tide_Plus_con (k := k) hx3) (toFn_func (cf 100 rfl) rfl) (gd0 rfl) ⟨rfl, rfl, rfl, trivial⟩ trivial rfl rfl rfl ?_
          refine K.store Y [_, _, _] (gd0 rfl) rfl rfl rfl t41 rfl rfl rfl rfl rfl ?_
          refine K.nil ?_
          refine At.block_normal ?_
          refine At.next ?_
          refine G.rg ?_
          refine K.bin (V := .int .i64 (w64 (v2 + 1))) (gd0 rfl) rfl rfl (fun _ => rfl) rfl ?_
          refine K.move (.inl rfl) (gd0 rfl) rfl rfl ?_
          refine K.nil ?_
          exact At.again (σ := { q : Nat × (TTide × Int) // tide_Of.l0 k l0 q.1 q.2 = some x1 }) (Fs := fun q => [(2, .a (.c (.p 108 0))), (3, .a (.c (.p 109 0))), (6, SV.raw s0), (7, .a (.c (.v (.int .i64 (l0.length : Int))))), (8, .a (.c (.v (.int .i64 q.1.2.2))))]) (Tl := fun q => [(0, rd S W0), (108, blk 108 [.v (.int .i64 0), .v (.int .i64 0), .v (.int .i64 0)] 41), (109, blk 109 [.v (.int .i64 q.1.2.1.n), .v (.int .i64 q.1.2.1.sum), .v (.int .i64 q.1.2.1.low)] 41)]) (μ := fun q => q.1.1) (s := ⟨(n0 + 1, (v1, v2)), HL0⟩) ⟨(n0, (x3, (w64 (v2 + 1)))), H1⟩ [] [_, _, _] (Nat.lt_succ_self _) rfl ⟨rfl, rfl, rfl, rfl, rfl, trivial⟩ ⟨rfl, (fun _ => rfl), rfl, (blk_ren rfl rfl), rfl, (blk_ren rfl rfl), trivial⟩ rfl
        ·
          replace H1 := bif_f H1 h1
          refine G.exit ?_
          refine At.over_exit ?_
          refine At.over_exit ?_
          refine At.block_hit ?_
          exact At.joined (σ := { v : TTide // x1 = v }) (Fs := fun q => [(2, .a (.c (.p 102 0))), (3, .a (.c (.p 103 0)))]) (Tl := fun q => [(0, rd S W0), (102, blk 102 [.v (.int .i64 0), .v (.int .i64 0), .v (.int .i64 0)] 41), (103, blk 103 [.v (.int .i64 q.1.n), .v (.int .i64 q.1.sum), .v (.int .i64 q.1.low)] 41)]) ⟨v1, (Option.some.inj H1).symm⟩ [(102, 108), (103, 109)] [_, _, _] rfl ⟨rfl, rfl, trivial⟩ ⟨rfl, (fun _ => rfl), rfl, (blk_ren rfl rfl), rfl, (blk_ren rfl rfl), trivial⟩ rfl
  ·
    rintro ⟨_, rfl⟩
    show G _ _ [(2, .a (.c (.p 102 0))), (3, .a (.c (.p 103 0)))] [(0, some (rd S W0)), (102, some (blk 102 [.v (.int .i64 0), .v (.int .i64 0), .v (.int .i64 0)] 41)), (103, some (blk 103 [.v (.int .i64 x1.n), .v (.int .i64 x1.sum), .v (.int .i64 x1.low)] 41))] _ _
    refine G.seq ?_
    refine G.rg ?_
    refine K.loadS Y [_, _, _] (gd0 rfl) rfl rfl t41 rfl rfl rfl ?_
    refine K.store Y [_, _, _] (gd0 rfl) rfl rfl rfl t41 rfl rfl rfl rfl rfl ?_
    refine K.nil ?_
    refine At.next ?_
    refine G.ret ?_
    refine At.done Y [(.cell 2 41, .agg [_, _, _])] rfl ⟨.st rfl rfl t41 rfl rfl, trivial⟩ (to' := [(0, _)]) ⟨rfl, trivial⟩ ?_ ?_ rfl rfl rfl (.inl rfl)
    · cases H0; rfl
    · cases H0; rfl
theorem tide_Of_con {k : Nat}  {S : Foot} {W0 : World} {s0 : Value} {l0 : List Int} {r : TTide} (hL0 : LArg S W0 s0 intE 1 l0) (H0 : tide_Of.f k l0 = some r) : SCon Try.prog 98 [SV.raw s0] [(0, rd S W0)] (.a (.agg ((eTTide r).map .v))) [(0, rd S W0)] [] :=
  SCon.ren (rn []) (tide_Of_con0 (k := k)  hL0 H0) ⟨(fun _ => rfl), trivial⟩ ⟨(fun _ => rfl), trivial⟩ (by simp) (by simp)
theorem wave_Mark_Sum_con0 {k : Nat}  {a0 : TMark} {r : TSwell}  (H0 : wave_Mark_Sum.f k a0 = some r) : SCon Try.prog 96 [.a (.agg ((eTMark a0).map .v))] [] (.a (.agg ((eTSwell r).map .v))) [] [] := by
  rw [wave_Mark_Sum.f] at H0
  refine spec_of [(0, _)] [] 48 Try.func96 rfl Try.ntmps96 rfl rfl rfl rfl (fun β W F => ?_)
  refine G.seq ?_
  refine G.rg ?_
  refine K.box Y 100 [_, _, _, _, _, _, _, _] (gd0 rfl) rfl rfl rfl rfl rfl rfl ?_
  refine K.alloc Y 101 [_, _, _, _, _, _, _, _, _, _, _, _, _, _, _, _] (gd0 rfl) t43 rfl rfl rfl rfl rfl ?_
  refine K.nil ?_
  refine At.next ?_
  obtain ⟨x1, H1, H0⟩ := bnd H0
  refine G.seqJ (σ := { v : Unit // x1 = Sum.inr v }) (fun q => [(1, .a (.c (.p 102 0))), (2, .a (.c (.p 103 0)))]) (fun q => [(102, blk 102 [.v (.int .i64 a0.op.time), .v (.bool a0.op.insert), .v (.int .i64 a0.op.item.key), .v (.int .i64 a0.op.item.id), .v (.bool a0.here), .v (.bool a0.took.found), .v (.int .i64 a0.took.item.key), .v (.int .i64 a0.took.item.id)] 39), (103, blk 103 [.v (.int .i64 0), .v (.int .i64 0), .v (.int .i64 0), .v (.int .i64 0), .v (.int .i64 0), .v (.int .i64 0), .v (.int .i64 0), .v (.int .i64 0), .v (.int .i64 0), .v (.int .i64 0), .v (.bool false), .v (.int .i64 0), .v (.int .i64 0), .v (.bool false), .v (.int .i64 0), .v (.int .i64 0)] 43)]) ?_ ?_
  ·
    refine G.block ?_
    obtain ⟨x2, H2, H1⟩ := bnd H1
    refine G.seqJ (σ := { v : Bool // x2 = v }) (fun q => [(1, .a (.c (.p 104 0))), (2, .a (.c (.p 105 0))), (4, .a (.c (.v (.bool q.1))))]) (fun q => [(104, blk 104 [.v (.int .i64 a0.op.time), .v (.bool a0.op.insert), .v (.int .i64 a0.op.item.key), .v (.int .i64 a0.op.item.id), .v (.bool a0.here), .v (.bool a0.took.found), .v (.int .i64 a0.took.item.key), .v (.int .i64 a0.took.item.id)] 39), (105, blk 105 [.v (.int .i64 0), .v (.int .i64 0), .v (.int .i64 0), .v (.int .i64 0), .v (.int .i64 0), .v (.int .i64 0), .v (.int .i64 0), .v (.int .i64 0), .v (.int .i64 0), .v (.int .i64 0), .v (.bool false), .v (.int .i64 0), .v (.int .i64 0), .v (.bool false), .v (.int .i64 0), .v (.int .i64 0)] 43)]) ?_ ?_
    ·
      rcases Bool.eq_false_or_eq_true a0.op.insert with h1 | h1
      ·
        replace H2 := bif_t H2 h1
        refine G.rg ?_
        refine K.fieldAddr Y (gd0 rfl) rfl t39 rfl rfl ?_
        refine K.fieldAddr Y (gd0 rfl) rfl t35 rfl rfl ?_
        refine K.load1 Y (gd0 rfl) rfl rfl t4 rfl rfl ?_
        refine K.move (.inl rfl) (gd0 rfl) rfl rfl ?_
        refine K.fieldAddr Y (gd1 rfl rfl rfl (h1)) rfl t39 rfl rfl ?_
        refine K.load1 Y (gd1 rfl rfl rfl (h1)) rfl rfl t4 rfl rfl ?_
        refine K.pickT (gd0 rfl) rfl (h1) rfl rfl ?_
        refine K.move (.inr rfl) (gd0 rfl) rfl rfl ?_
        refine K.nil ?_
        exact At.joined (σ := { v : Bool // x2 = v }) (Fs := fun q => [(1, .a (.c (.p 104 0))), (2, .a (.c (.p 105 0))), (4, .a (.c (.v (.bool q.1))))]) (Tl := fun q => [(104, blk 104 [.v (.int .i64 a0.op.time), .v (.bool a0.op.insert), .v (.int .i64 a0.op.item.key), .v (.int .i64 a0.op.item.id), .v (.bool a0.here), .v (.bool a0.took.found), .v (.int .i64 a0.took.item.key), .v (.int .i64 a0.took.item.id)] 39), (105, blk 105 [.v (.int .i64 0), .v (.int .i64 0), .v (.int .i64 0), .v (.int .i64 0), .v (.int .i64 0), .v (.int .i64 0), .v (.int .i64 0), .v (.int .i64 0), .v (.int .i64 0), .v (.int .i64 0), .v (.bool false), .v (.int .i64 0), .v (.int .i64 0), .v (.bool false), .v (.int .i64 0), .v (.int .i64 0)] 43)]) ⟨a0.here, (Option.some.inj H2).symm⟩ [(104, 100), (105, 101)] [_, _] rfl ⟨rfl, rfl, rfl, trivial⟩ ⟨rfl, (blk_ren rfl rfl), rfl, (blk_ren rfl rfl), trivial⟩ rfl
      ·
        replace H2 := bif_f H2 h1
        refine G.rg ?_
        refine K.fieldAddr Y (gd0 rfl) rfl t39 rfl rfl ?_
        refine K.fieldAddr Y (gd0 rfl) rfl t35 rfl rfl ?_
        refine K.load1 Y (gd0 rfl) rfl rfl t4 rfl rfl ?_
        refine K.move (.inl rfl) (gd0 rfl) rfl rfl ?_
        refine K.skip rfl rfl rfl rfl (h1) rfl ?_
        refine K.skip rfl rfl rfl rfl (h1) rfl ?_
        refine K.pickF (gd0 rfl) rfl (h1) rfl rfl ?_
        refine K.move (.inr rfl) (gd0 rfl) rfl rfl ?_
        refine K.nil ?_
        exact At.joined (σ := { v : Bool // x2 = v }) (Fs := fun q => [(1, .a (.c (.p 104 0))), (2, .a (.c (.p 105 0))), (4, .a (.c (.v (.bool q.1))))]) (Tl := fun q => [(104, blk 104 [.v (.int .i64 a0.op.time), .v (.bool a0.op.insert), .v (.int .i64 a0.op.item.key), .v (.int .i64 a0.op.item.id), .v (.bool a0.here), .v (.bool a0.took.found), .v (.int .i64 a0.took.item.key), .v (.int .i64 a0.took.item.id)] 39), (105, blk 105 [.v (.int .i64 0), .v (.int .i64 0), .v (.int .i64 0), .v (.int .i64 0), .v (.int .i64 0), .v (.int .i64 0), .v (.int .i64 0), .v (.int .i64 0), .v (.int .i64 0), .v (.int .i64 0), .v (.bool false), .v (.int .i64 0), .v (.int .i64 0), .v (.bool false), .v (.int .i64 0), .v (.int .i64 0)] 43)]) ⟨false, (Option.some.inj H2).symm⟩ [(104, 100), (105, 101)] [_, _] rfl ⟨rfl, rfl, rfl, trivial⟩ ⟨rfl, (blk_ren rfl rfl), rfl, (blk_ren rfl rfl), trivial⟩ rfl
    ·
      rintro ⟨_, rfl⟩
      show G _ _ [(1, .a (.c (.p 104 0))), (2, .a (.c (.p 105 0))), (4, .a (.c (.v (.bool x2))))] [(104, some (blk 104 [.v (.int .i64 a0.op.time), .v (.bool a0.op.insert), .v (.int .i64 a0.op.item.key), .v (.int .i64 a0.op.item.id), .v (.bool a0.here), .v (.bool a0.took.found), .v (.int .i64 a0.took.item.key), .v (.int .i64 a0.took.item.id)] 39)), (105, some (blk 105 [.v (.int .i64 0), .v (.int .i64 0), .v (.int .i64 0), .v (.int .i64 0), .v (.int .i64 0), .v (.int .i64 0), .v (.int .i64 0), .v (.int .i64 0), .v (.int .i64 0), .v (.int .i64 0), .v (.bool false), .v (.int .i64 0), .v (.int .i64 0), .v (.bool false), .v (.int .i64 0), .v (.int .i64 0)] 43))] _ _
      refine G.cond rfl (fun h2 => ?_) (fun h2 => ?_)
      ·
        replace H1 := bif_t H1 h2
        refine G.seq ?_
        obtain ⟨x3, hx3, H1⟩ := bnd H1
        obtain ⟨x4, hx4, H1⟩ := bnd H1
        refine G.rd mixed ?_
        refine K.buildL Y 106 ([1] : List Int) [(0, _)] [(_, _)] intE_len (gd0 rfl) (AllE.spec ⟨rfl, trivial⟩) rfl rfl Try.underlying60 t3 rfl rfl rfl rfl rfl rfl rfl rfl ?_
        refine K.callV [(.func 98, _), ((.tmp 12), _)] [(106, lrow 106 3 intE 1 ([1] : List Int))] [] [] (fun β => [SV.raw ((lrowV 106 3 intE 1 ([1] : List Int)).s.den β)]) (fun β w S2 h => tide_Of_con (k := k) ((lrowV_isC intE_len (by decide)).larg ⟨_, List.mem_cons_self⟩ h) hx3) (toFn_func (cf 98 rfl) rfl) (gd0 rfl) ⟨rfl, rfl, trivial⟩ (fun _ => rfl) ⟨rfl, trivial⟩ rfl rfl rfl rfl rfl rfl ?_
        refine K.buildL Y 107 ([0] : List Int) [(0, _)] [(_, _)] intE_len (gd0 rfl) (AllE.spec ⟨rfl, trivial⟩) rfl rfl Try.underlying60 t3 rfl rfl rfl rfl rfl rfl rfl rfl ?_
        refine K.callV [(.func 98, _), ((.tmp 14), _)] [(107, lrow 107 3 intE 1 ([0] : List Int))] [] [] (fun β => [SV.raw ((lrowV 107 3 intE 1 ([0] : List Int)).s.den β)]) (fun β w S2 h => tide_Of_con (k := k) ((lrowV_isC intE_len (by decide)).larg ⟨_, List.mem_cons_self⟩ h) hx4) (toFn_func (cf 98 rfl) rfl) (gd0 rfl) ⟨rfl, rfl, trivial⟩ (fun _ => rfl) ⟨rfl, trivial⟩ rfl rfl rfl rfl rfl rfl ?_
        refine K.fieldAddr Y (gd0 rfl) rfl t39 rfl rfl ?_
        refine K.fieldAddr Y (gd0 rfl) rfl t35 rfl rfl ?_
        refine K.loadS Y [_, _] (gd0 rfl) rfl rfl t33 rfl rfl rfl ?_
        refine K.build Y [(0, _), (1, _)] [_, _, _] [(_, _), ((.tmp 18), _)] (gd0 rfl) (AllE.spec ⟨rfl, rfl, trivial⟩) rfl rfl t37 rfl rfl ?_
        refine K.build Y [(0, _), (1, _), (6, _)] [_, _, _, _, _, _, _, _, _, _, _, _, _, _, _, _] [((.tmp 13), _), ((.tmp 15), _), ((.tmp 19), _)] (gd0 rfl) (AllE.spec ⟨rfl, rfl, rfl, trivial⟩) rfl rfl t43 rfl rfl ?_
        refine K.store Y [_, _, _, _, _, _, _, _, _, _, _, _, _, _, _, _] (gd0 rfl) rfl rfl rfl t43 rfl rfl rfl rfl rfl ?_
        refine K.nil ?_
        refine ⟨by kernel_rfl, ?_⟩
        refine At.next ?_
        refine G.ret ?_
        refine At.block_ret ?_
        refine At.over_ret ?_
        cases H1
        replace H0 := sum_l H0
        refine At.done Y [(.cell 2 43, .agg [_, _, _, _, _, _, _, _, _, _, _, _, _, _, _, _])] rfl ⟨.st rfl rfl t43 rfl rfl, trivial⟩ (to' := []) trivial ?_ ?_ rfl rfl rfl (.inl rfl)
        · cases H0; rfl
        · cases H0; rfl
      ·
        replace H1 := bif_f H1 h2
        refine G.seq ?_
        refine G.rg ?_
        refine K.fieldAddr Y (gd0 rfl) rfl t39 rfl rfl ?_
        refine K.fieldAddr Y (gd0 rfl) rfl t35 rfl rfl ?_
        refine K.load1 Y (gd0 rfl) rfl rfl t4 rfl rfl ?_
        refine K.move (.inr rfl) (gd0 rfl) rfl rfl ?_
        refine K.nil ?_
        refine At.next ?_
        refine G.cond rfl (fun h3 => ?_) (fun h3 => ?_)
        ·
          replace H1 := bif_t H1 h3
          refine G.seq ?_
          obtain ⟨x5, hx5, H1⟩ := bnd H1
          obtain ⟨x6, hx6, H1⟩ := bnd H1
          refine G.rd mixed ?_
          refine K.buildL Y 108 ([1] : List Int) [(0, _)] [(_, _)] intE_len (gd0 rfl) (AllE.spec ⟨rfl, trivial⟩) rfl rfl Try.underlying60 t3 rfl rfl rfl rfl rfl rfl rfl rfl ?_
          refine K.callV [(.func 98, _), ((.tmp 25), _)] [(108, lrow 108 3 intE 1 ([1] : List Int))] [] [] (fun β => [SV.raw ((lrowV 108 3 intE 1 ([1] : List Int)).s.den β)]) (fun β w S2 h => tide_Of_con (k := k) ((lrowV_isC intE_len (by decide)).larg ⟨_, List.mem_cons_self⟩ h) hx5) (toFn_func (cf 98 rfl) rfl) (gd0 rfl) ⟨rfl, rfl, trivial⟩ (fun _ => rfl) ⟨rfl, trivial⟩ rfl rfl rfl rfl rfl rfl ?_
          refine K.buildL Y 109 ([1] : List Int) [(0, _)] [(_, _)] intE_len (gd0 rfl) (AllE.spec ⟨rfl, trivial⟩) rfl rfl Try.underlying60 t3 rfl rfl rfl rfl rfl rfl rfl rfl ?_
          refine K.callV [(.func 98, _), ((.tmp 27), _)] [(109, lrow 109 3 intE 1 ([1] : List Int))] [] [] (fun β => [SV.raw ((lrowV 109 3 intE 1 ([1] : List Int)).s.den β)]) (fun β w S2 h => tide_Of_con (k := k) ((lrowV_isC intE_len (by decide)).larg ⟨_, List.mem_cons_self⟩ h) hx6) (toFn_func (cf 98 rfl) rfl) (gd0 rfl) ⟨rfl, rfl, trivial⟩ (fun _ => rfl) ⟨rfl, trivial⟩ rfl rfl rfl rfl rfl rfl ?_
          refine K.fieldAddr Y (gd0 rfl) rfl t39 rfl rfl ?_
          refine K.fieldAddr Y (gd0 rfl) rfl t35 rfl rfl ?_
          refine K.loadS Y [_, _] (gd0 rfl) rfl rfl t33 rfl rfl rfl ?_
          refine K.build Y [(0, _), (1, _)] [_, _, _] [(_, _), ((.tmp 31), _)] (gd0 rfl) (AllE.spec ⟨rfl, rfl, trivial⟩) rfl rfl t37 rfl rfl ?_
          refine K.build Y [(0, _), (1, _), (5, _)] [_, _, _, _, _, _, _, _, _, _, _, _, _, _, _, _] [((.tmp 26), _), ((.tmp 28), _), ((.tmp 32), _)] (gd0 rfl) (AllE.spec ⟨rfl, rfl, rfl, trivial⟩) rfl rfl t43 rfl rfl ?_
          refine K.store Y [_, _, _, _, _, _, _, _, _, _, _, _, _, _, _, _] (gd0 rfl) rfl rfl rfl t43 rfl rfl rfl rfl rfl ?_
          refine K.nil ?_
          refine ⟨by kernel_rfl, ?_⟩
          refine At.next ?_
          refine G.ret ?_
          refine At.block_ret ?_
          refine At.over_ret ?_
          cases H1
          replace H0 := sum_l H0
          refine At.done Y [(.cell 2 43, .agg [_, _, _, _, _, _, _, _, _, _, _, _, _, _, _, _])] rfl ⟨.st rfl rfl t43 rfl rfl, trivial⟩ (to' := []) trivial ?_ ?_ rfl rfl rfl (.inl rfl)
          · cases H0; rfl
          · cases H0; rfl
        ·
          replace H1 := bif_f H1 h3
          refine G.skip ?_
          refine At.block_normal ?_
          exact At.joined (σ := { v : Unit // x1 = Sum.inr v }) (Fs := fun q => [(1, .a (.c (.p 102 0))), (2, .a (.c (.p 103 0)))]) (Tl := fun q => [(102, blk 102 [.v (.int .i64 a0.op.time), .v (.bool a0.op.insert), .v (.int .i64 a0.op.item.key), .v (.int .i64 a0.op.item.id), .v (.bool a0.here), .v (.bool a0.took.found), .v (.int .i64 a0.took.item.key), .v (.int .i64 a0.took.item.id)] 39), (103, blk 103 [.v (.int .i64 0), .v (.int .i64 0), .v (.int .i64 0), .v (.int .i64 0), .v (.int .i64 0), .v (.int .i64 0), .v (.int .i64 0), .v (.int .i64 0), .v (.int .i64 0), .v (.int .i64 0), .v (.bool false), .v (.int .i64 0), .v (.int .i64 0), .v (.bool false), .v (.int .i64 0), .v (.int .i64 0)] 43)]) ⟨(), (Option.some.inj H1).symm⟩ [(102, 104), (103, 105)] [_, _] rfl ⟨rfl, rfl, trivial⟩ ⟨rfl, (blk_ren rfl rfl), rfl, (blk_ren rfl rfl), trivial⟩ rfl
  ·
    rintro ⟨v1, rfl⟩
    replace H0 := sum_r H0
    show G _ _ [(1, .a (.c (.p 102 0))), (2, .a (.c (.p 103 0)))] [(102, some (blk 102 [.v (.int .i64 a0.op.time), .v (.bool a0.op.insert), .v (.int .i64 a0.op.item.key), .v (.int .i64 a0.op.item.id), .v (.bool a0.here), .v (.bool a0.took.found), .v (.int .i64 a0.took.item.key), .v (.int .i64 a0.took.item.id)] 39)), (103, some (blk 103 [.v (.int .i64 0), .v (.int .i64 0), .v (.int .i64 0), .v (.int .i64 0), .v (.int .i64 0), .v (.int .i64 0), .v (.int .i64 0), .v (.int .i64 0), .v (.int .i64 0), .v (.int .i64 0), .v (.bool false), .v (.int .i64 0), .v (.int .i64 0), .v (.bool false), .v (.int .i64 0), .v (.int .i64 0)] 43))] _ _
    refine G.seq ?_
    obtain ⟨x7, hx7, H0⟩ := bnd H0
    obtain ⟨x8, hx8, H0⟩ := bnd H0
    refine G.rg ?_
    refine K.buildL Y 110 ([(-1)] : List Int) [(0, _)] [(_, _)] intE_len (gd0 rfl) (AllE.spec ⟨rfl, trivial⟩) rfl rfl Try.underlying60 t3 rfl rfl rfl rfl rfl rfl rfl rfl ?_
    refine K.callV [(.func 98, _), ((.tmp 34), _)] [(110, lrow 110 3 intE 1 ([(-1)] : List Int))] [] [] (fun β => [SV.raw ((lrowV 110 3 intE 1 ([(-1)] : List Int)).s.den β)]) (fun β w S2 h => tide_Of_con (k := k) ((lrowV_isC intE_len (by decide)).larg ⟨_, List.mem_cons_self⟩ h) hx7) (toFn_func (cf 98 rfl) rfl) (gd0 rfl) ⟨rfl, rfl, trivial⟩ (fun _ => rfl) ⟨rfl, trivial⟩ rfl rfl rfl rfl rfl rfl ?_
    refine K.buildL Y 111 ([(-1)] : List Int) [(0, _)] [(_, _)] intE_len (gd0 rfl) (AllE.spec ⟨rfl, trivial⟩) rfl rfl Try.underlying60 t3 rfl rfl rfl rfl rfl rfl rfl rfl ?_
    refine K.callV [(.func 98, _), ((.tmp 36), _)] [(111, lrow 111 3 intE 1 ([(-1)] : List Int))] [] [] (fun β => [SV.raw ((lrowV 111 3 intE 1 ([(-1)] : List Int)).s.den β)]) (fun β w S2 h => tide_Of_con (k := k) ((lrowV_isC intE_len (by decide)).larg ⟨_, List.mem_cons_self⟩ h) hx8) (toFn_func (cf 98 rfl) rfl) (gd0 rfl) ⟨rfl, rfl, trivial⟩ (fun _ => rfl) ⟨rfl, trivial⟩ rfl rfl rfl rfl rfl rfl ?_
    refine K.build Y [(0, _), (1, _), (2, _)] [_, _, _, _, _, _, _, _, _, _, _, _, _, _, _, _] [((.tmp 35), _), ((.tmp 37), _), (_, _)] (gd0 rfl) (AllE.spec ⟨rfl, rfl, rfl, trivial⟩) rfl rfl t43 rfl rfl ?_
    refine K.alloc Y 112 [_, _, _, _, _, _, _, _, _, _, _, _, _, _, _, _] (gd0 rfl) t43 rfl rfl rfl rfl rfl ?_
    refine K.store Y [_, _, _, _, _, _, _, _, _, _, _, _, _, _, _, _] (gd0 rfl) rfl rfl rfl t43 rfl rfl rfl rfl rfl ?_
    refine K.nil ?_
    refine At.next ?_
    refine G.seq ?_
    refine G.seq ?_
    refine G.rg ?_
    refine K.fieldAddr Y (gd0 rfl) rfl t39 rfl rfl ?_
    refine K.fieldAddr Y (gd0 rfl) rfl t37 rfl rfl ?_
    refine K.load1 Y (gd0 rfl) rfl rfl t4 rfl rfl ?_
    refine K.nil ?_
    refine At.next ?_
    refine G.cond rfl (fun h4 => ?_) (fun h4 => ?_)
    ·
      replace H0 := bif_t H0 h4
      refine G.rg ?_
      refine K.fieldAddr Y (gd0 rfl) rfl t39 rfl rfl ?_
      refine K.fieldAddr Y (gd0 rfl) rfl t37 rfl rfl ?_
      refine K.loadS Y [_, _] (gd0 rfl) rfl rfl t33 rfl rfl rfl ?_
      refine K.fieldAddr Y (gd0 rfl) rfl t43 rfl rfl ?_
      refine K.store Y [_, _, _, _, _, _, _, _, _, _, _, _, _, _, _, _] (gd0 rfl) rfl rfl rfl t33 rfl rfl rfl rfl rfl ?_
      refine K.nil ?_
      refine At.next ?_
      refine G.seq ?_
      refine G.rg ?_
      refine K.loadS Y [_, _, _, _, _, _, _, _, _, _, _, _, _, _, _, _] (gd0 rfl) rfl rfl t43 rfl rfl rfl ?_
      refine K.store Y [_, _, _, _, _, _, _, _, _, _, _, _, _, _, _, _] (gd0 rfl) rfl rfl rfl t43 rfl rfl rfl rfl rfl ?_
      refine K.nil ?_
      refine At.next ?_
      refine G.ret ?_
      refine At.done Y [(.cell 2 43, .agg [_, _, _, _, _, _, _, _, _, _, _, _, _, _, _, _])] rfl ⟨.st rfl rfl t43 rfl rfl, trivial⟩ (to' := []) trivial ?_ ?_ rfl rfl rfl (.inl rfl)
      · cases H0; rfl
      · cases H0; rfl
    ·
      replace H0 := bif_f H0 h4
      refine G.rg ?_
      refine K.fieldAddr Y (gd0 rfl) rfl t43 rfl rfl ?_
      refine K.store Y [_, _, _, _, _, _, _, _, _, _, _, _, _, _, _, _] (gd0 rfl) rfl rfl rfl t3 rfl rfl rfl rfl rfl ?_
      refine K.nil ?_
      refine At.next ?_
      refine G.seq ?_
      refine G.rg ?_
      refine K.loadS Y [_, _, _, _, _, _, _, _, _, _, _, _, _, _, _, _] (gd0 rfl) rfl rfl t43 rfl rfl rfl ?_
      refine K.store Y [_, _, _, _, _, _, _, _, _, _, _, _, _, _, _, _] (gd0 rfl) rfl rfl rfl t43 rfl rfl rfl rfl rfl ?_
      refine K.nil ?_
      refine At.next ?_
      refine G.ret ?_
      refine At.done Y [(.cell 2 43, .agg [_, _, _, _, _, _, _, _, _, _, _, _, _, _, _, _])] rfl ⟨.st rfl rfl t43 rfl rfl, trivial⟩ (to' := []) trivial ?_ ?_ rfl rfl rfl (.inl rfl)
      · cases H0; rfl
      · cases H0; rfl
theorem wave_Mark_Sum_con {k : Nat}  {a0 : TMark} {r : TSwell}  (H0 : wave_Mark_Sum.f k a0 = some r) : SCon Try.prog 96 [.a (.agg ((eTMark a0).map .v))] [] (.a (.agg ((eTSwell r).map .v))) [] [] :=
  SCon.ren (rn []) (wave_Mark_Sum_con0 (k := k)   H0) trivial trivial (by simp) (by simp)
theorem cmp_isNaN_con0 {k : Nat}  {a0 : Int} {r : Bool}  (H0 : cmp_isNaN.f k a0 = some r) : SCon Try.prog 99 [.a (.c (.v (.int .i64 a0)))] [] (.a (.c (.v (.bool r)))) [] [] := by
  rw [cmp_isNaN.f] at H0
  refine spec_of [(0, _)] [] 6 Try.func99 rfl Try.ntmps99 rfl rfl rfl rfl (fun β W F => ?_)
  refine G.seq ?_
  refine G.rg ?_
  refine K.move (.inr rfl) (gd0 rfl) rfl rfl ?_
  refine K.nil ?_
  refine At.next ?_
  refine G.seq ?_
  refine G.rg ?_
  refine K.move (.inl rfl) (gd0 rfl) rfl rfl ?_
  refine K.move (.inl rfl) (gd0 rfl) rfl rfl ?_
  refine K.bin (V := .bool (a0 != a0)) (gd0 rfl) rfl rfl (fun _ => rfl) rfl ?_
  refine K.move (.inr rfl) (gd0 rfl) rfl rfl ?_
  refine K.nil ?_
  refine At.next ?_
  refine G.ret ?_
  refine At.done Y [(.tmp 2, .c _)] rfl ⟨.tmp rfl, trivial⟩ (to' := []) trivial ?_ ?_ rfl rfl rfl (.inl rfl)
  · cases H0; rfl
  · cases H0; rfl
theorem cmp_isNaN_con {k : Nat}  {a0 : Int} {r : Bool}  (H0 : cmp_isNaN.f k a0 = some r) : SCon Try.prog 99 [.a (.c (.v (.int .i64 a0)))] [] (.a (.c (.v (.bool r)))) [] [] :=
  SCon.ren (rn []) (cmp_isNaN_con0 (k := k)   H0) trivial trivial (by simp) (by simp)
theorem cmp_Compare_con0 {k : Nat}  {a0 : Int} {a1 : Int} {r : Int}  (H0 : cmp_Compare.f k a0 a1 = some r) : SCon Try.prog 97 [.a (.c (.v (.int .i64 a0))), .a (.c (.v (.int .i64 a1)))] [] (.a (.c (.v (.int .i64 r)))) [] [] := by
  rw [cmp_Compare.f] at H0
  refine spec_of [(0, _), (1, _)] [] 20 Try.func97 rfl Try.ntmps97 rfl rfl rfl rfl (fun β W F => ?_)
  refine G.seq ?_
  refine G.rg ?_
  refine K.move (.inr rfl) (gd0 rfl) rfl rfl ?_
  refine K.nil ?_
  refine At.next ?_
  refine G.seq ?_
  obtain ⟨x1, hx1, H0⟩ := bnd H0
  refine G.rg ?_
  refine K.move (.inl rfl) (gd0 rfl) rfl rfl ?_
  refine K.callR [(.func 99, _), ((.tmp 7), _)] (cmp_isNaN_con (k := k) hx1) (toFn_func (cf 99 rfl) rfl) (gd0 rfl) ⟨rfl, rfl, trivial⟩ trivial rfl rfl rfl ?_
  refine K.move (.inr rfl) (gd0 rfl) rfl rfl ?_
  refine K.nil ?_
  refine At.next ?_
  refine G.seq ?_
  obtain ⟨x2, hx2, H0⟩ := bnd H0
  refine G.rg ?_
  refine K.move (.inl rfl) (gd0 rfl) rfl rfl ?_
  refine K.callR [(.func 99, _), ((.tmp 9), _)] (cmp_isNaN_con (k := k) hx2) (toFn_func (cf 99 rfl) rfl) (gd0 rfl) ⟨rfl, rfl, trivial⟩ trivial rfl rfl rfl ?_
  refine K.move (.inr rfl) (gd0 rfl) rfl rfl ?_
  refine K.nil ?_
  refine At.next ?_
  refine G.seq ?_
  refine G.seq ?_
  refine G.rg ?_
  refine K.move (.inl rfl) (gd0 rfl) rfl rfl ?_
  refine K.nil ?_
  refine At.next ?_
  refine G.cond rfl (fun h1 => ?_) (fun h1 => ?_)
  ·
    replace H0 := bif_t H0 h1
    refine G.seq ?_
    refine G.seq ?_
    refine G.rg ?_
    refine K.move (.inl rfl) (gd0 rfl) rfl rfl ?_
    refine K.nil ?_
    refine At.next ?_
    refine G.cond rfl (fun h2 => ?_) (fun h2 => ?_)
    ·
      replace H0 := bif_t H0 h2
      refine G.seq ?_
      refine G.rg ?_
      refine K.move (.inr rfl) (gd0 rfl) rfl rfl ?_
      refine K.nil ?_
      refine At.next ?_
      refine G.ret ?_
      refine At.over_ret ?_
      refine At.over_ret ?_
      refine At.done Y [(.tmp 4, .c _)] rfl ⟨.tmp rfl, trivial⟩ (to' := []) trivial ?_ ?_ rfl rfl rfl (.inl rfl)
      · cases H0; rfl
      · cases H0; rfl
    ·
      replace H0 := bif_f H0 h2
      refine G.skip ?_
      refine At.next ?_
      refine G.seq ?_
      refine G.rg ?_
      refine K.move (.inr rfl) (gd0 rfl) rfl rfl ?_
      refine K.nil ?_
      refine At.next ?_
      refine G.ret ?_
      refine At.over_ret ?_
      refine At.done Y [(.tmp 4, .c _)] rfl ⟨.tmp rfl, trivial⟩ (to' := []) trivial ?_ ?_ rfl rfl rfl (.inl rfl)
      · cases H0; rfl
      · cases H0; rfl
  ·
    replace H0 := bif_f H0 h1
    refine G.skip ?_
    refine At.next ?_
    refine G.seq ?_
    refine G.seq ?_
    refine G.rg ?_
    refine K.move (.inl rfl) (gd0 rfl) rfl rfl ?_
    refine K.nil ?_
    refine At.next ?_
    refine G.cond rfl (fun h3 => ?_) (fun h3 => ?_)
    ·
      replace H0 := bif_t H0 h3
      refine G.seq ?_
      refine G.rg ?_
      refine K.move (.inr rfl) (gd0 rfl) rfl rfl ?_
      refine K.nil ?_
      refine At.next ?_
      refine G.ret ?_
      refine At.over_ret ?_
      refine At.done Y [(.tmp 4, .c _)] rfl ⟨.tmp rfl, trivial⟩ (to' := []) trivial ?_ ?_ rfl rfl rfl (.inl rfl)
      · cases H0; rfl
      · cases H0; rfl
    ·
      replace H0 := bif_f H0 h3
      refine G.skip ?_
      refine At.next ?_
      refine G.seq ?_
      refine G.seq ?_
      refine G.rg ?_
      refine K.move (.inl rfl) (gd0 rfl) rfl rfl ?_
      refine K.move (.inl rfl) (gd0 rfl) rfl rfl ?_
      refine K.bin (V := .bool (decide (a0 < a1))) (gd0 rfl) rfl rfl (fun _ => rfl) rfl ?_
      refine K.nil ?_
      refine At.next ?_
      refine G.cond rfl (fun h4 => ?_) (fun h4 => ?_)
      ·
        replace H0 := bif_t H0 h4
        refine G.seq ?_
        refine G.rg ?_
        refine K.move (.inr rfl) (gd0 rfl) rfl rfl ?_
        refine K.nil ?_
        refine At.next ?_
        refine G.ret ?_
        refine At.over_ret ?_
        refine At.done Y [(.tmp 4, .c _)] rfl ⟨.tmp rfl, trivial⟩ (to' := []) trivial ?_ ?_ rfl rfl rfl (.inl rfl)
        · cases H0; rfl
        · cases H0; rfl
      ·
        replace H0 := bif_f H0 h4
        refine G.skip ?_
        refine At.next ?_
        refine G.seq ?_
        refine G.seq ?_
        refine G.rg ?_
        refine K.move (.inl rfl) (gd0 rfl) rfl rfl ?_
        refine K.move (.inl rfl) (gd0 rfl) rfl rfl ?_
        refine K.bin (V := .bool (decide (a0 > a1))) (gd0 rfl) rfl rfl (fun _ => rfl) rfl ?_
        refine K.nil ?_
        refine At.next ?_
        refine G.cond rfl (fun h5 => ?_) (fun h5 => ?_)
        ·
          replace H0 := bif_t H0 h5
          refine G.seq ?_
          refine G.rg ?_
          refine K.move (.inr rfl) (gd0 rfl) rfl rfl ?_
          refine K.nil ?_
          refine At.next ?_
          refine G.ret ?_
          refine At.over_ret ?_
          refine At.done Y [(.tmp 4, .c _)] rfl ⟨.tmp rfl, trivial⟩ (to' := []) trivial ?_ ?_ rfl rfl rfl (.inl rfl)
          · cases H0; rfl
          · cases H0; rfl
        ·
          replace H0 := bif_f H0 h5
          refine G.skip ?_
          refine At.next ?_
          refine G.seq ?_
          refine G.rg ?_
          refine K.move (.inr rfl) (gd0 rfl) rfl rfl ?_
          refine K.nil ?_
          refine At.next ?_
          refine G.ret ?_
          refine At.done Y [(.tmp 4, .c _)] rfl ⟨.tmp rfl, trivial⟩ (to' := []) trivial ?_ ?_ rfl rfl rfl (.inl rfl)
          · cases H0; rfl
          · cases H0; rfl
theorem cmp_Compare_con {k : Nat}  {a0 : Int} {a1 : Int} {r : Int}  (H0 : cmp_Compare.f k a0 a1 = some r) : SCon Try.prog 97 [.a (.c (.v (.int .i64 a0))), .a (.c (.v (.int .i64 a1)))] [] (.a (.c (.v (.int .i64 r)))) [] [] :=
  SCon.ren (rn []) (cmp_Compare_con0 (k := k)   H0) trivial trivial (by simp) (by simp)
theorem wave_Mark_Compare_con0 {k : Nat}  {a0 : TMark} {a1 : TMark} {r : Int}  (H0 : wave_Mark_Compare.f k a0 a1 = some r) : SCon Try.prog 95 [.a (.agg ((eTMark a0).map .v)), .a (.agg ((eTMark a1).map .v))] [] (.a (.c (.v (.int .i64 r)))) [] [] := by
  rw [wave_Mark_Compare.f] at H0
  refine spec_of [(0, _), (1, _)] [] 12 Try.func95 rfl Try.ntmps95 rfl rfl rfl rfl (fun β W F => ?_)
  refine G.seq ?_
  refine G.rg ?_
  refine K.box Y 100 [_, _, _, _, _, _, _, _] (gd0 rfl) rfl rfl rfl rfl rfl rfl ?_
  refine K.box Y 101 [_, _, _, _, _, _, _, _] (gd0 rfl) rfl rfl rfl rfl rfl rfl ?_
  refine K.move (.inr rfl) (gd0 rfl) rfl rfl ?_
  refine K.nil ?_
  refine At.next ?_
  refine G.seq ?_
  obtain ⟨x1, hx1, H0⟩ := bnd H0
  refine G.rg ?_
  refine K.fieldAddr Y (gd0 rfl) rfl t39 rfl rfl ?_
  refine K.fieldAddr Y (gd0 rfl) rfl t35 rfl rfl ?_
  refine K.load1 Y (gd0 rfl) rfl rfl t3 rfl rfl ?_
  refine K.fieldAddr Y (gd0 rfl) rfl t39 rfl rfl ?_
  refine K.fieldAddr Y (gd0 rfl) rfl t35 rfl rfl ?_
  refine K.load1 Y (gd0 rfl) rfl rfl t3 rfl rfl ?_
  refine K.callR [(.func 97, _), ((.tmp 7), _), ((.tmp 10), _)] (cmp_Compare_con (k := k) hx1) (toFn_func (cf 97 rfl) rfl) (gd0 rfl) ⟨rfl, rfl, rfl, trivial⟩ trivial rfl rfl rfl ?_
  refine K.move (.inr rfl) (gd0 rfl) rfl rfl ?_
  refine K.nil ?_
  refine At.next ?_
  refine G.ret ?_
  refine At.done Y [(.tmp 4, .c _)] rfl ⟨.tmp rfl, trivial⟩ (to' := []) trivial ?_ ?_ rfl rfl rfl (.inl rfl)
  · cases H0; rfl
  · cases H0; rfl
theorem wave_Mark_Compare_con {k : Nat}  {a0 : TMark} {a1 : TMark} {r : Int}  (H0 : wave_Mark_Compare.f k a0 a1 = some r) : SCon Try.prog 95 [.a (.agg ((eTMark a0).map .v)), .a (.agg ((eTMark a1).map .v))] [] (.a (.c (.v (.int .i64 r)))) [] [] :=
  SCon.ren (rn []) (wave_Mark_Compare_con0 (k := k)   H0) trivial trivial (by simp) (by simp)
theorem wave_Swell_taken_con0 {k : Nat}  {a0 : TSwell} {r : TTook}  (H0 : wave_Swell_taken.f k a0 = some r) : SCon Try.prog 102 [.a (.agg ((eTSwell a0).map .v))] [] (.a (.agg ((eTTook r).map .v))) [] [] := by
  rw [wave_Swell_taken.f] at H0
  refine spec_of [(0, _)] [] 12 Try.func102 rfl Try.ntmps102 rfl rfl rfl rfl (fun β W F => ?_)
  refine G.seq ?_
  refine G.rg ?_
  refine K.box Y 100 [_, _, _, _, _, _, _, _, _, _, _, _, _, _, _, _] (gd0 rfl) rfl rfl rfl rfl rfl rfl ?_
  refine K.alloc Y 101 [_, _, _] (gd0 rfl) t37 rfl rfl rfl rfl rfl ?_
  refine K.nil ?_
  refine At.next ?_
  refine G.seq ?_
  refine G.seq ?_
  refine G.rg ?_
  refine K.fieldAddr Y (gd0 rfl) rfl t43 rfl rfl ?_
  refine K.load1 Y (gd0 rfl) rfl rfl t3 rfl rfl ?_
  refine K.fieldAddr Y (gd0 rfl) rfl t43 rfl rfl ?_
  refine K.load1 Y (gd0 rfl) rfl rfl t3 rfl rfl ?_
  refine K.bin (V := .bool (a0.deletes == a0.free)) (gd0 rfl) rfl rfl (fun _ => rfl) rfl ?_
  refine K.nil ?_
  refine At.next ?_
  refine G.cond rfl (fun h1 => ?_) (fun h1 => ?_)
  ·
    replace H0 := bif_t H0 h1
    refine G.seq ?_
    refine G.rg ?_
    refine K.build Y [] [_, _, _] [] (gd0 rfl) (AllE.spec trivial) rfl rfl t37 rfl rfl ?_
    refine K.store Y [_, _, _] (gd0 rfl) rfl rfl rfl t37 rfl rfl rfl rfl rfl ?_
    refine K.nil ?_
    refine At.next ?_
    refine G.ret ?_
    refine At.over_ret ?_
    refine At.done Y [(.cell 2 37, .agg [_, _, _])] rfl ⟨.st rfl rfl t37 rfl rfl, trivial⟩ (to' := []) trivial ?_ ?_ rfl rfl rfl (.inl rfl)
    · cases H0; rfl
    · cases H0; rfl
  ·
    replace H0 := bif_f H0 h1
    refine G.skip ?_
    refine At.next ?_
    refine G.seq ?_
    refine G.rg ?_
    refine K.fieldAddr Y (gd0 rfl) rfl t43 rfl rfl ?_
    refine K.loadS Y [_, _] (gd0 rfl) rfl rfl t33 rfl rfl rfl ?_
    refine K.build Y [(0, _), (1, _)] [_, _, _] [(_, _), ((.tmp 10), _)] (gd0 rfl) (AllE.spec ⟨rfl, rfl, trivial⟩) rfl rfl t37 rfl rfl ?_
    refine K.store Y [_, _, _] (gd0 rfl) rfl rfl rfl t37 rfl rfl rfl rfl rfl ?_
    refine K.nil ?_
    refine At.next ?_
    refine G.ret ?_
    refine At.done Y [(.cell 2 37, .agg [_, _, _])] rfl ⟨.st rfl rfl t37 rfl rfl, trivial⟩ (to' := []) trivial ?_ ?_ rfl rfl rfl (.inl rfl)
    · cases H0; rfl
    · cases H0; rfl
theorem wave_Swell_taken_con {k : Nat}  {a0 : TSwell} {r : TTook}  (H0 : wave_Swell_taken.f k a0 = some r) : SCon Try.prog 102 [.a (.agg ((eTSwell a0).map .v))] [] (.a (.agg ((eTTook r).map .v))) [] [] :=
  SCon.ren (rn []) (wave_Swell_taken_con0 (k := k)   H0) trivial trivial (by simp) (by simp)
theorem cmp_Or_con0 {k : Nat}  {S : Foot} {W0 : World} {s0 : Value} {l0 : List Int} {r : Int} (hL0 : LArg S W0 s0 intE 1 l0) (H0 : cmp_Or.f k l0 = some r) : SCon Try.prog 105 [SV.raw s0] [(0, rd S W0)] (.a (.c (.v (.int .i64 r)))) [(0, rd S W0)] [] := by
  rw [cmp_Or.f] at H0
  obtain ⟨b0, o0, hI0⟩ := hL0
  refine spec_of [(0, _)] [(0, _)] 18 Try.func105 rfl Try.ntmps105 rfl rfl rfl rfl (fun β W F => ?_)
  refine G.seq ?_
  refine G.rg ?_
  refine K.move (.inr rfl) (gd0 rfl) rfl rfl ?_
  refine K.nil ?_
  refine At.next ?_
  refine G.seq ?_
  refine G.rg ?_
  refine K.move (.inr rfl) (gd0 rfl) rfl rfl ?_
  refine K.nil ?_
  refine At.next ?_
  obtain ⟨x1, H1, H0⟩ := bnd H0
  refine G.seqJ (σ := { v : Unit // x1 = Sum.inr v }) (fun q => [(3, .a (.c (.v (.int .i64 0))))]) (fun q => [(0, rd S W0)]) ?_ ?_
  ·
    refine G.seq ?_
    refine G.rg ?_
    refine K.move (.inl rfl) (gd0 rfl) rfl rfl ?_
    refine K.lenL (rV 0 S W0 s0 b0 o0 intE 1 l0) (hI0.is 0) (gd0 rfl) rfl rfl Try.underlying60 rfl ?_
    refine K.move (.inl rfl) (gd0 rfl) rfl rfl ?_
    refine K.nil ?_
    refine At.next ?_
    refine G.block ?_
    refine G.loop (σ := { q : Nat × (Int) // cmp_Or.l0 k l0 q.1 q.2 = some x1 }) (fun q => [(3, .a (.c (.v (.int .i64 0)))), (6, SV.raw s0), (7, .a (.c (.v (.int .i64 (l0.length : Int))))), (8, .a (.c (.v (.int .i64 q.1.2))))]) (fun q => [(0, rd S W0)]) (fun q => q.1.1) ⟨(k, 0), H1⟩ ?_ ?_
    · exact At.into [] [_] rfl ⟨rfl, rfl, rfl, rfl, trivial⟩ ⟨rfl, (fun _ => rfl), trivial⟩ rfl
    ·
      rintro ⟨⟨n0, v1⟩, H1⟩
      show G _ _ [(3, .a (.c (.v (.int .i64 0)))), (6, SV.raw s0), (7, .a (.c (.v (.int .i64 (l0.length : Int))))), (8, .a (.c (.v (.int .i64 v1))))] [(0, some (rd S W0))] _ _
      cases n0 with
      | zero => exact absurd H1 (by simp [cmp_Or.l0])
      | succ n0 =>
        have HL0 := H1
        rw [cmp_Or.l0] at H1
        refine G.seq ?_
        refine G.rg ?_
        refine K.bin (V := .bool (decide (v1 < (l0.length : Int)))) (gd0 rfl) rfl rfl (fun _ => rfl) rfl ?_
        refine K.nil ?_
        refine At.next ?_
        refine G.seq ?_
        refine G.cond rfl (fun h1 => ?_) (fun h1 => ?_)
        ·
          replace H1 := bif_t H1 h1
          refine G.skip ?_
          refine At.next ?_
          refine G.seq ?_
          refine G.block ?_
          refine G.seq ?_
          obtain ⟨x2, hx2, H1⟩ := bnd H1
          refine G.rg ?_
          refine K.idxL (rV 0 S W0 s0 b0 o0 intE 1 l0) ((v1).toNat) (hI0.is 0) (atL_get hx2) (atL_nn hx2) (gd0 rfl) rfl rfl rfl Try.underlying60 el60.size_run rfl ?_
          refine K.load1L Y (rV 0 S W0 s0 b0 o0 intE 1 l0) ((v1).toNat) 0 (hI0.is 0) (atL_get hx2) (gd0 rfl) rfl rfl t3 rfl rfl ?_
          refine K.move (.inr rfl) (gd0 rfl) rfl rfl ?_
          refine K.nil ?_
          refine At.next ?_
          refine G.seq ?_
          refine G.rg ?_
          refine K.move (.inl rfl) (gd0 rfl) rfl rfl ?_
          refine K.move (.inl rfl) (gd0 rfl) rfl rfl ?_
          refine K.bin (V := .bool (x2 != 0)) (gd0 rfl) rfl rfl (fun _ => rfl) rfl ?_
          refine K.nil ?_
          refine At.next ?_
          refine G.cond rfl (fun h2 => ?_) (fun h2 => ?_)
          ·
            replace H1 := bif_t H1 h2
            refine G.seq ?_
            refine G.rg ?_
            refine K.move (.inl rfl) (gd0 rfl) rfl rfl ?_
            refine K.move (.inr rfl) (gd0 rfl) rfl rfl ?_
            refine K.nil ?_
            refine At.next ?_
            refine G.ret ?_
            refine At.block_ret ?_
            refine At.over_ret ?_
            refine At.over_ret ?_
            refine At.block_ret ?_
            refine At.over_ret ?_
            cases H1
            replace H0 := sum_l H0
            refine At.done Y [(.tmp 2, .c _)] rfl ⟨.tmp rfl, trivial⟩ (to' := [(0, _)]) ⟨rfl, trivial⟩ ?_ ?_ rfl rfl rfl (.inl rfl)
            · cases H0; rfl
            · cases H0; rfl
          ·
            replace H1 := bif_f H1 h2
            refine G.skip ?_
            refine At.block_normal ?_
            refine At.next ?_
            refine G.rg ?_
            refine K.bin (V := .int .i64 (w64 (v1 + 1))) (gd0 rfl) rfl rfl (fun _ => rfl) rfl ?_
            refine K.move (.inl rfl) (gd0 rfl) rfl rfl ?_
            refine K.nil ?_
            exact At.again (σ := { q : Nat × (Int) // cmp_Or.l0 k l0 q.1 q.2 = some x1 }) (Fs := fun q => [(3, .a (.c (.v (.int .i64 0)))), (6, SV.raw s0), (7, .a (.c (.v (.int .i64 (l0.length : Int))))), (8, .a (.c (.v (.int .i64 q.1.2))))]) (Tl := fun q => [(0, rd S W0)]) (μ := fun q => q.1.1) (s := ⟨(n0 + 1, v1), HL0⟩) ⟨(n0, (w64 (v1 + 1))), H1⟩ [] [_] (Nat.lt_succ_self _) rfl ⟨rfl, rfl, rfl, rfl, trivial⟩ ⟨rfl, (fun _ => rfl), trivial⟩ rfl
        ·
          replace H1 := bif_f H1 h1
          refine G.exit ?_
          refine At.over_exit ?_
          refine At.over_exit ?_
          refine At.block_hit ?_
          exact At.joined (σ := { v : Unit // x1 = Sum.inr v }) (Fs := fun q => [(3, .a (.c (.v (.int .i64 0))))]) (Tl := fun q => [(0, rd S W0)]) ⟨(), (Option.some.inj H1).symm⟩ [] [_] rfl ⟨rfl, trivial⟩ ⟨rfl, (fun _ => rfl), trivial⟩ rfl
  ·
    rintro ⟨v1, rfl⟩
    replace H0 := sum_r H0
    show G _ _ [(3, .a (.c (.v (.int .i64 0))))] [(0, some (rd S W0))] _ _
    refine G.seq ?_
    refine G.rg ?_
    refine K.move (.inl rfl) (gd0 rfl) rfl rfl ?_
    refine K.move (.inr rfl) (gd0 rfl) rfl rfl ?_
    refine K.nil ?_
    refine At.next ?_
    refine G.ret ?_
    refine At.done Y [(.tmp 2, .c _)] rfl ⟨.tmp rfl, trivial⟩ (to' := [(0, _)]) ⟨rfl, trivial⟩ ?_ ?_ rfl rfl rfl (.inl rfl)
    · cases H0; rfl
    · cases H0; rfl
theorem cmp_Or_con {k : Nat}  {S : Foot} {W0 : World} {s0 : Value} {l0 : List Int} {r : Int} (hL0 : LArg S W0 s0 intE 1 l0) (H0 : cmp_Or.f k l0 = some r) : SCon Try.prog 105 [SV.raw s0] [(0, rd S W0)] (.a (.c (.v (.int .i64 r)))) [(0, rd S W0)] [] :=
  SCon.ren (rn []) (cmp_Or_con0 (k := k)  hL0 H0) ⟨(fun _ => rfl), trivial⟩ ⟨(fun _ => rfl), trivial⟩ (by simp) (by simp)
theorem item_Compare_con0 {k : Nat}  {a0 : TItem} {a1 : TItem} {r : Int}  (H0 : item_Compare.f k a0 a1 = some r) : SCon Try.prog 104 [.a (.agg ((eTItem a0).map .v)), .a (.agg ((eTItem a1).map .v))] [] (.a (.c (.v (.int .i64 r)))) [] [] := by
  rw [item_Compare.f] at H0
  refine spec_of [(0, _), (1, _)] [] 17 Try.func104 rfl Try.ntmps104 rfl rfl rfl rfl (fun β W F => ?_)
  refine G.seq ?_
  refine G.rg ?_
  refine K.box Y 100 [_, _] (gd0 rfl) rfl rfl rfl rfl rfl rfl ?_
  refine K.box Y 101 [_, _] (gd0 rfl) rfl rfl rfl rfl rfl rfl ?_
  refine K.move (.inr rfl) (gd0 rfl) rfl rfl ?_
  refine K.nil ?_
  refine At.next ?_
  refine G.seq ?_
  obtain ⟨x1, hx1, H0⟩ := bnd H0
  obtain ⟨x2, hx2, H0⟩ := bnd H0
  obtain ⟨x3, hx3, H0⟩ := bnd H0
  refine G.rd mixed ?_
  refine K.fieldAddr Y (gd0 rfl) rfl t33 rfl rfl ?_
  refine K.load1 Y (gd0 rfl) rfl rfl t3 rfl rfl ?_
  refine K.fieldAddr Y (gd0 rfl) rfl t33 rfl rfl ?_
  refine K.load1 Y (gd0 rfl) rfl rfl t3 rfl rfl ?_
  refine K.callR [(.func 97, _), ((.tmp 6), _), ((.tmp 8), _)] (cmp_Compare_con (k := k) hx1) (toFn_func (cf 97 rfl) rfl) (gd0 rfl) ⟨rfl, rfl, rfl, trivial⟩ trivial rfl rfl rfl ?_
  refine K.fieldAddr Y (gd0 rfl) rfl t33 rfl rfl ?_
  refine K.load1 Y (gd0 rfl) rfl rfl t3 rfl rfl ?_
  refine K.fieldAddr Y (gd0 rfl) rfl t33 rfl rfl ?_
  refine K.load1 Y (gd0 rfl) rfl rfl t3 rfl rfl ?_
  refine K.callR [(.func 97, _), ((.tmp 11), _), ((.tmp 13), _)] (cmp_Compare_con (k := k) hx2) (toFn_func (cf 97 rfl) rfl) (gd0 rfl) ⟨rfl, rfl, rfl, trivial⟩ trivial rfl rfl rfl ?_
  refine K.buildL Y 102 ([x1, x2] : List Int) [(0, _), (1, _)] [((.tmp 9), _), ((.tmp 14), _)] intE_len (gd0 rfl) (AllE.spec ⟨rfl, rfl, trivial⟩) rfl rfl Try.underlying60 t3 rfl rfl rfl rfl rfl rfl rfl rfl ?_
  refine K.callV [(.func 105, _), ((.tmp 15), _)] [(102, lrow 102 3 intE 1 ([x1, x2] : List Int))] [] [] (fun β => [SV.raw ((lrowV 102 3 intE 1 ([x1, x2] : List Int)).s.den β)]) (fun β w S2 h => cmp_Or_con (k := k) ((lrowV_isC intE_len (by decide)).larg ⟨_, List.mem_cons_self⟩ h) hx3) (toFn_func (cf 105 rfl) rfl) (gd0 rfl) ⟨rfl, rfl, trivial⟩ (fun _ => rfl) ⟨rfl, trivial⟩ rfl rfl rfl rfl rfl rfl ?_
  refine K.move (.inr rfl) (gd0 rfl) rfl rfl ?_
  refine K.nil ?_
  refine ⟨by kernel_rfl, ?_⟩
  refine At.next ?_
  refine G.ret ?_
  refine At.done Y [(.tmp 4, .c _)] rfl ⟨.tmp rfl, trivial⟩ (to' := []) trivial ?_ ?_ rfl rfl rfl (.inl rfl)
  · cases H0; rfl
  · cases H0; rfl
theorem item_Compare_con {k : Nat}  {a0 : TItem} {a1 : TItem} {r : Int}  (H0 : item_Compare.f k a0 a1 = some r) : SCon Try.prog 104 [.a (.agg ((eTItem a0).map .v)), .a (.agg ((eTItem a1).map .v))] [] (.a (.c (.v (.int .i64 r)))) [] [] :=
  SCon.ren (rn []) (item_Compare_con0 (k := k)   H0) trivial trivial (by simp) (by simp)
theorem wave_better_con0 {k : Nat}  {a0 : Int} {a1 : TTook} {a2 : TTook} {r : TTook}  (H0 : wave_better.f k a0 a1 a2 = some r) : SCon Try.prog 103 [.a (.c (.v (.int .i64 a0))), .a (.agg ((eTTook a1).map .v)), .a (.agg ((eTTook a2).map .v))] [] (.a (.agg ((eTTook r).map .v))) [] [] := by
  rw [wave_better.f] at H0
  refine spec_of [(0, _), (1, _), (2, _)] [] 26 Try.func103 rfl Try.ntmps103 rfl rfl rfl rfl (fun β W F => ?_)
  refine G.seq ?_
  refine G.rg ?_
  refine K.box Y 100 [_, _, _] (gd0 rfl) rfl rfl rfl rfl rfl rfl ?_
  refine K.box Y 101 [_, _, _] (gd0 rfl) rfl rfl rfl rfl rfl rfl ?_
  refine K.alloc Y 102 [_, _, _] (gd0 rfl) t37 rfl rfl rfl rfl rfl ?_
  refine K.nil ?_
  refine At.next ?_
  refine G.seq ?_
  refine G.seq ?_
  rcases Bool.eq_false_or_eq_true (!a1.found) with h1 | h1
  ·
    replace H0 := bif_t H0 h1
    refine G.rg ?_
    refine K.fieldAddr Y (gd0 rfl) rfl t37 rfl rfl ?_
    refine K.load1 Y (gd0 rfl) rfl rfl t4 rfl rfl ?_
    refine K.un (V := .bool (!a1.found)) (gd0 rfl) rfl (fun _ => rfl) rfl ?_
    refine K.move (.inl rfl) (gd0 rfl) rfl rfl ?_
    refine K.skip rfl rfl rfl rfl (h1) rfl ?_
    refine K.skip rfl rfl rfl rfl (h1) rfl ?_
    refine K.skip rfl rfl rfl rfl (h1) rfl ?_
    refine K.skipU rfl rfl rfl rfl rfl ?_
    refine K.skipU rfl rfl rfl rfl rfl ?_
    refine K.skipU rfl rfl rfl rfl rfl ?_
    refine K.skipU rfl rfl rfl rfl rfl ?_
    refine K.skipU rfl rfl rfl rfl rfl ?_
    refine K.skipU rfl rfl rfl rfl rfl ?_
    refine K.skipU rfl rfl rfl rfl rfl ?_
    refine K.skipU rfl rfl rfl rfl rfl ?_
    refine K.skip rfl rfl rfl rfl (h1) rfl ?_
    refine K.pickT (gd0 rfl) rfl (h1) rfl rfl ?_
    refine K.nil ?_
    refine At.next ?_
    refine G.cond rfl (fun h2 => ?_) (fun h2 => ?_)
    ·
      refine G.seq ?_
      refine G.rg ?_
      refine K.loadS Y [_, _, _] (gd0 rfl) rfl rfl t37 rfl rfl rfl ?_
      refine K.store Y [_, _, _] (gd0 rfl) rfl rfl rfl t37 rfl rfl rfl rfl rfl ?_
      refine K.nil ?_
      refine At.next ?_
      refine G.ret ?_
      refine At.over_ret ?_
      refine At.done Y [(.cell 6 37, .agg [_, _, _])] rfl ⟨.st rfl rfl t37 rfl rfl, trivial⟩ (to' := []) trivial ?_ ?_ rfl rfl rfl (.inl rfl)
      · cases H0; rfl
      · cases H0; rfl
    · cases h2
  ·
    replace H0 := bif_f H0 h1
    rcases Bool.eq_false_or_eq_true a2.found with h3 | h3
    ·
      replace H0 := bif_t H0 h3
      obtain ⟨x1, hx1, H0⟩ := bnd H0
      refine G.rg ?_
      refine K.fieldAddr Y (gd0 rfl) rfl t37 rfl rfl ?_
      refine K.load1 Y (gd0 rfl) rfl rfl t4 rfl rfl ?_
      refine K.un (V := .bool (!a1.found)) (gd0 rfl) rfl (fun _ => rfl) rfl ?_
      refine K.move (.inl rfl) (gd0 rfl) rfl rfl ?_
      refine K.fieldAddr Y (gd1 rfl rfl rfl (h1)) rfl t37 rfl rfl ?_
      refine K.load1 Y (gd1 rfl rfl rfl (h1)) rfl rfl t4 rfl rfl ?_
      refine K.move (.inl rfl) (gd1 rfl rfl rfl (h1)) rfl rfl ?_
      refine K.move (.inl rfl) (gd1 rfl rfl rfl (h3)) rfl rfl ?_
      refine K.fieldAddr Y (gd1 rfl rfl rfl (h3)) rfl t37 rfl rfl ?_
      refine K.loadS Y [_, _] (gd1 rfl rfl rfl (h3)) rfl rfl t33 rfl rfl rfl ?_
      refine K.fieldAddr Y (gd1 rfl rfl rfl (h3)) rfl t37 rfl rfl ?_
      refine K.loadS Y [_, _] (gd1 rfl rfl rfl (h3)) rfl rfl t33 rfl rfl rfl ?_
      refine K.callR [(.func 104, _), ((.tmp 16), _), ((.tmp 18), _)] (item_Compare_con (k := k) hx1) (toFn_func (cf 104 rfl) rfl) (gd1 rfl rfl rfl (h3)) ⟨rfl, rfl, rfl, trivial⟩ trivial rfl rfl rfl ?_
      refine K.bin (V := .int .i64 (w64 (a0 * x1))) (gd1 rfl rfl rfl (h3)) rfl rfl (fun _ => rfl) rfl ?_
      refine K.bin (V := .bool (decide ((w64 (a0 * x1)) < 0))) (gd1 rfl rfl rfl (h3)) rfl rfl (fun _ => rfl) rfl ?_
      refine K.pickT (gd1 rfl rfl rfl (h1)) rfl (h3) rfl rfl ?_
      refine K.pickF (gd0 rfl) rfl (h1) rfl rfl ?_
      refine K.nil ?_
      refine At.next ?_
      refine G.cond rfl (fun h4 => ?_) (fun h4 => ?_)
      ·
        replace H0 := bif_t H0 h4
        refine G.seq ?_
        refine G.rg ?_
        refine K.loadS Y [_, _, _] (gd0 rfl) rfl rfl t37 rfl rfl rfl ?_
        refine K.store Y [_, _, _] (gd0 rfl) rfl rfl rfl t37 rfl rfl rfl rfl rfl ?_
        refine K.nil ?_
        refine At.next ?_
        refine G.ret ?_
        refine At.over_ret ?_
        refine At.done Y [(.cell 6 37, .agg [_, _, _])] rfl ⟨.st rfl rfl t37 rfl rfl, trivial⟩ (to' := []) trivial ?_ ?_ rfl rfl rfl (.inl rfl)
        · cases H0; rfl
        · cases H0; rfl
      ·
        replace H0 := bif_f H0 h4
        refine G.skip ?_
        refine At.next ?_
        refine G.seq ?_
        refine G.rg ?_
        refine K.loadS Y [_, _, _] (gd0 rfl) rfl rfl t37 rfl rfl rfl ?_
        refine K.store Y [_, _, _] (gd0 rfl) rfl rfl rfl t37 rfl rfl rfl rfl rfl ?_
        refine K.nil ?_
        refine At.next ?_
        refine G.ret ?_
        refine At.done Y [(.cell 6 37, .agg [_, _, _])] rfl ⟨.st rfl rfl t37 rfl rfl, trivial⟩ (to' := []) trivial ?_ ?_ rfl rfl rfl (.inl rfl)
        · cases H0; rfl
        · cases H0; rfl
    ·
      replace H0 := bif_f H0 h3
      refine G.rg ?_
      refine K.fieldAddr Y (gd0 rfl) rfl t37 rfl rfl ?_
      refine K.load1 Y (gd0 rfl) rfl rfl t4 rfl rfl ?_
      refine K.un (V := .bool (!a1.found)) (gd0 rfl) rfl (fun _ => rfl) rfl ?_
      refine K.move (.inl rfl) (gd0 rfl) rfl rfl ?_
      refine K.fieldAddr Y (gd1 rfl rfl rfl (h1)) rfl t37 rfl rfl ?_
      refine K.load1 Y (gd1 rfl rfl rfl (h1)) rfl rfl t4 rfl rfl ?_
      refine K.move (.inl rfl) (gd1 rfl rfl rfl (h1)) rfl rfl ?_
      refine K.skip rfl rfl rfl rfl (h3) rfl ?_
      refine K.skip rfl rfl rfl rfl (h3) rfl ?_
      refine K.skip rfl rfl rfl rfl (h3) rfl ?_
      refine K.skip rfl rfl rfl rfl (h3) rfl ?_
      refine K.skip rfl rfl rfl rfl (h3) rfl ?_
      refine K.skip rfl rfl rfl rfl (h3) rfl ?_
      refine K.skip rfl rfl rfl rfl (h3) rfl ?_
      refine K.skip rfl rfl rfl rfl (h3) rfl ?_
      refine K.pickF (gd1 rfl rfl rfl (h1)) rfl (h3) rfl rfl ?_
      refine K.pickF (gd0 rfl) rfl (h1) rfl rfl ?_
      refine K.nil ?_
      refine At.next ?_
      refine G.cond rfl (fun h5 => ?_) (fun h5 => ?_)
      · cases h5
      ·
        refine G.skip ?_
        refine At.next ?_
        refine G.seq ?_
        refine G.rg ?_
        refine K.loadS Y [_, _, _] (gd0 rfl) rfl rfl t37 rfl rfl rfl ?_
        refine K.store Y [_, _, _] (gd0 rfl) rfl rfl rfl t37 rfl rfl rfl rfl rfl ?_
        refine K.nil ?_
        refine At.next ?_
        refine G.ret ?_
        refine At.done Y [(.cell 6 37, .agg [_, _, _])] rfl ⟨.st rfl rfl t37 rfl rfl, trivial⟩ (to' := []) trivial ?_ ?_ rfl rfl rfl (.inl rfl)
        · cases H0; rfl
        · cases H0; rfl
theorem wave_better_con {k : Nat}  {a0 : Int} {a1 : TTook} {a2 : TTook} {r : TTook}  (H0 : wave_better.f k a0 a1 a2 = some r) : SCon Try.prog 103 [.a (.c (.v (.int .i64 a0))), .a (.agg ((eTTook a1).map .v)), .a (.agg ((eTTook a2).map .v))] [] (.a (.agg ((eTTook r).map .v))) [] [] :=
  SCon.ren (rn []) (wave_better_con0 (k := k)   H0) trivial trivial (by simp) (by simp)
theorem wave_Swell_Plus_con0 {k : Nat}  {a0 : TSwell} {a1 : TSwell} {r : TSwell}  (H0 : wave_Swell_Plus.f k a0 a1 = some r) : SCon Try.prog 101 [.a (.agg ((eTSwell a0).map .v)), .a (.agg ((eTSwell a1).map .v))] [] (.a (.agg ((eTSwell r).map .v))) [] [] := by
  rw [wave_Swell_Plus.f] at H0
  refine spec_of [(0, _), (1, _)] [] 42 Try.func101 rfl Try.ntmps101 rfl rfl rfl rfl (fun β W F => ?_)
  refine G.seq ?_
  refine G.rg ?_
  refine K.box Y 100 [_, _, _, _, _, _, _, _, _, _, _, _, _, _, _, _] (gd0 rfl) rfl rfl rfl rfl rfl rfl ?_
  refine K.box Y 101 [_, _, _, _, _, _, _, _, _, _, _, _, _, _, _, _] (gd0 rfl) rfl rfl rfl rfl rfl rfl ?_
  refine K.alloc Y 102 [_, _, _, _, _, _, _, _, _, _, _, _, _, _, _, _] (gd0 rfl) t43 rfl rfl rfl rfl rfl ?_
  refine K.nil ?_
  refine At.next ?_
  refine G.seq ?_
  obtain ⟨x1, hx1, H0⟩ := bnd H0
  obtain ⟨x2, hx2, H0⟩ := bnd H0
  obtain ⟨x3, hx3, H0⟩ := bnd H0
  obtain ⟨x4, hx4, H0⟩ := bnd H0
  obtain ⟨x5, hx5, H0⟩ := bnd H0
  obtain ⟨x6, hx6, H0⟩ := bnd H0
  obtain ⟨x7, hx7, H0⟩ := bnd H0
  refine G.rd mixed ?_
  refine K.fieldAddr Y (gd0 rfl) rfl t43 rfl rfl ?_
  refine K.loadS Y [_, _, _] (gd0 rfl) rfl rfl t41 rfl rfl rfl ?_
  refine K.fieldAddr Y (gd0 rfl) rfl t43 rfl rfl ?_
  refine K.loadS Y [_, _, _] (gd0 rfl) rfl rfl t41 rfl rfl rfl ?_
  refine K.callR [(.func 100, _), ((.tmp 6), _), ((.tmp 8), _)] (tide_Tide_Plus_con (k := k) hx1) (toFn_func (cf 100 rfl) rfl) (gd0 rfl) ⟨rfl, rfl, rfl, trivial⟩ trivial rfl rfl rfl ?_
  refine K.fieldAddr Y (gd0 rfl) rfl t43 rfl rfl ?_
  refine K.loadS Y [_, _, _] (gd0 rfl) rfl rfl t41 rfl rfl rfl ?_
  refine K.fieldAddr Y (gd0 rfl) rfl t43 rfl rfl ?_
  refine K.loadS Y [_, _, _] (gd0 rfl) rfl rfl t41 rfl rfl rfl ?_
  refine K.callR [(.func 100, _), ((.tmp 11), _), ((.tmp 13), _)] (tide_Tide_Plus_con (k := k) hx2) (toFn_func (cf 100 rfl) rfl) (gd0 rfl) ⟨rfl, rfl, rfl, trivial⟩ trivial rfl rfl rfl ?_
  refine K.fieldAddr Y (gd0 rfl) rfl t43 rfl rfl ?_
  refine K.load1 Y (gd0 rfl) rfl rfl t3 rfl rfl ?_
  refine K.fieldAddr Y (gd0 rfl) rfl t43 rfl rfl ?_
  refine K.load1 Y (gd0 rfl) rfl rfl t3 rfl rfl ?_
  refine K.bin (V := .int .i64 (w64 (a0.deletes + a1.deletes))) (gd0 rfl) rfl rfl (fun _ => rfl) rfl ?_
  refine K.fieldAddr Y (gd0 rfl) rfl t43 rfl rfl ?_
  refine K.load1 Y (gd0 rfl) rfl rfl t3 rfl rfl ?_
  refine K.fieldAddr Y (gd0 rfl) rfl t43 rfl rfl ?_
  refine K.load1 Y (gd0 rfl) rfl rfl t3 rfl rfl ?_
  refine K.bin (V := .int .i64 (w64 (a0.free + a1.free))) (gd0 rfl) rfl rfl (fun _ => rfl) rfl ?_
  refine K.loadS Y [_, _, _, _, _, _, _, _, _, _, _, _, _, _, _, _] (gd0 rfl) rfl rfl t43 rfl rfl rfl ?_
  refine K.callR [(.func 102, _), ((.tmp 25), _)] (wave_Swell_taken_con (k := k) hx3) (toFn_func (cf 102 rfl) rfl) (gd0 rfl) ⟨rfl, rfl, trivial⟩ trivial rfl rfl rfl ?_
  refine K.loadS Y [_, _, _, _, _, _, _, _, _, _, _, _, _, _, _, _] (gd0 rfl) rfl rfl t43 rfl rfl rfl ?_
  refine K.callR [(.func 102, _), ((.tmp 27), _)] (wave_Swell_taken_con (k := k) hx4) (toFn_func (cf 102 rfl) rfl) (gd0 rfl) ⟨rfl, rfl, trivial⟩ trivial rfl rfl rfl ?_
  refine K.callR [(.func 103, _), (_, _), ((.tmp 26), _), ((.tmp 28), _)] (wave_better_con (k := k) hx5) (toFn_func (cf 103 rfl) rfl) (gd0 rfl) ⟨rfl, rfl, rfl, rfl, trivial⟩ trivial rfl rfl rfl ?_
  refine K.fieldS Y [_, _] (gd0 rfl) rfl t37 rfl t33 rfl rfl ?_
  refine K.fieldAddr Y (gd0 rfl) rfl t43 rfl rfl ?_
  refine K.loadS Y [_, _, _] (gd0 rfl) rfl rfl t37 rfl rfl rfl ?_
  refine K.fieldAddr Y (gd0 rfl) rfl t43 rfl rfl ?_
  refine K.loadS Y [_, _, _] (gd0 rfl) rfl rfl t37 rfl rfl rfl ?_
  refine K.callR [(.func 103, _), (_, _), ((.tmp 32), _), ((.tmp 34), _)] (wave_better_con (k := k) hx6) (toFn_func (cf 103 rfl) rfl) (gd0 rfl) ⟨rfl, rfl, rfl, rfl, trivial⟩ trivial rfl rfl rfl ?_
  refine K.fieldAddr Y (gd0 rfl) rfl t43 rfl rfl ?_
  refine K.loadS Y [_, _, _] (gd0 rfl) rfl rfl t37 rfl rfl rfl ?_
  refine K.fieldAddr Y (gd0 rfl) rfl t43 rfl rfl ?_
  refine K.loadS Y [_, _, _] (gd0 rfl) rfl rfl t37 rfl rfl rfl ?_
  refine K.callR [(.func 103, _), (_, _), ((.tmp 37), _), ((.tmp 39), _)] (wave_better_con (k := k) hx7) (toFn_func (cf 103 rfl) rfl) (gd0 rfl) ⟨rfl, rfl, rfl, rfl, trivial⟩ trivial rfl rfl rfl ?_
  refine K.build Y [(0, _), (1, _), (2, _), (3, _), (4, _), (5, _), (6, _)] [_, _, _, _, _, _, _, _, _, _, _, _, _, _, _, _] [((.tmp 9), _), ((.tmp 14), _), ((.tmp 19), _), ((.tmp 24), _), ((.tmp 30), _), ((.tmp 35), _), ((.tmp 40), _)] (gd0 rfl) (AllE.spec ⟨rfl, rfl, rfl, rfl, rfl, rfl, rfl, trivial⟩) rfl rfl t43 rfl rfl ?_
  refine K.store Y [_, _, _, _, _, _, _, _, _, _, _, _, _, _, _, _] (gd0 rfl) rfl rfl rfl t43 rfl rfl rfl rfl rfl ?_
  refine K.nil ?_
  refine ⟨by kernel_rfl, ?_⟩
  refine At.next ?_
  refine G.ret ?_
  refine At.done Y [(.cell 4 43, .agg [_, _, _, _, _, _, _, _, _, _, _, _, _, _, _, _])] rfl ⟨.st rfl rfl t43 rfl rfl, trivial⟩ (to' := []) trivial ?_ ?_ rfl rfl rfl (.inl rfl)
  · cases H0; rfl
  · cases H0; rfl
theorem wave_Swell_Plus_con {k : Nat}  {a0 : TSwell} {a1 : TSwell} {r : TSwell}  (H0 : wave_Swell_Plus.f k a0 a1 = some r) : SCon Try.prog 101 [.a (.agg ((eTSwell a0).map .v)), .a (.agg ((eTSwell a1).map .v))] [] (.a (.agg ((eTSwell r).map .v))) [] [] :=
  SCon.ren (rn []) (wave_Swell_Plus_con0 (k := k)   H0) trivial trivial (by simp) (by simp)
end Go.Proofs.Ythcehagablploaa


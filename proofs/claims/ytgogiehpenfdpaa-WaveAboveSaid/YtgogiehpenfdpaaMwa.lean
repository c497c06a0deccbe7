/- Layer 8: walks. Printed by a program of mine. -/
import Derived.KernelRfl
import Derived.Test.YtgogiehpenfdpaaMd
namespace Go.Proofs.Ytgogiehpenfdpaa
open Go Go.Proofs.Ytgogiehpenfdpaa.Sx
set_option linter.unusedVariables false
set_option linter.unusedSimpArgs false

theorem cmp_isNaN_con0 {k : Nat} {a0 : Int} {r : Bool}  (H0 : cmp_isNaN.f k a0 = some r) : SCon Try.prog 83 [.a (.c (.v (.int .i64 a0)))] [] (.a (.c (.v (.bool r)))) [] [] := by
  rw [cmp_isNaN.f] at H0
  refine spec_of [(0, _)] [] 6 Try.func83 rfl Try.ntmps83 rfl rfl rfl rfl (fun β W F => ?_)
  refine G.seq ?_
  refine G.rg ?_
  refine K.move (.inr rfl) (gd0 rfl) rfl rfl ?_
  refine K.nil ?_
  refine At.next ?_
  refine G.seq ?_
  refine G.rg ?_
  refine K.move (.inl rfl) (gd0 rfl) rfl rfl ?_
  refine K.move (.inl rfl) (gd0 rfl) rfl rfl ?_
  refine K.bin (V := .bool (a0 != a0)) (gd0 rfl) rfl rfl (fun _ => rfl) rfl ?_
  refine K.move (.inr rfl) (gd0 rfl) rfl rfl ?_
  refine K.nil ?_
  refine At.next ?_
  refine G.ret ?_
  refine At.done Y [(.tmp 2, .c _)] rfl ⟨.tmp rfl, trivial⟩ (to' := []) trivial ?_ ?_ rfl rfl rfl (.inl rfl)
  · cases H0; rfl
  · cases H0; rfl
theorem cmp_isNaN_con {k : Nat} {a0 : Int} {r : Bool}  (H0 : cmp_isNaN.f k a0 = some r) : SCon Try.prog 83 [.a (.c (.v (.int .i64 a0)))] [] (.a (.c (.v (.bool r)))) [] [] :=
  SCon.ren (rn []) (cmp_isNaN_con0  H0) trivial trivial (by simp) (by simp)
theorem cmp_Compare_con0 {k : Nat} {a0 : Int} {a1 : Int} {r : Int}  (H0 : cmp_Compare.f k a0 a1 = some r) : SCon Try.prog 72 [.a (.c (.v (.int .i64 a0))), .a (.c (.v (.int .i64 a1)))] [] (.a (.c (.v (.int .i64 r)))) [] [] := by
  rw [cmp_Compare.f] at H0
  refine spec_of [(0, _), (1, _)] [] 20 Try.func72 rfl Try.ntmps72 rfl rfl rfl rfl (fun β W F => ?_)
  refine G.seq ?_
  refine G.rg ?_
  refine K.move (.inr rfl) (gd0 rfl) rfl rfl ?_
  refine K.nil ?_
  refine At.next ?_
  refine G.seq ?_
  obtain ⟨x1, hx1, H0⟩ := bnd H0
  refine G.rg ?_
  refine K.move (.inl rfl) (gd0 rfl) rfl rfl ?_
  refine K.callR [(.func 83, _), ((.tmp 7), _)] (cmp_isNaN_con hx1) (toFn_func (cf 83 rfl) rfl) (gd0 rfl) ⟨rfl, rfl, trivial⟩ trivial rfl rfl rfl ?_
  refine K.move (.inr rfl) (gd0 rfl) rfl rfl ?_
  refine K.nil ?_
  refine At.next ?_
  refine G.seq ?_
  obtain ⟨x2, hx2, H0⟩ := bnd H0
  refine G.rg ?_
  refine K.move (.inl rfl) (gd0 rfl) rfl rfl ?_
  refine K.callR [(.func 83, _), ((.tmp 9), _)] (cmp_isNaN_con hx2) (toFn_func (cf 83 rfl) rfl) (gd0 rfl) ⟨rfl, rfl, trivial⟩ trivial rfl rfl rfl ?_
  refine K.move (.inr rfl) (gd0 rfl) rfl rfl ?_
  refine K.nil ?_
  refine At.next ?_
  refine G.seq ?_
  refine G.seq ?_
  refine G.rg ?_
  refine K.move (.inl rfl) (gd0 rfl) rfl rfl ?_
  refine K.nil ?_
  refine At.next ?_
  refine G.cond rfl (fun h1 => ?_) (fun h1 => ?_)
  ·
    replace H0 := bif_t H0 h1
    refine G.seq ?_
    refine G.seq ?_
    refine G.rg ?_
    refine K.move (.inl rfl) (gd0 rfl) rfl rfl ?_
    refine K.nil ?_
    refine At.next ?_
    refine G.cond rfl (fun h2 => ?_) (fun h2 => ?_)
    ·
      replace H0 := bif_t H0 h2
      refine G.seq ?_
      refine G.rg ?_
      refine K.move (.inr rfl) (gd0 rfl) rfl rfl ?_
      refine K.nil ?_
      refine At.next ?_
      refine G.ret ?_
      refine At.over_ret ?_
      refine At.over_ret ?_
      refine At.done Y [(.tmp 4, .c _)] rfl ⟨.tmp rfl, trivial⟩ (to' := []) trivial ?_ ?_ rfl rfl rfl (.inl rfl)
      · cases H0; rfl
      · cases H0; rfl
    ·
      replace H0 := bif_f H0 h2
      refine G.skip ?_
      refine At.next ?_
      refine G.seq ?_
      refine G.rg ?_
      refine K.move (.inr rfl) (gd0 rfl) rfl rfl ?_
      refine K.nil ?_
      refine At.next ?_
      refine G.ret ?_
      refine At.over_ret ?_
      refine At.done Y [(.tmp 4, .c _)] rfl ⟨.tmp rfl, trivial⟩ (to' := []) trivial ?_ ?_ rfl rfl rfl (.inl rfl)
      · cases H0; rfl
      · cases H0; rfl
  ·
    replace H0 := bif_f H0 h1
    refine G.skip ?_
    refine At.next ?_
    refine G.seq ?_
    refine G.seq ?_
    refine G.rg ?_
    refine K.move (.inl rfl) (gd0 rfl) rfl rfl ?_
    refine K.nil ?_
    refine At.next ?_
    refine G.cond rfl (fun h3 => ?_) (fun h3 => ?_)
    ·
      replace H0 := bif_t H0 h3
      refine G.seq ?_
      refine G.rg ?_
      refine K.move (.inr rfl) (gd0 rfl) rfl rfl ?_
      refine K.nil ?_
      refine At.next ?_
      refine G.ret ?_
      refine At.over_ret ?_
      refine At.done Y [(.tmp 4, .c _)] rfl ⟨.tmp rfl, trivial⟩ (to' := []) trivial ?_ ?_ rfl rfl rfl (.inl rfl)
      · cases H0; rfl
      · cases H0; rfl
    ·
      replace H0 := bif_f H0 h3
      refine G.skip ?_
      refine At.next ?_
      refine G.seq ?_
      refine G.seq ?_
      refine G.rg ?_
      refine K.move (.inl rfl) (gd0 rfl) rfl rfl ?_
      refine K.move (.inl rfl) (gd0 rfl) rfl rfl ?_
      refine K.bin (V := .bool (decide (a0 < a1))) (gd0 rfl) rfl rfl (fun _ => rfl) rfl ?_
      refine K.nil ?_
      refine At.next ?_
      refine G.cond rfl (fun h4 => ?_) (fun h4 => ?_)
      ·
        replace H0 := bif_t H0 h4
        refine G.seq ?_
        refine G.rg ?_
        refine K.move (.inr rfl) (gd0 rfl) rfl rfl ?_
        refine K.nil ?_
        refine At.next ?_
        refine G.ret ?_
        refine At.over_ret ?_
        refine At.done Y [(.tmp 4, .c _)] rfl ⟨.tmp rfl, trivial⟩ (to' := []) trivial ?_ ?_ rfl rfl rfl (.inl rfl)
        · cases H0; rfl
        · cases H0; rfl
      ·
        replace H0 := bif_f H0 h4
        refine G.skip ?_
        refine At.next ?_
        refine G.seq ?_
        refine G.seq ?_
        refine G.rg ?_
        refine K.move (.inl rfl) (gd0 rfl) rfl rfl ?_
        refine K.move (.inl rfl) (gd0 rfl) rfl rfl ?_
        refine K.bin (V := .bool (decide (a0 > a1))) (gd0 rfl) rfl rfl (fun _ => rfl) rfl ?_
        refine K.nil ?_
        refine At.next ?_
        refine G.cond rfl (fun h5 => ?_) (fun h5 => ?_)
        ·
          replace H0 := bif_t H0 h5
          refine G.seq ?_
          refine G.rg ?_
          refine K.move (.inr rfl) (gd0 rfl) rfl rfl ?_
          refine K.nil ?_
          refine At.next ?_
          refine G.ret ?_
          refine At.over_ret ?_
          refine At.done Y [(.tmp 4, .c _)] rfl ⟨.tmp rfl, trivial⟩ (to' := []) trivial ?_ ?_ rfl rfl rfl (.inl rfl)
          · cases H0; rfl
          · cases H0; rfl
        ·
          replace H0 := bif_f H0 h5
          refine G.skip ?_
          refine At.next ?_
          refine G.seq ?_
          refine G.rg ?_
          refine K.move (.inr rfl) (gd0 rfl) rfl rfl ?_
          refine K.nil ?_
          refine At.next ?_
          refine G.ret ?_
          refine At.done Y [(.tmp 4, .c _)] rfl ⟨.tmp rfl, trivial⟩ (to' := []) trivial ?_ ?_ rfl rfl rfl (.inl rfl)
          · cases H0; rfl
          · cases H0; rfl
theorem cmp_Compare_con {k : Nat} {a0 : Int} {a1 : Int} {r : Int}  (H0 : cmp_Compare.f k a0 a1 = some r) : SCon Try.prog 72 [.a (.c (.v (.int .i64 a0))), .a (.c (.v (.int .i64 a1)))] [] (.a (.c (.v (.int .i64 r)))) [] [] :=
  SCon.ren (rn []) (cmp_Compare_con0  H0) trivial trivial (by simp) (by simp)
theorem wave_Mark_Compare_con0 {k : Nat} {a0 : TMark} {a1 : TMark} {r : Int}  (H0 : wave_Mark_Compare.f k a0 a1 = some r) : SCon Try.prog 56 [.a (.agg ((eTMark a0).map .v)), .a (.agg ((eTMark a1).map .v))] [] (.a (.c (.v (.int .i64 r)))) [] [] := by
  rw [wave_Mark_Compare.f] at H0
  refine spec_of [(0, _), (1, _)] [] 12 Try.func56 rfl Try.ntmps56 rfl rfl rfl rfl (fun β W F => ?_)
  refine G.seq ?_
  refine G.rg ?_
  refine K.box Y 100 [_, _, _, _, _, _, _, _] (gd0 rfl) rfl rfl rfl rfl rfl rfl ?_
  refine K.box Y 101 [_, _, _, _, _, _, _, _] (gd0 rfl) rfl rfl rfl rfl rfl rfl ?_
  refine K.move (.inr rfl) (gd0 rfl) rfl rfl ?_
  refine K.nil ?_
  refine At.next ?_
  refine G.seq ?_
  obtain ⟨x1, hx1, H0⟩ := bnd H0
  refine G.rg ?_
  refine K.fieldAddr Y (gd0 rfl) rfl t82 rfl rfl ?_
  refine K.fieldAddr Y (gd0 rfl) rfl t73 rfl rfl ?_
  refine K.load1 Y (gd0 rfl) rfl rfl t3 rfl rfl ?_
  refine K.fieldAddr Y (gd0 rfl) rfl t82 rfl rfl ?_
  refine K.fieldAddr Y (gd0 rfl) rfl t73 rfl rfl ?_
  refine K.load1 Y (gd0 rfl) rfl rfl t3 rfl rfl ?_
  refine K.callR [(.func 72, _), ((.tmp 7), _), ((.tmp 10), _)] (cmp_Compare_con hx1) (toFn_func (cf 72 rfl) rfl) (gd0 rfl) ⟨rfl, rfl, rfl, trivial⟩ trivial rfl rfl rfl ?_
  refine K.move (.inr rfl) (gd0 rfl) rfl rfl ?_
  refine K.nil ?_
  refine At.next ?_
  refine G.ret ?_
  refine At.done Y [(.tmp 4, .c _)] rfl ⟨.tmp rfl, trivial⟩ (to' := []) trivial ?_ ?_ rfl rfl rfl (.inl rfl)
  · cases H0; rfl
  · cases H0; rfl
theorem wave_Mark_Compare_con {k : Nat} {a0 : TMark} {a1 : TMark} {r : Int}  (H0 : wave_Mark_Compare.f k a0 a1 = some r) : SCon Try.prog 56 [.a (.agg ((eTMark a0).map .v)), .a (.agg ((eTMark a1).map .v))] [] (.a (.c (.v (.int .i64 r)))) [] [] :=
  SCon.ren (rn []) (wave_Mark_Compare_con0  H0) trivial trivial (by simp) (by simp)
theorem wave_Key_con0 {k : Nat} {a0 : Int} {r : TMark}  (H0 : wave_Key.f k a0 = some r) : SCon Try.prog 47 [.a (.c (.v (.int .i64 a0)))] [] (.a (.agg ((eTMark r).map .v))) [] [] := by
  rw [wave_Key.f] at H0
  refine spec_of [(0, _)] [] 6 Try.func47 rfl Try.ntmps47 rfl rfl rfl rfl (fun β W F => ?_)
  refine G.seq ?_
  refine G.rg ?_
  refine K.alloc Y 100 [_, _, _, _, _, _, _, _] (gd0 rfl) t82 rfl rfl rfl rfl rfl ?_
  refine K.nil ?_
  refine At.next ?_
  refine G.seq ?_
  refine G.rg ?_
  refine K.move (.inl rfl) (gd0 rfl) rfl rfl ?_
  refine K.build Y [(0, _)] [_, _, _, _] [((.tmp 3), _)] (gd0 rfl) (AllE.spec ⟨rfl, trivial⟩) rfl rfl t73 rfl rfl ?_
  refine K.build Y [(0, _)] [_, _, _, _, _, _, _, _] [((.tmp 4), _)] (gd0 rfl) (AllE.spec ⟨rfl, trivial⟩) rfl rfl t82 rfl rfl ?_
  refine K.store Y [_, _, _, _, _, _, _, _] (gd0 rfl) rfl rfl rfl t82 rfl rfl rfl rfl rfl ?_
  refine K.nil ?_
  refine At.next ?_
  refine G.ret ?_
  refine At.done Y [(.cell 2 82, .agg [_, _, _, _, _, _, _, _])] rfl ⟨.st rfl rfl t82 rfl rfl, trivial⟩ (to' := []) trivial ?_ ?_ rfl rfl rfl (.inl rfl)
  · cases H0; rfl
  · cases H0; rfl
theorem wave_Key_con {k : Nat} {a0 : Int} {r : TMark}  (H0 : wave_Key.f k a0 = some r) : SCon Try.prog 47 [.a (.c (.v (.int .i64 a0)))] [] (.a (.agg ((eTMark r).map .v))) [] [] :=
  SCon.ren (rn []) (wave_Key_con0  H0) trivial trivial (by simp) (by simp)
theorem tide_Tide_Plus_con0 {k : Nat} {a0 : TTide} {a1 : TTide} {r : TTide}  (H0 : tide_Tide_Plus.f k a0 a1 = some r) : SCon Try.prog 62 [.a (.agg ((eTTide a0).map .v)), .a (.agg ((eTTide a1).map .v))] [] (.a (.agg ((eTTide r).map .v))) [] [] := by
  rw [tide_Tide_Plus.f] at H0
  refine spec_of [(0, _), (1, _)] [] 32 Try.func62 rfl Try.ntmps62 rfl rfl rfl rfl (fun β W F => ?_)
  refine G.seq ?_
  refine G.rg ?_
  refine K.box Y 100 [_, _, _] (gd0 rfl) rfl rfl rfl rfl rfl rfl ?_
  refine K.box Y 101 [_, _, _] (gd0 rfl) rfl rfl rfl rfl rfl rfl ?_
  refine K.alloc Y 102 [_, _, _] (gd0 rfl) t63 rfl rfl rfl rfl rfl ?_
  refine K.nil ?_
  refine At.next ?_
  refine G.seq ?_
  refine G.seq ?_
  refine G.rg ?_
  refine K.fieldAddr Y (gd0 rfl) rfl t63 rfl rfl ?_
  refine K.load1 Y (gd0 rfl) rfl rfl t3 rfl rfl ?_
  refine K.bin (V := .bool (a0.n == 0)) (gd0 rfl) rfl rfl (fun _ => rfl) rfl ?_
  refine K.nil ?_
  refine At.next ?_
  refine G.cond rfl (fun h1 => ?_) (fun h1 => ?_)
  ·
    replace H0 := bif_t H0 h1
    refine G.seq ?_
    refine G.rg ?_
    refine K.loadS Y [_, _, _] (gd0 rfl) rfl rfl t63 rfl rfl rfl ?_
    refine K.store Y [_, _, _] (gd0 rfl) rfl rfl rfl t63 rfl rfl rfl rfl rfl ?_
    refine K.nil ?_
    refine At.next ?_
    refine G.ret ?_
    refine At.over_ret ?_
    refine At.done Y [(.cell 4 63, .agg [_, _, _])] rfl ⟨.st rfl rfl t63 rfl rfl, trivial⟩ (to' := []) trivial ?_ ?_ rfl rfl rfl (.inl rfl)
    · cases H0; rfl
    · cases H0; rfl
  ·
    replace H0 := bif_f H0 h1
    refine G.skip ?_
    refine At.next ?_
    refine G.seq ?_
    refine G.seq ?_
    refine G.rg ?_
    refine K.fieldAddr Y (gd0 rfl) rfl t63 rfl rfl ?_
    refine K.load1 Y (gd0 rfl) rfl rfl t3 rfl rfl ?_
    refine K.bin (V := .bool (a1.n == 0)) (gd0 rfl) rfl rfl (fun _ => rfl) rfl ?_
    refine K.nil ?_
    refine At.next ?_
    refine G.cond rfl (fun h2 => ?_) (fun h2 => ?_)
    ·
      replace H0 := bif_t H0 h2
      refine G.seq ?_
      refine G.rg ?_
      refine K.loadS Y [_, _, _] (gd0 rfl) rfl rfl t63 rfl rfl rfl ?_
      refine K.store Y [_, _, _] (gd0 rfl) rfl rfl rfl t63 rfl rfl rfl rfl rfl ?_
      refine K.nil ?_
      refine At.next ?_
      refine G.ret ?_
      refine At.over_ret ?_
      refine At.done Y [(.cell 4 63, .agg [_, _, _])] rfl ⟨.st rfl rfl t63 rfl rfl, trivial⟩ (to' := []) trivial ?_ ?_ rfl rfl rfl (.inl rfl)
      · cases H0; rfl
      · cases H0; rfl
    ·
      replace H0 := bif_f H0 h2
      refine G.skip ?_
      refine At.next ?_
      refine G.seq ?_
      refine G.rg ?_
      refine K.fieldAddr Y (gd0 rfl) rfl t63 rfl rfl ?_
      refine K.load1 Y (gd0 rfl) rfl rfl t3 rfl rfl ?_
      refine K.fieldAddr Y (gd0 rfl) rfl t63 rfl rfl ?_
      refine K.load1 Y (gd0 rfl) rfl rfl t3 rfl rfl ?_
      refine K.bin (V := .int .i64 (w64 (a0.n + a1.n))) (gd0 rfl) rfl rfl (fun _ => rfl) rfl ?_
      refine K.fieldAddr Y (gd0 rfl) rfl t63 rfl rfl ?_
      refine K.load1 Y (gd0 rfl) rfl rfl t3 rfl rfl ?_
      refine K.fieldAddr Y (gd0 rfl) rfl t63 rfl rfl ?_
      refine K.load1 Y (gd0 rfl) rfl rfl t3 rfl rfl ?_
      refine K.bin (V := .int .i64 (w64 (a0.sum + a1.sum))) (gd0 rfl) rfl rfl (fun _ => rfl) rfl ?_
      refine K.fieldAddr Y (gd0 rfl) rfl t63 rfl rfl ?_
      refine K.load1 Y (gd0 rfl) rfl rfl t3 rfl rfl ?_
      refine K.fieldAddr Y (gd0 rfl) rfl t63 rfl rfl ?_
      refine K.load1 Y (gd0 rfl) rfl rfl t3 rfl rfl ?_
      refine K.fieldAddr Y (gd0 rfl) rfl t63 rfl rfl ?_
      refine K.load1 Y (gd0 rfl) rfl rfl t3 rfl rfl ?_
      refine K.bin (V := .int .i64 (w64 (a0.sum + a1.low))) (gd0 rfl) rfl rfl (fun _ => rfl) rfl ?_
      refine K.bi2 (V := .int .i64 (gmin a0.low (w64 (a0.sum + a1.low)))) (gd0 rfl) rfl rfl (fun _ _ => rfl) rfl ?_
      refine K.build Y [(0, _), (1, _), (2, _)] [_, _, _] [((.tmp 17), _), ((.tmp 22), _), ((.tmp 30), _)] (gd0 rfl) (AllE.spec ⟨rfl, rfl, rfl, trivial⟩) rfl rfl t63 rfl rfl ?_
      refine K.store Y [_, _, _] (gd0 rfl) rfl rfl rfl t63 rfl rfl rfl rfl rfl ?_
      refine K.nil ?_
      refine At.next ?_
      refine G.ret ?_
      refine At.done Y [(.cell 4 63, .agg [_, _, _])] rfl ⟨.st rfl rfl t63 rfl rfl, trivial⟩ (to' := []) trivial ?_ ?_ rfl rfl rfl (.inl rfl)
      · cases H0; rfl
      · cases H0; rfl
theorem tide_Tide_Plus_con {k : Nat} {a0 : TTide} {a1 : TTide} {r : TTide}  (H0 : tide_Tide_Plus.f k a0 a1 = some r) : SCon Try.prog 62 [.a (.agg ((eTTide a0).map .v)), .a (.agg ((eTTide a1).map .v))] [] (.a (.agg ((eTTide r).map .v))) [] [] :=
  SCon.ren (rn []) (tide_Tide_Plus_con0  H0) trivial trivial (by simp) (by simp)
theorem tide_Of_con0 {k : Nat} {S : Foot} {W0 : World} {s0 : Value} {l0 : List Int} {r : TTide} (hL0 : LArg S W0 s0 intE 1 l0) (H0 : tide_Of.f k l0 = some r) : SCon Try.prog 71 [SV.raw s0] [(0, rd S W0)] (.a (.agg ((eTTide r).map .v))) [(0, rd S W0)] [] := by
  rw [tide_Of.f] at H0
  obtain ⟨b0, o0, hI0⟩ := hL0
  refine spec_of [(0, _)] [(0, _)] 19 Try.func71 rfl Try.ntmps71 rfl rfl rfl rfl (fun β W F => ?_)
  refine G.seq ?_
  refine G.rg ?_
  refine K.alloc Y 100 [_, _, _] (gd0 rfl) t63 rfl rfl rfl rfl rfl ?_
  refine K.nil ?_
  refine At.next ?_
  refine G.seq ?_
  refine G.rg ?_
  refine K.alloc Y 101 [_, _, _] (gd0 rfl) t63 rfl rfl rfl rfl rfl ?_
  refine K.nil ?_
  refine At.next ?_
  obtain ⟨x1, H1, H0⟩ := bnd H0
  refine G.seqJ (σ := { v : TTide // x1 = v }) (fun q => [(2, .a (.c (.p 102 0))), (3, .a (.c (.p 103 0)))]) (fun q => [(0, rd S W0), (102, blk 102 [.v (.int .i64 0), .v (.int .i64 0), .v (.int .i64 0)] 63), (103, blk 103 [.v (.int .i64 q.1.n), .v (.int .i64 q.1.sum), .v (.int .i64 q.1.low)] 63)]) ?_ ?_
  ·
    refine G.seq ?_
    refine G.rg ?_
    refine K.move (.inl rfl) (gd0 rfl) rfl rfl ?_
    refine K.lenL (rV 0 S W0 s0 b0 o0 intE 1 l0) (hI0.is 0) (gd0 rfl) rfl rfl Try.underlying26 rfl ?_
    refine K.move (.inl rfl) (gd0 rfl) rfl rfl ?_
    refine K.nil ?_
    refine At.next ?_
    refine G.block ?_
    refine G.loop (σ := { q : Nat × (TTide × Int) // tide_Of.l0 k l0 q.1 q.2 = some x1 }) (fun q => [(2, .a (.c (.p 108 0))), (3, .a (.c (.p 109 0))), (6, SV.raw s0), (7, .a (.c (.v (.int .i64 (l0.length : Int))))), (8, .a (.c (.v (.int .i64 q.1.2.2))))]) (fun q => [(0, rd S W0), (108, blk 108 [.v (.int .i64 0), .v (.int .i64 0), .v (.int .i64 0)] 63), (109, blk 109 [.v (.int .i64 q.1.2.1.n), .v (.int .i64 q.1.2.1.sum), .v (.int .i64 q.1.2.1.low)] 63)]) (fun q => q.1.1) ⟨(k, (zTTide, 0)), H1⟩ ?_ ?_
    · exact At.into [(108, 100), (109, 101)] [_, _, _] rfl ⟨rfl, rfl, rfl, rfl, rfl, trivial⟩ ⟨rfl, (fun _ => rfl), rfl, (blk_ren rfl rfl), rfl, (blk_ren rfl rfl), trivial⟩ rfl
    ·
      rintro ⟨⟨n0, v1, v2⟩, H1⟩
      show G _ _ [(2, .a (.c (.p 108 0))), (3, .a (.c (.p 109 0))), (6, SV.raw s0), (7, .a (.c (.v (.int .i64 (l0.length : Int))))), (8, .a (.c (.v (.int .i64 v2))))] [(0, some (rd S W0)), (108, some (blk 108 [.v (.int .i64 0), .v (.int .i64 0), .v (.int .i64 0)] 63)), (109, some (blk 109 [.v (.int .i64 v1.n), .v (.int .i64 v1.sum), .v (.int .i64 v1.low)] 63))] _ _
      cases n0 with
      | zero => exact absurd H1 (by simp [tide_Of.l0])
      | succ n0 =>
        have HL0 := H1
        rw [tide_Of.l0] at H1
        refine G.seq ?_
        refine G.rg ?_
        refine K.bin (V := .bool (decide (v2 < (l0.length : Int)))) (gd0 rfl) rfl rfl (fun _ => rfl) rfl ?_
        refine K.nil ?_
        refine At.next ?_
        refine G.seq ?_
        refine G.cond rfl (fun h1 => ?_) (fun h1 => ?_)
        ·
          replace H1 := bif_t H1 h1
          refine G.skip ?_
          refine At.next ?_
          refine G.seq ?_
          refine G.block ?_
          refine G.seq ?_
          obtain ⟨x2, hx2, H1⟩ := bnd H1
          refine G.rg ?_
          refine K.idxL (rV 0 S W0 s0 b0 o0 intE 1 l0) ((v2).toNat) (hI0.is 0) (atL_get hx2) (atL_nn hx2) (gd0 rfl) rfl rfl rfl Try.underlying26 el26.size_run rfl ?_
          refine K.load1L Y (rV 0 S W0 s0 b0 o0 intE 1 l0) ((v2).toNat) 0 (hI0.is 0) (atL_get hx2) (gd0 rfl) rfl rfl t3 rfl rfl ?_
          refine K.move (.inr rfl) (gd0 rfl) rfl rfl ?_
          refine K.nil ?_
          refine At.next ?_
          obtain ⟨x3, hx3, H1⟩ := bnd H1
          refine G.rg ?_
          refine K.loadS Y [_, _, _] (gd0 rfl) rfl rfl t63 rfl rfl rfl ?_
          refine K.move (.inl rfl) (gd0 rfl) rfl rfl ?_
          refine K.move (.inl rfl) (gd0 rfl) rfl rfl ?_
          refine K.build Y [(0, _), (1, _), (2, _)] [_, _, _] [(_, _), ((.tmp 13), _), ((.tmp 14), _)] (gd0 rfl) (AllE.spec ⟨rfl, rfl, rfl, trivial⟩) rfl rfl t63 rfl rfl ?_
          refine K.callR [(.func 62, _), ((.tmp 12), _), ((.tmp 15), _)] (tide_Tide_Plus_con hx3) (toFn_func (cf 62 rfl) rfl) (gd0 rfl) ⟨rfl, rfl, rfl, trivial⟩ trivial rfl rfl rfl ?_
          refine K.store Y [_, _, _] (gd0 rfl) rfl rfl rfl t63 rfl rfl rfl rfl rfl ?_
          refine K.nil ?_
          refine At.block_normal ?_
          refine At.next ?_
          refine G.rg ?_
          refine K.bin (V := .int .i64 (w64 (v2 + 1))) (gd0 rfl) rfl rfl (fun _ => rfl) rfl ?_
          refine K.move (.inl rfl) (gd0 rfl) rfl rfl ?_
          refine K.nil ?_
          exact At.again (σ := { q : Nat × (TTide × Int) // tide_Of.l0 k l0 q.1 q.2 = some x1 }) (Fs := fun q => [(2, .a (.c (.p 108 0))), (3, .a (.c (.p 109 0))), (6, SV.raw s0), (7, .a (.c (.v (.int .i64 (l0.length : Int))))), (8, .a (.c (.v (.int .i64 q.1.2.2))))]) (Tl := fun q => [(0, rd S W0), (108, blk 108 [.v (.int .i64 0), .v (.int .i64 0), .v (.int .i64 0)] 63), (109, blk 109 [.v (.int .i64 q.1.2.1.n), .v (.int .i64 q.1.2.1.sum), .v (.int .i64 q.1.2.1.low)] 63)]) (μ := fun q => q.1.1) (s := ⟨(n0 + 1, (v1, v2)), HL0⟩) ⟨(n0, (x3, (w64 (v2 + 1)))), H1⟩ [] [_, _, _] (Nat.lt_succ_self _) rfl ⟨rfl, rfl, rfl, rfl, rfl, trivial⟩ ⟨rfl, (fun _ => rfl), rfl, (blk_ren rfl rfl), rfl, (blk_ren rfl rfl), trivial⟩ rfl
        ·
          replace H1 := bif_f H1 h1
          refine G.exit ?_
          refine At.over_exit ?_
          refine At.over_exit ?_
          refine At.block_hit ?_
          exact At.joined (σ := { v : TTide // x1 = v }) (Fs := fun q => [(2, .a (.c (.p 102 0))), (3, .a (.c (.p 103 0)))]) (Tl := fun q => [(0, rd S W0), (102, blk 102 [.v (.int .i64 0), .v (.int .i64 0), .v (.int .i64 0)] 63), (103, blk 103 [.v (.int .i64 q.1.n), .v (.int .i64 q.1.sum), .v (.int .i64 q.1.low)] 63)]) ⟨v1, (Option.some.inj H1).symm⟩ [(102, 108), (103, 109)] [_, _, _] rfl ⟨rfl, rfl, trivial⟩ ⟨rfl, (fun _ => rfl), rfl, (blk_ren rfl rfl), rfl, (blk_ren rfl rfl), trivial⟩ rfl
  ·
    rintro ⟨_, rfl⟩
    show G _ _ [(2, .a (.c (.p 102 0))), (3, .a (.c (.p 103 0)))] [(0, some (rd S W0)), (102, some (blk 102 [.v (.int .i64 0), .v (.int .i64 0), .v (.int .i64 0)] 63)), (103, some (blk 103 [.v (.int .i64 x1.n), .v (.int .i64 x1.sum), .v (.int .i64 x1.low)] 63))] _ _
    refine G.seq ?_
    refine G.rg ?_
    refine K.loadS Y [_, _, _] (gd0 rfl) rfl rfl t63 rfl rfl rfl ?_
    refine K.store Y [_, _, _] (gd0 rfl) rfl rfl rfl t63 rfl rfl rfl rfl rfl ?_
    refine K.nil ?_
    refine At.next ?_
    refine G.ret ?_
    refine At.done Y [(.cell 2 63, .agg [_, _, _])] rfl ⟨.st rfl rfl t63 rfl rfl, trivial⟩ (to' := [(0, _)]) ⟨rfl, trivial⟩ ?_ ?_ rfl rfl rfl (.inl rfl)
    · cases H0; rfl
    · cases H0; rfl
theorem tide_Of_con {k : Nat} {S : Foot} {W0 : World} {s0 : Value} {l0 : List Int} {r : TTide} (hL0 : LArg S W0 s0 intE 1 l0) (H0 : tide_Of.f k l0 = some r) : SCon Try.prog 71 [SV.raw s0] [(0, rd S W0)] (.a (.agg ((eTTide r).map .v))) [(0, rd S W0)] [] :=
  SCon.ren (rn []) (tide_Of_con0 hL0 H0) ⟨(fun _ => rfl), trivial⟩ ⟨(fun _ => rfl), trivial⟩ (by simp) (by simp)
theorem wave_Mark_Sum_con0 {k : Nat} {a0 : TMark} {r : TSwell}  (H0 : wave_Mark_Sum.f k a0 = some r) : SCon Try.prog 55 [.a (.agg ((eTMark a0).map .v))] [] (.a (.agg ((eTSwell r).map .v))) [] [] := by
  rw [wave_Mark_Sum.f] at H0
  refine spec_of [(0, _)] [] 48 Try.func55 rfl Try.ntmps55 rfl rfl rfl rfl (fun β W F => ?_)
  refine G.seq ?_
  refine G.rg ?_
  refine K.box Y 100 [_, _, _, _, _, _, _, _] (gd0 rfl) rfl rfl rfl rfl rfl rfl ?_
  refine K.alloc Y 101 [_, _, _, _, _, _, _, _, _, _, _, _, _, _, _, _] (gd0 rfl) t67 rfl rfl rfl rfl rfl ?_
  refine K.nil ?_
  refine At.next ?_
  obtain ⟨x1, H1, H0⟩ := bnd H0
  refine G.seqJ (σ := { v : Unit // x1 = Sum.inr v }) (fun q => [(1, .a (.c (.p 102 0))), (2, .a (.c (.p 103 0)))]) (fun q => [(102, blk 102 [.v (.int .i64 a0.op.time), .v (.bool a0.op.insert), .v (.int .i64 a0.op.item.key), .v (.int .i64 a0.op.item.id), .v (.bool a0.here), .v (.bool a0.took.found), .v (.int .i64 a0.took.item.key), .v (.int .i64 a0.took.item.id)] 82), (103, blk 103 [.v (.int .i64 0), .v (.int .i64 0), .v (.int .i64 0), .v (.int .i64 0), .v (.int .i64 0), .v (.int .i64 0), .v (.int .i64 0), .v (.int .i64 0), .v (.int .i64 0), .v (.int .i64 0), .v (.bool false), .v (.int .i64 0), .v (.int .i64 0), .v (.bool false), .v (.int .i64 0), .v (.int .i64 0)] 67)]) ?_ ?_
  ·
    refine G.block ?_
    obtain ⟨x2, H2, H1⟩ := bnd H1
    refine G.seqJ (σ := { v : Bool // x2 = v }) (fun q => [(1, .a (.c (.p 104 0))), (2, .a (.c (.p 105 0))), (4, .a (.c (.v (.bool q.1))))]) (fun q => [(104, blk 104 [.v (.int .i64 a0.op.time), .v (.bool a0.op.insert), .v (.int .i64 a0.op.item.key), .v (.int .i64 a0.op.item.id), .v (.bool a0.here), .v (.bool a0.took.found), .v (.int .i64 a0.took.item.key), .v (.int .i64 a0.took.item.id)] 82), (105, blk 105 [.v (.int .i64 0), .v (.int .i64 0), .v (.int .i64 0), .v (.int .i64 0), .v (.int .i64 0), .v (.int .i64 0), .v (.int .i64 0), .v (.int .i64 0), .v (.int .i64 0), .v (.int .i64 0), .v (.bool false), .v (.int .i64 0), .v (.int .i64 0), .v (.bool false), .v (.int .i64 0), .v (.int .i64 0)] 67)]) ?_ ?_
    ·
      rcases Bool.eq_false_or_eq_true a0.op.insert with h1 | h1
      ·
        replace H2 := bif_t H2 h1
        refine G.rg ?_
        refine K.fieldAddr Y (gd0 rfl) rfl t82 rfl rfl ?_
        refine K.fieldAddr Y (gd0 rfl) rfl t73 rfl rfl ?_
        refine K.load1 Y (gd0 rfl) rfl rfl t4 rfl rfl ?_
        refine K.move (.inl rfl) (gd0 rfl) rfl rfl ?_
        refine K.fieldAddr Y (gd1 rfl rfl rfl (h1)) rfl t82 rfl rfl ?_
        refine K.load1 Y (gd1 rfl rfl rfl (h1)) rfl rfl t4 rfl rfl ?_
        refine K.pickT (gd0 rfl) rfl (h1) rfl rfl ?_
        refine K.move (.inr rfl) (gd0 rfl) rfl rfl ?_
        refine K.nil ?_
        exact At.joined (σ := { v : Bool // x2 = v }) (Fs := fun q => [(1, .a (.c (.p 104 0))), (2, .a (.c (.p 105 0))), (4, .a (.c (.v (.bool q.1))))]) (Tl := fun q => [(104, blk 104 [.v (.int .i64 a0.op.time), .v (.bool a0.op.insert), .v (.int .i64 a0.op.item.key), .v (.int .i64 a0.op.item.id), .v (.bool a0.here), .v (.bool a0.took.found), .v (.int .i64 a0.took.item.key), .v (.int .i64 a0.took.item.id)] 82), (105, blk 105 [.v (.int .i64 0), .v (.int .i64 0), .v (.int .i64 0), .v (.int .i64 0), .v (.int .i64 0), .v (.int .i64 0), .v (.int .i64 0), .v (.int .i64 0), .v (.int .i64 0), .v (.int .i64 0), .v (.bool false), .v (.int .i64 0), .v (.int .i64 0), .v (.bool false), .v (.int .i64 0), .v (.int .i64 0)] 67)]) ⟨a0.here, (Option.some.inj H2).symm⟩ [(104, 100), (105, 101)] [_, _] rfl ⟨rfl, rfl, rfl, trivial⟩ ⟨rfl, (blk_ren rfl rfl), rfl, (blk_ren rfl rfl), trivial⟩ rfl
      ·
        replace H2 := bif_f H2 h1
        refine G.rg ?_
        refine K.fieldAddr Y (gd0 rfl) rfl t82 rfl rfl ?_
        refine K.fieldAddr Y (gd0 rfl) rfl t73 rfl rfl ?_
        refine K.load1 Y (gd0 rfl) rfl rfl t4 rfl rfl ?_
        refine K.move (.inl rfl) (gd0 rfl) rfl rfl ?_
        refine K.skip rfl rfl rfl rfl (h1) rfl ?_
        refine K.skip rfl rfl rfl rfl (h1) rfl ?_
        refine K.pickF (gd0 rfl) rfl (h1) rfl rfl ?_
        refine K.move (.inr rfl) (gd0 rfl) rfl rfl ?_
        refine K.nil ?_
        exact At.joined (σ := { v : Bool // x2 = v }) (Fs := fun q => [(1, .a (.c (.p 104 0))), (2, .a (.c (.p 105 0))), (4, .a (.c (.v (.bool q.1))))]) (Tl := fun q => [(104, blk 104 [.v (.int .i64 a0.op.time), .v (.bool a0.op.insert), .v (.int .i64 a0.op.item.key), .v (.int .i64 a0.op.item.id), .v (.bool a0.here), .v (.bool a0.took.found), .v (.int .i64 a0.took.item.key), .v (.int .i64 a0.took.item.id)] 82), (105, blk 105 [.v (.int .i64 0), .v (.int .i64 0), .v (.int .i64 0), .v (.int .i64 0), .v (.int .i64 0), .v (.int .i64 0), .v (.int .i64 0), .v (.int .i64 0), .v (.int .i64 0), .v (.int .i64 0), .v (.bool false), .v (.int .i64 0), .v (.int .i64 0), .v (.bool false), .v (.int .i64 0), .v (.int .i64 0)] 67)]) ⟨false, (Option.some.inj H2).symm⟩ [(104, 100), (105, 101)] [_, _] rfl ⟨rfl, rfl, rfl, trivial⟩ ⟨rfl, (blk_ren rfl rfl), rfl, (blk_ren rfl rfl), trivial⟩ rfl
    ·
      rintro ⟨_, rfl⟩
      show G _ _ [(1, .a (.c (.p 104 0))), (2, .a (.c (.p 105 0))), (4, .a (.c (.v (.bool x2))))] [(104, some (blk 104 [.v (.int .i64 a0.op.time), .v (.bool a0.op.insert), .v (.int .i64 a0.op.item.key), .v (.int .i64 a0.op.item.id), .v (.bool a0.here), .v (.bool a0.took.found), .v (.int .i64 a0.took.item.key), .v (.int .i64 a0.took.item.id)] 82)), (105, some (blk 105 [.v (.int .i64 0), .v (.int .i64 0), .v (.int .i64 0), .v (.int .i64 0), .v (.int .i64 0), .v (.int .i64 0), .v (.int .i64 0), .v (.int .i64 0), .v (.int .i64 0), .v (.int .i64 0), .v (.bool false), .v (.int .i64 0), .v (.int .i64 0), .v (.bool false), .v (.int .i64 0), .v (.int .i64 0)] 67))] _ _
      refine G.cond rfl (fun h2 => ?_) (fun h2 => ?_)
      ·
        replace H1 := bif_t H1 h2
        refine G.seq ?_
        obtain ⟨x3, hx3, H1⟩ := bnd H1
        obtain ⟨x4, hx4, H1⟩ := bnd H1
        refine G.rd mixed ?_
        refine K.buildL Y 106 ([1] : List Int) [(0, _)] [(_, _)] intE_len (gd0 rfl) (AllE.spec ⟨rfl, trivial⟩) rfl rfl Try.underlying26 t3 rfl rfl rfl rfl rfl rfl rfl rfl ?_
        refine K.callV [(.func 71, _), ((.tmp 12), _)] [(106, lrow 106 3 intE 1 ([1] : List Int))] [] [] (fun β => [SV.raw ((lrowV 106 3 intE 1 ([1] : List Int)).s.den β)]) (fun β w S2 h => tide_Of_con ((lrowV_isC intE_len (by decide)).larg ⟨_, List.mem_cons_self⟩ h) hx3) (toFn_func (cf 71 rfl) rfl) (gd0 rfl) ⟨rfl, rfl, trivial⟩ (fun _ => rfl) ⟨rfl, trivial⟩ rfl rfl rfl rfl rfl rfl ?_
        refine K.buildL Y 107 ([0] : List Int) [(0, _)] [(_, _)] intE_len (gd0 rfl) (AllE.spec ⟨rfl, trivial⟩) rfl rfl Try.underlying26 t3 rfl rfl rfl rfl rfl rfl rfl rfl ?_
        refine K.callV [(.func 71, _), ((.tmp 14), _)] [(107, lrow 107 3 intE 1 ([0] : List Int))] [] [] (fun β => [SV.raw ((lrowV 107 3 intE 1 ([0] : List Int)).s.den β)]) (fun β w S2 h => tide_Of_con ((lrowV_isC intE_len (by decide)).larg ⟨_, List.mem_cons_self⟩ h) hx4) (toFn_func (cf 71 rfl) rfl) (gd0 rfl) ⟨rfl, rfl, trivial⟩ (fun _ => rfl) ⟨rfl, trivial⟩ rfl rfl rfl rfl rfl rfl ?_
        refine K.fieldAddr Y (gd0 rfl) rfl t82 rfl rfl ?_
        refine K.fieldAddr Y (gd0 rfl) rfl t73 rfl rfl ?_
        refine K.loadS Y [_, _] (gd0 rfl) rfl rfl t37 rfl rfl rfl ?_
        refine K.build Y [(0, _), (1, _)] [_, _, _] [(_, _), ((.tmp 18), _)] (gd0 rfl) (AllE.spec ⟨rfl, rfl, trivial⟩) rfl rfl t65 rfl rfl ?_
        refine K.build Y [(0, _), (1, _), (6, _)] [_, _, _, _, _, _, _, _, _, _, _, _, _, _, _, _] [((.tmp 13), _), ((.tmp 15), _), ((.tmp 19), _)] (gd0 rfl) (AllE.spec ⟨rfl, rfl, rfl, trivial⟩) rfl rfl t67 rfl rfl ?_
        refine K.store Y [_, _, _, _, _, _, _, _, _, _, _, _, _, _, _, _] (gd0 rfl) rfl rfl rfl t67 rfl rfl rfl rfl rfl ?_
        refine K.nil ?_
        refine ⟨by kernel_rfl, ?_⟩
        refine At.next ?_
        refine G.ret ?_
        refine At.block_ret ?_
        refine At.over_ret ?_
        cases H1
        replace H0 := sum_l H0
        refine At.done Y [(.cell 2 67, .agg [_, _, _, _, _, _, _, _, _, _, _, _, _, _, _, _])] rfl ⟨.st rfl rfl t67 rfl rfl, trivial⟩ (to' := []) trivial ?_ ?_ rfl rfl rfl (.inl rfl)
        · cases H0; rfl
        · cases H0; rfl
      ·
        replace H1 := bif_f H1 h2
        refine G.seq ?_
        refine G.rg ?_
        refine K.fieldAddr Y (gd0 rfl) rfl t82 rfl rfl ?_
        refine K.fieldAddr Y (gd0 rfl) rfl t73 rfl rfl ?_
        refine K.load1 Y (gd0 rfl) rfl rfl t4 rfl rfl ?_
        refine K.move (.inr rfl) (gd0 rfl) rfl rfl ?_
        refine K.nil ?_
        refine At.next ?_
        refine G.cond rfl (fun h3 => ?_) (fun h3 => ?_)
        ·
          replace H1 := bif_t H1 h3
          refine G.seq ?_
          obtain ⟨x5, hx5, H1⟩ := bnd H1
          obtain ⟨x6, hx6, H1⟩ := bnd H1
          refine G.rd mixed ?_
          refine K.buildL Y 108 ([1] : List Int) [(0, _)] [(_, _)] intE_len (gd0 rfl) (AllE.spec ⟨rfl, trivial⟩) rfl rfl Try.underlying26 t3 rfl rfl rfl rfl rfl rfl rfl rfl ?_
          refine K.callV [(.func 71, _), ((.tmp 25), _)] [(108, lrow 108 3 intE 1 ([1] : List Int))] [] [] (fun β => [SV.raw ((lrowV 108 3 intE 1 ([1] : List Int)).s.den β)]) (fun β w S2 h => tide_Of_con ((lrowV_isC intE_len (by decide)).larg ⟨_, List.mem_cons_self⟩ h) hx5) (toFn_func (cf 71 rfl) rfl) (gd0 rfl) ⟨rfl, rfl, trivial⟩ (fun _ => rfl) ⟨rfl, trivial⟩ rfl rfl rfl rfl rfl rfl ?_
          refine K.buildL Y 109 ([1] : List Int) [(0, _)] [(_, _)] intE_len (gd0 rfl) (AllE.spec ⟨rfl, trivial⟩) rfl rfl Try.underlying26 t3 rfl rfl rfl rfl rfl rfl rfl rfl ?_
          refine K.callV [(.func 71, _), ((.tmp 27), _)] [(109, lrow 109 3 intE 1 ([1] : List Int))] [] [] (fun β => [SV.raw ((lrowV 109 3 intE 1 ([1] : List Int)).s.den β)]) (fun β w S2 h => tide_Of_con ((lrowV_isC intE_len (by decide)).larg ⟨_, List.mem_cons_self⟩ h) hx6) (toFn_func (cf 71 rfl) rfl) (gd0 rfl) ⟨rfl, rfl, trivial⟩ (fun _ => rfl) ⟨rfl, trivial⟩ rfl rfl rfl rfl rfl rfl ?_
          refine K.fieldAddr Y (gd0 rfl) rfl t82 rfl rfl ?_
          refine K.fieldAddr Y (gd0 rfl) rfl t73 rfl rfl ?_
          refine K.loadS Y [_, _] (gd0 rfl) rfl rfl t37 rfl rfl rfl ?_
          refine K.build Y [(0, _), (1, _)] [_, _, _] [(_, _), ((.tmp 31), _)] (gd0 rfl) (AllE.spec ⟨rfl, rfl, trivial⟩) rfl rfl t65 rfl rfl ?_
          refine K.build Y [(0, _), (1, _), (5, _)] [_, _, _, _, _, _, _, _, _, _, _, _, _, _, _, _] [((.tmp 26), _), ((.tmp 28), _), ((.tmp 32), _)] (gd0 rfl) (AllE.spec ⟨rfl, rfl, rfl, trivial⟩) rfl rfl t67 rfl rfl ?_
          refine K.store Y [_, _, _, _, _, _, _, _, _, _, _, _, _, _, _, _] (gd0 rfl) rfl rfl rfl t67 rfl rfl rfl rfl rfl ?_
          refine K.nil ?_
          refine ⟨by kernel_rfl, ?_⟩
          refine At.next ?_
          refine G.ret ?_
          refine At.block_ret ?_
          refine At.over_ret ?_
          cases H1
          replace H0 := sum_l H0
          refine At.done Y [(.cell 2 67, .agg [_, _, _, _, _, _, _, _, _, _, _, _, _, _, _, _])] rfl ⟨.st rfl rfl t67 rfl rfl, trivial⟩ (to' := []) trivial ?_ ?_ rfl rfl rfl (.inl rfl)
          · cases H0; rfl
          · cases H0; rfl
        ·
          replace H1 := bif_f H1 h3
          refine G.skip ?_
          refine At.block_normal ?_
          exact At.joined (σ := { v : Unit // x1 = Sum.inr v }) (Fs := fun q => [(1, .a (.c (.p 102 0))), (2, .a (.c (.p 103 0)))]) (Tl := fun q => [(102, blk 102 [.v (.int .i64 a0.op.time), .v (.bool a0.op.insert), .v (.int .i64 a0.op.item.key), .v (.int .i64 a0.op.item.id), .v (.bool a0.here), .v (.bool a0.took.found), .v (.int .i64 a0.took.item.key), .v (.int .i64 a0.took.item.id)] 82), (103, blk 103 [.v (.int .i64 0), .v (.int .i64 0), .v (.int .i64 0), .v (.int .i64 0), .v (.int .i64 0), .v (.int .i64 0), .v (.int .i64 0), .v (.int .i64 0), .v (.int .i64 0), .v (.int .i64 0), .v (.bool false), .v (.int .i64 0), .v (.int .i64 0), .v (.bool false), .v (.int .i64 0), .v (.int .i64 0)] 67)]) ⟨(), (Option.some.inj H1).symm⟩ [(102, 104), (103, 105)] [_, _] rfl ⟨rfl, rfl, trivial⟩ ⟨rfl, (blk_ren rfl rfl), rfl, (blk_ren rfl rfl), trivial⟩ rfl
  ·
    rintro ⟨v1, rfl⟩
    replace H0 := sum_r H0
    show G _ _ [(1, .a (.c (.p 102 0))), (2, .a (.c (.p 103 0)))] [(102, some (blk 102 [.v (.int .i64 a0.op.time), .v (.bool a0.op.insert), .v (.int .i64 a0.op.item.key), .v (.int .i64 a0.op.item.id), .v (.bool a0.here), .v (.bool a0.took.found), .v (.int .i64 a0.took.item.key), .v (.int .i64 a0.took.item.id)] 82)), (103, some (blk 103 [.v (.int .i64 0), .v (.int .i64 0), .v (.int .i64 0), .v (.int .i64 0), .v (.int .i64 0), .v (.int .i64 0), .v (.int .i64 0), .v (.int .i64 0), .v (.int .i64 0), .v (.int .i64 0), .v (.bool false), .v (.int .i64 0), .v (.int .i64 0), .v (.bool false), .v (.int .i64 0), .v (.int .i64 0)] 67))] _ _
    refine G.seq ?_
    obtain ⟨x7, hx7, H0⟩ := bnd H0
    obtain ⟨x8, hx8, H0⟩ := bnd H0
    refine G.rg ?_
    refine K.buildL Y 110 ([(-1)] : List Int) [(0, _)] [(_, _)] intE_len (gd0 rfl) (AllE.spec ⟨rfl, trivial⟩) rfl rfl Try.underlying26 t3 rfl rfl rfl rfl rfl rfl rfl rfl ?_
    refine K.callV [(.func 71, _), ((.tmp 34), _)] [(110, lrow 110 3 intE 1 ([(-1)] : List Int))] [] [] (fun β => [SV.raw ((lrowV 110 3 intE 1 ([(-1)] : List Int)).s.den β)]) (fun β w S2 h => tide_Of_con ((lrowV_isC intE_len (by decide)).larg ⟨_, List.mem_cons_self⟩ h) hx7) (toFn_func (cf 71 rfl) rfl) (gd0 rfl) ⟨rfl, rfl, trivial⟩ (fun _ => rfl) ⟨rfl, trivial⟩ rfl rfl rfl rfl rfl rfl ?_
    refine K.buildL Y 111 ([(-1)] : List Int) [(0, _)] [(_, _)] intE_len (gd0 rfl) (AllE.spec ⟨rfl, trivial⟩) rfl rfl Try.underlying26 t3 rfl rfl rfl rfl rfl rfl rfl rfl ?_
    refine K.callV [(.func 71, _), ((.tmp 36), _)] [(111, lrow 111 3 intE 1 ([(-1)] : List Int))] [] [] (fun β => [SV.raw ((lrowV 111 3 intE 1 ([(-1)] : List Int)).s.den β)]) (fun β w S2 h => tide_Of_con ((lrowV_isC intE_len (by decide)).larg ⟨_, List.mem_cons_self⟩ h) hx8) (toFn_func (cf 71 rfl) rfl) (gd0 rfl) ⟨rfl, rfl, trivial⟩ (fun _ => rfl) ⟨rfl, trivial⟩ rfl rfl rfl rfl rfl rfl ?_
    refine K.build Y [(0, _), (1, _), (2, _)] [_, _, _, _, _, _, _, _, _, _, _, _, _, _, _, _] [((.tmp 35), _), ((.tmp 37), _), (_, _)] (gd0 rfl) (AllE.spec ⟨rfl, rfl, rfl, trivial⟩) rfl rfl t67 rfl rfl ?_
    refine K.alloc Y 112 [_, _, _, _, _, _, _, _, _, _, _, _, _, _, _, _] (gd0 rfl) t67 rfl rfl rfl rfl rfl ?_
    refine K.store Y [_, _, _, _, _, _, _, _, _, _, _, _, _, _, _, _] (gd0 rfl) rfl rfl rfl t67 rfl rfl rfl rfl rfl ?_
    refine K.nil ?_
    refine At.next ?_
    refine G.seq ?_
    refine G.seq ?_
    refine G.rg ?_
    refine K.fieldAddr Y (gd0 rfl) rfl t82 rfl rfl ?_
    refine K.fieldAddr Y (gd0 rfl) rfl t65 rfl rfl ?_
    refine K.load1 Y (gd0 rfl) rfl rfl t4 rfl rfl ?_
    refine K.nil ?_
    refine At.next ?_
    refine G.cond rfl (fun h4 => ?_) (fun h4 => ?_)
    ·
      replace H0 := bif_t H0 h4
      refine G.rg ?_
      refine K.fieldAddr Y (gd0 rfl) rfl t82 rfl rfl ?_
      refine K.fieldAddr Y (gd0 rfl) rfl t65 rfl rfl ?_
      refine K.loadS Y [_, _] (gd0 rfl) rfl rfl t37 rfl rfl rfl ?_
      refine K.fieldAddr Y (gd0 rfl) rfl t67 rfl rfl ?_
      refine K.store Y [_, _, _, _, _, _, _, _, _, _, _, _, _, _, _, _] (gd0 rfl) rfl rfl rfl t37 rfl rfl rfl rfl rfl ?_
      refine K.nil ?_
      refine At.next ?_
      refine G.seq ?_
      refine G.rg ?_
      refine K.loadS Y [_, _, _, _, _, _, _, _, _, _, _, _, _, _, _, _] (gd0 rfl) rfl rfl t67 rfl rfl rfl ?_
      refine K.store Y [_, _, _, _, _, _, _, _, _, _, _, _, _, _, _, _] (gd0 rfl) rfl rfl rfl t67 rfl rfl rfl rfl rfl ?_
      refine K.nil ?_
      refine At.next ?_
      refine G.ret ?_
      refine At.done Y [(.cell 2 67, .agg [_, _, _, _, _, _, _, _, _, _, _, _, _, _, _, _])] rfl ⟨.st rfl rfl t67 rfl rfl, trivial⟩ (to' := []) trivial ?_ ?_ rfl rfl rfl (.inl rfl)
      · cases H0; rfl
      · cases H0; rfl
    ·
      replace H0 := bif_f H0 h4
      refine G.rg ?_
      refine K.fieldAddr Y (gd0 rfl) rfl t67 rfl rfl ?_
      refine K.store Y [_, _, _, _, _, _, _, _, _, _, _, _, _, _, _, _] (gd0 rfl) rfl rfl rfl t3 rfl rfl rfl rfl rfl ?_
      refine K.nil ?_
      refine At.next ?_
      refine G.seq ?_
      refine G.rg ?_
      refine K.loadS Y [_, _, _, _, _, _, _, _, _, _, _, _, _, _, _, _] (gd0 rfl) rfl rfl t67 rfl rfl rfl ?_
      refine K.store Y [_, _, _, _, _, _, _, _, _, _, _, _, _, _, _, _] (gd0 rfl) rfl rfl rfl t67 rfl rfl rfl rfl rfl ?_
      refine K.nil ?_
      refine At.next ?_
      refine G.ret ?_
      refine At.done Y [(.cell 2 67, .agg [_, _, _, _, _, _, _, _, _, _, _, _, _, _, _, _])] rfl ⟨.st rfl rfl t67 rfl rfl, trivial⟩ (to' := []) trivial ?_ ?_ rfl rfl rfl (.inl rfl)
      · cases H0; rfl
      · cases H0; rfl
theorem wave_Mark_Sum_con {k : Nat} {a0 : TMark} {r : TSwell}  (H0 : wave_Mark_Sum.f k a0 = some r) : SCon Try.prog 55 [.a (.agg ((eTMark a0).map .v))] [] (.a (.agg ((eTSwell r).map .v))) [] [] :=
  SCon.ren (rn []) (wave_Mark_Sum_con0  H0) trivial trivial (by simp) (by simp)
theorem R06_Sum_con0 {k : Nat} {S : Foot} {W0 : World} {s0 : Value} {l0 : List Int} {a1 : Int} {r : Int} (hL0 : LArg S W0 s0 intE 1 l0) (H0 : R06_Sum.f k l0 a1 = some r) : SCon Try.prog 73 [SV.raw s0, .a (.c (.v (.int .i64 a1)))] [(0, rd S W0)] (.a (.c (.v (.int .i64 r)))) [(0, rd S W0)] [] := by
  rw [R06_Sum.f] at H0
  obtain ⟨b0, o0, hI0⟩ := hL0
  refine spec_of [(0, _), (1, _)] [(0, _)] 19 Try.func73 rfl Try.ntmps73 rfl rfl rfl rfl (fun β W F => ?_)
  refine G.seq ?_
  refine G.rg ?_
  refine K.move (.inr rfl) (gd0 rfl) rfl rfl ?_
  refine K.nil ?_
  refine At.next ?_
  refine G.seq ?_
  refine G.rg ?_
  refine K.move (.inr rfl) (gd0 rfl) rfl rfl ?_
  refine K.nil ?_
  refine At.next ?_
  obtain ⟨x1, H1, H0⟩ := bnd H0
  refine G.seqJ (σ := { v : Int // x1 = v }) (fun q => [(5, .a (.c (.v (.int .i64 q.1))))]) (fun q => [(0, rd S W0)]) ?_ ?_
  ·
    refine G.seq ?_
    refine G.rg ?_
    refine K.move (.inr rfl) (gd0 rfl) rfl rfl ?_
    refine K.nil ?_
    refine At.next ?_
    refine G.block ?_
    refine G.loop (σ := { q : Nat × (Int × Int) // R06_Sum.l0 k l0 a1 q.1 q.2 = some x1 }) (fun q => [(0, SV.raw s0), (1, .a (.c (.v (.int .i64 a1)))), (5, .a (.c (.v (.int .i64 q.1.2.1)))), (6, .a (.c (.v (.int .i64 q.1.2.2))))]) (fun q => [(0, rd S W0)]) (fun q => q.1.1) ⟨(k, (0, 0)), H1⟩ ?_ ?_
    · exact At.into [] [_] rfl ⟨rfl, rfl, rfl, rfl, trivial⟩ ⟨rfl, (fun _ => rfl), trivial⟩ rfl
    ·
      rintro ⟨⟨n0, v1, v2⟩, H1⟩
      show G _ _ [(0, SV.raw s0), (1, .a (.c (.v (.int .i64 a1)))), (5, .a (.c (.v (.int .i64 v1)))), (6, .a (.c (.v (.int .i64 v2))))] [(0, some (rd S W0))] _ _
      cases n0 with
      | zero => exact absurd H1 (by simp [R06_Sum.l0])
      | succ n0 =>
        have HL0 := H1
        rw [R06_Sum.l0] at H1
        refine G.seq ?_
        refine G.seq ?_
        refine G.rg ?_
        refine K.move (.inl rfl) (gd0 rfl) rfl rfl ?_
        refine K.move (.inl rfl) (gd0 rfl) rfl rfl ?_
        refine K.bin (V := .bool (decide (v2 < a1))) (gd0 rfl) rfl rfl (fun _ => rfl) rfl ?_
        refine K.nil ?_
        refine At.next ?_
        refine G.cond rfl (fun h1 => ?_) (fun h1 => ?_)
        ·
          replace H1 := bif_t H1 h1
          refine G.skip ?_
          refine At.next ?_
          refine G.seq ?_
          refine G.block ?_
          obtain ⟨x2, hx2, H1⟩ := bnd H1
          refine G.rg ?_
          refine K.move (.inl rfl) (gd0 rfl) rfl rfl ?_
          refine K.move (.inl rfl) (gd0 rfl) rfl rfl ?_
          refine K.move (.inl rfl) (gd0 rfl) rfl rfl ?_
          refine K.idxL (rV 0 S W0 s0 b0 o0 intE 1 l0) ((v2).toNat) (hI0.is 0) (atL_get hx2) (atL_nn hx2) (gd0 rfl) rfl rfl rfl Try.underlying26 el26.size_run rfl ?_
          refine K.load1L Y (rV 0 S W0 s0 b0 o0 intE 1 l0) ((v2).toNat) 0 (hI0.is 0) (atL_get hx2) (gd0 rfl) rfl rfl t3 rfl rfl ?_
          refine K.bin (V := .int .i64 (w64 (v1 + x2))) (gd0 rfl) rfl rfl (fun _ => rfl) rfl ?_
          refine K.move (.inr rfl) (gd0 rfl) rfl rfl ?_
          refine K.nil ?_
          refine At.block_normal ?_
          refine At.next ?_
          refine G.rg ?_
          refine K.move (.inl rfl) (gd0 rfl) rfl rfl ?_
          refine K.bin (V := .int .i64 (w64 (v2 + 1))) (gd0 rfl) rfl rfl (fun _ => rfl) rfl ?_
          refine K.move (.inr rfl) (gd0 rfl) rfl rfl ?_
          refine K.nil ?_
          exact At.again (σ := { q : Nat × (Int × Int) // R06_Sum.l0 k l0 a1 q.1 q.2 = some x1 }) (Fs := fun q => [(0, SV.raw s0), (1, .a (.c (.v (.int .i64 a1)))), (5, .a (.c (.v (.int .i64 q.1.2.1)))), (6, .a (.c (.v (.int .i64 q.1.2.2))))]) (Tl := fun q => [(0, rd S W0)]) (μ := fun q => q.1.1) (s := ⟨(n0 + 1, (v1, v2)), HL0⟩) ⟨(n0, ((w64 (v1 + x2)), (w64 (v2 + 1)))), H1⟩ [] [_] (Nat.lt_succ_self _) rfl ⟨rfl, rfl, rfl, rfl, trivial⟩ ⟨rfl, (fun _ => rfl), trivial⟩ rfl
        ·
          replace H1 := bif_f H1 h1
          refine G.exit ?_
          refine At.over_exit ?_
          refine At.over_exit ?_
          refine At.block_hit ?_
          exact At.joined (σ := { v : Int // x1 = v }) (Fs := fun q => [(5, .a (.c (.v (.int .i64 q.1))))]) (Tl := fun q => [(0, rd S W0)]) ⟨v1, (Option.some.inj H1).symm⟩ [] [_] rfl ⟨rfl, trivial⟩ ⟨rfl, (fun _ => rfl), trivial⟩ rfl
  ·
    rintro ⟨_, rfl⟩
    show G _ _ [(5, .a (.c (.v (.int .i64 x1))))] [(0, some (rd S W0))] _ _
    refine G.seq ?_
    refine G.rg ?_
    refine K.move (.inl rfl) (gd0 rfl) rfl rfl ?_
    refine K.move (.inr rfl) (gd0 rfl) rfl rfl ?_
    refine K.nil ?_
    refine At.next ?_
    refine G.ret ?_
    refine At.done Y [(.tmp 4, .c _)] rfl ⟨.tmp rfl, trivial⟩ (to' := [(0, _)]) ⟨rfl, trivial⟩ ?_ ?_ rfl rfl rfl (.inl rfl)
    · cases H0; rfl
    · cases H0; rfl
theorem R06_Sum_con {k : Nat} {S : Foot} {W0 : World} {s0 : Value} {l0 : List Int} {a1 : Int} {r : Int} (hL0 : LArg S W0 s0 intE 1 l0) (H0 : R06_Sum.f k l0 a1 = some r) : SCon Try.prog 73 [SV.raw s0, .a (.c (.v (.int .i64 a1)))] [(0, rd S W0)] (.a (.c (.v (.int .i64 r)))) [(0, rd S W0)] [] :=
  SCon.ren (rn []) (R06_Sum_con0 hL0 H0) ⟨(fun _ => rfl), trivial⟩ ⟨(fun _ => rfl), trivial⟩ (by simp) (by simp)
theorem R06_Low_con0 {k : Nat} {S : Foot} {W0 : World} {s0 : Value} {l0 : List Int} {r : Int} (hL0 : LArg S W0 s0 intE 1 l0) (H0 : R06_Low.f k l0 = some r) : SCon Try.prog 74 [SV.raw s0] [(0, rd S W0)] (.a (.c (.v (.int .i64 r)))) [(0, rd S W0)] [] := by
  rw [R06_Low.f] at H0
  obtain ⟨b0, o0, hI0⟩ := hL0
  refine spec_of [(0, _)] [(0, _)] 26 Try.func74 rfl Try.ntmps74 rfl rfl rfl rfl (fun β W F => ?_)
  refine G.seq ?_
  refine G.rg ?_
  refine K.move (.inr rfl) (gd0 rfl) rfl rfl ?_
  refine K.nil ?_
  refine At.next ?_
  refine G.seq ?_
  refine G.seq ?_
  refine G.rg ?_
  refine K.move (.inl rfl) (gd0 rfl) rfl rfl ?_
  refine K.lenL (rV 0 S W0 s0 b0 o0 intE 1 l0) (hI0.is 0) (gd0 rfl) rfl rfl Try.underlying26 rfl ?_
  refine K.bin (V := .bool ((l0.length : Int) == 0)) (gd0 rfl) rfl rfl (fun _ => rfl) rfl ?_
  refine K.nil ?_
  refine At.next ?_
  refine G.cond rfl (fun h1 => ?_) (fun h1 => ?_)
  ·
    replace H0 := bif_t H0 h1
    refine G.seq ?_
    refine G.rg ?_
    refine K.move (.inr rfl) (gd0 rfl) rfl rfl ?_
    refine K.nil ?_
    refine At.next ?_
    refine G.ret ?_
    refine At.over_ret ?_
    refine At.done Y [(.tmp 2, .c _)] rfl ⟨.tmp rfl, trivial⟩ (to' := [(0, _)]) ⟨rfl, trivial⟩ ?_ ?_ rfl rfl rfl (.inl rfl)
    · cases H0; rfl
    · cases H0; rfl
  ·
    replace H0 := bif_f H0 h1
    refine G.skip ?_
    refine At.next ?_
    refine G.seq ?_
    obtain ⟨x1, hx1, H0⟩ := bnd H0
    refine G.rg ?_
    refine K.move (.inl rfl) (gd0 rfl) rfl rfl ?_
    refine K.idxL (rV 0 S W0 s0 b0 o0 intE 1 l0) ((0 : Int).toNat) (hI0.is 0) (atL_get hx1) (atL_nn hx1) (gd0 rfl) rfl rfl rfl Try.underlying26 el26.size_run rfl ?_
    refine K.load1L Y (rV 0 S W0 s0 b0 o0 intE 1 l0) ((0 : Int).toNat) 0 (hI0.is 0) (atL_get hx1) (gd0 rfl) rfl rfl t3 rfl rfl ?_
    refine K.move (.inr rfl) (gd0 rfl) rfl rfl ?_
    refine K.nil ?_
    refine At.next ?_
    obtain ⟨x2, H1, H0⟩ := bnd H0
    refine G.seqJ (σ := { v : Int // x2 = v }) (fun q => [(3, .a (.c (.v (.int .i64 q.1))))]) (fun q => [(0, rd S W0)]) ?_ ?_
    ·
      refine G.seq ?_
      refine G.rg ?_
      refine K.move (.inr rfl) (gd0 rfl) rfl rfl ?_
      refine K.nil ?_
      refine At.next ?_
      refine G.block ?_
      refine G.loop (σ := { q : Nat × (Int × Int) // R06_Low.l0 k l0 q.1 q.2 = some x2 }) (fun q => [(0, SV.raw s0), (3, .a (.c (.v (.int .i64 q.1.2.1)))), (4, .a (.c (.v (.int .i64 q.1.2.2))))]) (fun q => [(0, rd S W0)]) (fun q => q.1.1) ⟨(k, (x1, 2)), H1⟩ ?_ ?_
      · exact At.into [] [_] rfl ⟨rfl, rfl, rfl, trivial⟩ ⟨rfl, (fun _ => rfl), trivial⟩ rfl
      ·
        rintro ⟨⟨n0, v1, v2⟩, H1⟩
        show G _ _ [(0, SV.raw s0), (3, .a (.c (.v (.int .i64 v1)))), (4, .a (.c (.v (.int .i64 v2))))] [(0, some (rd S W0))] _ _
        cases n0 with
        | zero => exact absurd H1 (by simp [R06_Low.l0])
        | succ n0 =>
          have HL0 := H1
          rw [R06_Low.l0] at H1
          refine G.seq ?_
          refine G.seq ?_
          refine G.rg ?_
          refine K.move (.inl rfl) (gd0 rfl) rfl rfl ?_
          refine K.move (.inl rfl) (gd0 rfl) rfl rfl ?_
          refine K.lenL (rV 0 S W0 s0 b0 o0 intE 1 l0) (hI0.is 0) (gd0 rfl) rfl rfl Try.underlying26 rfl ?_
          refine K.bin (V := .bool (decide (v2 ≤ (l0.length : Int)))) (gd0 rfl) rfl rfl (fun _ => rfl) rfl ?_
          refine K.nil ?_
          refine At.next ?_
          refine G.cond rfl (fun h2 => ?_) (fun h2 => ?_)
          ·
            replace H1 := bif_t H1 h2
            refine G.skip ?_
            refine At.next ?_
            refine G.seq ?_
            refine G.block ?_
            refine G.seq ?_
            obtain ⟨x3, hx3, H1⟩ := bnd H1
            refine G.rg ?_
            refine K.move (.inl rfl) (gd0 rfl) rfl rfl ?_
            refine K.move (.inl rfl) (gd0 rfl) rfl rfl ?_
            refine K.callV [(.func 73, _), ((.tmp 18), _), ((.tmp 19), _)] [(0, rd S W0)] [] [] (fun β => [SV.raw s0, .a (.c (.v (.int .i64 v2)))]) (fun β w S2 h => R06_Sum_con ((hI0.isC 0).larg ⟨_, List.mem_cons_self⟩ h) hx3) (toFn_func (cf 73 rfl) rfl) (gd0 rfl) ⟨rfl, rfl, rfl, trivial⟩ (fun _ => rfl) ⟨rfl, trivial⟩ rfl rfl rfl rfl rfl rfl ?_
            refine K.move (.inr rfl) (gd0 rfl) rfl rfl ?_
            refine K.nil ?_
            refine At.next ?_
            refine G.seq ?_
            refine G.rg ?_
            refine K.move (.inl rfl) (gd0 rfl) rfl rfl ?_
            refine K.move (.inl rfl) (gd0 rfl) rfl rfl ?_
            refine K.bin (V := .bool (decide (x3 < v1))) (gd0 rfl) rfl rfl (fun _ => rfl) rfl ?_
            refine K.nil ?_
            refine At.next ?_
            refine G.cond rfl (fun h3 => ?_) (fun h3 => ?_)
            ·
              replace H1 := bif_t H1 h3
              refine G.rg ?_
              refine K.move (.inl rfl) (gd0 rfl) rfl rfl ?_
              refine K.move (.inr rfl) (gd0 rfl) rfl rfl ?_
              refine K.nil ?_
              refine At.block_normal ?_
              refine At.next ?_
              refine G.rg ?_
              refine K.move (.inl rfl) (gd0 rfl) rfl rfl ?_
              refine K.bin (V := .int .i64 (w64 (v2 + 1))) (gd0 rfl) rfl rfl (fun _ => rfl) rfl ?_
              refine K.move (.inr rfl) (gd0 rfl) rfl rfl ?_
              refine K.nil ?_
              exact At.again (σ := { q : Nat × (Int × Int) // R06_Low.l0 k l0 q.1 q.2 = some x2 }) (Fs := fun q => [(0, SV.raw s0), (3, .a (.c (.v (.int .i64 q.1.2.1)))), (4, .a (.c (.v (.int .i64 q.1.2.2))))]) (Tl := fun q => [(0, rd S W0)]) (μ := fun q => q.1.1) (s := ⟨(n0 + 1, (v1, v2)), HL0⟩) ⟨(n0, (x3, (w64 (v2 + 1)))), H1⟩ [] [_] (Nat.lt_succ_self _) rfl ⟨rfl, rfl, rfl, trivial⟩ ⟨rfl, (fun _ => rfl), trivial⟩ rfl
            ·
              replace H1 := bif_f H1 h3
              refine G.skip ?_
              refine At.block_normal ?_
              refine At.next ?_
              refine G.rg ?_
              refine K.move (.inl rfl) (gd0 rfl) rfl rfl ?_
              refine K.bin (V := .int .i64 (w64 (v2 + 1))) (gd0 rfl) rfl rfl (fun _ => rfl) rfl ?_
              refine K.move (.inr rfl) (gd0 rfl) rfl rfl ?_
              refine K.nil ?_
              exact At.again (σ := { q : Nat × (Int × Int) // R06_Low.l0 k l0 q.1 q.2 = some x2 }) (Fs := fun q => [(0, SV.raw s0), (3, .a (.c (.v (.int .i64 q.1.2.1)))), (4, .a (.c (.v (.int .i64 q.1.2.2))))]) (Tl := fun q => [(0, rd S W0)]) (μ := fun q => q.1.1) (s := ⟨(n0 + 1, (v1, v2)), HL0⟩) ⟨(n0, (v1, (w64 (v2 + 1)))), H1⟩ [] [_] (Nat.lt_succ_self _) rfl ⟨rfl, rfl, rfl, trivial⟩ ⟨rfl, (fun _ => rfl), trivial⟩ rfl
          ·
            replace H1 := bif_f H1 h2
            refine G.exit ?_
            refine At.over_exit ?_
            refine At.over_exit ?_
            refine At.block_hit ?_
            exact At.joined (σ := { v : Int // x2 = v }) (Fs := fun q => [(3, .a (.c (.v (.int .i64 q.1))))]) (Tl := fun q => [(0, rd S W0)]) ⟨v1, (Option.some.inj H1).symm⟩ [] [_] rfl ⟨rfl, trivial⟩ ⟨rfl, (fun _ => rfl), trivial⟩ rfl
    ·
      rintro ⟨_, rfl⟩
      show G _ _ [(3, .a (.c (.v (.int .i64 x2))))] [(0, some (rd S W0))] _ _
      refine G.seq ?_
      refine G.rg ?_
      refine K.move (.inl rfl) (gd0 rfl) rfl rfl ?_
      refine K.move (.inr rfl) (gd0 rfl) rfl rfl ?_
      refine K.nil ?_
      refine At.next ?_
      refine G.ret ?_
      refine At.done Y [(.tmp 2, .c _)] rfl ⟨.tmp rfl, trivial⟩ (to' := [(0, _)]) ⟨rfl, trivial⟩ ?_ ?_ rfl rfl rfl (.inl rfl)
      · cases H0; rfl
      · cases H0; rfl
theorem R06_Low_con {k : Nat} {S : Foot} {W0 : World} {s0 : Value} {l0 : List Int} {r : Int} (hL0 : LArg S W0 s0 intE 1 l0) (H0 : R06_Low.f k l0 = some r) : SCon Try.prog 74 [SV.raw s0] [(0, rd S W0)] (.a (.c (.v (.int .i64 r)))) [(0, rd S W0)] [] :=
  SCon.ren (rn []) (R06_Low_con0 hL0 H0) ⟨(fun _ => rfl), trivial⟩ ⟨(fun _ => rfl), trivial⟩ (by simp) (by simp)
theorem R08_Tide_con0 {k : Nat} {S : Foot} {W0 : World} {s0 : Value} {l0 : List Int} {r : TArr3Int} (hL0 : LArg S W0 s0 intE 1 l0) (H0 : R08_Tide.f k l0 = some r) : SCon Try.prog 57 [SV.raw s0] [(0, rd S W0)] (.a (.agg ((eTArr3Int r).map .v))) [(0, rd S W0)] [] := by
  rw [R08_Tide.f] at H0
  obtain ⟨b0, o0, hI0⟩ := hL0
  refine spec_of [(0, _)] [(0, _)] 12 Try.func57 rfl Try.ntmps57 rfl rfl rfl rfl (fun β W F => ?_)
  refine G.seq ?_
  refine G.rg ?_
  refine K.alloc Y 100 [_, _, _] (gd0 rfl) t107 rfl rfl rfl rfl rfl ?_
  refine K.nil ?_
  refine At.next ?_
  refine G.seq ?_
  obtain ⟨x1, hx1, H0⟩ := bnd H0
  obtain ⟨x2, hx2, H0⟩ := bnd H0
  refine G.rg ?_
  refine K.move (.inl rfl) (gd0 rfl) rfl rfl ?_
  refine K.lenL (rV 0 S W0 s0 b0 o0 intE 1 l0) (hI0.is 0) (gd0 rfl) rfl rfl Try.underlying26 rfl ?_
  refine K.move (.inl rfl) (gd0 rfl) rfl rfl ?_
  refine K.move (.inl rfl) (gd0 rfl) rfl rfl ?_
  refine K.lenL (rV 0 S W0 s0 b0 o0 intE 1 l0) (hI0.is 0) (gd0 rfl) rfl rfl Try.underlying26 rfl ?_
  refine K.callV [(.func 73, _), ((.tmp 5), _), ((.tmp 7), _)] [(0, rd S W0)] [] [] (fun β => [SV.raw s0, .a (.c (.v (.int .i64 (l0.length : Int))))]) (fun β w S2 h => R06_Sum_con ((hI0.isC 0).larg ⟨_, List.mem_cons_self⟩ h) hx1) (toFn_func (cf 73 rfl) rfl) (gd0 rfl) ⟨rfl, rfl, rfl, trivial⟩ (fun _ => rfl) ⟨rfl, trivial⟩ rfl rfl rfl rfl rfl rfl ?_
  refine K.move (.inl rfl) (gd0 rfl) rfl rfl ?_
  refine K.callV [(.func 74, _), ((.tmp 9), _)] [(0, rd S W0)] [] [] (fun β => [SV.raw s0]) (fun β w S2 h => R06_Low_con ((hI0.isC 0).larg ⟨_, List.mem_cons_self⟩ h) hx2) (toFn_func (cf 74 rfl) rfl) (gd0 rfl) ⟨rfl, rfl, trivial⟩ (fun _ => rfl) ⟨rfl, trivial⟩ rfl rfl rfl rfl rfl rfl ?_
  refine K.buildA [(0, _), (1, _), (2, _)] [_, _, _] [((.tmp 4), _), ((.tmp 8), _), ((.tmp 10), _)] tA107 (gd0 rfl) (AllE.spec ⟨rfl, rfl, rfl, trivial⟩) rfl rfl rfl rfl ?_
  refine K.store Y [_, _, _] (gd0 rfl) rfl rfl rfl t107 rfl rfl rfl rfl rfl ?_
  refine K.nil ?_
  refine At.next ?_
  refine G.ret ?_
  refine At.done Y [(.cell 2 107, .agg [_, _, _])] rfl ⟨.st rfl rfl t107 rfl rfl, trivial⟩ (to' := [(0, _)]) ⟨rfl, trivial⟩ ?_ ?_ rfl rfl rfl (.inl rfl)
  · cases H0; rfl
  · cases H0; rfl
theorem R08_Tide_con {k : Nat} {S : Foot} {W0 : World} {s0 : Value} {l0 : List Int} {r : TArr3Int} (hL0 : LArg S W0 s0 intE 1 l0) (H0 : R08_Tide.f k l0 = some r) : SCon Try.prog 57 [SV.raw s0] [(0, rd S W0)] (.a (.agg ((eTArr3Int r).map .v))) [(0, rd S W0)] [] :=
  SCon.ren (rn []) (R08_Tide_con0 hL0 H0) ⟨(fun _ => rfl), trivial⟩ ⟨(fun _ => rfl), trivial⟩ (by simp) (by simp)
theorem R08_Counts_con0 {k : Nat} {S : Foot} {W0 : World} {s0 : Value} {l0 : List TR08Mark} {r : List Int} (hL0 : LArg S W0 s0 eTR08Mark 8 l0) (H0 : R08_Counts.f k l0 = some r) : SCon Try.prog 58 [SV.raw s0] [(0, rd S W0)] (.a (.c (.nv 30))) [(0, rd S W0), (30, lrow 30 3 intE 1 r)] [30] := by
  rw [R08_Counts.f] at H0
  obtain ⟨b0, o0, hI0⟩ := hL0
  refine spec_of [(0, _)] [(0, _)] 23 Try.func58 rfl Try.ntmps58 rfl rfl rfl rfl (fun β W F => ?_)
  refine G.seq ?_
  refine G.rg ?_
  refine K.nilRow 100 3 intE 1 (.inl rfl) (gd0 rfl) rfl rfl rfl ?_
  refine K.nil ?_
  refine At.next ?_
  refine G.seq ?_
  refine G.rg ?_
  refine K.nilRow 101 3 intE 1 (.inl rfl) (gd0 rfl) rfl rfl rfl ?_
  refine K.nil ?_
  refine At.next ?_
  obtain ⟨x1, H1, H0⟩ := bnd H0
  refine G.seqJ (σ := { v : List Int // x1 = v }) (fun q => [(3, .a (.c (.nv 102)))]) (fun q => [(0, rd S W0), (102, lrow 102 3 intE 1 q.1)]) ?_ ?_
  ·
    refine G.seq ?_
    refine G.rg ?_
    refine K.move (.inr rfl) (gd0 rfl) rfl rfl ?_
    refine K.nil ?_
    refine At.next ?_
    refine G.block ?_
    refine G.loop (σ := { q : Nat × (List Int × Int) // R08_Counts.l0 k l0 q.1 q.2 = some x1 }) (fun q => [(0, SV.raw s0), (3, .a (.c (.nv 105))), (4, .a (.c (.v (.int .i64 q.1.2.2))))]) (fun q => [(0, rd S W0), (105, lrow 105 3 intE 1 q.1.2.1)]) (fun q => q.1.1) ⟨(k, (([] : List Int), 0)), H1⟩ ?_ ?_
    · exact At.into [(105, 101)] [_, _] rfl ⟨rfl, rfl, rfl, trivial⟩ ⟨rfl, (fun _ => rfl), rfl, (lrow_ren rfl), trivial⟩ rfl
    ·
      rintro ⟨⟨n0, v1, v2⟩, H1⟩
      show G _ _ [(0, SV.raw s0), (3, .a (.c (.nv 105))), (4, .a (.c (.v (.int .i64 v2))))] [(0, some (rd S W0)), (105, some (lrow 105 3 intE 1 v1))] _ _
      cases n0 with
      | zero => exact absurd H1 (by simp [R08_Counts.l0])
      | succ n0 =>
        have HL0 := H1
        rw [R08_Counts.l0] at H1
        refine G.seq ?_
        refine G.seq ?_
        refine G.rg ?_
        refine K.move (.inl rfl) (gd0 rfl) rfl rfl ?_
        refine K.move (.inl rfl) (gd0 rfl) rfl rfl ?_
        refine K.lenL (rV 0 S W0 s0 b0 o0 eTR08Mark 8 l0) (hI0.is 0) (gd0 rfl) rfl rfl Try.underlying60 rfl ?_
        refine K.bin (V := .bool (decide (v2 < (l0.length : Int)))) (gd0 rfl) rfl rfl (fun _ => rfl) rfl ?_
        refine K.nil ?_
        refine At.next ?_
        refine G.cond rfl (fun h1 => ?_) (fun h1 => ?_)
        ·
          replace H1 := bif_t H1 h1
          refine G.skip ?_
          refine At.next ?_
          refine G.seq ?_
          refine G.block ?_
          refine G.seq ?_
          refine G.rg ?_
          refine K.move (.inr rfl) (gd0 rfl) rfl rfl ?_
          refine K.nil ?_
          refine At.next ?_
          refine G.seq ?_
          refine G.seq ?_
          obtain ⟨x2, hx2, H1⟩ := bnd H1
          refine G.rg ?_
          refine K.move (.inl rfl) (gd0 rfl) rfl rfl ?_
          refine K.move (.inl rfl) (gd0 rfl) rfl rfl ?_
          refine K.idxL (rV 0 S W0 s0 b0 o0 eTR08Mark 8 l0) ((v2).toNat) (hI0.is 0) (atL_get hx2) (atL_nn hx2) (gd0 rfl) rfl rfl rfl Try.underlying60 el60.size_run rfl ?_
          refine K.fieldL Y (rV 0 S W0 s0 b0 o0 eTR08Mark 8 l0) ((v2).toNat) 0 0 (hI0.is 0) (atL_get hx2) (gd0 rfl) rfl rfl t75 rfl rfl rfl rfl ?_
          refine K.fieldL Y (rV 0 S W0 s0 b0 o0 eTR08Mark 8 l0) ((v2).toNat) 0 1 (hI0.is 0) (atL_get hx2) (gd0 rfl) rfl rfl t73 rfl rfl rfl rfl ?_
          refine K.load1L Y (rV 0 S W0 s0 b0 o0 eTR08Mark 8 l0) ((v2).toNat) 1 (hI0.is 0) (atL_get hx2) (gd0 rfl) rfl rfl t4 rfl rfl ?_
          refine K.nil ?_
          refine At.next ?_
          refine G.cond rfl (fun h2 => ?_) (fun h2 => ?_)
          ·
            replace H1 := bif_t H1 h2
            refine G.rg ?_
            refine K.move (.inr rfl) (gd0 rfl) rfl rfl ?_
            refine K.nil ?_
            refine At.next ?_
            obtain ⟨h3, H1⟩ := grd H1
            refine G.rg ?_
            refine K.move (.inl rfl) (gd0 rfl) rfl rfl ?_
            refine K.move (.inl rfl) (gd0 rfl) rfl rfl ?_
            refine K.buildL Y 106 ([1] : List Int) [(0, _)] [((.tmp 19), _)] intE_len (gd0 rfl) (AllE.spec ⟨rfl, trivial⟩) rfl rfl Try.underlying26 t3 rfl rfl rfl rfl rfl rfl rfl rfl ?_
            refine K.appendL 107 (lrowV 106 3 intE 1 ([1] : List Int)) _ el26 (lrowV_is intE_len (by decide)) intE_one (gd0 rfl) rfl rfl rfl rfl rfl (ap_m h3) (ap_b h3 (by decide)) rfl rfl rfl rfl rfl rfl ?_
            refine K.move (.inr rfl) (gd0 rfl) rfl rfl ?_
            refine K.nil ?_
            refine At.block_normal ?_
            refine At.next ?_
            refine G.rg ?_
            refine K.move (.inl rfl) (gd0 rfl) rfl rfl ?_
            refine K.bin (V := .int .i64 (w64 (v2 + 1))) (gd0 rfl) rfl rfl (fun _ => rfl) rfl ?_
            refine K.move (.inr rfl) (gd0 rfl) rfl rfl ?_
            refine K.nil ?_
            exact At.again (σ := { q : Nat × (List Int × Int) // R08_Counts.l0 k l0 q.1 q.2 = some x1 }) (Fs := fun q => [(0, SV.raw s0), (3, .a (.c (.nv 105))), (4, .a (.c (.v (.int .i64 q.1.2.2))))]) (Tl := fun q => [(0, rd S W0), (105, lrow 105 3 intE 1 q.1.2.1)]) (μ := fun q => q.1.1) (s := ⟨(n0 + 1, (v1, v2)), HL0⟩) ⟨(n0, ((v1 ++ ([1] : List Int)), (w64 (v2 + 1)))), H1⟩ [(105, 107)] [_, _] (Nat.lt_succ_self _) rfl ⟨rfl, rfl, rfl, trivial⟩ ⟨rfl, (fun _ => rfl), rfl, (lrow_ren rfl), trivial⟩ rfl
          ·
            replace H1 := bif_f H1 h2
            refine G.skip ?_
            refine At.next ?_
            obtain ⟨h4, H1⟩ := grd H1
            refine G.rg ?_
            refine K.move (.inl rfl) (gd0 rfl) rfl rfl ?_
            refine K.move (.inl rfl) (gd0 rfl) rfl rfl ?_
            refine K.buildL Y 108 ([(-1)] : List Int) [(0, _)] [((.tmp 19), _)] intE_len (gd0 rfl) (AllE.spec ⟨rfl, trivial⟩) rfl rfl Try.underlying26 t3 rfl rfl rfl rfl rfl rfl rfl rfl ?_
            refine K.appendL 109 (lrowV 108 3 intE 1 ([(-1)] : List Int)) _ el26 (lrowV_is intE_len (by decide)) intE_one (gd0 rfl) rfl rfl rfl rfl rfl (ap_m h4) (ap_b h4 (by decide)) rfl rfl rfl rfl rfl rfl ?_
            refine K.move (.inr rfl) (gd0 rfl) rfl rfl ?_
            refine K.nil ?_
            refine At.block_normal ?_
            refine At.next ?_
            refine G.rg ?_
            refine K.move (.inl rfl) (gd0 rfl) rfl rfl ?_
            refine K.bin (V := .int .i64 (w64 (v2 + 1))) (gd0 rfl) rfl rfl (fun _ => rfl) rfl ?_
            refine K.move (.inr rfl) (gd0 rfl) rfl rfl ?_
            refine K.nil ?_
            exact At.again (σ := { q : Nat × (List Int × Int) // R08_Counts.l0 k l0 q.1 q.2 = some x1 }) (Fs := fun q => [(0, SV.raw s0), (3, .a (.c (.nv 105))), (4, .a (.c (.v (.int .i64 q.1.2.2))))]) (Tl := fun q => [(0, rd S W0), (105, lrow 105 3 intE 1 q.1.2.1)]) (μ := fun q => q.1.1) (s := ⟨(n0 + 1, (v1, v2)), HL0⟩) ⟨(n0, ((v1 ++ ([(-1)] : List Int)), (w64 (v2 + 1)))), H1⟩ [(105, 109)] [_, _] (Nat.lt_succ_self _) rfl ⟨rfl, rfl, rfl, trivial⟩ ⟨rfl, (fun _ => rfl), rfl, (lrow_ren rfl), trivial⟩ rfl
        ·
          replace H1 := bif_f H1 h1
          refine G.exit ?_
          refine At.over_exit ?_
          refine At.over_exit ?_
          refine At.block_hit ?_
          exact At.joined (σ := { v : List Int // x1 = v }) (Fs := fun q => [(3, .a (.c (.nv 102)))]) (Tl := fun q => [(0, rd S W0), (102, lrow 102 3 intE 1 q.1)]) ⟨v1, (Option.some.inj H1).symm⟩ [(102, 105)] [_, _] rfl ⟨rfl, trivial⟩ ⟨rfl, (fun _ => rfl), rfl, (lrow_ren rfl), trivial⟩ rfl
  ·
    rintro ⟨_, rfl⟩
    show G _ _ [(3, .a (.c (.nv 102)))] [(0, some (rd S W0)), (102, some (lrow 102 3 intE 1 x1))] _ _
    refine G.seq ?_
    refine G.rg ?_
    refine K.move (.inl rfl) (gd0 rfl) rfl rfl ?_
    refine K.move (.inr rfl) (gd0 rfl) rfl rfl ?_
    refine K.nil ?_
    refine At.next ?_
    refine G.ret ?_
    refine At.ren (fs' := [(2, .a (.c (.nv 30)))]) (tl := [(0, rd S W0), (30, lrow 30 3 intE 1 x1)]) [(30, 102)] [_, _] rfl ⟨rfl, trivial⟩ ⟨rfl, (fun _ => rfl), rfl, (lrow_ren rfl), trivial⟩ rfl ?_
    refine At.done Y [(.tmp 2, .c _)] rfl ⟨.tmp rfl, trivial⟩ (to' := [(0, _), (30, _)]) ⟨rfl, rfl, trivial⟩ ?_ ?_ rfl rfl rfl (.inl rfl)
    · cases H0; rfl
    · cases H0; rfl
theorem R08_Counts_con {k : Nat} {S : Foot} {W0 : World} {s0 : Value} {l0 : List TR08Mark} {r : List Int} (hL0 : LArg S W0 s0 eTR08Mark 8 l0) (H0 : R08_Counts.f k l0 = some r) (m30 : Nat) (hd : ndB [m30] = true) : SCon Try.prog 58 [SV.raw s0] [(0, rd S W0)] (.a (.c (.nv m30))) [(0, rd S W0), (m30, lrow m30 3 intE 1 r)] [m30] :=
  SCon.ren (rn [(30, m30)]) (R08_Counts_con0 hL0 H0) ⟨(fun _ => rfl), trivial⟩ ⟨(fun _ => rfl), (lrow_ren rfl), trivial⟩ (rn_nd hd rfl rfl) (rn_ks hd rfl rfl rfl)
theorem R08_Weights_con0 {k : Nat} {S : Foot} {W0 : World} {s0 : Value} {l0 : List TR08Mark} {r : List Int} (hL0 : LArg S W0 s0 eTR08Mark 8 l0) (H0 : R08_Weights.f k l0 = some r) : SCon Try.prog 59 [SV.raw s0] [(0, rd S W0)] (.a (.c (.nv 30))) [(0, rd S W0), (30, lrow 30 3 intE 1 r)] [30] := by
  rw [R08_Weights.f] at H0
  obtain ⟨b0, o0, hI0⟩ := hL0
  refine spec_of [(0, _)] [(0, _)] 30 Try.func59 rfl Try.ntmps59 rfl rfl rfl rfl (fun β W F => ?_)
  refine G.seq ?_
  refine G.rg ?_
  refine K.nilRow 100 3 intE 1 (.inl rfl) (gd0 rfl) rfl rfl rfl ?_
  refine K.nil ?_
  refine At.next ?_
  refine G.seq ?_
  obtain ⟨x1, hx1, H0⟩ := bnd H0
  refine G.rg ?_
  refine K.move (.inl rfl) (gd0 rfl) rfl rfl ?_
  refine K.callV [(.func 58, _), ((.tmp 5), _)] [(0, rd S W0)] [] [(101, _)] (fun β => [SV.raw s0]) (fun β w S2 h => R08_Counts_con ((hI0.isC 0).larg ⟨_, List.mem_cons_self⟩ h) hx1 101 rfl) (toFn_func (cf 58 rfl) rfl) (gd0 rfl) ⟨rfl, rfl, trivial⟩ (fun _ => rfl) ⟨rfl, trivial⟩ rfl rfl rfl rfl rfl rfl ?_
  refine K.move (.inr rfl) (gd0 rfl) rfl rfl ?_
  refine K.nil ?_
  refine At.next ?_
  obtain ⟨x2, H1, H0⟩ := bnd H0
  refine G.seqJ (σ := { v : List Int // x2 = v }) (fun q => [(3, .a (.c (.nv 102)))]) (fun q => [(0, rd S W0), (102, lrow 102 3 intE 1 q.1)]) ?_ ?_
  ·
    refine G.seq ?_
    refine G.rg ?_
    refine K.move (.inr rfl) (gd0 rfl) rfl rfl ?_
    refine K.nil ?_
    refine At.next ?_
    refine G.block ?_
    refine G.loop (σ := { q : Nat × (List Int × Int) // R08_Weights.l0 k l0 q.1 q.2 = some x2 }) (fun q => [(0, SV.raw s0), (3, .a (.c (.nv 105))), (4, .a (.c (.v (.int .i64 q.1.2.2))))]) (fun q => [(0, rd S W0), (105, lrow 105 3 intE 1 q.1.2.1)]) (fun q => q.1.1) ⟨(k, (x1, 0)), H1⟩ ?_ ?_
    · exact At.into [(105, 101)] [_, _] rfl ⟨rfl, rfl, rfl, trivial⟩ ⟨rfl, (fun _ => rfl), rfl, (lrow_ren rfl), trivial⟩ rfl
    ·
      rintro ⟨⟨n0, v1, v2⟩, H1⟩
      show G _ _ [(0, SV.raw s0), (3, .a (.c (.nv 105))), (4, .a (.c (.v (.int .i64 v2))))] [(0, some (rd S W0)), (105, some (lrow 105 3 intE 1 v1))] _ _
      cases n0 with
      | zero => exact absurd H1 (by simp [R08_Weights.l0])
      | succ n0 =>
        have HL0 := H1
        rw [R08_Weights.l0] at H1
        refine G.seq ?_
        refine G.seq ?_
        refine G.rg ?_
        refine K.move (.inl rfl) (gd0 rfl) rfl rfl ?_
        refine K.move (.inl rfl) (gd0 rfl) rfl rfl ?_
        refine K.lenL (rV 0 S W0 s0 b0 o0 eTR08Mark 8 l0) (hI0.is 0) (gd0 rfl) rfl rfl Try.underlying60 rfl ?_
        refine K.bin (V := .bool (decide (v2 < (l0.length : Int)))) (gd0 rfl) rfl rfl (fun _ => rfl) rfl ?_
        refine K.nil ?_
        refine At.next ?_
        refine G.cond rfl (fun h1 => ?_) (fun h1 => ?_)
        ·
          replace H1 := bif_t H1 h1
          refine G.skip ?_
          refine At.next ?_
          refine G.seq ?_
          refine G.block ?_
          refine G.seq ?_
          obtain ⟨x3, hx3, H1⟩ := bnd H1
          rcases Bool.eq_false_or_eq_true x3.op.insert with h2 | h2
          ·
            replace H1 := bif_t H1 h2
            refine G.rg ?_
            refine K.move (.inl rfl) (gd0 rfl) rfl rfl ?_
            refine K.move (.inl rfl) (gd0 rfl) rfl rfl ?_
            refine K.idxL (rV 0 S W0 s0 b0 o0 eTR08Mark 8 l0) ((v2).toNat) (hI0.is 0) (atL_get hx3) (atL_nn hx3) (gd0 rfl) rfl rfl rfl Try.underlying60 el60.size_run rfl ?_
            refine K.fieldL Y (rV 0 S W0 s0 b0 o0 eTR08Mark 8 l0) ((v2).toNat) 0 0 (hI0.is 0) (atL_get hx3) (gd0 rfl) rfl rfl t75 rfl rfl rfl rfl ?_
            refine K.fieldL Y (rV 0 S W0 s0 b0 o0 eTR08Mark 8 l0) ((v2).toNat) 0 1 (hI0.is 0) (atL_get hx3) (gd0 rfl) rfl rfl t73 rfl rfl rfl rfl ?_
            refine K.load1L Y (rV 0 S W0 s0 b0 o0 eTR08Mark 8 l0) ((v2).toNat) 1 (hI0.is 0) (atL_get hx3) (gd0 rfl) rfl rfl t4 rfl rfl ?_
            refine K.move (.inl rfl) (gd0 rfl) rfl rfl ?_
            refine K.move (.inl rfl) (gd1 rfl rfl rfl (h2)) rfl rfl ?_
            refine K.move (.inl rfl) (gd1 rfl rfl rfl (h2)) rfl rfl ?_
            refine K.idxL (rV 0 S W0 s0 b0 o0 eTR08Mark 8 l0) ((v2).toNat) (hI0.is 0) (atL_get hx3) (atL_nn hx3) (gd1 rfl rfl rfl (h2)) rfl rfl rfl Try.underlying60 el60.size_run rfl ?_
            refine K.fieldL Y (rV 0 S W0 s0 b0 o0 eTR08Mark 8 l0) ((v2).toNat) 0 4 (hI0.is 0) (atL_get hx3) (gd1 rfl rfl rfl (h2)) rfl rfl t75 rfl rfl rfl rfl ?_
            refine K.load1L Y (rV 0 S W0 s0 b0 o0 eTR08Mark 8 l0) ((v2).toNat) 4 (hI0.is 0) (atL_get hx3) (gd1 rfl rfl rfl (h2)) rfl rfl t4 rfl rfl ?_
            refine K.pickT (gd0 rfl) rfl (h2) rfl rfl ?_
            refine K.nil ?_
            refine At.next ?_
            refine G.cond rfl (fun h3 => ?_) (fun h3 => ?_)
            ·
              replace H1 := bif_t H1 h3
              obtain ⟨x4, hx4, H1⟩ := bnd H1
              refine G.rg ?_
              refine K.move (.inl rfl) (gd0 rfl) rfl rfl ?_
              refine K.move (.inl rfl) (gd0 rfl) rfl rfl ?_
              refine K.idxL (lrowV 105 3 intE 1 v1) ((v2).toNat) (lrowV_is intE_len (by decide)) (atL_get hx4) (atL_nn hx4) (gd0 rfl) rfl rfl rfl Try.underlying26 el26.size_run rfl ?_
              refine K.storeL Y ((v2).toNat) 0 [_] 0 intE_len (by decide) (atL_get hx4) (gd0 rfl) rfl rfl rfl t3 rfl rfl rfl rfl rfl rfl ?_
              refine K.nil ?_
              refine At.block_normal ?_
              refine At.next ?_
              refine G.rg ?_
              refine K.move (.inl rfl) (gd0 rfl) rfl rfl ?_
              refine K.bin (V := .int .i64 (w64 (v2 + 1))) (gd0 rfl) rfl rfl (fun _ => rfl) rfl ?_
              refine K.move (.inr rfl) (gd0 rfl) rfl rfl ?_
              refine K.nil ?_
              exact At.again (σ := { q : Nat × (List Int × Int) // R08_Weights.l0 k l0 q.1 q.2 = some x2 }) (Fs := fun q => [(0, SV.raw s0), (3, .a (.c (.nv 105))), (4, .a (.c (.v (.int .i64 q.1.2.2))))]) (Tl := fun q => [(0, rd S W0), (105, lrow 105 3 intE 1 q.1.2.1)]) (μ := fun q => q.1.1) (s := ⟨(n0 + 1, (v1, v2)), HL0⟩) ⟨(n0, ((v1.set ((v2).toNat) 0), (w64 (v2 + 1)))), H1⟩ [] [_, _] (Nat.lt_succ_self _) rfl ⟨rfl, rfl, rfl, trivial⟩ ⟨rfl, (fun _ => rfl), rfl, (lrow_ren rfl), trivial⟩ rfl
            ·
              replace H1 := bif_f H1 h3
              refine G.skip ?_
              refine At.block_normal ?_
              refine At.next ?_
              refine G.rg ?_
              refine K.move (.inl rfl) (gd0 rfl) rfl rfl ?_
              refine K.bin (V := .int .i64 (w64 (v2 + 1))) (gd0 rfl) rfl rfl (fun _ => rfl) rfl ?_
              refine K.move (.inr rfl) (gd0 rfl) rfl rfl ?_
              refine K.nil ?_
              exact At.again (σ := { q : Nat × (List Int × Int) // R08_Weights.l0 k l0 q.1 q.2 = some x2 }) (Fs := fun q => [(0, SV.raw s0), (3, .a (.c (.nv 105))), (4, .a (.c (.v (.int .i64 q.1.2.2))))]) (Tl := fun q => [(0, rd S W0), (105, lrow 105 3 intE 1 q.1.2.1)]) (μ := fun q => q.1.1) (s := ⟨(n0 + 1, (v1, v2)), HL0⟩) ⟨(n0, (v1, (w64 (v2 + 1)))), H1⟩ [] [_, _] (Nat.lt_succ_self _) rfl ⟨rfl, rfl, rfl, trivial⟩ ⟨rfl, (fun _ => rfl), rfl, (lrow_ren rfl), trivial⟩ rfl
          ·
            replace H1 := bif_f H1 h2
            refine G.rg ?_
            refine K.move (.inl rfl) (gd0 rfl) rfl rfl ?_
            refine K.move (.inl rfl) (gd0 rfl) rfl rfl ?_
            refine K.idxL (rV 0 S W0 s0 b0 o0 eTR08Mark 8 l0) ((v2).toNat) (hI0.is 0) (atL_get hx3) (atL_nn hx3) (gd0 rfl) rfl rfl rfl Try.underlying60 el60.size_run rfl ?_
            refine K.fieldL Y (rV 0 S W0 s0 b0 o0 eTR08Mark 8 l0) ((v2).toNat) 0 0 (hI0.is 0) (atL_get hx3) (gd0 rfl) rfl rfl t75 rfl rfl rfl rfl ?_
            refine K.fieldL Y (rV 0 S W0 s0 b0 o0 eTR08Mark 8 l0) ((v2).toNat) 0 1 (hI0.is 0) (atL_get hx3) (gd0 rfl) rfl rfl t73 rfl rfl rfl rfl ?_
            refine K.load1L Y (rV 0 S W0 s0 b0 o0 eTR08Mark 8 l0) ((v2).toNat) 1 (hI0.is 0) (atL_get hx3) (gd0 rfl) rfl rfl t4 rfl rfl ?_
            refine K.move (.inl rfl) (gd0 rfl) rfl rfl ?_
            refine K.skip rfl rfl rfl rfl (h2) rfl ?_
            refine K.skip rfl rfl rfl rfl (h2) rfl ?_
            refine K.skip rfl rfl rfl rfl (h2) rfl ?_
            refine K.skip rfl rfl rfl rfl (h2) rfl ?_
            refine K.skip rfl rfl rfl rfl (h2) rfl ?_
            refine K.pickF (gd0 rfl) rfl (h2) rfl rfl ?_
            refine K.nil ?_
            refine At.next ?_
            refine G.cond rfl (fun h4 => ?_) (fun h4 => ?_)
            · cases h4
            ·
              refine G.skip ?_
              refine At.block_normal ?_
              refine At.next ?_
              refine G.rg ?_
              refine K.move (.inl rfl) (gd0 rfl) rfl rfl ?_
              refine K.bin (V := .int .i64 (w64 (v2 + 1))) (gd0 rfl) rfl rfl (fun _ => rfl) rfl ?_
              refine K.move (.inr rfl) (gd0 rfl) rfl rfl ?_
              refine K.nil ?_
              exact At.again (σ := { q : Nat × (List Int × Int) // R08_Weights.l0 k l0 q.1 q.2 = some x2 }) (Fs := fun q => [(0, SV.raw s0), (3, .a (.c (.nv 105))), (4, .a (.c (.v (.int .i64 q.1.2.2))))]) (Tl := fun q => [(0, rd S W0), (105, lrow 105 3 intE 1 q.1.2.1)]) (μ := fun q => q.1.1) (s := ⟨(n0 + 1, (v1, v2)), HL0⟩) ⟨(n0, (v1, (w64 (v2 + 1)))), H1⟩ [] [_, _] (Nat.lt_succ_self _) rfl ⟨rfl, rfl, rfl, trivial⟩ ⟨rfl, (fun _ => rfl), rfl, (lrow_ren rfl), trivial⟩ rfl
        ·
          replace H1 := bif_f H1 h1
          refine G.exit ?_
          refine At.over_exit ?_
          refine At.over_exit ?_
          refine At.block_hit ?_
          exact At.joined (σ := { v : List Int // x2 = v }) (Fs := fun q => [(3, .a (.c (.nv 102)))]) (Tl := fun q => [(0, rd S W0), (102, lrow 102 3 intE 1 q.1)]) ⟨v1, (Option.some.inj H1).symm⟩ [(102, 105)] [_, _] rfl ⟨rfl, trivial⟩ ⟨rfl, (fun _ => rfl), rfl, (lrow_ren rfl), trivial⟩ rfl
  ·
    rintro ⟨_, rfl⟩
    show G _ _ [(3, .a (.c (.nv 102)))] [(0, some (rd S W0)), (102, some (lrow 102 3 intE 1 x2))] _ _
    refine G.seq ?_
    refine G.rg ?_
    refine K.move (.inl rfl) (gd0 rfl) rfl rfl ?_
    refine K.move (.inr rfl) (gd0 rfl) rfl rfl ?_
    refine K.nil ?_
    refine At.next ?_
    refine G.ret ?_
    refine At.ren (fs' := [(2, .a (.c (.nv 30)))]) (tl := [(0, rd S W0), (30, lrow 30 3 intE 1 x2)]) [(30, 102)] [_, _] rfl ⟨rfl, trivial⟩ ⟨rfl, (fun _ => rfl), rfl, (lrow_ren rfl), trivial⟩ rfl ?_
    refine At.done Y [(.tmp 2, .c _)] rfl ⟨.tmp rfl, trivial⟩ (to' := [(0, _), (30, _)]) ⟨rfl, rfl, trivial⟩ ?_ ?_ rfl rfl rfl (.inl rfl)
    · cases H0; rfl
    · cases H0; rfl
theorem R08_Weights_con {k : Nat} {S : Foot} {W0 : World} {s0 : Value} {l0 : List TR08Mark} {r : List Int} (hL0 : LArg S W0 s0 eTR08Mark 8 l0) (H0 : R08_Weights.f k l0 = some r) (m30 : Nat) (hd : ndB [m30] = true) : SCon Try.prog 59 [SV.raw s0] [(0, rd S W0)] (.a (.c (.nv m30))) [(0, rd S W0), (m30, lrow m30 3 intE 1 r)] [m30] :=
  SCon.ren (rn [(30, m30)]) (R08_Weights_con0 hL0 H0) ⟨(fun _ => rfl), trivial⟩ ⟨(fun _ => rfl), (lrow_ren rfl), trivial⟩ (rn_nd hd rfl rfl) (rn_ks hd rfl rfl rfl)
theorem R02_Ahead_con0 {k : Nat} {a0 : TItem} {a1 : TItem} {r : Bool}  (H0 : R02_Ahead.f k a0 a1 = some r) : SCon Try.prog 41 [.a (.agg ((eTItem a0).map .v)), .a (.agg ((eTItem a1).map .v))] [] (.a (.c (.v (.bool r)))) [] [] := by
  rw [R02_Ahead.f] at H0
  refine spec_of [(0, _), (1, _)] [] 24 Try.func41 rfl Try.ntmps41 rfl rfl rfl rfl (fun β W F => ?_)
  refine G.seq ?_
  refine G.rg ?_
  refine K.box Y 100 [_, _] (gd0 rfl) rfl rfl rfl rfl rfl rfl ?_
  refine K.box Y 101 [_, _] (gd0 rfl) rfl rfl rfl rfl rfl rfl ?_
  refine K.move (.inr rfl) (gd0 rfl) rfl rfl ?_
  refine K.nil ?_
  refine At.next ?_
  refine G.seq ?_
  rcases Bool.eq_false_or_eq_true (decide (a0.key < a1.key)) with h1 | h1
  ·
    replace H0 := bif_t H0 h1
    refine G.rg ?_
    refine K.fieldAddr Y (gd0 rfl) rfl t37 rfl rfl ?_
    refine K.load1 Y (gd0 rfl) rfl rfl t3 rfl rfl ?_
    refine K.fieldAddr Y (gd0 rfl) rfl t37 rfl rfl ?_
    refine K.load1 Y (gd0 rfl) rfl rfl t3 rfl rfl ?_
    refine K.bin (V := .bool (decide (a0.key < a1.key))) (gd0 rfl) rfl rfl (fun _ => rfl) rfl ?_
    refine K.move (.inl rfl) (gd0 rfl) rfl rfl ?_
    refine K.skip rfl rfl rfl rfl (h1) rfl ?_
    refine K.skip rfl rfl rfl rfl (h1) rfl ?_
    refine K.skip rfl rfl rfl rfl (h1) rfl ?_
    refine K.skip rfl rfl rfl rfl (h1) rfl ?_
    refine K.skip rfl rfl rfl rfl (h1) rfl ?_
    refine K.skip rfl rfl rfl rfl (h1) rfl ?_
    refine K.skipU rfl rfl rfl rfl rfl ?_
    refine K.skipU rfl rfl rfl rfl rfl ?_
    refine K.skipU rfl rfl rfl rfl rfl ?_
    refine K.skipU rfl rfl rfl rfl rfl ?_
    refine K.skipU rfl rfl rfl rfl rfl ?_
    refine K.skip rfl rfl rfl rfl (h1) rfl ?_
    refine K.pickT (gd0 rfl) rfl (h1) rfl rfl ?_
    refine K.move (.inr rfl) (gd0 rfl) rfl rfl ?_
    refine K.nil ?_
    refine At.next ?_
    refine G.ret ?_
    refine At.done Y [(.tmp 4, .c _)] rfl ⟨.tmp rfl, trivial⟩ (to' := []) trivial ?_ ?_ rfl rfl rfl (.inl rfl)
    · cases H0; rfl
    · cases H0; rfl
  ·
    replace H0 := bif_f H0 h1
    rcases Bool.eq_false_or_eq_true (a0.key == a1.key) with h2 | h2
    ·
      replace H0 := bif_t H0 h2
      refine G.rg ?_
      refine K.fieldAddr Y (gd0 rfl) rfl t37 rfl rfl ?_
      refine K.load1 Y (gd0 rfl) rfl rfl t3 rfl rfl ?_
      refine K.fieldAddr Y (gd0 rfl) rfl t37 rfl rfl ?_
      refine K.load1 Y (gd0 rfl) rfl rfl t3 rfl rfl ?_
      refine K.bin (V := .bool (decide (a0.key < a1.key))) (gd0 rfl) rfl rfl (fun _ => rfl) rfl ?_
      refine K.move (.inl rfl) (gd0 rfl) rfl rfl ?_
      refine K.fieldAddr Y (gd1 rfl rfl rfl (h1)) rfl t37 rfl rfl ?_
      refine K.load1 Y (gd1 rfl rfl rfl (h1)) rfl rfl t3 rfl rfl ?_
      refine K.fieldAddr Y (gd1 rfl rfl rfl (h1)) rfl t37 rfl rfl ?_
      refine K.load1 Y (gd1 rfl rfl rfl (h1)) rfl rfl t3 rfl rfl ?_
      refine K.bin (V := .bool (a0.key == a1.key)) (gd1 rfl rfl rfl (h1)) rfl rfl (fun _ => rfl) rfl ?_
      refine K.move (.inl rfl) (gd1 rfl rfl rfl (h1)) rfl rfl ?_
      refine K.fieldAddr Y (gd1 rfl rfl rfl (h2)) rfl t37 rfl rfl ?_
      refine K.load1 Y (gd1 rfl rfl rfl (h2)) rfl rfl t3 rfl rfl ?_
      refine K.fieldAddr Y (gd1 rfl rfl rfl (h2)) rfl t37 rfl rfl ?_
      refine K.load1 Y (gd1 rfl rfl rfl (h2)) rfl rfl t3 rfl rfl ?_
      refine K.bin (V := .bool (decide (a0.id < a1.id))) (gd1 rfl rfl rfl (h2)) rfl rfl (fun _ => rfl) rfl ?_
      refine K.pickT (gd1 rfl rfl rfl (h1)) rfl (h2) rfl rfl ?_
      refine K.pickF (gd0 rfl) rfl (h1) rfl rfl ?_
      refine K.move (.inr rfl) (gd0 rfl) rfl rfl ?_
      refine K.nil ?_
      refine At.next ?_
      refine G.ret ?_
      refine At.done Y [(.tmp 4, .c _)] rfl ⟨.tmp rfl, trivial⟩ (to' := []) trivial ?_ ?_ rfl rfl rfl (.inl rfl)
      · cases H0; rfl
      · cases H0; rfl
    ·
      replace H0 := bif_f H0 h2
      refine G.rg ?_
      refine K.fieldAddr Y (gd0 rfl) rfl t37 rfl rfl ?_
      refine K.load1 Y (gd0 rfl) rfl rfl t3 rfl rfl ?_
      refine K.fieldAddr Y (gd0 rfl) rfl t37 rfl rfl ?_
      refine K.load1 Y (gd0 rfl) rfl rfl t3 rfl rfl ?_
      refine K.bin (V := .bool (decide (a0.key < a1.key))) (gd0 rfl) rfl rfl (fun _ => rfl) rfl ?_
      refine K.move (.inl rfl) (gd0 rfl) rfl rfl ?_
      refine K.fieldAddr Y (gd1 rfl rfl rfl (h1)) rfl t37 rfl rfl ?_
      refine K.load1 Y (gd1 rfl rfl rfl (h1)) rfl rfl t3 rfl rfl ?_
      refine K.fieldAddr Y (gd1 rfl rfl rfl (h1)) rfl t37 rfl rfl ?_
      refine K.load1 Y (gd1 rfl rfl rfl (h1)) rfl rfl t3 rfl rfl ?_
      refine K.bin (V := .bool (a0.key == a1.key)) (gd1 rfl rfl rfl (h1)) rfl rfl (fun _ => rfl) rfl ?_
      refine K.move (.inl rfl) (gd1 rfl rfl rfl (h1)) rfl rfl ?_
      refine K.skip rfl rfl rfl rfl (h2) rfl ?_
      refine K.skip rfl rfl rfl rfl (h2) rfl ?_
      refine K.skip rfl rfl rfl rfl (h2) rfl ?_
      refine K.skip rfl rfl rfl rfl (h2) rfl ?_
      refine K.skip rfl rfl rfl rfl (h2) rfl ?_
      refine K.pickF (gd1 rfl rfl rfl (h1)) rfl (h2) rfl rfl ?_
      refine K.pickF (gd0 rfl) rfl (h1) rfl rfl ?_
      refine K.move (.inr rfl) (gd0 rfl) rfl rfl ?_
      refine K.nil ?_
      refine At.next ?_
      refine G.ret ?_
      refine At.done Y [(.tmp 4, .c _)] rfl ⟨.tmp rfl, trivial⟩ (to' := []) trivial ?_ ?_ rfl rfl rfl (.inl rfl)
      · cases H0; rfl
      · cases H0; rfl
theorem R02_Ahead_con {k : Nat} {a0 : TItem} {a1 : TItem} {r : Bool}  (H0 : R02_Ahead.f k a0 a1 = some r) : SCon Try.prog 41 [.a (.agg ((eTItem a0).map .v)), .a (.agg ((eTItem a1).map .v))] [] (.a (.c (.v (.bool r)))) [] [] :=
  SCon.ren (rn []) (R02_Ahead_con0  H0) trivial trivial (by simp) (by simp)
theorem R02_Sorted_con0 {k : Nat} {S : Foot} {W0 : World} {s0 : Value} {l0 : List TItem} {r : List TItem} (hL0 : LArg S W0 s0 eTItem 2 l0) (H0 : R02_Sorted.f k l0 = some r) : SCon Try.prog 75 [SV.raw s0] [(0, rd S W0)] (.a (.c (.nv 30))) [(0, rd S W0), (30, lrow 30 37 eTItem 2 r)] [30] := by
  rw [R02_Sorted.f] at H0
  obtain ⟨b0, o0, hI0⟩ := hL0
  refine spec_of [(0, _)] [(0, _)] 49 Try.func75 rfl Try.ntmps75 rfl rfl rfl rfl (fun β W F => ?_)
  refine G.seq ?_
  refine G.rg ?_
  refine K.nilRow 100 37 eTItem 2 (.inl rfl) (gd0 rfl) rfl rfl rfl ?_
  refine K.nil ?_
  refine At.next ?_
  refine G.seq ?_
  refine G.rg ?_
  refine K.nilRow 101 37 eTItem 2 (.inl rfl) (gd0 rfl) rfl rfl rfl ?_
  refine K.nil ?_
  refine At.next ?_
  obtain ⟨x1, H1, H0⟩ := bnd H0
  refine G.seqJ (σ := { v : List TItem // x1 = v }) (fun q => [(3, .a (.c (.nv 102)))]) (fun q => [(0, rd S W0), (102, lrow 102 37 eTItem 2 q.1)]) ?_ ?_
  ·
    refine G.seq ?_
    refine G.rg ?_
    refine K.move (.inr rfl) (gd0 rfl) rfl rfl ?_
    refine K.nil ?_
    refine At.next ?_
    refine G.block ?_
    refine G.loop (σ := { q : Nat × (List TItem × Int) // R02_Sorted.l0 k l0 q.1 q.2 = some x1 }) (fun q => [(0, SV.raw s0), (3, .a (.c (.nv 105))), (4, .a (.c (.v (.int .i64 q.1.2.2))))]) (fun q => [(0, rd S W0), (105, lrow 105 37 eTItem 2 q.1.2.1)]) (fun q => q.1.1) ⟨(k, (([] : List TItem), 0)), H1⟩ ?_ ?_
    · exact At.into [(105, 101)] [_, _] rfl ⟨rfl, rfl, rfl, trivial⟩ ⟨rfl, (fun _ => rfl), rfl, (lrow_ren rfl), trivial⟩ rfl
    ·
      rintro ⟨⟨n0, v1, v2⟩, H1⟩
      show G _ _ [(0, SV.raw s0), (3, .a (.c (.nv 105))), (4, .a (.c (.v (.int .i64 v2))))] [(0, some (rd S W0)), (105, some (lrow 105 37 eTItem 2 v1))] _ _
      cases n0 with
      | zero => exact absurd H1 (by simp [R02_Sorted.l0])
      | succ n0 =>
        have HL0 := H1
        rw [R02_Sorted.l0] at H1
        refine G.seq ?_
        refine G.seq ?_
        refine G.rg ?_
        refine K.move (.inl rfl) (gd0 rfl) rfl rfl ?_
        refine K.move (.inl rfl) (gd0 rfl) rfl rfl ?_
        refine K.lenL (rV 0 S W0 s0 b0 o0 eTItem 2 l0) (hI0.is 0) (gd0 rfl) rfl rfl Try.underlying33 rfl ?_
        refine K.bin (V := .bool (decide (v2 < (l0.length : Int)))) (gd0 rfl) rfl rfl (fun _ => rfl) rfl ?_
        refine K.nil ?_
        refine At.next ?_
        refine G.cond rfl (fun h1 => ?_) (fun h1 => ?_)
        ·
          replace H1 := bif_t H1 h1
          refine G.skip ?_
          refine At.next ?_
          obtain ⟨x2, H2, H1⟩ := bnd H1
          refine G.seqJ (σ := { v : List TItem // x2 = v }) (fun q => [(0, SV.raw s0), (3, .a (.c (.nv 106))), (4, .a (.c (.v (.int .i64 v2))))]) (fun q => [(0, rd S W0), (106, lrow 106 37 eTItem 2 q.1)]) ?_ ?_
          ·
            refine G.block ?_
            refine G.seq ?_
            refine G.rg ?_
            refine K.move (.inl rfl) (gd0 rfl) rfl rfl ?_
            refine K.lenL (lrowV 105 37 eTItem 2 v1) (lrowV_is eTItem_len (by decide)) (gd0 rfl) rfl rfl Try.underlying33 rfl ?_
            refine K.move (.inr rfl) (gd0 rfl) rfl rfl ?_
            refine K.nil ?_
            refine At.next ?_
            obtain ⟨x3, H3, H2⟩ := bnd H2
            refine G.seqJ (σ := { v : Int // x3 = v }) (fun q => [(0, SV.raw s0), (3, .a (.c (.nv 107))), (4, .a (.c (.v (.int .i64 v2)))), (5, .a (.c (.v (.int .i64 q.1))))]) (fun q => [(0, rd S W0), (107, lrow 107 37 eTItem 2 v1)]) ?_ ?_
            ·
              refine G.block ?_
              refine G.loop (σ := { q : Nat × (Int) // R02_Sorted.l1 k l0 v1 v2 q.1 q.2 = some x3 }) (fun q => [(0, SV.raw s0), (3, .a (.c (.nv 110))), (4, .a (.c (.v (.int .i64 v2)))), (5, .a (.c (.v (.int .i64 q.1.2))))]) (fun q => [(0, rd S W0), (110, lrow 110 37 eTItem 2 v1)]) (fun q => q.1.1) ⟨(k, (v1.length : Int)), H3⟩ ?_ ?_
              · exact At.into [(110, 105)] [_, _] rfl ⟨rfl, rfl, rfl, rfl, trivial⟩ ⟨rfl, (fun _ => rfl), rfl, (lrow_ren rfl), trivial⟩ rfl
              ·
                rintro ⟨⟨n0, v101⟩, H3⟩
                show G _ _ [(0, SV.raw s0), (3, .a (.c (.nv 110))), (4, .a (.c (.v (.int .i64 v2)))), (5, .a (.c (.v (.int .i64 v101))))] [(0, some (rd S W0)), (110, some (lrow 110 37 eTItem 2 v1))] _ _
                cases n0 with
                | zero => exact absurd H3 (by simp [R02_Sorted.l1])
                | succ n0 =>
                  have HL1 := H3
                  rw [R02_Sorted.l1] at H3
                  refine G.seq ?_
                  refine G.seq ?_
                  rcases Bool.eq_false_or_eq_true (decide (v101 > 0)) with h2 | h2
                  ·
                    replace H3 := bif_t H3 h2
                    obtain ⟨x4, hx4, H3⟩ := bnd H3
                    obtain ⟨x5, hx5, H3⟩ := bnd H3
                    obtain ⟨x6, hx6, H3⟩ := bnd H3
                    refine G.rd mixed ?_
                    refine K.move (.inl rfl) (gd0 rfl) rfl rfl ?_
                    refine K.bin (V := .bool (decide (v101 > 0))) (gd0 rfl) rfl rfl (fun _ => rfl) rfl ?_
                    refine K.move (.inl rfl) (gd0 rfl) rfl rfl ?_
                    refine K.move (.inl rfl) (gd1 rfl rfl rfl (h2)) rfl rfl ?_
                    refine K.move (.inl rfl) (gd1 rfl rfl rfl (h2)) rfl rfl ?_
                    refine K.idxL (rV 0 S W0 s0 b0 o0 eTItem 2 l0) ((v2).toNat) (hI0.is 0) (atL_get hx4) (atL_nn hx4) (gd1 rfl rfl rfl (h2)) rfl rfl rfl Try.underlying33 el33.size_run rfl ?_
                    refine K.loadSL Y (rV 0 S W0 s0 b0 o0 eTItem 2 l0) ((v2).toNat) 0 [_, _] [_, _] (hI0.is 0) (atL_get hx4) (gd1 rfl rfl rfl (h2)) rfl rfl t37 rfl rfl rfl rfl rfl ?_
                    refine K.move (.inl rfl) (gd1 rfl rfl rfl (h2)) rfl rfl ?_
                    refine K.move (.inl rfl) (gd1 rfl rfl rfl (h2)) rfl rfl ?_
                    refine K.bin (V := .int .i64 (w64 (v101 - 1))) (gd1 rfl rfl rfl (h2)) rfl rfl (fun _ => rfl) rfl ?_
                    refine K.idxL (lrowV 110 37 eTItem 2 v1) (((w64 (v101 - 1))).toNat) (lrowV_is eTItem_len (by decide)) (atL_get hx5) (atL_nn hx5) (gd1 rfl rfl rfl (h2)) rfl rfl rfl Try.underlying33 el33.size_run rfl ?_
                    refine K.loadSL Y (lrowV 110 37 eTItem 2 v1) (((w64 (v101 - 1))).toNat) 0 [_, _] [_, _] (lrowV_is eTItem_len (by decide)) (atL_get hx5) (gd1 rfl rfl rfl (h2)) rfl rfl t37 rfl rfl rfl rfl rfl ?_
                    refine K.callR [(.func 41, _), ((.tmp 21), _), ((.tmp 26), _)] (R02_Ahead_con hx6) (toFn_func (cf 41 rfl) rfl) (gd1 rfl rfl rfl (h2)) ⟨rfl, rfl, rfl, trivial⟩ trivial rfl rfl rfl ?_
                    refine K.pickT (gd0 rfl) rfl (h2) rfl rfl ?_
                    refine K.nil ?_
                    refine ⟨by kernel_rfl, ?_⟩
                    refine At.next ?_
                    refine G.cond rfl (fun h3 => ?_) (fun h3 => ?_)
                    ·
                      replace H3 := bif_t H3 h3
                      refine G.skip ?_
                      refine At.next ?_
                      refine G.block ?_
                      refine G.rg ?_
                      refine K.move (.inl rfl) (gd0 rfl) rfl rfl ?_
                      refine K.bin (V := .int .i64 (w64 (v101 - 1))) (gd0 rfl) rfl rfl (fun _ => rfl) rfl ?_
                      refine K.move (.inr rfl) (gd0 rfl) rfl rfl ?_
                      refine K.nil ?_
                      refine At.block_normal ?_
                      exact At.again (σ := { q : Nat × (Int) // R02_Sorted.l1 k l0 v1 v2 q.1 q.2 = some x3 }) (Fs := fun q => [(0, SV.raw s0), (3, .a (.c (.nv 110))), (4, .a (.c (.v (.int .i64 v2)))), (5, .a (.c (.v (.int .i64 q.1.2))))]) (Tl := fun q => [(0, rd S W0), (110, lrow 110 37 eTItem 2 v1)]) (μ := fun q => q.1.1) (s := ⟨(n0 + 1, v101), HL1⟩) ⟨(n0, (w64 (v101 - 1))), H3⟩ [] [_, _] (Nat.lt_succ_self _) rfl ⟨rfl, rfl, rfl, rfl, trivial⟩ ⟨rfl, (fun _ => rfl), rfl, (lrow_ren rfl), trivial⟩ rfl
                    ·
                      replace H3 := bif_f H3 h3
                      refine G.exit ?_
                      refine At.over_exit ?_
                      refine At.over_exit ?_
                      refine At.block_hit ?_
                      exact At.joined (σ := { v : Int // x3 = v }) (Fs := fun q => [(0, SV.raw s0), (3, .a (.c (.nv 107))), (4, .a (.c (.v (.int .i64 v2)))), (5, .a (.c (.v (.int .i64 q.1))))]) (Tl := fun q => [(0, rd S W0), (107, lrow 107 37 eTItem 2 v1)]) ⟨v101, (Option.some.inj H3).symm⟩ [(107, 110)] [_, _] rfl ⟨rfl, rfl, rfl, rfl, trivial⟩ ⟨rfl, (fun _ => rfl), rfl, (lrow_ren rfl), trivial⟩ rfl
                  ·
                    replace H3 := bif_f H3 h2
                    refine G.rd mixed ?_
                    refine K.move (.inl rfl) (gd0 rfl) rfl rfl ?_
                    refine K.bin (V := .bool (decide (v101 > 0))) (gd0 rfl) rfl rfl (fun _ => rfl) rfl ?_
                    refine K.move (.inl rfl) (gd0 rfl) rfl rfl ?_
                    refine K.skip rfl rfl rfl rfl (h2) rfl ?_
                    refine K.skip rfl rfl rfl rfl (h2) rfl ?_
                    refine K.skip rfl rfl rfl rfl (h2) rfl ?_
                    refine K.skip rfl rfl rfl rfl (h2) rfl ?_
                    refine K.skip rfl rfl rfl rfl (h2) rfl ?_
                    refine K.skip rfl rfl rfl rfl (h2) rfl ?_
                    refine K.skip rfl rfl rfl rfl (h2) rfl ?_
                    refine K.skip rfl rfl rfl rfl (h2) rfl ?_
                    refine K.skip rfl rfl rfl rfl (h2) rfl ?_
                    refine K.skip rfl rfl rfl rfl (h2) rfl ?_
                    refine K.pickF (gd0 rfl) rfl (h2) rfl rfl ?_
                    refine K.nil ?_
                    refine ⟨by kernel_rfl, ?_⟩
                    refine At.next ?_
                    refine G.cond rfl (fun h4 => ?_) (fun h4 => ?_)
                    · cases h4
                    ·
                      refine G.exit ?_
                      refine At.over_exit ?_
                      refine At.over_exit ?_
                      refine At.block_hit ?_
                      exact At.joined (σ := { v : Int // x3 = v }) (Fs := fun q => [(0, SV.raw s0), (3, .a (.c (.nv 107))), (4, .a (.c (.v (.int .i64 v2)))), (5, .a (.c (.v (.int .i64 q.1))))]) (Tl := fun q => [(0, rd S W0), (107, lrow 107 37 eTItem 2 v1)]) ⟨v101, (Option.some.inj H3).symm⟩ [(107, 110)] [_, _] rfl ⟨rfl, rfl, rfl, rfl, trivial⟩ ⟨rfl, (fun _ => rfl), rfl, (lrow_ren rfl), trivial⟩ rfl
            ·
              rintro ⟨_, rfl⟩
              show G _ _ [(0, SV.raw s0), (3, .a (.c (.nv 107))), (4, .a (.c (.v (.int .i64 v2)))), (5, .a (.c (.v (.int .i64 x3))))] [(0, some (rd S W0)), (107, some (lrow 107 37 eTItem 2 v1))] _ _
              refine G.seq ?_
              refine G.rg ?_
              refine K.nilRow 111 37 eTItem 2 (.inl rfl) (gd0 rfl) rfl rfl rfl ?_
              refine K.nil ?_
              refine At.next ?_
              refine G.seq ?_
              obtain ⟨h5, H2⟩ := grd H2
              obtain ⟨h7, H2⟩ := grd H2
              refine G.rg ?_
              refine K.move (.inl rfl) (gd0 rfl) rfl rfl ?_
              refine K.move (.inl rfl) (gd0 rfl) rfl rfl ?_
              refine K.move (.inl rfl) (gd0 rfl) rfl rfl ?_
              refine K.partL 0 ((x3).toNat) (gd0 rfl) rfl .no (.at_ rfl h5.1 rfl) rfl Try.underlying33 el33.size_run (Nat.zero_le _) (tn_len h5.2) rfl ?_
              refine K.appendL 112 (lsubV 107 37 eTItem 2 v1 0 ((x3).toNat)) _ el33 (lsubV_is eTItem_len (by decide) (Nat.zero_le _) (tn_len h5.2)) eTItem_one (gd0 rfl) rfl rfl rfl rfl rfl (ap_m h7) (ap_b h7 (by decide)) rfl rfl rfl rfl rfl rfl ?_
              refine K.move (.inr rfl) (gd0 rfl) rfl rfl ?_
              refine K.nil ?_
              refine At.next ?_
              refine G.seq ?_
              obtain ⟨x7, hx7, H2⟩ := bnd H2
              obtain ⟨h8, H2⟩ := grd H2
              refine G.rg ?_
              refine K.move (.inl rfl) (gd0 rfl) rfl rfl ?_
              refine K.move (.inl rfl) (gd0 rfl) rfl rfl ?_
              refine K.move (.inl rfl) (gd0 rfl) rfl rfl ?_
              refine K.idxL (rV 0 S W0 s0 b0 o0 eTItem 2 l0) ((v2).toNat) (hI0.is 0) (atL_get hx7) (atL_nn hx7) (gd0 rfl) rfl rfl rfl Try.underlying33 el33.size_run rfl ?_
              refine K.loadSL Y (rV 0 S W0 s0 b0 o0 eTItem 2 l0) ((v2).toNat) 0 [_, _] [_, _] (hI0.is 0) (atL_get hx7) (gd0 rfl) rfl rfl t37 rfl rfl rfl rfl rfl ?_
              refine K.buildL Y 113 ([x7] : List TItem) [(0, _)] [((.tmp 40), _)] eTItem_len (gd0 rfl) (AllE.spec ⟨rfl, trivial⟩) rfl rfl Try.underlying33 t37 rfl rfl rfl rfl rfl rfl rfl rfl ?_
              refine K.appendL 114 (lrowV 113 37 eTItem 2 ([x7] : List TItem)) _ el33 (lrowV_is eTItem_len (by decide)) eTItem_one (gd0 rfl) rfl rfl rfl rfl rfl (ap_m h8) (ap_b h8 (by decide)) rfl rfl rfl rfl rfl rfl ?_
              refine K.move (.inr rfl) (gd0 rfl) rfl rfl ?_
              refine K.nil ?_
              refine At.next ?_
              obtain ⟨h9, H2⟩ := grd H2
              obtain ⟨h11, H2⟩ := grd H2
              refine G.rg ?_
              refine K.move (.inl rfl) (gd0 rfl) rfl rfl ?_
              refine K.move (.inl rfl) (gd0 rfl) rfl rfl ?_
              refine K.move (.inl rfl) (gd0 rfl) rfl rfl ?_
              refine K.partL ((x3).toNat) v1.length (gd0 rfl) rfl (.at_ rfl h9.1 rfl) .no rfl Try.underlying33 el33.size_run (tn_len h9.2) (Nat.le_refl _) rfl ?_
              refine K.appendL 115 (lsubV 107 37 eTItem 2 v1 ((x3).toNat) v1.length) _ el33 (lsubV_is eTItem_len (by decide) (tn_len h9.2) (Nat.le_refl _)) eTItem_one (gd0 rfl) rfl rfl rfl rfl rfl (ap_m h11) (ap_b h11 (by decide)) rfl rfl rfl rfl rfl rfl ?_
              refine K.move (.inr rfl) (gd0 rfl) rfl rfl ?_
              refine K.nil ?_
              refine At.block_normal ?_
              exact At.joined (σ := { v : List TItem // x2 = v }) (Fs := fun q => [(0, SV.raw s0), (3, .a (.c (.nv 106))), (4, .a (.c (.v (.int .i64 v2))))]) (Tl := fun q => [(0, rd S W0), (106, lrow 106 37 eTItem 2 q.1)]) ⟨(((([] : List TItem) ++ ((v1.drop 0).take (((x3).toNat) - 0))) ++ ([x7] : List TItem)) ++ ((v1.drop ((x3).toNat)).take (v1.length - ((x3).toNat)))), (Option.some.inj H2).symm⟩ [(106, 115)] [_, _] rfl ⟨rfl, rfl, rfl, trivial⟩ ⟨rfl, (fun _ => rfl), rfl, (lrow_ren rfl), trivial⟩ rfl
          ·
            rintro ⟨_, rfl⟩
            show G _ _ [(0, SV.raw s0), (3, .a (.c (.nv 106))), (4, .a (.c (.v (.int .i64 v2))))] [(0, some (rd S W0)), (106, some (lrow 106 37 eTItem 2 x2))] _ _
            refine G.rg ?_
            refine K.move (.inl rfl) (gd0 rfl) rfl rfl ?_
            refine K.bin (V := .int .i64 (w64 (v2 + 1))) (gd0 rfl) rfl rfl (fun _ => rfl) rfl ?_
            refine K.move (.inr rfl) (gd0 rfl) rfl rfl ?_
            refine K.nil ?_
            exact At.again (σ := { q : Nat × (List TItem × Int) // R02_Sorted.l0 k l0 q.1 q.2 = some x1 }) (Fs := fun q => [(0, SV.raw s0), (3, .a (.c (.nv 105))), (4, .a (.c (.v (.int .i64 q.1.2.2))))]) (Tl := fun q => [(0, rd S W0), (105, lrow 105 37 eTItem 2 q.1.2.1)]) (μ := fun q => q.1.1) (s := ⟨(n0 + 1, (v1, v2)), HL0⟩) ⟨(n0, (x2, (w64 (v2 + 1)))), H1⟩ [(105, 106)] [_, _] (Nat.lt_succ_self _) rfl ⟨rfl, rfl, rfl, trivial⟩ ⟨rfl, (fun _ => rfl), rfl, (lrow_ren rfl), trivial⟩ rfl
        ·
          replace H1 := bif_f H1 h1
          refine G.exit ?_
          refine At.over_exit ?_
          refine At.over_exit ?_
          refine At.block_hit ?_
          exact At.joined (σ := { v : List TItem // x1 = v }) (Fs := fun q => [(3, .a (.c (.nv 102)))]) (Tl := fun q => [(0, rd S W0), (102, lrow 102 37 eTItem 2 q.1)]) ⟨v1, (Option.some.inj H1).symm⟩ [(102, 105)] [_, _] rfl ⟨rfl, trivial⟩ ⟨rfl, (fun _ => rfl), rfl, (lrow_ren rfl), trivial⟩ rfl
  ·
    rintro ⟨_, rfl⟩
    show G _ _ [(3, .a (.c (.nv 102)))] [(0, some (rd S W0)), (102, some (lrow 102 37 eTItem 2 x1))] _ _
    refine G.seq ?_
    refine G.rg ?_
    refine K.move (.inl rfl) (gd0 rfl) rfl rfl ?_
    refine K.move (.inr rfl) (gd0 rfl) rfl rfl ?_
    refine K.nil ?_
    refine At.next ?_
    refine G.ret ?_
    refine At.ren (fs' := [(2, .a (.c (.nv 30)))]) (tl := [(0, rd S W0), (30, lrow 30 37 eTItem 2 x1)]) [(30, 102)] [_, _] rfl ⟨rfl, trivial⟩ ⟨rfl, (fun _ => rfl), rfl, (lrow_ren rfl), trivial⟩ rfl ?_
    refine At.done Y [(.tmp 2, .c _)] rfl ⟨.tmp rfl, trivial⟩ (to' := [(0, _), (30, _)]) ⟨rfl, rfl, trivial⟩ ?_ ?_ rfl rfl rfl (.inl rfl)
    · cases H0; rfl
    · cases H0; rfl
theorem R02_Sorted_con {k : Nat} {S : Foot} {W0 : World} {s0 : Value} {l0 : List TItem} {r : List TItem} (hL0 : LArg S W0 s0 eTItem 2 l0) (H0 : R02_Sorted.f k l0 = some r) (m30 : Nat) (hd : ndB [m30] = true) : SCon Try.prog 75 [SV.raw s0] [(0, rd S W0)] (.a (.c (.nv m30))) [(0, rd S W0), (m30, lrow m30 37 eTItem 2 r)] [m30] :=
  SCon.ren (rn [(30, m30)]) (R02_Sorted_con0 hL0 H0) ⟨(fun _ => rfl), trivial⟩ ⟨(fun _ => rfl), (lrow_ren rfl), trivial⟩ (rn_nd hd rfl rfl) (rn_ks hd rfl rfl rfl)
theorem R08_Deletes_con0 {k : Nat} {S : Foot} {W0 : World} {s0 : Value} {l0 : List TR08Mark} {r : Int × Int × TItem} (hL0 : LArg S W0 s0 eTR08Mark 8 l0) (H0 : R08_Deletes.f k l0 = some r) : SCon Try.prog 60 [SV.raw s0] [(0, rd S W0)] (.tup [.c (.v (.int .i64 r.1)), .c (.v (.int .i64 r.2.1)), .agg ((eTItem r.2.2).map .v)]) [(0, rd S W0)] [] := by
  rw [R08_Deletes.f] at H0
  obtain ⟨b0, o0, hI0⟩ := hL0
  refine spec_of [(0, _)] [(0, _)] 56 Try.func60 rfl Try.ntmps60 rfl rfl rfl rfl (fun β W F => ?_)
  refine G.seq ?_
  refine G.rg ?_
  refine K.move (.inr rfl) (gd0 rfl) rfl rfl ?_
  refine K.move (.inr rfl) (gd0 rfl) rfl rfl ?_
  refine K.alloc Y 100 [_, _] (gd0 rfl) t37 rfl rfl rfl rfl rfl ?_
  refine K.nil ?_
  refine At.next ?_
  refine G.seq ?_
  refine G.rg ?_
  refine K.move (.inr rfl) (gd0 rfl) rfl rfl ?_
  refine K.move (.inr rfl) (gd0 rfl) rfl rfl ?_
  refine K.nil ?_
  refine At.next ?_
  refine G.seq ?_
  refine G.rg ?_
  refine K.nilRow 101 37 eTItem 2 (.inl rfl) (gd0 rfl) rfl rfl rfl ?_
  refine K.nil ?_
  refine At.next ?_
  obtain ⟨x1, H1, H0⟩ := bnd H0
  refine G.seqJ (σ := { v : Int × Int × List TItem // x1 = v }) (fun q => [(4, .a (.c (.p 102 0))), (5, .a (.c (.v (.int .i64 q.1.1)))), (6, .a (.c (.v (.int .i64 q.1.2.1)))), (7, .a (.c (.nv 103)))]) (fun q => [(0, rd S W0), (102, blk 102 [.v (.int .i64 0), .v (.int .i64 0)] 37), (103, lrow 103 37 eTItem 2 q.1.2.2)]) ?_ ?_
  ·
    refine G.seq ?_
    refine G.rg ?_
    refine K.move (.inr rfl) (gd0 rfl) rfl rfl ?_
    refine K.nil ?_
    refine At.next ?_
    refine G.block ?_
    refine G.loop (σ := { q : Nat × (Int × Int × List TItem × Int) // R08_Deletes.l0 k l0 q.1 q.2 = some x1 }) (fun q => [(0, SV.raw s0), (4, .a (.c (.p 108 0))), (5, .a (.c (.v (.int .i64 q.1.2.1)))), (6, .a (.c (.v (.int .i64 q.1.2.2.1)))), (7, .a (.c (.nv 109))), (8, .a (.c (.v (.int .i64 q.1.2.2.2.2))))]) (fun q => [(0, rd S W0), (108, blk 108 [.v (.int .i64 0), .v (.int .i64 0)] 37), (109, lrow 109 37 eTItem 2 q.1.2.2.2.1)]) (fun q => q.1.1) ⟨(k, (0, 0, ([] : List TItem), 0)), H1⟩ ?_ ?_
    · exact At.into [(108, 100), (109, 101)] [_, _, _] rfl ⟨rfl, rfl, rfl, rfl, rfl, rfl, trivial⟩ ⟨rfl, (fun _ => rfl), rfl, (blk_ren rfl rfl), rfl, (lrow_ren rfl), trivial⟩ rfl
    ·
      rintro ⟨⟨n0, v1, v2, v3, v4⟩, H1⟩
      show G _ _ [(0, SV.raw s0), (4, .a (.c (.p 108 0))), (5, .a (.c (.v (.int .i64 v1)))), (6, .a (.c (.v (.int .i64 v2)))), (7, .a (.c (.nv 109))), (8, .a (.c (.v (.int .i64 v4))))] [(0, some (rd S W0)), (108, some (blk 108 [.v (.int .i64 0), .v (.int .i64 0)] 37)), (109, some (lrow 109 37 eTItem 2 v3))] _ _
      cases n0 with
      | zero => exact absurd H1 (by simp [R08_Deletes.l0])
      | succ n0 =>
        have HL0 := H1
        rw [R08_Deletes.l0] at H1
        refine G.seq ?_
        refine G.seq ?_
        refine G.rg ?_
        refine K.move (.inl rfl) (gd0 rfl) rfl rfl ?_
        refine K.move (.inl rfl) (gd0 rfl) rfl rfl ?_
        refine K.lenL (rV 0 S W0 s0 b0 o0 eTR08Mark 8 l0) (hI0.is 0) (gd0 rfl) rfl rfl Try.underlying60 rfl ?_
        refine K.bin (V := .bool (decide (v4 < (l0.length : Int)))) (gd0 rfl) rfl rfl (fun _ => rfl) rfl ?_
        refine K.nil ?_
        refine At.next ?_
        refine G.cond rfl (fun h1 => ?_) (fun h1 => ?_)
        ·
          replace H1 := bif_t H1 h1
          refine G.skip ?_
          refine At.next ?_
          refine G.seq ?_
          refine G.block ?_
          refine G.seq ?_
          refine G.seq ?_
          obtain ⟨x2, hx2, H1⟩ := bnd H1
          refine G.rg ?_
          refine K.move (.inl rfl) (gd0 rfl) rfl rfl ?_
          refine K.move (.inl rfl) (gd0 rfl) rfl rfl ?_
          refine K.idxL (rV 0 S W0 s0 b0 o0 eTR08Mark 8 l0) ((v4).toNat) (hI0.is 0) (atL_get hx2) (atL_nn hx2) (gd0 rfl) rfl rfl rfl Try.underlying60 el60.size_run rfl ?_
          refine K.fieldL Y (rV 0 S W0 s0 b0 o0 eTR08Mark 8 l0) ((v4).toNat) 0 0 (hI0.is 0) (atL_get hx2) (gd0 rfl) rfl rfl t75 rfl rfl rfl rfl ?_
          refine K.fieldL Y (rV 0 S W0 s0 b0 o0 eTR08Mark 8 l0) ((v4).toNat) 0 1 (hI0.is 0) (atL_get hx2) (gd0 rfl) rfl rfl t73 rfl rfl rfl rfl ?_
          refine K.load1L Y (rV 0 S W0 s0 b0 o0 eTR08Mark 8 l0) ((v4).toNat) 1 (hI0.is 0) (atL_get hx2) (gd0 rfl) rfl rfl t4 rfl rfl ?_
          refine K.nil ?_
          refine At.next ?_
          refine G.cond rfl (fun h2 => ?_) (fun h2 => ?_)
          ·
            replace H1 := bif_t H1 h2
            refine G.exit ?_
            refine At.over_exit ?_
            refine At.block_hit ?_
            refine At.next ?_
            refine G.rg ?_
            refine K.move (.inl rfl) (gd0 rfl) rfl rfl ?_
            refine K.bin (V := .int .i64 (w64 (v4 + 1))) (gd0 rfl) rfl rfl (fun _ => rfl) rfl ?_
            refine K.move (.inr rfl) (gd0 rfl) rfl rfl ?_
            refine K.nil ?_
            exact At.again (σ := { q : Nat × (Int × Int × List TItem × Int) // R08_Deletes.l0 k l0 q.1 q.2 = some x1 }) (Fs := fun q => [(0, SV.raw s0), (4, .a (.c (.p 108 0))), (5, .a (.c (.v (.int .i64 q.1.2.1)))), (6, .a (.c (.v (.int .i64 q.1.2.2.1)))), (7, .a (.c (.nv 109))), (8, .a (.c (.v (.int .i64 q.1.2.2.2.2))))]) (Tl := fun q => [(0, rd S W0), (108, blk 108 [.v (.int .i64 0), .v (.int .i64 0)] 37), (109, lrow 109 37 eTItem 2 q.1.2.2.2.1)]) (μ := fun q => q.1.1) (s := ⟨(n0 + 1, (v1, v2, v3, v4)), HL0⟩) ⟨(n0, (v1, v2, v3, (w64 (v4 + 1)))), H1⟩ [] [_, _, _] (Nat.lt_succ_self _) rfl ⟨rfl, rfl, rfl, rfl, rfl, rfl, trivial⟩ ⟨rfl, (fun _ => rfl), rfl, (blk_ren rfl rfl), rfl, (lrow_ren rfl), trivial⟩ rfl
          ·
            replace H1 := bif_f H1 h2
            refine G.skip ?_
            refine At.next ?_
            refine G.seq ?_
            refine G.rg ?_
            refine K.move (.inl rfl) (gd0 rfl) rfl rfl ?_
            refine K.bin (V := .int .i64 (w64 (v1 + 1))) (gd0 rfl) rfl rfl (fun _ => rfl) rfl ?_
            refine K.move (.inr rfl) (gd0 rfl) rfl rfl ?_
            refine K.nil ?_
            refine At.next ?_
            refine G.seq ?_
            refine G.rg ?_
            refine K.move (.inl rfl) (gd0 rfl) rfl rfl ?_
            refine K.move (.inl rfl) (gd0 rfl) rfl rfl ?_
            refine K.idxL (rV 0 S W0 s0 b0 o0 eTR08Mark 8 l0) ((v4).toNat) (hI0.is 0) (atL_get hx2) (atL_nn hx2) (gd0 rfl) rfl rfl rfl Try.underlying60 el60.size_run rfl ?_
            refine K.fieldL Y (rV 0 S W0 s0 b0 o0 eTR08Mark 8 l0) ((v4).toNat) 0 5 (hI0.is 0) (atL_get hx2) (gd0 rfl) rfl rfl t75 rfl rfl rfl rfl ?_
            refine K.fieldL Y (rV 0 S W0 s0 b0 o0 eTR08Mark 8 l0) ((v4).toNat) 5 5 (hI0.is 0) (atL_get hx2) (gd0 rfl) rfl rfl t65 rfl rfl rfl rfl ?_
            refine K.load1L Y (rV 0 S W0 s0 b0 o0 eTR08Mark 8 l0) ((v4).toNat) 5 (hI0.is 0) (atL_get hx2) (gd0 rfl) rfl rfl t4 rfl rfl ?_
            refine K.nil ?_
            refine At.next ?_
            refine G.cond rfl (fun h3 => ?_) (fun h3 => ?_)
            ·
              replace H1 := bif_t H1 h3
              obtain ⟨h4, H1⟩ := grd H1
              refine G.rg ?_
              refine K.move (.inl rfl) (gd0 rfl) rfl rfl ?_
              refine K.move (.inl rfl) (gd0 rfl) rfl rfl ?_
              refine K.move (.inl rfl) (gd0 rfl) rfl rfl ?_
              refine K.idxL (rV 0 S W0 s0 b0 o0 eTR08Mark 8 l0) ((v4).toNat) (hI0.is 0) (atL_get hx2) (atL_nn hx2) (gd0 rfl) rfl rfl rfl Try.underlying60 el60.size_run rfl ?_
              refine K.fieldL Y (rV 0 S W0 s0 b0 o0 eTR08Mark 8 l0) ((v4).toNat) 0 5 (hI0.is 0) (atL_get hx2) (gd0 rfl) rfl rfl t75 rfl rfl rfl rfl ?_
              refine K.fieldL Y (rV 0 S W0 s0 b0 o0 eTR08Mark 8 l0) ((v4).toNat) 5 6 (hI0.is 0) (atL_get hx2) (gd0 rfl) rfl rfl t65 rfl rfl rfl rfl ?_
              refine K.loadSL Y (rV 0 S W0 s0 b0 o0 eTR08Mark 8 l0) ((v4).toNat) 6 [_, _] [_, _] (hI0.is 0) (atL_get hx2) (gd0 rfl) rfl rfl t37 rfl rfl rfl rfl rfl ?_
              refine K.buildL Y 110 ([x2.took.item] : List TItem) [(0, _)] [((.tmp 35), _)] eTItem_len (gd0 rfl) (AllE.spec ⟨rfl, trivial⟩) rfl rfl Try.underlying33 t37 rfl rfl rfl rfl rfl rfl rfl rfl ?_
              refine K.appendL 111 (lrowV 110 37 eTItem 2 ([x2.took.item] : List TItem)) _ el33 (lrowV_is eTItem_len (by decide)) eTItem_one (gd0 rfl) rfl rfl rfl rfl rfl (ap_m h4) (ap_b h4 (by decide)) rfl rfl rfl rfl rfl rfl ?_
              refine K.move (.inr rfl) (gd0 rfl) rfl rfl ?_
              refine K.nil ?_
              refine At.block_normal ?_
              refine At.next ?_
              refine G.rg ?_
              refine K.move (.inl rfl) (gd0 rfl) rfl rfl ?_
              refine K.bin (V := .int .i64 (w64 (v4 + 1))) (gd0 rfl) rfl rfl (fun _ => rfl) rfl ?_
              refine K.move (.inr rfl) (gd0 rfl) rfl rfl ?_
              refine K.nil ?_
              exact At.again (σ := { q : Nat × (Int × Int × List TItem × Int) // R08_Deletes.l0 k l0 q.1 q.2 = some x1 }) (Fs := fun q => [(0, SV.raw s0), (4, .a (.c (.p 108 0))), (5, .a (.c (.v (.int .i64 q.1.2.1)))), (6, .a (.c (.v (.int .i64 q.1.2.2.1)))), (7, .a (.c (.nv 109))), (8, .a (.c (.v (.int .i64 q.1.2.2.2.2))))]) (Tl := fun q => [(0, rd S W0), (108, blk 108 [.v (.int .i64 0), .v (.int .i64 0)] 37), (109, lrow 109 37 eTItem 2 q.1.2.2.2.1)]) (μ := fun q => q.1.1) (s := ⟨(n0 + 1, (v1, v2, v3, v4)), HL0⟩) ⟨(n0, ((w64 (v1 + 1)), v2, (v3 ++ ([x2.took.item] : List TItem)), (w64 (v4 + 1)))), H1⟩ [(109, 111)] [_, _, _] (Nat.lt_succ_self _) rfl ⟨rfl, rfl, rfl, rfl, rfl, rfl, trivial⟩ ⟨rfl, (fun _ => rfl), rfl, (blk_ren rfl rfl), rfl, (lrow_ren rfl), trivial⟩ rfl
            ·
              replace H1 := bif_f H1 h3
              refine G.rg ?_
              refine K.move (.inl rfl) (gd0 rfl) rfl rfl ?_
              refine K.bin (V := .int .i64 (w64 (v2 + 1))) (gd0 rfl) rfl rfl (fun _ => rfl) rfl ?_
              refine K.move (.inr rfl) (gd0 rfl) rfl rfl ?_
              refine K.nil ?_
              refine At.block_normal ?_
              refine At.next ?_
              refine G.rg ?_
              refine K.move (.inl rfl) (gd0 rfl) rfl rfl ?_
              refine K.bin (V := .int .i64 (w64 (v4 + 1))) (gd0 rfl) rfl rfl (fun _ => rfl) rfl ?_
              refine K.move (.inr rfl) (gd0 rfl) rfl rfl ?_
              refine K.nil ?_
              exact At.again (σ := { q : Nat × (Int × Int × List TItem × Int) // R08_Deletes.l0 k l0 q.1 q.2 = some x1 }) (Fs := fun q => [(0, SV.raw s0), (4, .a (.c (.p 108 0))), (5, .a (.c (.v (.int .i64 q.1.2.1)))), (6, .a (.c (.v (.int .i64 q.1.2.2.1)))), (7, .a (.c (.nv 109))), (8, .a (.c (.v (.int .i64 q.1.2.2.2.2))))]) (Tl := fun q => [(0, rd S W0), (108, blk 108 [.v (.int .i64 0), .v (.int .i64 0)] 37), (109, lrow 109 37 eTItem 2 q.1.2.2.2.1)]) (μ := fun q => q.1.1) (s := ⟨(n0 + 1, (v1, v2, v3, v4)), HL0⟩) ⟨(n0, ((w64 (v1 + 1)), (w64 (v2 + 1)), v3, (w64 (v4 + 1)))), H1⟩ [] [_, _, _] (Nat.lt_succ_self _) rfl ⟨rfl, rfl, rfl, rfl, rfl, rfl, trivial⟩ ⟨rfl, (fun _ => rfl), rfl, (blk_ren rfl rfl), rfl, (lrow_ren rfl), trivial⟩ rfl
        ·
          replace H1 := bif_f H1 h1
          refine G.exit ?_
          refine At.over_exit ?_
          refine At.over_exit ?_
          refine At.block_hit ?_
          exact At.joined (σ := { v : Int × Int × List TItem // x1 = v }) (Fs := fun q => [(4, .a (.c (.p 102 0))), (5, .a (.c (.v (.int .i64 q.1.1)))), (6, .a (.c (.v (.int .i64 q.1.2.1)))), (7, .a (.c (.nv 103)))]) (Tl := fun q => [(0, rd S W0), (102, blk 102 [.v (.int .i64 0), .v (.int .i64 0)] 37), (103, lrow 103 37 eTItem 2 q.1.2.2)]) ⟨(v1, v2, v3), (Option.some.inj H1).symm⟩ [(102, 108), (103, 109)] [_, _, _] rfl ⟨rfl, rfl, rfl, rfl, trivial⟩ ⟨rfl, (fun _ => rfl), rfl, (blk_ren rfl rfl), rfl, (lrow_ren rfl), trivial⟩ rfl
  ·
    rintro ⟨_, rfl⟩
    show G _ _ [(4, .a (.c (.p 102 0))), (5, .a (.c (.v (.int .i64 x1.1)))), (6, .a (.c (.v (.int .i64 x1.2.1)))), (7, .a (.c (.nv 103)))] [(0, some (rd S W0)), (102, some (blk 102 [.v (.int .i64 0), .v (.int .i64 0)] 37)), (103, some (lrow 103 37 eTItem 2 x1.2.2))] _ _
    refine G.seq ?_
    obtain ⟨x3, hx3, H0⟩ := bnd H0
    refine G.rg ?_
    refine K.move (.inl rfl) (gd0 rfl) rfl rfl ?_
    refine K.callV [(.func 75, _), ((.tmp 40), _)] [(103, lrow 103 37 eTItem 2 x1.2.2)] [] [(112, _)] (fun β => [SV.raw ((lrowV 103 37 eTItem 2 x1.2.2).s.den β)]) (fun β w S2 h => R02_Sorted_con ((lrowV_isC eTItem_len (by decide)).larg ⟨_, List.mem_cons_self⟩ h) hx3 112 rfl) (toFn_func (cf 75 rfl) rfl) (gd0 rfl) ⟨rfl, rfl, trivial⟩ (fun _ => rfl) ⟨rfl, trivial⟩ rfl rfl rfl rfl rfl rfl ?_
    refine K.move (.inr rfl) (gd0 rfl) rfl rfl ?_
    refine K.nil ?_
    refine At.next ?_
    refine G.seq ?_
    refine G.seq ?_
    refine G.rg ?_
    refine K.move (.inl rfl) (gd0 rfl) rfl rfl ?_
    refine K.lenL (lrowV 112 37 eTItem 2 x3) (lrowV_is eTItem_len (by decide)) (gd0 rfl) rfl rfl Try.underlying33 rfl ?_
    refine K.bin (V := .bool ((x3.length : Int) == 0)) (gd0 rfl) rfl rfl (fun _ => rfl) rfl ?_
    refine K.nil ?_
    refine At.next ?_
    refine G.cond rfl (fun h5 => ?_) (fun h5 => ?_)
    ·
      replace H0 := bif_t H0 h5
      refine G.seq ?_
      refine G.rg ?_
      refine K.move (.inl rfl) (gd0 rfl) rfl rfl ?_
      refine K.move (.inl rfl) (gd0 rfl) rfl rfl ?_
      refine K.build Y [] [_, _] [] (gd0 rfl) (AllE.spec trivial) rfl rfl t37 rfl rfl ?_
      refine K.move (.inr rfl) (gd0 rfl) rfl rfl ?_
      refine K.move (.inr rfl) (gd0 rfl) rfl rfl ?_
      refine K.store Y [_, _] (gd0 rfl) rfl rfl rfl t37 rfl rfl rfl rfl rfl ?_
      refine K.nil ?_
      refine At.next ?_
      refine G.ret ?_
      refine At.over_ret ?_
      refine At.done Y [(.tmp 2, .c _), (.tmp 3, .c _), (.cell 4 37, .agg [_, _])] rfl ⟨.tmp rfl, .tmp rfl, .st rfl rfl t37 rfl rfl, trivial⟩ (to' := [(0, _)]) ⟨rfl, trivial⟩ ?_ ?_ rfl rfl rfl (.inl rfl)
      · cases H0; rfl
      · cases H0; rfl
    ·
      replace H0 := bif_f H0 h5
      refine G.skip ?_
      refine At.next ?_
      refine G.seq ?_
      obtain ⟨x4, hx4, H0⟩ := bnd H0
      refine G.rd mixed ?_
      refine K.move (.inl rfl) (gd0 rfl) rfl rfl ?_
      refine K.move (.inl rfl) (gd0 rfl) rfl rfl ?_
      refine K.move (.inl rfl) (gd0 rfl) rfl rfl ?_
      refine K.move (.inl rfl) (gd0 rfl) rfl rfl ?_
      refine K.lenL (lrowV 112 37 eTItem 2 x3) (lrowV_is eTItem_len (by decide)) (gd0 rfl) rfl rfl Try.underlying33 rfl ?_
      refine K.bin (V := .int .i64 (w64 ((x3.length : Int) - 1))) (gd0 rfl) rfl rfl (fun _ => rfl) rfl ?_
      refine K.idxL (lrowV 112 37 eTItem 2 x3) (((w64 ((x3.length : Int) - 1))).toNat) (lrowV_is eTItem_len (by decide)) (atL_get hx4) (atL_nn hx4) (gd0 rfl) rfl rfl rfl Try.underlying33 el33.size_run rfl ?_
      refine K.loadSL Y (lrowV 112 37 eTItem 2 x3) (((w64 ((x3.length : Int) - 1))).toNat) 0 [_, _] [_, _] (lrowV_is eTItem_len (by decide)) (atL_get hx4) (gd0 rfl) rfl rfl t37 rfl rfl rfl rfl rfl ?_
      refine K.move (.inr rfl) (gd0 rfl) rfl rfl ?_
      refine K.move (.inr rfl) (gd0 rfl) rfl rfl ?_
      refine K.store Y [_, _] (gd0 rfl) rfl rfl rfl t37 rfl rfl rfl rfl rfl ?_
      refine K.nil ?_
      refine ⟨by kernel_rfl, ?_⟩
      refine At.next ?_
      refine G.ret ?_
      refine At.done Y [(.tmp 2, .c _), (.tmp 3, .c _), (.cell 4 37, .agg [_, _])] rfl ⟨.tmp rfl, .tmp rfl, .st rfl rfl t37 rfl rfl, trivial⟩ (to' := [(0, _)]) ⟨rfl, trivial⟩ ?_ ?_ rfl rfl rfl (.inl rfl)
      · cases H0; rfl
      · cases H0; rfl
theorem R08_Deletes_con {k : Nat} {S : Foot} {W0 : World} {s0 : Value} {l0 : List TR08Mark} {r : Int × Int × TItem} (hL0 : LArg S W0 s0 eTR08Mark 8 l0) (H0 : R08_Deletes.f k l0 = some r) : SCon Try.prog 60 [SV.raw s0] [(0, rd S W0)] (.tup [.c (.v (.int .i64 r.1)), .c (.v (.int .i64 r.2.1)), .agg ((eTItem r.2.2).map .v)]) [(0, rd S W0)] [] :=
  SCon.ren (rn []) (R08_Deletes_con0 hL0 H0) ⟨(fun _ => rfl), trivial⟩ ⟨(fun _ => rfl), trivial⟩ (by simp) (by simp)
theorem R08_Items_con0 {k : Nat} {S : Foot} {W0 : World} {s0 : Value} {l0 : List TR08Mark} {a1 : Bool} {r : List TItem} (hL0 : LArg S W0 s0 eTR08Mark 8 l0) (H0 : R08_Items.f k l0 a1 = some r) : SCon Try.prog 61 [SV.raw s0, .a (.c (.v (.bool a1)))] [(0, rd S W0)] (.a (.c (.nv 30))) [(0, rd S W0), (30, lrow 30 37 eTItem 2 r)] [30] := by
  rw [R08_Items.f] at H0
  obtain ⟨b0, o0, hI0⟩ := hL0
  refine spec_of [(0, _), (1, _)] [(0, _)] 39 Try.func61 rfl Try.ntmps61 rfl rfl rfl rfl (fun β W F => ?_)
  refine G.seq ?_
  refine G.rg ?_
  refine K.nilRow 100 37 eTItem 2 (.inl rfl) (gd0 rfl) rfl rfl rfl ?_
  refine K.nil ?_
  refine At.next ?_
  refine G.seq ?_
  refine G.rg ?_
  refine K.nilRow 101 37 eTItem 2 (.inl rfl) (gd0 rfl) rfl rfl rfl ?_
  refine K.nil ?_
  refine At.next ?_
  obtain ⟨x1, H1, H0⟩ := bnd H0
  refine G.seqJ (σ := { v : List TItem // x1 = v }) (fun q => [(5, .a (.c (.nv 102)))]) (fun q => [(0, rd S W0), (102, lrow 102 37 eTItem 2 q.1)]) ?_ ?_
  ·
    refine G.seq ?_
    refine G.rg ?_
    refine K.move (.inr rfl) (gd0 rfl) rfl rfl ?_
    refine K.nil ?_
    refine At.next ?_
    refine G.block ?_
    refine G.loop (σ := { q : Nat × (List TItem × Int) // R08_Items.l0 k l0 a1 q.1 q.2 = some x1 }) (fun q => [(0, SV.raw s0), (1, .a (.c (.v (.bool a1)))), (5, .a (.c (.nv 105))), (6, .a (.c (.v (.int .i64 q.1.2.2))))]) (fun q => [(0, rd S W0), (105, lrow 105 37 eTItem 2 q.1.2.1)]) (fun q => q.1.1) ⟨(k, (([] : List TItem), 0)), H1⟩ ?_ ?_
    · exact At.into [(105, 101)] [_, _] rfl ⟨rfl, rfl, rfl, rfl, trivial⟩ ⟨rfl, (fun _ => rfl), rfl, (lrow_ren rfl), trivial⟩ rfl
    ·
      rintro ⟨⟨n0, v1, v2⟩, H1⟩
      show G _ _ [(0, SV.raw s0), (1, .a (.c (.v (.bool a1)))), (5, .a (.c (.nv 105))), (6, .a (.c (.v (.int .i64 v2))))] [(0, some (rd S W0)), (105, some (lrow 105 37 eTItem 2 v1))] _ _
      cases n0 with
      | zero => exact absurd H1 (by simp [R08_Items.l0])
      | succ n0 =>
        have HL0 := H1
        rw [R08_Items.l0] at H1
        refine G.seq ?_
        refine G.seq ?_
        refine G.rg ?_
        refine K.move (.inl rfl) (gd0 rfl) rfl rfl ?_
        refine K.move (.inl rfl) (gd0 rfl) rfl rfl ?_
        refine K.lenL (rV 0 S W0 s0 b0 o0 eTR08Mark 8 l0) (hI0.is 0) (gd0 rfl) rfl rfl Try.underlying60 rfl ?_
        refine K.bin (V := .bool (decide (v2 < (l0.length : Int)))) (gd0 rfl) rfl rfl (fun _ => rfl) rfl ?_
        refine K.nil ?_
        refine At.next ?_
        refine G.cond rfl (fun h1 => ?_) (fun h1 => ?_)
        ·
          replace H1 := bif_t H1 h1
          refine G.skip ?_
          refine At.next ?_
          refine G.seq ?_
          refine G.block ?_
          refine G.seq ?_
          obtain ⟨x2, hx2, H1⟩ := bnd H1
          rcases Bool.eq_false_or_eq_true x2.op.insert with h2 | h2
          ·
            replace H1 := bif_t H1 h2
            refine G.rg ?_
            refine K.move (.inl rfl) (gd0 rfl) rfl rfl ?_
            refine K.move (.inl rfl) (gd0 rfl) rfl rfl ?_
            refine K.idxL (rV 0 S W0 s0 b0 o0 eTR08Mark 8 l0) ((v2).toNat) (hI0.is 0) (atL_get hx2) (atL_nn hx2) (gd0 rfl) rfl rfl rfl Try.underlying60 el60.size_run rfl ?_
            refine K.fieldL Y (rV 0 S W0 s0 b0 o0 eTR08Mark 8 l0) ((v2).toNat) 0 0 (hI0.is 0) (atL_get hx2) (gd0 rfl) rfl rfl t75 rfl rfl rfl rfl ?_
            refine K.fieldL Y (rV 0 S W0 s0 b0 o0 eTR08Mark 8 l0) ((v2).toNat) 0 1 (hI0.is 0) (atL_get hx2) (gd0 rfl) rfl rfl t73 rfl rfl rfl rfl ?_
            refine K.load1L Y (rV 0 S W0 s0 b0 o0 eTR08Mark 8 l0) ((v2).toNat) 1 (hI0.is 0) (atL_get hx2) (gd0 rfl) rfl rfl t4 rfl rfl ?_
            refine K.move (.inl rfl) (gd0 rfl) rfl rfl ?_
            refine K.move (.inl rfl) (gd1 rfl rfl rfl (h2)) rfl rfl ?_
            refine K.move (.inl rfl) (gd1 rfl rfl rfl (h2)) rfl rfl ?_
            refine K.idxL (rV 0 S W0 s0 b0 o0 eTR08Mark 8 l0) ((v2).toNat) (hI0.is 0) (atL_get hx2) (atL_nn hx2) (gd1 rfl rfl rfl (h2)) rfl rfl rfl Try.underlying60 el60.size_run rfl ?_
            refine K.fieldL Y (rV 0 S W0 s0 b0 o0 eTR08Mark 8 l0) ((v2).toNat) 0 4 (hI0.is 0) (atL_get hx2) (gd1 rfl rfl rfl (h2)) rfl rfl t75 rfl rfl rfl rfl ?_
            refine K.load1L Y (rV 0 S W0 s0 b0 o0 eTR08Mark 8 l0) ((v2).toNat) 4 (hI0.is 0) (atL_get hx2) (gd1 rfl rfl rfl (h2)) rfl rfl t4 rfl rfl ?_
            refine K.move (.inl rfl) (gd1 rfl rfl rfl (h2)) rfl rfl ?_
            refine K.bin (V := .bool (x2.here == a1)) (gd1 rfl rfl rfl (h2)) rfl rfl (bq_eql Try.underlying4 _ _) rfl ?_
            refine K.pickT (gd0 rfl) rfl (h2) rfl rfl ?_
            refine K.nil ?_
            refine At.next ?_
            refine G.cond rfl (fun h3 => ?_) (fun h3 => ?_)
            ·
              replace H1 := bif_t H1 h3
              obtain ⟨h4, H1⟩ := grd H1
              refine G.rg ?_
              refine K.move (.inl rfl) (gd0 rfl) rfl rfl ?_
              refine K.move (.inl rfl) (gd0 rfl) rfl rfl ?_
              refine K.move (.inl rfl) (gd0 rfl) rfl rfl ?_
              refine K.idxL (rV 0 S W0 s0 b0 o0 eTR08Mark 8 l0) ((v2).toNat) (hI0.is 0) (atL_get hx2) (atL_nn hx2) (gd0 rfl) rfl rfl rfl Try.underlying60 el60.size_run rfl ?_
              refine K.fieldL Y (rV 0 S W0 s0 b0 o0 eTR08Mark 8 l0) ((v2).toNat) 0 0 (hI0.is 0) (atL_get hx2) (gd0 rfl) rfl rfl t75 rfl rfl rfl rfl ?_
              refine K.fieldL Y (rV 0 S W0 s0 b0 o0 eTR08Mark 8 l0) ((v2).toNat) 0 2 (hI0.is 0) (atL_get hx2) (gd0 rfl) rfl rfl t73 rfl rfl rfl rfl ?_
              refine K.loadSL Y (rV 0 S W0 s0 b0 o0 eTR08Mark 8 l0) ((v2).toNat) 2 [_, _] [_, _] (hI0.is 0) (atL_get hx2) (gd0 rfl) rfl rfl t37 rfl rfl rfl rfl rfl ?_
              refine K.buildL Y 106 ([x2.op.item] : List TItem) [(0, _)] [((.tmp 34), _)] eTItem_len (gd0 rfl) (AllE.spec ⟨rfl, trivial⟩) rfl rfl Try.underlying33 t37 rfl rfl rfl rfl rfl rfl rfl rfl ?_
              refine K.appendL 107 (lrowV 106 37 eTItem 2 ([x2.op.item] : List TItem)) _ el33 (lrowV_is eTItem_len (by decide)) eTItem_one (gd0 rfl) rfl rfl rfl rfl rfl (ap_m h4) (ap_b h4 (by decide)) rfl rfl rfl rfl rfl rfl ?_
              refine K.move (.inr rfl) (gd0 rfl) rfl rfl ?_
              refine K.nil ?_
              refine At.block_normal ?_
              refine At.next ?_
              refine G.rg ?_
              refine K.move (.inl rfl) (gd0 rfl) rfl rfl ?_
              refine K.bin (V := .int .i64 (w64 (v2 + 1))) (gd0 rfl) rfl rfl (fun _ => rfl) rfl ?_
              refine K.move (.inr rfl) (gd0 rfl) rfl rfl ?_
              refine K.nil ?_
              exact At.again (σ := { q : Nat × (List TItem × Int) // R08_Items.l0 k l0 a1 q.1 q.2 = some x1 }) (Fs := fun q => [(0, SV.raw s0), (1, .a (.c (.v (.bool a1)))), (5, .a (.c (.nv 105))), (6, .a (.c (.v (.int .i64 q.1.2.2))))]) (Tl := fun q => [(0, rd S W0), (105, lrow 105 37 eTItem 2 q.1.2.1)]) (μ := fun q => q.1.1) (s := ⟨(n0 + 1, (v1, v2)), HL0⟩) ⟨(n0, ((v1 ++ ([x2.op.item] : List TItem)), (w64 (v2 + 1)))), H1⟩ [(105, 107)] [_, _] (Nat.lt_succ_self _) rfl ⟨rfl, rfl, rfl, rfl, trivial⟩ ⟨rfl, (fun _ => rfl), rfl, (lrow_ren rfl), trivial⟩ rfl
            ·
              replace H1 := bif_f H1 h3
              refine G.skip ?_
              refine At.block_normal ?_
              refine At.next ?_
              refine G.rg ?_
              refine K.move (.inl rfl) (gd0 rfl) rfl rfl ?_
              refine K.bin (V := .int .i64 (w64 (v2 + 1))) (gd0 rfl) rfl rfl (fun _ => rfl) rfl ?_
              refine K.move (.inr rfl) (gd0 rfl) rfl rfl ?_
              refine K.nil ?_
              exact At.again (σ := { q : Nat × (List TItem × Int) // R08_Items.l0 k l0 a1 q.1 q.2 = some x1 }) (Fs := fun q => [(0, SV.raw s0), (1, .a (.c (.v (.bool a1)))), (5, .a (.c (.nv 105))), (6, .a (.c (.v (.int .i64 q.1.2.2))))]) (Tl := fun q => [(0, rd S W0), (105, lrow 105 37 eTItem 2 q.1.2.1)]) (μ := fun q => q.1.1) (s := ⟨(n0 + 1, (v1, v2)), HL0⟩) ⟨(n0, (v1, (w64 (v2 + 1)))), H1⟩ [] [_, _] (Nat.lt_succ_self _) rfl ⟨rfl, rfl, rfl, rfl, trivial⟩ ⟨rfl, (fun _ => rfl), rfl, (lrow_ren rfl), trivial⟩ rfl
          ·
            replace H1 := bif_f H1 h2
            refine G.rg ?_
            refine K.move (.inl rfl) (gd0 rfl) rfl rfl ?_
            refine K.move (.inl rfl) (gd0 rfl) rfl rfl ?_
            refine K.idxL (rV 0 S W0 s0 b0 o0 eTR08Mark 8 l0) ((v2).toNat) (hI0.is 0) (atL_get hx2) (atL_nn hx2) (gd0 rfl) rfl rfl rfl Try.underlying60 el60.size_run rfl ?_
            refine K.fieldL Y (rV 0 S W0 s0 b0 o0 eTR08Mark 8 l0) ((v2).toNat) 0 0 (hI0.is 0) (atL_get hx2) (gd0 rfl) rfl rfl t75 rfl rfl rfl rfl ?_
            refine K.fieldL Y (rV 0 S W0 s0 b0 o0 eTR08Mark 8 l0) ((v2).toNat) 0 1 (hI0.is 0) (atL_get hx2) (gd0 rfl) rfl rfl t73 rfl rfl rfl rfl ?_
            refine K.load1L Y (rV 0 S W0 s0 b0 o0 eTR08Mark 8 l0) ((v2).toNat) 1 (hI0.is 0) (atL_get hx2) (gd0 rfl) rfl rfl t4 rfl rfl ?_
            refine K.move (.inl rfl) (gd0 rfl) rfl rfl ?_
            refine K.skip rfl rfl rfl rfl (h2) rfl ?_
            refine K.skip rfl rfl rfl rfl (h2) rfl ?_
            refine K.skip rfl rfl rfl rfl (h2) rfl ?_
            refine K.skip rfl rfl rfl rfl (h2) rfl ?_
            refine K.skip rfl rfl rfl rfl (h2) rfl ?_
            refine K.skip rfl rfl rfl rfl (h2) rfl ?_
            refine K.skip rfl rfl rfl rfl (h2) rfl ?_
            refine K.pickF (gd0 rfl) rfl (h2) rfl rfl ?_
            refine K.nil ?_
            refine At.next ?_
            refine G.cond rfl (fun h5 => ?_) (fun h5 => ?_)
            · cases h5
            ·
              refine G.skip ?_
              refine At.block_normal ?_
              refine At.next ?_
              refine G.rg ?_
              refine K.move (.inl rfl) (gd0 rfl) rfl rfl ?_
              refine K.bin (V := .int .i64 (w64 (v2 + 1))) (gd0 rfl) rfl rfl (fun _ => rfl) rfl ?_
              refine K.move (.inr rfl) (gd0 rfl) rfl rfl ?_
              refine K.nil ?_
              exact At.again (σ := { q : Nat × (List TItem × Int) // R08_Items.l0 k l0 a1 q.1 q.2 = some x1 }) (Fs := fun q => [(0, SV.raw s0), (1, .a (.c (.v (.bool a1)))), (5, .a (.c (.nv 105))), (6, .a (.c (.v (.int .i64 q.1.2.2))))]) (Tl := fun q => [(0, rd S W0), (105, lrow 105 37 eTItem 2 q.1.2.1)]) (μ := fun q => q.1.1) (s := ⟨(n0 + 1, (v1, v2)), HL0⟩) ⟨(n0, (v1, (w64 (v2 + 1)))), H1⟩ [] [_, _] (Nat.lt_succ_self _) rfl ⟨rfl, rfl, rfl, rfl, trivial⟩ ⟨rfl, (fun _ => rfl), rfl, (lrow_ren rfl), trivial⟩ rfl
        ·
          replace H1 := bif_f H1 h1
          refine G.exit ?_
          refine At.over_exit ?_
          refine At.over_exit ?_
          refine At.block_hit ?_
          exact At.joined (σ := { v : List TItem // x1 = v }) (Fs := fun q => [(5, .a (.c (.nv 102)))]) (Tl := fun q => [(0, rd S W0), (102, lrow 102 37 eTItem 2 q.1)]) ⟨v1, (Option.some.inj H1).symm⟩ [(102, 105)] [_, _] rfl ⟨rfl, trivial⟩ ⟨rfl, (fun _ => rfl), rfl, (lrow_ren rfl), trivial⟩ rfl
  ·
    rintro ⟨_, rfl⟩
    show G _ _ [(5, .a (.c (.nv 102)))] [(0, some (rd S W0)), (102, some (lrow 102 37 eTItem 2 x1))] _ _
    refine G.seq ?_
    obtain ⟨x3, hx3, H0⟩ := bnd H0
    refine G.rg ?_
    refine K.move (.inl rfl) (gd0 rfl) rfl rfl ?_
    refine K.callV [(.func 75, _), ((.tmp 37), _)] [(102, lrow 102 37 eTItem 2 x1)] [] [(108, _)] (fun β => [SV.raw ((lrowV 102 37 eTItem 2 x1).s.den β)]) (fun β w S2 h => R02_Sorted_con ((lrowV_isC eTItem_len (by decide)).larg ⟨_, List.mem_cons_self⟩ h) hx3 108 rfl) (toFn_func (cf 75 rfl) rfl) (gd0 rfl) ⟨rfl, rfl, trivial⟩ (fun _ => rfl) ⟨rfl, trivial⟩ rfl rfl rfl rfl rfl rfl ?_
    refine K.move (.inr rfl) (gd0 rfl) rfl rfl ?_
    refine K.nil ?_
    refine At.next ?_
    refine G.ret ?_
    refine At.ren (fs' := [(4, .a (.c (.nv 30)))]) (tl := [(0, rd S W0), (30, lrow 30 37 eTItem 2 x3)]) [(30, 108)] [_, _] rfl ⟨rfl, trivial⟩ ⟨rfl, (fun _ => rfl), rfl, (lrow_ren rfl), trivial⟩ rfl ?_
    refine At.done Y [(.tmp 4, .c _)] rfl ⟨.tmp rfl, trivial⟩ (to' := [(0, _), (30, _)]) ⟨rfl, rfl, trivial⟩ ?_ ?_ rfl rfl rfl (.inl rfl)
    · cases H0; rfl
    · cases H0; rfl
theorem R08_Items_con {k : Nat} {S : Foot} {W0 : World} {s0 : Value} {l0 : List TR08Mark} {a1 : Bool} {r : List TItem} (hL0 : LArg S W0 s0 eTR08Mark 8 l0) (H0 : R08_Items.f k l0 a1 = some r) (m30 : Nat) (hd : ndB [m30] = true) : SCon Try.prog 61 [SV.raw s0, .a (.c (.v (.bool a1)))] [(0, rd S W0)] (.a (.c (.nv m30))) [(0, rd S W0), (m30, lrow m30 37 eTItem 2 r)] [m30] :=
  SCon.ren (rn [(30, m30)]) (R08_Items_con0 hL0 H0) ⟨(fun _ => rfl), trivial⟩ ⟨(fun _ => rfl), (lrow_ren rfl), trivial⟩ (rn_nd hd rfl rfl) (rn_ks hd rfl rfl rfl)
theorem wave_Swell_taken_con0 {k : Nat} {a0 : TSwell} {r : TTook}  (H0 : wave_Swell_taken.f k a0 = some r) : SCon Try.prog 64 [.a (.agg ((eTSwell a0).map .v))] [] (.a (.agg ((eTTook r).map .v))) [] [] := by
  rw [wave_Swell_taken.f] at H0
  refine spec_of [(0, _)] [] 12 Try.func64 rfl Try.ntmps64 rfl rfl rfl rfl (fun β W F => ?_)
  refine G.seq ?_
  refine G.rg ?_
  refine K.box Y 100 [_, _, _, _, _, _, _, _, _, _, _, _, _, _, _, _] (gd0 rfl) rfl rfl rfl rfl rfl rfl ?_
  refine K.alloc Y 101 [_, _, _] (gd0 rfl) t65 rfl rfl rfl rfl rfl ?_
  refine K.nil ?_
  refine At.next ?_
  refine G.seq ?_
  refine G.seq ?_
  refine G.rg ?_
  refine K.fieldAddr Y (gd0 rfl) rfl t67 rfl rfl ?_
  refine K.load1 Y (gd0 rfl) rfl rfl t3 rfl rfl ?_
  refine K.fieldAddr Y (gd0 rfl) rfl t67 rfl rfl ?_
  refine K.load1 Y (gd0 rfl) rfl rfl t3 rfl rfl ?_
  refine K.bin (V := .bool (a0.deletes == a0.free)) (gd0 rfl) rfl rfl (fun _ => rfl) rfl ?_
  refine K.nil ?_
  refine At.next ?_
  refine G.cond rfl (fun h1 => ?_) (fun h1 => ?_)
  ·
    replace H0 := bif_t H0 h1
    refine G.seq ?_
    refine G.rg ?_
    refine K.build Y [] [_, _, _] [] (gd0 rfl) (AllE.spec trivial) rfl rfl t65 rfl rfl ?_
    refine K.store Y [_, _, _] (gd0 rfl) rfl rfl rfl t65 rfl rfl rfl rfl rfl ?_
    refine K.nil ?_
    refine At.next ?_
    refine G.ret ?_
    refine At.over_ret ?_
    refine At.done Y [(.cell 2 65, .agg [_, _, _])] rfl ⟨.st rfl rfl t65 rfl rfl, trivial⟩ (to' := []) trivial ?_ ?_ rfl rfl rfl (.inl rfl)
    · cases H0; rfl
    · cases H0; rfl
  ·
    replace H0 := bif_f H0 h1
    refine G.skip ?_
    refine At.next ?_
    refine G.seq ?_
    refine G.rg ?_
    refine K.fieldAddr Y (gd0 rfl) rfl t67 rfl rfl ?_
    refine K.loadS Y [_, _] (gd0 rfl) rfl rfl t37 rfl rfl rfl ?_
    refine K.build Y [(0, _), (1, _)] [_, _, _] [(_, _), ((.tmp 10), _)] (gd0 rfl) (AllE.spec ⟨rfl, rfl, trivial⟩) rfl rfl t65 rfl rfl ?_
    refine K.store Y [_, _, _] (gd0 rfl) rfl rfl rfl t65 rfl rfl rfl rfl rfl ?_
    refine K.nil ?_
    refine At.next ?_
    refine G.ret ?_
    refine At.done Y [(.cell 2 65, .agg [_, _, _])] rfl ⟨.st rfl rfl t65 rfl rfl, trivial⟩ (to' := []) trivial ?_ ?_ rfl rfl rfl (.inl rfl)
    · cases H0; rfl
    · cases H0; rfl
theorem wave_Swell_taken_con {k : Nat} {a0 : TSwell} {r : TTook}  (H0 : wave_Swell_taken.f k a0 = some r) : SCon Try.prog 64 [.a (.agg ((eTSwell a0).map .v))] [] (.a (.agg ((eTTook r).map .v))) [] [] :=
  SCon.ren (rn []) (wave_Swell_taken_con0  H0) trivial trivial (by simp) (by simp)
theorem cmp_Or_con0 {k : Nat} {S : Foot} {W0 : World} {s0 : Value} {l0 : List Int} {r : Int} (hL0 : LArg S W0 s0 intE 1 l0) (H0 : cmp_Or.f k l0 = some r) : SCon Try.prog 76 [SV.raw s0] [(0, rd S W0)] (.a (.c (.v (.int .i64 r)))) [(0, rd S W0)] [] := by
  rw [cmp_Or.f] at H0
  obtain ⟨b0, o0, hI0⟩ := hL0
  refine spec_of [(0, _)] [(0, _)] 18 Try.func76 rfl Try.ntmps76 rfl rfl rfl rfl (fun β W F => ?_)
  refine G.seq ?_
  refine G.rg ?_
  refine K.move (.inr rfl) (gd0 rfl) rfl rfl ?_
  refine K.nil ?_
  refine At.next ?_
  refine G.seq ?_
  refine G.rg ?_
  refine K.move (.inr rfl) (gd0 rfl) rfl rfl ?_
  refine K.nil ?_
  refine At.next ?_
  obtain ⟨x1, H1, H0⟩ := bnd H0
  refine G.seqJ (σ := { v : Unit // x1 = Sum.inr v }) (fun q => [(3, .a (.c (.v (.int .i64 0))))]) (fun q => [(0, rd S W0)]) ?_ ?_
  ·
    refine G.seq ?_
    refine G.rg ?_
    refine K.move (.inl rfl) (gd0 rfl) rfl rfl ?_
    refine K.lenL (rV 0 S W0 s0 b0 o0 intE 1 l0) (hI0.is 0) (gd0 rfl) rfl rfl Try.underlying26 rfl ?_
    refine K.move (.inl rfl) (gd0 rfl) rfl rfl ?_
    refine K.nil ?_
    refine At.next ?_
    refine G.block ?_
    refine G.loop (σ := { q : Nat × (Int) // cmp_Or.l0 k l0 q.1 q.2 = some x1 }) (fun q => [(3, .a (.c (.v (.int .i64 0)))), (6, SV.raw s0), (7, .a (.c (.v (.int .i64 (l0.length : Int))))), (8, .a (.c (.v (.int .i64 q.1.2))))]) (fun q => [(0, rd S W0)]) (fun q => q.1.1) ⟨(k, 0), H1⟩ ?_ ?_
    · exact At.into [] [_] rfl ⟨rfl, rfl, rfl, rfl, trivial⟩ ⟨rfl, (fun _ => rfl), trivial⟩ rfl
    ·
      rintro ⟨⟨n0, v1⟩, H1⟩
      show G _ _ [(3, .a (.c (.v (.int .i64 0)))), (6, SV.raw s0), (7, .a (.c (.v (.int .i64 (l0.length : Int))))), (8, .a (.c (.v (.int .i64 v1))))] [(0, some (rd S W0))] _ _
      cases n0 with
      | zero => exact absurd H1 (by simp [cmp_Or.l0])
      | succ n0 =>
        have HL0 := H1
        rw [cmp_Or.l0] at H1
        refine G.seq ?_
        refine G.rg ?_
        refine K.bin (V := .bool (decide (v1 < (l0.length : Int)))) (gd0 rfl) rfl rfl (fun _ => rfl) rfl ?_
        refine K.nil ?_
        refine At.next ?_
        refine G.seq ?_
        refine G.cond rfl (fun h1 => ?_) (fun h1 => ?_)
        ·
          replace H1 := bif_t H1 h1
          refine G.skip ?_
          refine At.next ?_
          refine G.seq ?_
          refine G.block ?_
          refine G.seq ?_
          obtain ⟨x2, hx2, H1⟩ := bnd H1
          refine G.rg ?_
          refine K.idxL (rV 0 S W0 s0 b0 o0 intE 1 l0) ((v1).toNat) (hI0.is 0) (atL_get hx2) (atL_nn hx2) (gd0 rfl) rfl rfl rfl Try.underlying26 el26.size_run rfl ?_
          refine K.load1L Y (rV 0 S W0 s0 b0 o0 intE 1 l0) ((v1).toNat) 0 (hI0.is 0) (atL_get hx2) (gd0 rfl) rfl rfl t3 rfl rfl ?_
          refine K.move (.inr rfl) (gd0 rfl) rfl rfl ?_
          refine K.nil ?_
          refine At.next ?_
          refine G.seq ?_
          refine G.rg ?_
          refine K.move (.inl rfl) (gd0 rfl) rfl rfl ?_
          refine K.move (.inl rfl) (gd0 rfl) rfl rfl ?_
          refine K.bin (V := .bool (x2 != 0)) (gd0 rfl) rfl rfl (fun _ => rfl) rfl ?_
          refine K.nil ?_
          refine At.next ?_
          refine G.cond rfl (fun h2 => ?_) (fun h2 => ?_)
          ·
            replace H1 := bif_t H1 h2
            refine G.seq ?_
            refine G.rg ?_
            refine K.move (.inl rfl) (gd0 rfl) rfl rfl ?_
            refine K.move (.inr rfl) (gd0 rfl) rfl rfl ?_
            refine K.nil ?_
            refine At.next ?_
            refine G.ret ?_
            refine At.block_ret ?_
            refine At.over_ret ?_
            refine At.over_ret ?_
            refine At.block_ret ?_
            refine At.over_ret ?_
            cases H1
            replace H0 := sum_l H0
            refine At.done Y [(.tmp 2, .c _)] rfl ⟨.tmp rfl, trivial⟩ (to' := [(0, _)]) ⟨rfl, trivial⟩ ?_ ?_ rfl rfl rfl (.inl rfl)
            · cases H0; rfl
            · cases H0; rfl
          ·
            replace H1 := bif_f H1 h2
            refine G.skip ?_
            refine At.block_normal ?_
            refine At.next ?_
            refine G.rg ?_
            refine K.bin (V := .int .i64 (w64 (v1 + 1))) (gd0 rfl) rfl rfl (fun _ => rfl) rfl ?_
            refine K.move (.inl rfl) (gd0 rfl) rfl rfl ?_
            refine K.nil ?_
            exact At.again (σ := { q : Nat × (Int) // cmp_Or.l0 k l0 q.1 q.2 = some x1 }) (Fs := fun q => [(3, .a (.c (.v (.int .i64 0)))), (6, SV.raw s0), (7, .a (.c (.v (.int .i64 (l0.length : Int))))), (8, .a (.c (.v (.int .i64 q.1.2))))]) (Tl := fun q => [(0, rd S W0)]) (μ := fun q => q.1.1) (s := ⟨(n0 + 1, v1), HL0⟩) ⟨(n0, (w64 (v1 + 1))), H1⟩ [] [_] (Nat.lt_succ_self _) rfl ⟨rfl, rfl, rfl, rfl, trivial⟩ ⟨rfl, (fun _ => rfl), trivial⟩ rfl
        ·
          replace H1 := bif_f H1 h1
          refine G.exit ?_
          refine At.over_exit ?_
          refine At.over_exit ?_
          refine At.block_hit ?_
          exact At.joined (σ := { v : Unit // x1 = Sum.inr v }) (Fs := fun q => [(3, .a (.c (.v (.int .i64 0))))]) (Tl := fun q => [(0, rd S W0)]) ⟨(), (Option.some.inj H1).symm⟩ [] [_] rfl ⟨rfl, trivial⟩ ⟨rfl, (fun _ => rfl), trivial⟩ rfl
  ·
    rintro ⟨v1, rfl⟩
    replace H0 := sum_r H0
    show G _ _ [(3, .a (.c (.v (.int .i64 0))))] [(0, some (rd S W0))] _ _
    refine G.seq ?_
    refine G.rg ?_
    refine K.move (.inl rfl) (gd0 rfl) rfl rfl ?_
    refine K.move (.inr rfl) (gd0 rfl) rfl rfl ?_
    refine K.nil ?_
    refine At.next ?_
    refine G.ret ?_
    refine At.done Y [(.tmp 2, .c _)] rfl ⟨.tmp rfl, trivial⟩ (to' := [(0, _)]) ⟨rfl, trivial⟩ ?_ ?_ rfl rfl rfl (.inl rfl)
    · cases H0; rfl
    · cases H0; rfl
theorem cmp_Or_con {k : Nat} {S : Foot} {W0 : World} {s0 : Value} {l0 : List Int} {r : Int} (hL0 : LArg S W0 s0 intE 1 l0) (H0 : cmp_Or.f k l0 = some r) : SCon Try.prog 76 [SV.raw s0] [(0, rd S W0)] (.a (.c (.v (.int .i64 r)))) [(0, rd S W0)] [] :=
  SCon.ren (rn []) (cmp_Or_con0 hL0 H0) ⟨(fun _ => rfl), trivial⟩ ⟨(fun _ => rfl), trivial⟩ (by simp) (by simp)
theorem item_Compare_con0 {k : Nat} {a0 : TItem} {a1 : TItem} {r : Int}  (H0 : item_Compare.f k a0 a1 = some r) : SCon Try.prog 65 [.a (.agg ((eTItem a0).map .v)), .a (.agg ((eTItem a1).map .v))] [] (.a (.c (.v (.int .i64 r)))) [] [] := by
  rw [item_Compare.f] at H0
  refine spec_of [(0, _), (1, _)] [] 17 Try.func65 rfl Try.ntmps65 rfl rfl rfl rfl (fun β W F => ?_)
  refine G.seq ?_
  refine G.rg ?_
  refine K.box Y 100 [_, _] (gd0 rfl) rfl rfl rfl rfl rfl rfl ?_
  refine K.box Y 101 [_, _] (gd0 rfl) rfl rfl rfl rfl rfl rfl ?_
  refine K.move (.inr rfl) (gd0 rfl) rfl rfl ?_
  refine K.nil ?_
  refine At.next ?_
  refine G.seq ?_
  obtain ⟨x1, hx1, H0⟩ := bnd H0
  obtain ⟨x2, hx2, H0⟩ := bnd H0
  obtain ⟨x3, hx3, H0⟩ := bnd H0
  refine G.rd mixed ?_
  refine K.fieldAddr Y (gd0 rfl) rfl t37 rfl rfl ?_
  refine K.load1 Y (gd0 rfl) rfl rfl t3 rfl rfl ?_
  refine K.fieldAddr Y (gd0 rfl) rfl t37 rfl rfl ?_
  refine K.load1 Y (gd0 rfl) rfl rfl t3 rfl rfl ?_
  refine K.callR [(.func 72, _), ((.tmp 6), _), ((.tmp 8), _)] (cmp_Compare_con hx1) (toFn_func (cf 72 rfl) rfl) (gd0 rfl) ⟨rfl, rfl, rfl, trivial⟩ trivial rfl rfl rfl ?_
  refine K.fieldAddr Y (gd0 rfl) rfl t37 rfl rfl ?_
  refine K.load1 Y (gd0 rfl) rfl rfl t3 rfl rfl ?_
  refine K.fieldAddr Y (gd0 rfl) rfl t37 rfl rfl ?_
  refine K.load1 Y (gd0 rfl) rfl rfl t3 rfl rfl ?_
  refine K.callR [(.func 72, _), ((.tmp 11), _), ((.tmp 13), _)] (cmp_Compare_con hx2) (toFn_func (cf 72 rfl) rfl) (gd0 rfl) ⟨rfl, rfl, rfl, trivial⟩ trivial rfl rfl rfl ?_
  refine K.buildL Y 102 ([x1, x2] : List Int) [(0, _), (1, _)] [((.tmp 9), _), ((.tmp 14), _)] intE_len (gd0 rfl) (AllE.spec ⟨rfl, rfl, trivial⟩) rfl rfl Try.underlying26 t3 rfl rfl rfl rfl rfl rfl rfl rfl ?_
  refine K.callV [(.func 76, _), ((.tmp 15), _)] [(102, lrow 102 3 intE 1 ([x1, x2] : List Int))] [] [] (fun β => [SV.raw ((lrowV 102 3 intE 1 ([x1, x2] : List Int)).s.den β)]) (fun β w S2 h => cmp_Or_con ((lrowV_isC intE_len (by decide)).larg ⟨_, List.mem_cons_self⟩ h) hx3) (toFn_func (cf 76 rfl) rfl) (gd0 rfl) ⟨rfl, rfl, trivial⟩ (fun _ => rfl) ⟨rfl, trivial⟩ rfl rfl rfl rfl rfl rfl ?_
  refine K.move (.inr rfl) (gd0 rfl) rfl rfl ?_
  refine K.nil ?_
  refine ⟨by kernel_rfl, ?_⟩
  refine At.next ?_
  refine G.ret ?_
  refine At.done Y [(.tmp 4, .c _)] rfl ⟨.tmp rfl, trivial⟩ (to' := []) trivial ?_ ?_ rfl rfl rfl (.inl rfl)
  · cases H0; rfl
  · cases H0; rfl
theorem item_Compare_con {k : Nat} {a0 : TItem} {a1 : TItem} {r : Int}  (H0 : item_Compare.f k a0 a1 = some r) : SCon Try.prog 65 [.a (.agg ((eTItem a0).map .v)), .a (.agg ((eTItem a1).map .v))] [] (.a (.c (.v (.int .i64 r)))) [] [] :=
  SCon.ren (rn []) (item_Compare_con0  H0) trivial trivial (by simp) (by simp)
theorem wave_better_con0 {k : Nat} {a0 : Int} {a1 : TTook} {a2 : TTook} {r : TTook}  (H0 : wave_better.f k a0 a1 a2 = some r) : SCon Try.prog 63 [.a (.c (.v (.int .i64 a0))), .a (.agg ((eTTook a1).map .v)), .a (.agg ((eTTook a2).map .v))] [] (.a (.agg ((eTTook r).map .v))) [] [] := by
  rw [wave_better.f] at H0
  refine spec_of [(0, _), (1, _), (2, _)] [] 26 Try.func63 rfl Try.ntmps63 rfl rfl rfl rfl (fun β W F => ?_)
  refine G.seq ?_
  refine G.rg ?_
  refine K.box Y 100 [_, _, _] (gd0 rfl) rfl rfl rfl rfl rfl rfl ?_
  refine K.box Y 101 [_, _, _] (gd0 rfl) rfl rfl rfl rfl rfl rfl ?_
  refine K.alloc Y 102 [_, _, _] (gd0 rfl) t65 rfl rfl rfl rfl rfl ?_
  refine K.nil ?_
  refine At.next ?_
  refine G.seq ?_
  refine G.seq ?_
  rcases Bool.eq_false_or_eq_true (!a1.found) with h1 | h1
  ·
    replace H0 := bif_t H0 h1
    refine G.rg ?_
    refine K.fieldAddr Y (gd0 rfl) rfl t65 rfl rfl ?_
    refine K.load1 Y (gd0 rfl) rfl rfl t4 rfl rfl ?_
    refine K.un (V := .bool (!a1.found)) (gd0 rfl) rfl (fun _ => rfl) rfl ?_
    refine K.move (.inl rfl) (gd0 rfl) rfl rfl ?_
    refine K.skip rfl rfl rfl rfl (h1) rfl ?_
    refine K.skip rfl rfl rfl rfl (h1) rfl ?_
    refine K.skip rfl rfl rfl rfl (h1) rfl ?_
    refine K.skipU rfl rfl rfl rfl rfl ?_
    refine K.skipU rfl rfl rfl rfl rfl ?_
    refine K.skipU rfl rfl rfl rfl rfl ?_
    refine K.skipU rfl rfl rfl rfl rfl ?_
    refine K.skipU rfl rfl rfl rfl rfl ?_
    refine K.skipU rfl rfl rfl rfl rfl ?_
    refine K.skipU rfl rfl rfl rfl rfl ?_
    refine K.skipU rfl rfl rfl rfl rfl ?_
    refine K.skip rfl rfl rfl rfl (h1) rfl ?_
    refine K.pickT (gd0 rfl) rfl (h1) rfl rfl ?_
    refine K.nil ?_
    refine At.next ?_
    refine G.cond rfl (fun h2 => ?_) (fun h2 => ?_)
    ·
      refine G.seq ?_
      refine G.rg ?_
      refine K.loadS Y [_, _, _] (gd0 rfl) rfl rfl t65 rfl rfl rfl ?_
      refine K.store Y [_, _, _] (gd0 rfl) rfl rfl rfl t65 rfl rfl rfl rfl rfl ?_
      refine K.nil ?_
      refine At.next ?_
      refine G.ret ?_
      refine At.over_ret ?_
      refine At.done Y [(.cell 6 65, .agg [_, _, _])] rfl ⟨.st rfl rfl t65 rfl rfl, trivial⟩ (to' := []) trivial ?_ ?_ rfl rfl rfl (.inl rfl)
      · cases H0; rfl
      · cases H0; rfl
    · cases h2
  ·
    replace H0 := bif_f H0 h1
    rcases Bool.eq_false_or_eq_true a2.found with h3 | h3
    ·
      replace H0 := bif_t H0 h3
      obtain ⟨x1, hx1, H0⟩ := bnd H0
      refine G.rg ?_
      refine K.fieldAddr Y (gd0 rfl) rfl t65 rfl rfl ?_
      refine K.load1 Y (gd0 rfl) rfl rfl t4 rfl rfl ?_
      refine K.un (V := .bool (!a1.found)) (gd0 rfl) rfl (fun _ => rfl) rfl ?_
      refine K.move (.inl rfl) (gd0 rfl) rfl rfl ?_
      refine K.fieldAddr Y (gd1 rfl rfl rfl (h1)) rfl t65 rfl rfl ?_
      refine K.load1 Y (gd1 rfl rfl rfl (h1)) rfl rfl t4 rfl rfl ?_
      refine K.move (.inl rfl) (gd1 rfl rfl rfl (h1)) rfl rfl ?_
      refine K.move (.inl rfl) (gd1 rfl rfl rfl (h3)) rfl rfl ?_
      refine K.fieldAddr Y (gd1 rfl rfl rfl (h3)) rfl t65 rfl rfl ?_
      refine K.loadS Y [_, _] (gd1 rfl rfl rfl (h3)) rfl rfl t37 rfl rfl rfl ?_
      refine K.fieldAddr Y (gd1 rfl rfl rfl (h3)) rfl t65 rfl rfl ?_
      refine K.loadS Y [_, _] (gd1 rfl rfl rfl (h3)) rfl rfl t37 rfl rfl rfl ?_
      refine K.callR [(.func 65, _), ((.tmp 16), _), ((.tmp 18), _)] (item_Compare_con hx1) (toFn_func (cf 65 rfl) rfl) (gd1 rfl rfl rfl (h3)) ⟨rfl, rfl, rfl, trivial⟩ trivial rfl rfl rfl ?_
      refine K.bin (V := .int .i64 (w64 (a0 * x1))) (gd1 rfl rfl rfl (h3)) rfl rfl (fun _ => rfl) rfl ?_
      refine K.bin (V := .bool (decide ((w64 (a0 * x1)) < 0))) (gd1 rfl rfl rfl (h3)) rfl rfl (fun _ => rfl) rfl ?_
      refine K.pickT (gd1 rfl rfl rfl (h1)) rfl (h3) rfl rfl ?_
      refine K.pickF (gd0 rfl) rfl (h1) rfl rfl ?_
      refine K.nil ?_
      refine At.next ?_
      refine G.cond rfl (fun h4 => ?_) (fun h4 => ?_)
      ·
        replace H0 := bif_t H0 h4
        refine G.seq ?_
        refine G.rg ?_
        refine K.loadS Y [_, _, _] (gd0 rfl) rfl rfl t65 rfl rfl rfl ?_
        refine K.store Y [_, _, _] (gd0 rfl) rfl rfl rfl t65 rfl rfl rfl rfl rfl ?_
        refine K.nil ?_
        refine At.next ?_
        refine G.ret ?_
        refine At.over_ret ?_
        refine At.done Y [(.cell 6 65, .agg [_, _, _])] rfl ⟨.st rfl rfl t65 rfl rfl, trivial⟩ (to' := []) trivial ?_ ?_ rfl rfl rfl (.inl rfl)
        · cases H0; rfl
        · cases H0; rfl
      ·
        replace H0 := bif_f H0 h4
        refine G.skip ?_
        refine At.next ?_
        refine G.seq ?_
        refine G.rg ?_
        refine K.loadS Y [_, _, _] (gd0 rfl) rfl rfl t65 rfl rfl rfl ?_
        refine K.store Y [_, _, _] (gd0 rfl) rfl rfl rfl t65 rfl rfl rfl rfl rfl ?_
        refine K.nil ?_
        refine At.next ?_
        refine G.ret ?_
        refine At.done Y [(.cell 6 65, .agg [_, _, _])] rfl ⟨.st rfl rfl t65 rfl rfl, trivial⟩ (to' := []) trivial ?_ ?_ rfl rfl rfl (.inl rfl)
        · cases H0; rfl
        · cases H0; rfl
    ·
      replace H0 := bif_f H0 h3
      refine G.rg ?_
      refine K.fieldAddr Y (gd0 rfl) rfl t65 rfl rfl ?_
      refine K.load1 Y (gd0 rfl) rfl rfl t4 rfl rfl ?_
      refine K.un (V := .bool (!a1.found)) (gd0 rfl) rfl (fun _ => rfl) rfl ?_
      refine K.move (.inl rfl) (gd0 rfl) rfl rfl ?_
      refine K.fieldAddr Y (gd1 rfl rfl rfl (h1)) rfl t65 rfl rfl ?_
      refine K.load1 Y (gd1 rfl rfl rfl (h1)) rfl rfl t4 rfl rfl ?_
      refine K.move (.inl rfl) (gd1 rfl rfl rfl (h1)) rfl rfl ?_
      refine K.skip rfl rfl rfl rfl (h3) rfl ?_
      refine K.skip rfl rfl rfl rfl (h3) rfl ?_
      refine K.skip rfl rfl rfl rfl (h3) rfl ?_
      refine K.skip rfl rfl rfl rfl (h3) rfl ?_
      refine K.skip rfl rfl rfl rfl (h3) rfl ?_
      refine K.skip rfl rfl rfl rfl (h3) rfl ?_
      refine K.skip rfl rfl rfl rfl (h3) rfl ?_
      refine K.skip rfl rfl rfl rfl (h3) rfl ?_
      refine K.pickF (gd1 rfl rfl rfl (h1)) rfl (h3) rfl rfl ?_
      refine K.pickF (gd0 rfl) rfl (h1) rfl rfl ?_
      refine K.nil ?_
      refine At.next ?_
      refine G.cond rfl (fun h5 => ?_) (fun h5 => ?_)
      · cases h5
      ·
        refine G.skip ?_
        refine At.next ?_
        refine G.seq ?_
        refine G.rg ?_
        refine K.loadS Y [_, _, _] (gd0 rfl) rfl rfl t65 rfl rfl rfl ?_
        refine K.store Y [_, _, _] (gd0 rfl) rfl rfl rfl t65 rfl rfl rfl rfl rfl ?_
        refine K.nil ?_
        refine At.next ?_
        refine G.ret ?_
        refine At.done Y [(.cell 6 65, .agg [_, _, _])] rfl ⟨.st rfl rfl t65 rfl rfl, trivial⟩ (to' := []) trivial ?_ ?_ rfl rfl rfl (.inl rfl)
        · cases H0; rfl
        · cases H0; rfl
theorem wave_better_con {k : Nat} {a0 : Int} {a1 : TTook} {a2 : TTook} {r : TTook}  (H0 : wave_better.f k a0 a1 a2 = some r) : SCon Try.prog 63 [.a (.c (.v (.int .i64 a0))), .a (.agg ((eTTook a1).map .v)), .a (.agg ((eTTook a2).map .v))] [] (.a (.agg ((eTTook r).map .v))) [] [] :=
  SCon.ren (rn []) (wave_better_con0  H0) trivial trivial (by simp) (by simp)
theorem wave_Swell_Plus_con0 {k : Nat} {a0 : TSwell} {a1 : TSwell} {r : TSwell}  (H0 : wave_Swell_Plus.f k a0 a1 = some r) : SCon Try.prog 40 [.a (.agg ((eTSwell a0).map .v)), .a (.agg ((eTSwell a1).map .v))] [] (.a (.agg ((eTSwell r).map .v))) [] [] := by
  rw [wave_Swell_Plus.f] at H0
  refine spec_of [(0, _), (1, _)] [] 42 Try.func40 rfl Try.ntmps40 rfl rfl rfl rfl (fun β W F => ?_)
  refine G.seq ?_
  refine G.rg ?_
  refine K.box Y 100 [_, _, _, _, _, _, _, _, _, _, _, _, _, _, _, _] (gd0 rfl) rfl rfl rfl rfl rfl rfl ?_
  refine K.box Y 101 [_, _, _, _, _, _, _, _, _, _, _, _, _, _, _, _] (gd0 rfl) rfl rfl rfl rfl rfl rfl ?_
  refine K.alloc Y 102 [_, _, _, _, _, _, _, _, _, _, _, _, _, _, _, _] (gd0 rfl) t67 rfl rfl rfl rfl rfl ?_
  refine K.nil ?_
  refine At.next ?_
  refine G.seq ?_
  obtain ⟨x1, hx1, H0⟩ := bnd H0
  obtain ⟨x2, hx2, H0⟩ := bnd H0
  obtain ⟨x3, hx3, H0⟩ := bnd H0
  obtain ⟨x4, hx4, H0⟩ := bnd H0
  obtain ⟨x5, hx5, H0⟩ := bnd H0
  obtain ⟨x6, hx6, H0⟩ := bnd H0
  obtain ⟨x7, hx7, H0⟩ := bnd H0
  refine G.rd mixed ?_
  refine K.fieldAddr Y (gd0 rfl) rfl t67 rfl rfl ?_
  refine K.loadS Y [_, _, _] (gd0 rfl) rfl rfl t63 rfl rfl rfl ?_
  refine K.fieldAddr Y (gd0 rfl) rfl t67 rfl rfl ?_
  refine K.loadS Y [_, _, _] (gd0 rfl) rfl rfl t63 rfl rfl rfl ?_
  refine K.callR [(.func 62, _), ((.tmp 6), _), ((.tmp 8), _)] (tide_Tide_Plus_con hx1) (toFn_func (cf 62 rfl) rfl) (gd0 rfl) ⟨rfl, rfl, rfl, trivial⟩ trivial rfl rfl rfl ?_
  refine K.fieldAddr Y (gd0 rfl) rfl t67 rfl rfl ?_
  refine K.loadS Y [_, _, _] (gd0 rfl) rfl rfl t63 rfl rfl rfl ?_
  refine K.fieldAddr Y (gd0 rfl) rfl t67 rfl rfl ?_
  refine K.loadS Y [_, _, _] (gd0 rfl) rfl rfl t63 rfl rfl rfl ?_
  refine K.callR [(.func 62, _), ((.tmp 11), _), ((.tmp 13), _)] (tide_Tide_Plus_con hx2) (toFn_func (cf 62 rfl) rfl) (gd0 rfl) ⟨rfl, rfl, rfl, trivial⟩ trivial rfl rfl rfl ?_
  refine K.fieldAddr Y (gd0 rfl) rfl t67 rfl rfl ?_
  refine K.load1 Y (gd0 rfl) rfl rfl t3 rfl rfl ?_
  refine K.fieldAddr Y (gd0 rfl) rfl t67 rfl rfl ?_
  refine K.load1 Y (gd0 rfl) rfl rfl t3 rfl rfl ?_
  refine K.bin (V := .int .i64 (w64 (a0.deletes + a1.deletes))) (gd0 rfl) rfl rfl (fun _ => rfl) rfl ?_
  refine K.fieldAddr Y (gd0 rfl) rfl t67 rfl rfl ?_
  refine K.load1 Y (gd0 rfl) rfl rfl t3 rfl rfl ?_
  refine K.fieldAddr Y (gd0 rfl) rfl t67 rfl rfl ?_
  refine K.load1 Y (gd0 rfl) rfl rfl t3 rfl rfl ?_
  refine K.bin (V := .int .i64 (w64 (a0.free + a1.free))) (gd0 rfl) rfl rfl (fun _ => rfl) rfl ?_
  refine K.loadS Y [_, _, _, _, _, _, _, _, _, _, _, _, _, _, _, _] (gd0 rfl) rfl rfl t67 rfl rfl rfl ?_
  refine K.callR [(.func 64, _), ((.tmp 25), _)] (wave_Swell_taken_con hx3) (toFn_func (cf 64 rfl) rfl) (gd0 rfl) ⟨rfl, rfl, trivial⟩ trivial rfl rfl rfl ?_
  refine K.loadS Y [_, _, _, _, _, _, _, _, _, _, _, _, _, _, _, _] (gd0 rfl) rfl rfl t67 rfl rfl rfl ?_
  refine K.callR [(.func 64, _), ((.tmp 27), _)] (wave_Swell_taken_con hx4) (toFn_func (cf 64 rfl) rfl) (gd0 rfl) ⟨rfl, rfl, trivial⟩ trivial rfl rfl rfl ?_
  refine K.callR [(.func 63, _), (_, _), ((.tmp 26), _), ((.tmp 28), _)] (wave_better_con hx5) (toFn_func (cf 63 rfl) rfl) (gd0 rfl) ⟨rfl, rfl, rfl, rfl, trivial⟩ trivial rfl rfl rfl ?_
  refine K.fieldS Y [_, _] (gd0 rfl) rfl t65 rfl t37 rfl rfl ?_
  refine K.fieldAddr Y (gd0 rfl) rfl t67 rfl rfl ?_
  refine K.loadS Y [_, _, _] (gd0 rfl) rfl rfl t65 rfl rfl rfl ?_
  refine K.fieldAddr Y (gd0 rfl) rfl t67 rfl rfl ?_
  refine K.loadS Y [_, _, _] (gd0 rfl) rfl rfl t65 rfl rfl rfl ?_
  refine K.callR [(.func 63, _), (_, _), ((.tmp 32), _), ((.tmp 34), _)] (wave_better_con hx6) (toFn_func (cf 63 rfl) rfl) (gd0 rfl) ⟨rfl, rfl, rfl, rfl, trivial⟩ trivial rfl rfl rfl ?_
  refine K.fieldAddr Y (gd0 rfl) rfl t67 rfl rfl ?_
  refine K.loadS Y [_, _, _] (gd0 rfl) rfl rfl t65 rfl rfl rfl ?_
  refine K.fieldAddr Y (gd0 rfl) rfl t67 rfl rfl ?_
  refine K.loadS Y [_, _, _] (gd0 rfl) rfl rfl t65 rfl rfl rfl ?_
  refine K.callR [(.func 63, _), (_, _), ((.tmp 37), _), ((.tmp 39), _)] (wave_better_con hx7) (toFn_func (cf 63 rfl) rfl) (gd0 rfl) ⟨rfl, rfl, rfl, rfl, trivial⟩ trivial rfl rfl rfl ?_
  refine K.build Y [(0, _), (1, _), (2, _), (3, _), (4, _), (5, _), (6, _)] [_, _, _, _, _, _, _, _, _, _, _, _, _, _, _, _] [((.tmp 9), _), ((.tmp 14), _), ((.tmp 19), _), ((.tmp 24), _), ((.tmp 30), _), ((.tmp 35), _), ((.tmp 40), _)] (gd0 rfl) (AllE.spec ⟨rfl, rfl, rfl, rfl, rfl, rfl, rfl, trivial⟩) rfl rfl t67 rfl rfl ?_
  refine K.store Y [_, _, _, _, _, _, _, _, _, _, _, _, _, _, _, _] (gd0 rfl) rfl rfl rfl t67 rfl rfl rfl rfl rfl ?_
  refine K.nil ?_
  refine ⟨by kernel_rfl, ?_⟩
  refine At.next ?_
  refine G.ret ?_
  refine At.done Y [(.cell 4 67, .agg [_, _, _, _, _, _, _, _, _, _, _, _, _, _, _, _])] rfl ⟨.st rfl rfl t67 rfl rfl, trivial⟩ (to' := []) trivial ?_ ?_ rfl rfl rfl (.inl rfl)
  · cases H0; rfl
  · cases H0; rfl
theorem wave_Swell_Plus_con {k : Nat} {a0 : TSwell} {a1 : TSwell} {r : TSwell}  (H0 : wave_Swell_Plus.f k a0 a1 = some r) : SCon Try.prog 40 [.a (.agg ((eTSwell a0).map .v)), .a (.agg ((eTSwell a1).map .v))] [] (.a (.agg ((eTSwell r).map .v))) [] [] :=
  SCon.ren (rn []) (wave_Swell_Plus_con0  H0) trivial trivial (by simp) (by simp)
theorem R01_Rest_con0 {k : Nat} {a0 : Int} {a1 : Int} {r : Int}  (H0 : R01_Rest.f k a0 a1 = some r) : SCon Try.prog 19 [.a (.c (.v (.int .i64 a0))), .a (.c (.v (.int .i64 a1)))] [] (.a (.c (.v (.int .i64 r)))) [] [] := by
  rw [R01_Rest.f] at H0
  refine spec_of [(0, _), (1, _)] [] 12 Try.func19 rfl Try.ntmps19 rfl rfl rfl rfl (fun β W F => ?_)
  refine G.seq ?_
  refine G.rg ?_
  refine K.move (.inr rfl) (gd0 rfl) rfl rfl ?_
  refine K.nil ?_
  refine At.next ?_
  refine G.seq ?_
  obtain ⟨h1, H0⟩ := grd H0
  obtain ⟨h2, H0⟩ := grd H0
  refine G.rg ?_
  refine K.move (.inl rfl) (gd0 rfl) rfl rfl ?_
  refine K.move (.inl rfl) (gd0 rfl) rfl rfl ?_
  refine K.bin (V := .int .i64 (a0.tmod a1)) (gd0 rfl) rfl rfl (rem_run h1) rfl ?_
  refine K.move (.inl rfl) (gd0 rfl) rfl rfl ?_
  refine K.bin (V := .int .i64 (w64 ((a0.tmod a1) + a1))) (gd0 rfl) rfl rfl (fun _ => rfl) rfl ?_
  refine K.move (.inl rfl) (gd0 rfl) rfl rfl ?_
  refine K.bin (V := .int .i64 ((w64 ((a0.tmod a1) + a1)).tmod a1)) (gd0 rfl) rfl rfl (rem_run h2) rfl ?_
  refine K.move (.inr rfl) (gd0 rfl) rfl rfl ?_
  refine K.nil ?_
  refine At.next ?_
  refine G.ret ?_
  refine At.done Y [(.tmp 4, .c _)] rfl ⟨.tmp rfl, trivial⟩ (to' := []) trivial ?_ ?_ rfl rfl rfl (.inl rfl)
  · cases H0; rfl
  · cases H0; rfl
theorem R01_Rest_con {k : Nat} {a0 : Int} {a1 : Int} {r : Int}  (H0 : R01_Rest.f k a0 a1 = some r) : SCon Try.prog 19 [.a (.c (.v (.int .i64 a0))), .a (.c (.v (.int .i64 a1)))] [] (.a (.c (.v (.int .i64 r)))) [] [] :=
  SCon.ren (rn []) (R01_Rest_con0  H0) trivial trivial (by simp) (by simp)
theorem wave_Swell_Above_con0 {k : Nat} {a0 : TSwell} {a1 : TItem} {r : Bool}  (H0 : wave_Swell_Above.f k a0 a1 = some r) : SCon Try.prog 42 [.a (.agg ((eTSwell a0).map .v)), .a (.agg ((eTItem a1).map .v))] [] (.a (.c (.v (.bool r)))) [] [] := by
  rw [wave_Swell_Above.f] at H0
  refine spec_of [(0, _), (1, _)] [] 22 Try.func42 rfl Try.ntmps42 rfl rfl rfl rfl (fun β W F => ?_)
  refine G.seq ?_
  refine G.rg ?_
  refine K.box Y 100 [_, _, _, _, _, _, _, _, _, _, _, _, _, _, _, _] (gd0 rfl) rfl rfl rfl rfl rfl rfl ?_
  refine K.box Y 101 [_, _] (gd0 rfl) rfl rfl rfl rfl rfl rfl ?_
  refine K.move (.inr rfl) (gd0 rfl) rfl rfl ?_
  refine K.nil ?_
  refine At.next ?_
  refine G.seq ?_
  obtain ⟨x1, hx1, H0⟩ := bnd H0
  refine G.rg ?_
  refine K.loadS Y [_, _, _, _, _, _, _, _, _, _, _, _, _, _, _, _] (gd0 rfl) rfl rfl t67 rfl rfl rfl ?_
  refine K.callR [(.func 64, _), ((.tmp 6), _)] (wave_Swell_taken_con hx1) (toFn_func (cf 64 rfl) rfl) (gd0 rfl) ⟨rfl, rfl, trivial⟩ trivial rfl rfl rfl ?_
  refine K.alloc Y 102 [_, _, _] (gd0 rfl) t65 rfl rfl rfl rfl rfl ?_
  refine K.store Y [_, _, _] (gd0 rfl) rfl rfl rfl t65 rfl rfl rfl rfl rfl ?_
  refine K.nil ?_
  refine At.next ?_
  refine G.seq ?_
  rcases Bool.eq_false_or_eq_true (decide (a0.free > 0)) with h1 | h1
  ·
    replace H0 := bif_t H0 h1
    refine G.rg ?_
    refine K.fieldAddr Y (gd0 rfl) rfl t67 rfl rfl ?_
    refine K.load1 Y (gd0 rfl) rfl rfl t3 rfl rfl ?_
    refine K.bin (V := .bool (decide (a0.free > 0))) (gd0 rfl) rfl rfl (fun _ => rfl) rfl ?_
    refine K.move (.inl rfl) (gd0 rfl) rfl rfl ?_
    refine K.skip rfl rfl rfl rfl (h1) rfl ?_
    refine K.skip rfl rfl rfl rfl (h1) rfl ?_
    refine K.skip rfl rfl rfl rfl (h1) rfl ?_
    refine K.skipU rfl rfl rfl rfl rfl ?_
    refine K.skipU rfl rfl rfl rfl rfl ?_
    refine K.skipU rfl rfl rfl rfl rfl ?_
    refine K.skipU rfl rfl rfl rfl rfl ?_
    refine K.skipU rfl rfl rfl rfl rfl ?_
    refine K.skip rfl rfl rfl rfl (h1) rfl ?_
    refine K.pickT (gd0 rfl) rfl (h1) rfl rfl ?_
    refine K.move (.inr rfl) (gd0 rfl) rfl rfl ?_
    refine K.nil ?_
    refine At.next ?_
    refine G.ret ?_
    refine At.done Y [(.tmp 4, .c _)] rfl ⟨.tmp rfl, trivial⟩ (to' := []) trivial ?_ ?_ rfl rfl rfl (.inl rfl)
    · cases H0; rfl
    · cases H0; rfl
  ·
    replace H0 := bif_f H0 h1
    rcases Bool.eq_false_or_eq_true x1.found with h2 | h2
    ·
      replace H0 := bif_t H0 h2
      obtain ⟨x2, hx2, H0⟩ := bnd H0
      refine G.rg ?_
      refine K.fieldAddr Y (gd0 rfl) rfl t67 rfl rfl ?_
      refine K.load1 Y (gd0 rfl) rfl rfl t3 rfl rfl ?_
      refine K.bin (V := .bool (decide (a0.free > 0))) (gd0 rfl) rfl rfl (fun _ => rfl) rfl ?_
      refine K.move (.inl rfl) (gd0 rfl) rfl rfl ?_
      refine K.fieldAddr Y (gd1 rfl rfl rfl (h1)) rfl t65 rfl rfl ?_
      refine K.load1 Y (gd1 rfl rfl rfl (h1)) rfl rfl t4 rfl rfl ?_
      refine K.move (.inl rfl) (gd1 rfl rfl rfl (h1)) rfl rfl ?_
      refine K.fieldAddr Y (gd1 rfl rfl rfl (h2)) rfl t65 rfl rfl ?_
      refine K.loadS Y [_, _] (gd1 rfl rfl rfl (h2)) rfl rfl t37 rfl rfl rfl ?_
      refine K.loadS Y [_, _] (gd1 rfl rfl rfl (h2)) rfl rfl t37 rfl rfl rfl ?_
      refine K.callR [(.func 65, _), ((.tmp 16), _), ((.tmp 17), _)] (item_Compare_con hx2) (toFn_func (cf 65 rfl) rfl) (gd1 rfl rfl rfl (h2)) ⟨rfl, rfl, rfl, trivial⟩ trivial rfl rfl rfl ?_
      refine K.bin (V := .bool (decide (x2 > 0))) (gd1 rfl rfl rfl (h2)) rfl rfl (fun _ => rfl) rfl ?_
      refine K.pickT (gd1 rfl rfl rfl (h1)) rfl (h2) rfl rfl ?_
      refine K.pickF (gd0 rfl) rfl (h1) rfl rfl ?_
      refine K.move (.inr rfl) (gd0 rfl) rfl rfl ?_
      refine K.nil ?_
      refine At.next ?_
      refine G.ret ?_
      refine At.done Y [(.tmp 4, .c _)] rfl ⟨.tmp rfl, trivial⟩ (to' := []) trivial ?_ ?_ rfl rfl rfl (.inl rfl)
      · cases H0; rfl
      · cases H0; rfl
    ·
      replace H0 := bif_f H0 h2
      refine G.rg ?_
      refine K.fieldAddr Y (gd0 rfl) rfl t67 rfl rfl ?_
      refine K.load1 Y (gd0 rfl) rfl rfl t3 rfl rfl ?_
      refine K.bin (V := .bool (decide (a0.free > 0))) (gd0 rfl) rfl rfl (fun _ => rfl) rfl ?_
      refine K.move (.inl rfl) (gd0 rfl) rfl rfl ?_
      refine K.fieldAddr Y (gd1 rfl rfl rfl (h1)) rfl t65 rfl rfl ?_
      refine K.load1 Y (gd1 rfl rfl rfl (h1)) rfl rfl t4 rfl rfl ?_
      refine K.move (.inl rfl) (gd1 rfl rfl rfl (h1)) rfl rfl ?_
      refine K.skip rfl rfl rfl rfl (h2) rfl ?_
      refine K.skip rfl rfl rfl rfl (h2) rfl ?_
      refine K.skip rfl rfl rfl rfl (h2) rfl ?_
      refine K.skip rfl rfl rfl rfl (h2) rfl ?_
      refine K.skip rfl rfl rfl rfl (h2) rfl ?_
      refine K.pickF (gd1 rfl rfl rfl (h1)) rfl (h2) rfl rfl ?_
      refine K.pickF (gd0 rfl) rfl (h1) rfl rfl ?_
      refine K.move (.inr rfl) (gd0 rfl) rfl rfl ?_
      refine K.nil ?_
      refine At.next ?_
      refine G.ret ?_
      refine At.done Y [(.tmp 4, .c _)] rfl ⟨.tmp rfl, trivial⟩ (to' := []) trivial ?_ ?_ rfl rfl rfl (.inl rfl)
      · cases H0; rfl
      · cases H0; rfl
theorem wave_Swell_Above_con {k : Nat} {a0 : TSwell} {a1 : TItem} {r : Bool}  (H0 : wave_Swell_Above.f k a0 a1 = some r) : SCon Try.prog 42 [.a (.agg ((eTSwell a0).map .v)), .a (.agg ((eTItem a1).map .v))] [] (.a (.c (.v (.bool r)))) [] [] :=
  SCon.ren (rn []) (wave_Swell_Above_con0  H0) trivial trivial (by simp) (by simp)
end Go.Proofs.Ytgogiehpenfdpaa


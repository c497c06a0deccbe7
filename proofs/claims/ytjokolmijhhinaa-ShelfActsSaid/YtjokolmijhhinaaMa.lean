/- Walks of plain functions. Printed by a program of mine. -/
import Derived.KernelRfl
import Derived.Test.YtjokolmijhhinaaMd
namespace Go.Proofs.Ytjokolmijhhinaa
open Go Go.Proofs.Ytjokolmijhhinaa.Sx
set_option linter.unusedVariables false
set_option linter.unusedSimpArgs false
theorem me72_45 (v : Value) (w : World) : (method (Try.prog.types.size + Made.depth) 72 v "Compare").run Try.prog w = .ok (45, v) w := meth_of (by kernel_rfl) v w
theorem me72_47 (v : Value) (w : World) : (method (Try.prog.types.size + Made.depth) 72 v "Sum").run Try.prog w = .ok (47, v) w := meth_of (by kernel_rfl) v w
theorem me76_48 (v : Value) (w : World) : (method (Try.prog.types.size + Made.depth) 76 v "Plus").run Try.prog w = .ok (48, v) w := meth_of (by kernel_rfl) v w
theorem shelf_Slot_Sum_con0 {k : Nat}  {a0 : TSlot} {r : TSize}  (H0 : shelf_Slot_Sum.f k a0 = some r) : SCon Try.prog 47 [.a (.agg ((eTSlot a0).map .v))] [] (.a (.c (.v (.int .i64 r)))) [] [] := by
  rw [shelf_Slot_Sum.f] at H0
  refine spec_of [(0, _)] [] 3 Try.func47 rfl Try.ntmps47 rfl rfl rfl rfl (fun β W F => ?_)
  refine G.seq ?_
  refine G.rg ?_
  refine K.box Y 100 [_, _, _, _] (gd0 rfl) rfl rfl rfl rfl rfl rfl ?_
  refine K.move (.inr rfl) (gd0 rfl) rfl rfl ?_
  refine K.nil ?_
  refine At.next ?_
  refine G.seq ?_
  refine G.rg ?_
  refine K.move (.inr rfl) (gd0 rfl) rfl rfl ?_
  refine K.nil ?_
  refine At.next ?_
  refine G.ret ?_
  refine At.done Y [(.tmp 2, .c _)] rfl ⟨.tmp rfl, trivial⟩ (to' := []) trivial ?_ ?_ rfl rfl rfl (.inl rfl)
  · cases H0; rfl
  · cases H0; rfl
theorem shelf_Slot_Sum_con {k : Nat}  {a0 : TSlot} {r : TSize}  (H0 : shelf_Slot_Sum.f k a0 = some r) : SCon Try.prog 47 [.a (.agg ((eTSlot a0).map .v))] [] (.a (.c (.v (.int .i64 r)))) [] [] :=
  SCon.ren (rn []) (shelf_Slot_Sum_con0 (k := k)   H0) trivial trivial (by simp) (by simp)
theorem cmp_isNaN_con0 {k : Nat}  {a0 : Int} {r : Bool}  (H0 : cmp_isNaN.f k a0 = some r) : SCon Try.prog 108 [.a (.c (.v (.int .i64 a0)))] [] (.a (.c (.v (.bool r)))) [] [] := by
  rw [cmp_isNaN.f] at H0
  refine spec_of [(0, _)] [] 6 Try.func108 rfl Try.ntmps108 rfl rfl rfl rfl (fun β W F => ?_)
  refine G.seq ?_
  refine G.rg ?_
  refine K.move (.inr rfl) (gd0 rfl) rfl rfl ?_
  refine K.nil ?_
  refine At.next ?_
  refine G.seq ?_
  refine G.rg ?_
  refine K.move (.inl rfl) (gd0 rfl) rfl rfl ?_
  refine K.move (.inl rfl) (gd0 rfl) rfl rfl ?_
  refine K.bin (V := .bool (a0 != a0)) (gd0 rfl) rfl rfl (fun _ => rfl) rfl ?_
  refine K.move (.inr rfl) (gd0 rfl) rfl rfl ?_
  refine K.nil ?_
  refine At.next ?_
  refine G.ret ?_
  refine At.done Y [(.tmp 2, .c _)] rfl ⟨.tmp rfl, trivial⟩ (to' := []) trivial ?_ ?_ rfl rfl rfl (.inl rfl)
  · cases H0; rfl
  · cases H0; rfl
theorem cmp_isNaN_con {k : Nat}  {a0 : Int} {r : Bool}  (H0 : cmp_isNaN.f k a0 = some r) : SCon Try.prog 108 [.a (.c (.v (.int .i64 a0)))] [] (.a (.c (.v (.bool r)))) [] [] :=
  SCon.ren (rn []) (cmp_isNaN_con0 (k := k)   H0) trivial trivial (by simp) (by simp)
theorem cmp_Compare_con0 {k : Nat}  {a0 : Int} {a1 : Int} {r : Int}  (H0 : cmp_Compare.f k a0 a1 = some r) : SCon Try.prog 97 [.a (.c (.v (.int .i64 a0))), .a (.c (.v (.int .i64 a1)))] [] (.a (.c (.v (.int .i64 r)))) [] [] := by
  rw [cmp_Compare.f] at H0
  refine spec_of [(0, _), (1, _)] [] 20 Try.func97 rfl Try.ntmps97 rfl rfl rfl rfl (fun β W F => ?_)
  refine G.seq ?_
  refine G.rg ?_
  refine K.move (.inr rfl) (gd0 rfl) rfl rfl ?_
  refine K.nil ?_
  refine At.next ?_
  refine G.seq ?_
  obtain ⟨x1, hx1, H0⟩ := bnd H0
  refine G.rg ?_
  refine K.move (.inl rfl) (gd0 rfl) rfl rfl ?_
  refine K.callR [(.func 108, _), ((.tmp 7), _)] (cmp_isNaN_con (k := k) hx1) (toFn_func (cf 108 rfl) rfl) (gd0 rfl) ⟨rfl, rfl, trivial⟩ trivial rfl rfl rfl ?_
  refine K.move (.inr rfl) (gd0 rfl) rfl rfl ?_
  refine K.nil ?_
  refine At.next ?_
  refine G.seq ?_
  obtain ⟨x2, hx2, H0⟩ := bnd H0
  refine G.rg ?_
  refine K.move (.inl rfl) (gd0 rfl) rfl rfl ?_
  refine K.callR [(.func 108, _), ((.tmp 9), _)] (cmp_isNaN_con (k := k) hx2) (toFn_func (cf 108 rfl) rfl) (gd0 rfl) ⟨rfl, rfl, trivial⟩ trivial rfl rfl rfl ?_
  refine K.move (.inr rfl) (gd0 rfl) rfl rfl ?_
  refine K.nil ?_
  refine At.next ?_
  refine G.seq ?_
  refine G.seq ?_
  refine G.rg ?_
  refine K.move (.inl rfl) (gd0 rfl) rfl rfl ?_
  refine K.nil ?_
  refine At.next ?_
  refine G.cond rfl (fun h1 => ?_) (fun h1 => ?_)
  ·
    replace H0 := bif_t H0 h1
    refine G.seq ?_
    refine G.seq ?_
    refine G.rg ?_
    refine K.move (.inl rfl) (gd0 rfl) rfl rfl ?_
    refine K.nil ?_
    refine At.next ?_
    refine G.cond rfl (fun h2 => ?_) (fun h2 => ?_)
    ·
      replace H0 := bif_t H0 h2
      refine G.seq ?_
      refine G.rg ?_
      refine K.move (.inr rfl) (gd0 rfl) rfl rfl ?_
      refine K.nil ?_
      refine At.next ?_
      refine G.ret ?_
      refine At.over_ret ?_
      refine At.over_ret ?_
      refine At.done Y [(.tmp 4, .c _)] rfl ⟨.tmp rfl, trivial⟩ (to' := []) trivial ?_ ?_ rfl rfl rfl (.inl rfl)
      · cases H0; rfl
      · cases H0; rfl
    ·
      replace H0 := bif_f H0 h2
      refine G.skip ?_
      refine At.next ?_
      refine G.seq ?_
      refine G.rg ?_
      refine K.move (.inr rfl) (gd0 rfl) rfl rfl ?_
      refine K.nil ?_
      refine At.next ?_
      refine G.ret ?_
      refine At.over_ret ?_
      refine At.done Y [(.tmp 4, .c _)] rfl ⟨.tmp rfl, trivial⟩ (to' := []) trivial ?_ ?_ rfl rfl rfl (.inl rfl)
      · cases H0; rfl
      · cases H0; rfl
  ·
    replace H0 := bif_f H0 h1
    refine G.skip ?_
    refine At.next ?_
    refine G.seq ?_
    refine G.seq ?_
    refine G.rg ?_
    refine K.move (.inl rfl) (gd0 rfl) rfl rfl ?_
    refine K.nil ?_
    refine At.next ?_
    refine G.cond rfl (fun h3 => ?_) (fun h3 => ?_)
    ·
      replace H0 := bif_t H0 h3
      refine G.seq ?_
      refine G.rg ?_
      refine K.move (.inr rfl) (gd0 rfl) rfl rfl ?_
      refine K.nil ?_
      refine At.next ?_
      refine G.ret ?_
      refine At.over_ret ?_
      refine At.done Y [(.tmp 4, .c _)] rfl ⟨.tmp rfl, trivial⟩ (to' := []) trivial ?_ ?_ rfl rfl rfl (.inl rfl)
      · cases H0; rfl
      · cases H0; rfl
    ·
      replace H0 := bif_f H0 h3
      refine G.skip ?_
      refine At.next ?_
      refine G.seq ?_
      refine G.seq ?_
      refine G.rg ?_
      refine K.move (.inl rfl) (gd0 rfl) rfl rfl ?_
      refine K.move (.inl rfl) (gd0 rfl) rfl rfl ?_
      refine K.bin (V := .bool (decide (a0 < a1))) (gd0 rfl) rfl rfl (fun _ => rfl) rfl ?_
      refine K.nil ?_
      refine At.next ?_
      refine G.cond rfl (fun h4 => ?_) (fun h4 => ?_)
      ·
        replace H0 := bif_t H0 h4
        refine G.seq ?_
        refine G.rg ?_
        refine K.move (.inr rfl) (gd0 rfl) rfl rfl ?_
        refine K.nil ?_
        refine At.next ?_
        refine G.ret ?_
        refine At.over_ret ?_
        refine At.done Y [(.tmp 4, .c _)] rfl ⟨.tmp rfl, trivial⟩ (to' := []) trivial ?_ ?_ rfl rfl rfl (.inl rfl)
        · cases H0; rfl
        · cases H0; rfl
      ·
        replace H0 := bif_f H0 h4
        refine G.skip ?_
        refine At.next ?_
        refine G.seq ?_
        refine G.seq ?_
        refine G.rg ?_
        refine K.move (.inl rfl) (gd0 rfl) rfl rfl ?_
        refine K.move (.inl rfl) (gd0 rfl) rfl rfl ?_
        refine K.bin (V := .bool (decide (a0 > a1))) (gd0 rfl) rfl rfl (fun _ => rfl) rfl ?_
        refine K.nil ?_
        refine At.next ?_
        refine G.cond rfl (fun h5 => ?_) (fun h5 => ?_)
        ·
          replace H0 := bif_t H0 h5
          refine G.seq ?_
          refine G.rg ?_
          refine K.move (.inr rfl) (gd0 rfl) rfl rfl ?_
          refine K.nil ?_
          refine At.next ?_
          refine G.ret ?_
          refine At.over_ret ?_
          refine At.done Y [(.tmp 4, .c _)] rfl ⟨.tmp rfl, trivial⟩ (to' := []) trivial ?_ ?_ rfl rfl rfl (.inl rfl)
          · cases H0; rfl
          · cases H0; rfl
        ·
          replace H0 := bif_f H0 h5
          refine G.skip ?_
          refine At.next ?_
          refine G.seq ?_
          refine G.rg ?_
          refine K.move (.inr rfl) (gd0 rfl) rfl rfl ?_
          refine K.nil ?_
          refine At.next ?_
          refine G.ret ?_
          refine At.done Y [(.tmp 4, .c _)] rfl ⟨.tmp rfl, trivial⟩ (to' := []) trivial ?_ ?_ rfl rfl rfl (.inl rfl)
          · cases H0; rfl
          · cases H0; rfl
theorem cmp_Compare_con {k : Nat}  {a0 : Int} {a1 : Int} {r : Int}  (H0 : cmp_Compare.f k a0 a1 = some r) : SCon Try.prog 97 [.a (.c (.v (.int .i64 a0))), .a (.c (.v (.int .i64 a1)))] [] (.a (.c (.v (.int .i64 r)))) [] [] :=
  SCon.ren (rn []) (cmp_Compare_con0 (k := k)   H0) trivial trivial (by simp) (by simp)
theorem cmp_Or_con0 {k : Nat}  {S : Foot} {W0 : World} {s0 : Value} {l0 : List Int} {r : Int} (hL0 : LArg S W0 s0 intE 1 l0) (H0 : cmp_Or.f k l0 = some r) : SCon Try.prog 96 [SV.raw s0] [(0, rd S W0)] (.a (.c (.v (.int .i64 r)))) [(0, rd S W0)] [] := by
  rw [cmp_Or.f] at H0
  obtain ⟨b0, o0, hI0⟩ := hL0
  refine spec_of [(0, _)] [(0, _)] 18 Try.func96 rfl Try.ntmps96 rfl rfl rfl rfl (fun β W F => ?_)
  refine G.seq ?_
  refine G.rg ?_
  refine K.move (.inr rfl) (gd0 rfl) rfl rfl ?_
  refine K.nil ?_
  refine At.next ?_
  refine G.seq ?_
  refine G.rg ?_
  refine K.move (.inr rfl) (gd0 rfl) rfl rfl ?_
  refine K.nil ?_
  refine At.next ?_
  obtain ⟨x1, H1, H0⟩ := bnd H0
  refine G.seqJ (σ := { v : Unit // x1 = Sum.inr v }) (fun q => [(3, .a (.c (.v (.int .i64 0))))]) (fun q => [(0, rd S W0)]) ?_ ?_
  ·
    refine G.seq ?_
    refine G.rg ?_
    refine K.move (.inl rfl) (gd0 rfl) rfl rfl ?_
    refine K.lenL (rV 0 S W0 s0 b0 o0 intE 1 l0) (hI0.is 0) (gd0 rfl) rfl rfl Try.underlying29 rfl ?_
    refine K.move (.inl rfl) (gd0 rfl) rfl rfl ?_
    refine K.nil ?_
    refine At.next ?_
    refine G.block ?_
    refine G.loop (σ := { q : Nat × (Int) // cmp_Or.l0 k l0 q.1 q.2 = some x1 }) (fun q => [(3, .a (.c (.v (.int .i64 0)))), (6, SV.raw s0), (7, .a (.c (.v (.int .i64 (l0.length : Int))))), (8, .a (.c (.v (.int .i64 q.1.2))))]) (fun q => [(0, rd S W0)]) (fun q => q.1.1) ⟨(k, 0), H1⟩ ?_ ?_
    · exact At.into [] [_] rfl ⟨rfl, rfl, rfl, rfl, trivial⟩ ⟨rfl, (fun _ => rfl), trivial⟩ rfl
    ·
      rintro ⟨⟨n0, v1⟩, H1⟩
      show G _ _ [(3, .a (.c (.v (.int .i64 0)))), (6, SV.raw s0), (7, .a (.c (.v (.int .i64 (l0.length : Int))))), (8, .a (.c (.v (.int .i64 v1))))] [(0, some (rd S W0))] _ _
      cases n0 with
      | zero => exact absurd H1 (by simp [cmp_Or.l0])
      | succ n0 =>
        have HL0 := H1
        rw [cmp_Or.l0] at H1
        refine G.seq ?_
        refine G.rg ?_
        refine K.bin (V := .bool (decide (v1 < (l0.length : Int)))) (gd0 rfl) rfl rfl (fun _ => rfl) rfl ?_
        refine K.nil ?_
        refine At.next ?_
        refine G.seq ?_
        refine G.cond rfl (fun h1 => ?_) (fun h1 => ?_)
        ·
          replace H1 := bif_t H1 h1
          refine G.skip ?_
          refine At.next ?_
          refine G.seq ?_
          refine G.block ?_
          refine G.seq ?_
          obtain ⟨x2, hx2, H1⟩ := bnd H1
          refine G.rg ?_
          refine K.idxL (rV 0 S W0 s0 b0 o0 intE 1 l0) ((v1).toNat) (hI0.is 0) (atL_get hx2) (atL_nn hx2) (gd0 rfl) rfl rfl rfl Try.underlying29 el29.size_run rfl ?_
          refine K.load1L Y (rV 0 S W0 s0 b0 o0 intE 1 l0) ((v1).toNat) 0 (hI0.is 0) (atL_get hx2) (gd0 rfl) rfl rfl t3 rfl rfl ?_
          refine K.move (.inr rfl) (gd0 rfl) rfl rfl ?_
          refine K.nil ?_
          refine At.next ?_
          refine G.seq ?_
          refine G.rg ?_
          refine K.move (.inl rfl) (gd0 rfl) rfl rfl ?_
          refine K.move (.inl rfl) (gd0 rfl) rfl rfl ?_
          refine K.bin (V := .bool (x2 != 0)) (gd0 rfl) rfl rfl (fun _ => rfl) rfl ?_
          refine K.nil ?_
          refine At.next ?_
          refine G.cond rfl (fun h2 => ?_) (fun h2 => ?_)
          ·
            replace H1 := bif_t H1 h2
            refine G.seq ?_
            refine G.rg ?_
            refine K.move (.inl rfl) (gd0 rfl) rfl rfl ?_
            refine K.move (.inr rfl) (gd0 rfl) rfl rfl ?_
            refine K.nil ?_
            refine At.next ?_
            refine G.ret ?_
            refine At.block_ret ?_
            refine At.over_ret ?_
            refine At.over_ret ?_
            refine At.block_ret ?_
            refine At.over_ret ?_
            cases H1
            replace H0 := sum_l H0
            refine At.done Y [(.tmp 2, .c _)] rfl ⟨.tmp rfl, trivial⟩ (to' := [(0, _)]) ⟨rfl, trivial⟩ ?_ ?_ rfl rfl rfl (.inl rfl)
            · cases H0; rfl
            · cases H0; rfl
          ·
            replace H1 := bif_f H1 h2
            refine G.skip ?_
            refine At.block_normal ?_
            refine At.next ?_
            refine G.rg ?_
            refine K.bin (V := .int .i64 (w64 (v1 + 1))) (gd0 rfl) rfl rfl (fun _ => rfl) rfl ?_
            refine K.move (.inl rfl) (gd0 rfl) rfl rfl ?_
            refine K.nil ?_
            exact At.again (σ := { q : Nat × (Int) // cmp_Or.l0 k l0 q.1 q.2 = some x1 }) (Fs := fun q => [(3, .a (.c (.v (.int .i64 0)))), (6, SV.raw s0), (7, .a (.c (.v (.int .i64 (l0.length : Int))))), (8, .a (.c (.v (.int .i64 q.1.2))))]) (Tl := fun q => [(0, rd S W0)]) (μ := fun q => q.1.1) (s := ⟨(n0 + 1, v1), HL0⟩) ⟨(n0, (w64 (v1 + 1))), H1⟩ [] [_] (Nat.lt_succ_self _) rfl ⟨rfl, rfl, rfl, rfl, trivial⟩ ⟨rfl, (fun _ => rfl), trivial⟩ rfl
        ·
          replace H1 := bif_f H1 h1
          refine G.exit ?_
          refine At.over_exit ?_
          refine At.over_exit ?_
          refine At.block_hit ?_
          exact At.joined (σ := { v : Unit // x1 = Sum.inr v }) (Fs := fun q => [(3, .a (.c (.v (.int .i64 0))))]) (Tl := fun q => [(0, rd S W0)]) ⟨(), (Option.some.inj H1).symm⟩ [] [_] rfl ⟨rfl, trivial⟩ ⟨rfl, (fun _ => rfl), trivial⟩ rfl
  ·
    rintro ⟨v1, rfl⟩
    replace H0 := sum_r H0
    show G _ _ [(3, .a (.c (.v (.int .i64 0))))] [(0, some (rd S W0))] _ _
    refine G.seq ?_
    refine G.rg ?_
    refine K.move (.inl rfl) (gd0 rfl) rfl rfl ?_
    refine K.move (.inr rfl) (gd0 rfl) rfl rfl ?_
    refine K.nil ?_
    refine At.next ?_
    refine G.ret ?_
    refine At.done Y [(.tmp 2, .c _)] rfl ⟨.tmp rfl, trivial⟩ (to' := [(0, _)]) ⟨rfl, trivial⟩ ?_ ?_ rfl rfl rfl (.inl rfl)
    · cases H0; rfl
    · cases H0; rfl
theorem cmp_Or_con {k : Nat}  {S : Foot} {W0 : World} {s0 : Value} {l0 : List Int} {r : Int} (hL0 : LArg S W0 s0 intE 1 l0) (H0 : cmp_Or.f k l0 = some r) : SCon Try.prog 96 [SV.raw s0] [(0, rd S W0)] (.a (.c (.v (.int .i64 r)))) [(0, rd S W0)] [] :=
  SCon.ren (rn []) (cmp_Or_con0 (k := k)  hL0 H0) ⟨(fun _ => rfl), trivial⟩ ⟨(fun _ => rfl), trivial⟩ (by simp) (by simp)
theorem item_Compare_con0 {k : Nat}  {a0 : TItem} {a1 : TItem} {r : Int}  (H0 : item_Compare.f k a0 a1 = some r) : SCon Try.prog 77 [.a (.agg ((eTItem a0).map .v)), .a (.agg ((eTItem a1).map .v))] [] (.a (.c (.v (.int .i64 r)))) [] [] := by
  rw [item_Compare.f] at H0
  refine spec_of [(0, _), (1, _)] [] 17 Try.func77 rfl Try.ntmps77 rfl rfl rfl rfl (fun β W F => ?_)
  refine G.seq ?_
  refine G.rg ?_
  refine K.box Y 100 [_, _] (gd0 rfl) rfl rfl rfl rfl rfl rfl ?_
  refine K.box Y 101 [_, _] (gd0 rfl) rfl rfl rfl rfl rfl rfl ?_
  refine K.move (.inr rfl) (gd0 rfl) rfl rfl ?_
  refine K.nil ?_
  refine At.next ?_
  refine G.seq ?_
  obtain ⟨x1, hx1, H0⟩ := bnd H0
  obtain ⟨x2, hx2, H0⟩ := bnd H0
  obtain ⟨x3, hx3, H0⟩ := bnd H0
  refine G.rd mixed ?_
  refine K.fieldAddr Y (gd0 rfl) rfl t68 rfl rfl ?_
  refine K.load1 Y (gd0 rfl) rfl rfl t3 rfl rfl ?_
  refine K.fieldAddr Y (gd0 rfl) rfl t68 rfl rfl ?_
  refine K.load1 Y (gd0 rfl) rfl rfl t3 rfl rfl ?_
  refine K.callR [(.func 97, _), ((.tmp 6), _), ((.tmp 8), _)] (cmp_Compare_con (k := k) hx1) (toFn_func (cf 97 rfl) rfl) (gd0 rfl) ⟨rfl, rfl, rfl, trivial⟩ trivial rfl rfl rfl ?_
  refine K.fieldAddr Y (gd0 rfl) rfl t68 rfl rfl ?_
  refine K.load1 Y (gd0 rfl) rfl rfl t3 rfl rfl ?_
  refine K.fieldAddr Y (gd0 rfl) rfl t68 rfl rfl ?_
  refine K.load1 Y (gd0 rfl) rfl rfl t3 rfl rfl ?_
  refine K.callR [(.func 97, _), ((.tmp 11), _), ((.tmp 13), _)] (cmp_Compare_con (k := k) hx2) (toFn_func (cf 97 rfl) rfl) (gd0 rfl) ⟨rfl, rfl, rfl, trivial⟩ trivial rfl rfl rfl ?_
  refine K.buildL Y 102 ([x1, x2] : List Int) [(0, _), (1, _)] [((.tmp 9), _), ((.tmp 14), _)] intE_len (gd0 rfl) (AllE.spec ⟨rfl, rfl, trivial⟩) rfl rfl Try.underlying29 t3 rfl rfl rfl rfl rfl rfl rfl rfl ?_
  refine K.callV [(.func 96, _), ((.tmp 15), _)] [(102, lrow 102 3 intE 1 ([x1, x2] : List Int))] [] [] (fun β => [SV.raw ((lrowV 102 3 intE 1 ([x1, x2] : List Int)).s.den β)]) (fun β w S2 h => cmp_Or_con (k := k) ((lrowV_isC intE_len (by decide)).larg ⟨_, List.mem_cons_self⟩ h) hx3) (toFn_func (cf 96 rfl) rfl) (gd0 rfl) ⟨rfl, rfl, trivial⟩ (fun _ => rfl) ⟨rfl, trivial⟩ rfl rfl rfl rfl rfl rfl ?_
  refine K.move (.inr rfl) (gd0 rfl) rfl rfl ?_
  refine K.nil ?_
  refine ⟨by kernel_rfl, ?_⟩
  refine At.next ?_
  refine G.ret ?_
  refine At.done Y [(.tmp 4, .c _)] rfl ⟨.tmp rfl, trivial⟩ (to' := []) trivial ?_ ?_ rfl rfl rfl (.inl rfl)
  · cases H0; rfl
  · cases H0; rfl
theorem item_Compare_con {k : Nat}  {a0 : TItem} {a1 : TItem} {r : Int}  (H0 : item_Compare.f k a0 a1 = some r) : SCon Try.prog 77 [.a (.agg ((eTItem a0).map .v)), .a (.agg ((eTItem a1).map .v))] [] (.a (.c (.v (.int .i64 r)))) [] [] :=
  SCon.ren (rn []) (item_Compare_con0 (k := k)   H0) trivial trivial (by simp) (by simp)
theorem shelf_Slot_Compare_con0 {k : Nat}  {a0 : TSlot} {a1 : TSlot} {r : Int}  (H0 : shelf_Slot_Compare.f k a0 a1 = some r) : SCon Try.prog 45 [.a (.agg ((eTSlot a0).map .v)), .a (.agg ((eTSlot a1).map .v))] [] (.a (.c (.v (.int .i64 r)))) [] [] := by
  rw [shelf_Slot_Compare.f] at H0
  refine spec_of [(0, _), (1, _)] [] 10 Try.func45 rfl Try.ntmps45 rfl rfl rfl rfl (fun β W F => ?_)
  refine G.seq ?_
  refine G.rg ?_
  refine K.box Y 100 [_, _, _, _] (gd0 rfl) rfl rfl rfl rfl rfl rfl ?_
  refine K.box Y 101 [_, _, _, _] (gd0 rfl) rfl rfl rfl rfl rfl rfl ?_
  refine K.move (.inr rfl) (gd0 rfl) rfl rfl ?_
  refine K.nil ?_
  refine At.next ?_
  refine G.seq ?_
  obtain ⟨x1, hx1, H0⟩ := bnd H0
  refine G.rg ?_
  refine K.fieldAddr Y (gd0 rfl) rfl t72 rfl rfl ?_
  refine K.loadS Y [_, _] (gd0 rfl) rfl rfl t68 rfl rfl rfl ?_
  refine K.fieldAddr Y (gd0 rfl) rfl t72 rfl rfl ?_
  refine K.loadS Y [_, _] (gd0 rfl) rfl rfl t68 rfl rfl rfl ?_
  refine K.callR [(.func 77, _), ((.tmp 6), _), ((.tmp 8), _)] (item_Compare_con (k := k) hx1) (toFn_func (cf 77 rfl) rfl) (gd0 rfl) ⟨rfl, rfl, rfl, trivial⟩ trivial rfl rfl rfl ?_
  refine K.move (.inr rfl) (gd0 rfl) rfl rfl ?_
  refine K.nil ?_
  refine At.next ?_
  refine G.ret ?_
  refine At.done Y [(.tmp 4, .c _)] rfl ⟨.tmp rfl, trivial⟩ (to' := []) trivial ?_ ?_ rfl rfl rfl (.inl rfl)
  · cases H0; rfl
  · cases H0; rfl
theorem shelf_Slot_Compare_con {k : Nat}  {a0 : TSlot} {a1 : TSlot} {r : Int}  (H0 : shelf_Slot_Compare.f k a0 a1 = some r) : SCon Try.prog 45 [.a (.agg ((eTSlot a0).map .v)), .a (.agg ((eTSlot a1).map .v))] [] (.a (.c (.v (.int .i64 r)))) [] [] :=
  SCon.ren (rn []) (shelf_Slot_Compare_con0 (k := k)   H0) trivial trivial (by simp) (by simp)
theorem shelf_Size_Plus_con0 {k : Nat}  {a0 : TSize} {a1 : TSize} {r : TSize}  (H0 : shelf_Size_Plus.f k a0 a1 = some r) : SCon Try.prog 48 [.a (.c (.v (.int .i64 a0))), .a (.c (.v (.int .i64 a1)))] [] (.a (.c (.v (.int .i64 r)))) [] [] := by
  rw [shelf_Size_Plus.f] at H0
  refine spec_of [(0, _), (1, _)] [] 8 Try.func48 rfl Try.ntmps48 rfl rfl rfl rfl (fun β W F => ?_)
  refine G.seq ?_
  refine G.rg ?_
  refine K.move (.inr rfl) (gd0 rfl) rfl rfl ?_
  refine K.nil ?_
  refine At.next ?_
  refine G.seq ?_
  refine G.rg ?_
  refine K.move (.inl rfl) (gd0 rfl) rfl rfl ?_
  refine K.move (.inl rfl) (gd0 rfl) rfl rfl ?_
  refine K.bin (V := .int .i64 (w64 (a0 + a1))) (gd0 rfl) rfl rfl (fun _ => rfl) rfl ?_
  refine K.move (.inr rfl) (gd0 rfl) rfl rfl ?_
  refine K.nil ?_
  refine At.next ?_
  refine G.ret ?_
  refine At.done Y [(.tmp 4, .c _)] rfl ⟨.tmp rfl, trivial⟩ (to' := []) trivial ?_ ?_ rfl rfl rfl (.inl rfl)
  · cases H0; rfl
  · cases H0; rfl
theorem shelf_Size_Plus_con {k : Nat}  {a0 : TSize} {a1 : TSize} {r : TSize}  (H0 : shelf_Size_Plus.f k a0 a1 = some r) : SCon Try.prog 48 [.a (.c (.v (.int .i64 a0))), .a (.c (.v (.int .i64 a1)))] [] (.a (.c (.v (.int .i64 r)))) [] [] :=
  SCon.ren (rn []) (shelf_Size_Plus_con0 (k := k)   H0) trivial trivial (by simp) (by simp)
end Go.Proofs.Ytjokolmijhhinaa


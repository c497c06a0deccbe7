/- Walks of plain functions. Printed by a program of mine. -/
import Derived.KernelRfl
import Derived.Test.YtjokolmijhhinaaMd
namespace Go.Proofs.Ytjokolmijhhinaa
open Go Go.Proofs.Ytjokolmijhhinaa.Sx
set_option linter.unusedVariables false
set_option linter.unusedSimpArgs false
theorem me32_130 (v : Value) (w : World) : (method (Try.prog.types.size + Made.depth) 32 v "Plus").run Try.prog w = .ok (130, v) w := meth_of (by kernel_rfl) v w
theorem me35_131 (v : Value) (w : World) : (method (Try.prog.types.size + Made.depth) 35 v "Compare").run Try.prog w = .ok (131, v) w := meth_of (by kernel_rfl) v w
theorem me35_132 (v : Value) (w : World) : (method (Try.prog.types.size + Made.depth) 35 v "Sum").run Try.prog w = .ok (132, v) w := meth_of (by kernel_rfl) v w
theorem tide_Tide_Plus_con0 {k : Nat}  {a0 : TTide} {a1 : TTide} {r : TTide}  (H0 : tide_Tide_Plus.f k a0 a1 = some r) : SCon Try.prog 130 [.a (.agg ((eTTide a0).map .v)), .a (.agg ((eTTide a1).map .v))] [] (.a (.agg ((eTTide r).map .v))) [] [] := by
  rw [tide_Tide_Plus.f] at H0
  refine spec_of [(0, _), (1, _)] [] 32 Try.func130 rfl Try.ntmps130 rfl rfl rfl rfl (fun β W F => ?_)
  refine G.seq ?_
  refine G.rg ?_
  refine K.box Y 100 [_, _, _] (gd0 rfl) rfl rfl rfl rfl rfl rfl ?_
  refine K.box Y 101 [_, _, _] (gd0 rfl) rfl rfl rfl rfl rfl rfl ?_
  refine K.alloc Y 102 [_, _, _] (gd0 rfl) t32 rfl rfl rfl rfl rfl ?_
  refine K.nil ?_
  refine At.next ?_
  refine G.seq ?_
  refine G.seq ?_
  refine G.rg ?_
  refine K.fieldAddr Y (gd0 rfl) rfl t32 rfl rfl ?_
  refine K.load1 Y (gd0 rfl) rfl rfl t3 rfl rfl ?_
  refine K.bin (V := .bool (a0.n == 0)) (gd0 rfl) rfl rfl (fun _ => rfl) rfl ?_
  refine K.nil ?_
  refine At.next ?_
  refine G.cond rfl (fun h1 => ?_) (fun h1 => ?_)
  ·
    replace H0 := bif_t H0 h1
    refine G.seq ?_
    refine G.rg ?_
    refine K.loadS Y [_, _, _] (gd0 rfl) rfl rfl t32 rfl rfl rfl ?_
    refine K.store Y [_, _, _] (gd0 rfl) rfl rfl rfl t32 rfl rfl rfl rfl rfl ?_
    refine K.nil ?_
    refine At.next ?_
    refine G.ret ?_
    refine At.over_ret ?_
    refine At.done Y [(.cell 4 32, .agg [_, _, _])] rfl ⟨.st rfl rfl t32 rfl rfl, trivial⟩ (to' := []) trivial ?_ ?_ rfl rfl rfl (.inl rfl)
    · cases H0; rfl
    · cases H0; rfl
  ·
    replace H0 := bif_f H0 h1
    refine G.skip ?_
    refine At.next ?_
    refine G.seq ?_
    refine G.seq ?_
    refine G.rg ?_
    refine K.fieldAddr Y (gd0 rfl) rfl t32 rfl rfl ?_
    refine K.load1 Y (gd0 rfl) rfl rfl t3 rfl rfl ?_
    refine K.bin (V := .bool (a1.n == 0)) (gd0 rfl) rfl rfl (fun _ => rfl) rfl ?_
    refine K.nil ?_
    refine At.next ?_
    refine G.cond rfl (fun h2 => ?_) (fun h2 => ?_)
    ·
      replace H0 := bif_t H0 h2
      refine G.seq ?_
      refine G.rg ?_
      refine K.loadS Y [_, _, _] (gd0 rfl) rfl rfl t32 rfl rfl rfl ?_
      refine K.store Y [_, _, _] (gd0 rfl) rfl rfl rfl t32 rfl rfl rfl rfl rfl ?_
      refine K.nil ?_
      refine At.next ?_
      refine G.ret ?_
      refine At.over_ret ?_
      refine At.done Y [(.cell 4 32, .agg [_, _, _])] rfl ⟨.st rfl rfl t32 rfl rfl, trivial⟩ (to' := []) trivial ?_ ?_ rfl rfl rfl (.inl rfl)
      · cases H0; rfl
      · cases H0; rfl
    ·
      replace H0 := bif_f H0 h2
      refine G.skip ?_
      refine At.next ?_
      refine G.seq ?_
      refine G.rg ?_
      refine K.fieldAddr Y (gd0 rfl) rfl t32 rfl rfl ?_
      refine K.load1 Y (gd0 rfl) rfl rfl t3 rfl rfl ?_
      refine K.fieldAddr Y (gd0 rfl) rfl t32 rfl rfl ?_
      refine K.load1 Y (gd0 rfl) rfl rfl t3 rfl rfl ?_
      refine K.bin (V := .int .i64 (w64 (a0.n + a1.n))) (gd0 rfl) rfl rfl (fun _ => rfl) rfl ?_
      refine K.fieldAddr Y (gd0 rfl) rfl t32 rfl rfl ?_
      refine K.load1 Y (gd0 rfl) rfl rfl t3 rfl rfl ?_
      refine K.fieldAddr Y (gd0 rfl) rfl t32 rfl rfl ?_
      refine K.load1 Y (gd0 rfl) rfl rfl t3 rfl rfl ?_
      refine K.bin (V := .int .i64 (w64 (a0.sum + a1.sum))) (gd0 rfl) rfl rfl (fun _ => rfl) rfl ?_
      refine K.fieldAddr Y (gd0 rfl) rfl t32 rfl rfl ?_
      refine K.load1 Y (gd0 rfl) rfl rfl t3 rfl rfl ?_
      refine K.fieldAddr Y (gd0 rfl) rfl t32 rfl rfl ?_
      refine K.load1 Y (gd0 rfl) rfl rfl t3 rfl rfl ?_
      refine K.fieldAddr Y (gd0 rfl) rfl t32 rfl rfl ?_
      refine K.load1 Y (gd0 rfl) rfl rfl t3 rfl rfl ?_
      refine K.bin (V := .int .i64 (w64 (a0.sum + a1.low))) (gd0 rfl) rfl rfl (fun _ => rfl) rfl ?_
      refine K.bi2 (V := .int .i64 (gmin a0.low (w64 (a0.sum + a1.low)))) (gd0 rfl) rfl rfl (fun _ _ => rfl) rfl ?_
      refine K.build Y [(0, _), (1, _), (2, _)] [_, _, _] [((.tmp 17), _), ((.tmp 22), _), ((.tmp 30), _)] (gd0 rfl) (AllE.spec ⟨rfl, rfl, rfl, trivial⟩) rfl rfl t32 rfl rfl ?_
      refine K.store Y [_, _, _] (gd0 rfl) rfl rfl rfl t32 rfl rfl rfl rfl rfl ?_
      refine K.nil ?_
      refine At.next ?_
      refine G.ret ?_
      refine At.done Y [(.cell 4 32, .agg [_, _, _])] rfl ⟨.st rfl rfl t32 rfl rfl, trivial⟩ (to' := []) trivial ?_ ?_ rfl rfl rfl (.inl rfl)
      · cases H0; rfl
      · cases H0; rfl
theorem tide_Tide_Plus_con {k : Nat}  {a0 : TTide} {a1 : TTide} {r : TTide}  (H0 : tide_Tide_Plus.f k a0 a1 = some r) : SCon Try.prog 130 [.a (.agg ((eTTide a0).map .v)), .a (.agg ((eTTide a1).map .v))] [] (.a (.agg ((eTTide r).map .v))) [] [] :=
  SCon.ren (rn []) (tide_Tide_Plus_con0 (k := k)   H0) trivial trivial (by simp) (by simp)
theorem tide_Of_con0 {k : Nat}  {S : Foot} {W0 : World} {s0 : Value} {l0 : List Int} {r : TTide} (hL0 : LArg S W0 s0 intE 1 l0) (H0 : tide_Of.f k l0 = some r) : SCon Try.prog 133 [SV.raw s0] [(0, rd S W0)] (.a (.agg ((eTTide r).map .v))) [(0, rd S W0)] [] := by
  rw [tide_Of.f] at H0
  obtain ⟨b0, o0, hI0⟩ := hL0
  refine spec_of [(0, _)] [(0, _)] 19 Try.func133 rfl Try.ntmps133 rfl rfl rfl rfl (fun β W F => ?_)
  refine G.seq ?_
  refine G.rg ?_
  refine K.alloc Y 100 [_, _, _] (gd0 rfl) t32 rfl rfl rfl rfl rfl ?_
  refine K.nil ?_
  refine At.next ?_
  refine G.seq ?_
  refine G.rg ?_
  refine K.alloc Y 101 [_, _, _] (gd0 rfl) t32 rfl rfl rfl rfl rfl ?_
  refine K.nil ?_
  refine At.next ?_
  obtain ⟨x1, H1, H0⟩ := bnd H0
  refine G.seqJ (σ := { v : TTide // x1 = v }) (fun q => [(2, .a (.c (.p 102 0))), (3, .a (.c (.p 103 0)))]) (fun q => [(0, rd S W0), (102, blk 102 [.v (.int .i64 0), .v (.int .i64 0), .v (.int .i64 0)] 32), (103, blk 103 [.v (.int .i64 q.1.n), .v (.int .i64 q.1.sum), .v (.int .i64 q.1.low)] 32)]) ?_ ?_
  ·
    refine G.seq ?_
    refine G.rg ?_
    refine K.move (.inl rfl) (gd0 rfl) rfl rfl ?_
    refine K.lenL (rV 0 S W0 s0 b0 o0 intE 1 l0) (hI0.is 0) (gd0 rfl) rfl rfl Try.underlying29 rfl ?_
    refine K.move (.inl rfl) (gd0 rfl) rfl rfl ?_
    refine K.nil ?_
    refine At.next ?_
    refine G.block ?_
    refine G.loop (σ := { q : Nat × (TTide × Int) // tide_Of.l0 k l0 q.1 q.2 = some x1 }) (fun q => [(2, .a (.c (.p 108 0))), (3, .a (.c (.p 109 0))), (6, SV.raw s0), (7, .a (.c (.v (.int .i64 (l0.length : Int))))), (8, .a (.c (.v (.int .i64 q.1.2.2))))]) (fun q => [(0, rd S W0), (108, blk 108 [.v (.int .i64 0), .v (.int .i64 0), .v (.int .i64 0)] 32), (109, blk 109 [.v (.int .i64 q.1.2.1.n), .v (.int .i64 q.1.2.1.sum), .v (.int .i64 q.1.2.1.low)] 32)]) (fun q => q.1.1) ⟨(k, (zTTide, 0)), H1⟩ ?_ ?_
    · exact At.into [(108, 100), (109, 101)] [_, _, _] rfl ⟨rfl, rfl, rfl, rfl, rfl, trivial⟩ ⟨rfl, (fun _ => rfl), rfl, (blk_ren rfl rfl), rfl, (blk_ren rfl rfl), trivial⟩ rfl
    ·
      rintro ⟨⟨n0, v1, v2⟩, H1⟩
      show G _ _ [(2, .a (.c (.p 108 0))), (3, .a (.c (.p 109 0))), (6, SV.raw s0), (7, .a (.c (.v (.int .i64 (l0.length : Int))))), (8, .a (.c (.v (.int .i64 v2))))] [(0, some (rd S W0)), (108, some (blk 108 [.v (.int .i64 0), .v (.int .i64 0), .v (.int .i64 0)] 32)), (109, some (blk 109 [.v (.int .i64 v1.n), .v (.int .i64 v1.sum), .v (.int .i64 v1.low)] 32))] _ _
      cases n0 with
      | zero => exact absurd H1 (by simp [tide_Of.l0])
      | succ n0 =>
        have HL0 := H1
        rw [tide_Of.l0] at H1
        refine G.seq ?_
        refine G.rg ?_
        refine K.bin (V := .bool (decide (v2 < (l0.length : Int)))) (gd0 rfl) rfl rfl (fun _ => rfl) rfl ?_
        refine K.nil ?_
        refine At.next ?_
        refine G.seq ?_
        refine G.cond rfl (fun h1 => ?_) (fun h1 => ?_)
        ·
          replace H1 := bif_t H1 h1
          refine G.skip ?_
          refine At.next ?_
          refine G.seq ?_
          refine G.block ?_
          refine G.seq ?_
          obtain ⟨x2, hx2, H1⟩ := bnd H1
          refine G.rg ?_
          refine K.idxL (rV 0 S W0 s0 b0 o0 intE 1 l0) ((v2).toNat) (hI0.is 0) (atL_get hx2) (atL_nn hx2) (gd0 rfl) rfl rfl rfl Try.underlying29 el29.size_run rfl ?_
          refine K.load1L Y (rV 0 S W0 s0 b0 o0 intE 1 l0) ((v2).toNat) 0 (hI0.is 0) (atL_get hx2) (gd0 rfl) rfl rfl t3 rfl rfl ?_
          refine K.move (.inr rfl) (gd0 rfl) rfl rfl ?_
          refine K.nil ?_
          refine At.next ?_
          obtain ⟨x3, hx3, H1⟩ := bnd H1
          refine G.rg ?_
          refine K.loadS Y [_, _, _] (gd0 rfl) rfl rfl t32 rfl rfl rfl ?_
          refine K.move (.inl rfl) (gd0 rfl) rfl rfl ?_
          refine K.move (.inl rfl) (gd0 rfl) rfl rfl ?_
          refine K.build Y [(0, _), (1, _), (2, _)] [_, _, _] [(_, _), ((.tmp 13), _), ((.tmp 14), _)] (gd0 rfl) (AllE.spec ⟨rfl, rfl, rfl, trivial⟩) rfl rfl t32 rfl rfl ?_
          refine K.callR [(.func 130, _), ((.tmp 12), _), ((.tmp 15), _)] (tide_Tide_Plus_con (k := k) hx3) (toFn_func (cf 130 rfl) rfl) (gd0 rfl) ⟨rfl, rfl, rfl, trivial⟩ trivial rfl rfl rfl ?_
          refine K.store Y [_, _, _] (gd0 rfl) rfl rfl rfl t32 rfl rfl rfl rfl rfl ?_
          refine K.nil ?_
          refine At.block_normal ?_
          refine At.next ?_
          refine G.rg ?_
          refine K.bin (V := .int .i64 (w64 (v2 + 1))) (gd0 rfl) rfl rfl (fun _ => rfl) rfl ?_
          refine K.move (.inl rfl) (gd0 rfl) rfl rfl ?_
          refine K.nil ?_
          exact At.again (σ := { q : Nat × (TTide × Int) // tide_Of.l0 k l0 q.1 q.2 = some x1 }) (Fs := fun q => [(2, .a (.c (.p 108 0))), (3, .a (.c (.p 109 0))), (6, SV.raw s0), (7, .a (.c (.v (.int .i64 (l0.length : Int))))), (8, .a (.c (.v (.int .i64 q.1.2.2))))]) (Tl := fun q => [(0, rd S W0), (108, blk 108 [.v (.int .i64 0), .v (.int .i64 0), .v (.int .i64 0)] 32), (109, blk 109 [.v (.int .i64 q.1.2.1.n), .v (.int .i64 q.1.2.1.sum), .v (.int .i64 q.1.2.1.low)] 32)]) (μ := fun q => q.1.1) (s := ⟨(n0 + 1, (v1, v2)), HL0⟩) ⟨(n0, (x3, (w64 (v2 + 1)))), H1⟩ [] [_, _, _] (Nat.lt_succ_self _) rfl ⟨rfl, rfl, rfl, rfl, rfl, trivial⟩ ⟨rfl, (fun _ => rfl), rfl, (blk_ren rfl rfl), rfl, (blk_ren rfl rfl), trivial⟩ rfl
        ·
          replace H1 := bif_f H1 h1
          refine G.exit ?_
          refine At.over_exit ?_
          refine At.over_exit ?_
          refine At.block_hit ?_
          exact At.joined (σ := { v : TTide // x1 = v }) (Fs := fun q => [(2, .a (.c (.p 102 0))), (3, .a (.c (.p 103 0)))]) (Tl := fun q => [(0, rd S W0), (102, blk 102 [.v (.int .i64 0), .v (.int .i64 0), .v (.int .i64 0)] 32), (103, blk 103 [.v (.int .i64 q.1.n), .v (.int .i64 q.1.sum), .v (.int .i64 q.1.low)] 32)]) ⟨v1, (Option.some.inj H1).symm⟩ [(102, 108), (103, 109)] [_, _, _] rfl ⟨rfl, rfl, trivial⟩ ⟨rfl, (fun _ => rfl), rfl, (blk_ren rfl rfl), rfl, (blk_ren rfl rfl), trivial⟩ rfl
  ·
    rintro ⟨_, rfl⟩
    show G _ _ [(2, .a (.c (.p 102 0))), (3, .a (.c (.p 103 0)))] [(0, some (rd S W0)), (102, some (blk 102 [.v (.int .i64 0), .v (.int .i64 0), .v (.int .i64 0)] 32)), (103, some (blk 103 [.v (.int .i64 x1.n), .v (.int .i64 x1.sum), .v (.int .i64 x1.low)] 32))] _ _
    refine G.seq ?_
    refine G.rg ?_
    refine K.loadS Y [_, _, _] (gd0 rfl) rfl rfl t32 rfl rfl rfl ?_
    refine K.store Y [_, _, _] (gd0 rfl) rfl rfl rfl t32 rfl rfl rfl rfl rfl ?_
    refine K.nil ?_
    refine At.next ?_
    refine G.ret ?_
    refine At.done Y [(.cell 2 32, .agg [_, _, _])] rfl ⟨.st rfl rfl t32 rfl rfl, trivial⟩ (to' := [(0, _)]) ⟨rfl, trivial⟩ ?_ ?_ rfl rfl rfl (.inl rfl)
    · cases H0; rfl
    · cases H0; rfl
theorem tide_Of_con {k : Nat}  {S : Foot} {W0 : World} {s0 : Value} {l0 : List Int} {r : TTide} (hL0 : LArg S W0 s0 intE 1 l0) (H0 : tide_Of.f k l0 = some r) : SCon Try.prog 133 [SV.raw s0] [(0, rd S W0)] (.a (.agg ((eTTide r).map .v))) [(0, rd S W0)] [] :=
  SCon.ren (rn []) (tide_Of_con0 (k := k)  hL0 H0) ⟨(fun _ => rfl), trivial⟩ ⟨(fun _ => rfl), trivial⟩ (by simp) (by simp)
theorem Lw07_elem_Sum_con0 {k : Nat}  {a0 : TL07Elem} {r : TTide}  (H0 : Lw07_elem_Sum.f k a0 = some r) : SCon Try.prog 132 [.a (.agg ((eTL07Elem a0).map .v))] [] (.a (.agg ((eTTide r).map .v))) [] [] := by
  rw [Lw07_elem_Sum.f] at H0
  refine spec_of [(0, _)] [] 7 Try.func132 rfl Try.ntmps132 rfl rfl rfl rfl (fun β W F => ?_)
  refine G.seq ?_
  refine G.rg ?_
  refine K.box Y 100 [_, _] (gd0 rfl) rfl rfl rfl rfl rfl rfl ?_
  refine K.alloc Y 101 [_, _, _] (gd0 rfl) t32 rfl rfl rfl rfl rfl ?_
  refine K.nil ?_
  refine At.next ?_
  refine G.seq ?_
  obtain ⟨x1, hx1, H0⟩ := bnd H0
  refine G.rg ?_
  refine K.fieldAddr Y (gd0 rfl) rfl t35 rfl rfl ?_
  refine K.load1 Y (gd0 rfl) rfl rfl t3 rfl rfl ?_
  refine K.buildL Y 102 ([a0.w] : List Int) [(0, _)] [((.tmp 4), _)] intE_len (gd0 rfl) (AllE.spec ⟨rfl, trivial⟩) rfl rfl Try.underlying29 t3 rfl rfl rfl rfl rfl rfl rfl rfl ?_
  refine K.callV [(.func 133, _), ((.tmp 5), _)] [(102, lrow 102 3 intE 1 ([a0.w] : List Int))] [] [] (fun β => [SV.raw ((lrowV 102 3 intE 1 ([a0.w] : List Int)).s.den β)]) (fun β w S2 h => tide_Of_con (k := k) ((lrowV_isC intE_len (by decide)).larg ⟨_, List.mem_cons_self⟩ h) hx1) (toFn_func (cf 133 rfl) rfl) (gd0 rfl) ⟨rfl, rfl, trivial⟩ (fun _ => rfl) ⟨rfl, trivial⟩ rfl rfl rfl rfl rfl rfl ?_
  refine K.store Y [_, _, _] (gd0 rfl) rfl rfl rfl t32 rfl rfl rfl rfl rfl ?_
  refine K.nil ?_
  refine At.next ?_
  refine G.ret ?_
  refine At.done Y [(.cell 2 32, .agg [_, _, _])] rfl ⟨.st rfl rfl t32 rfl rfl, trivial⟩ (to' := []) trivial ?_ ?_ rfl rfl rfl (.inl rfl)
  · cases H0; rfl
  · cases H0; rfl
theorem Lw07_elem_Sum_con {k : Nat}  {a0 : TL07Elem} {r : TTide}  (H0 : Lw07_elem_Sum.f k a0 = some r) : SCon Try.prog 132 [.a (.agg ((eTL07Elem a0).map .v))] [] (.a (.agg ((eTTide r).map .v))) [] [] :=
  SCon.ren (rn []) (Lw07_elem_Sum_con0 (k := k)   H0) trivial trivial (by simp) (by simp)
theorem Lw07_elem_Compare_con0 {k : Nat}  {a0 : TL07Elem} {a1 : TL07Elem} {r : Int}  (H0 : Lw07_elem_Compare.f k a0 a1 = some r) : SCon Try.prog 131 [.a (.agg ((eTL07Elem a0).map .v)), .a (.agg ((eTL07Elem a1).map .v))] [] (.a (.c (.v (.int .i64 r)))) [] [] := by
  rw [Lw07_elem_Compare.f] at H0
  refine spec_of [(0, _), (1, _)] [] 15 Try.func131 rfl Try.ntmps131 rfl rfl rfl rfl (fun β W F => ?_)
  refine G.seq ?_
  refine G.rg ?_
  refine K.box Y 100 [_, _] (gd0 rfl) rfl rfl rfl rfl rfl rfl ?_
  refine K.box Y 101 [_, _] (gd0 rfl) rfl rfl rfl rfl rfl rfl ?_
  refine K.move (.inr rfl) (gd0 rfl) rfl rfl ?_
  refine K.nil ?_
  refine At.next ?_
  refine G.seq ?_
  refine G.seq ?_
  refine G.rg ?_
  refine K.fieldAddr Y (gd0 rfl) rfl t35 rfl rfl ?_
  refine K.load1 Y (gd0 rfl) rfl rfl t3 rfl rfl ?_
  refine K.fieldAddr Y (gd0 rfl) rfl t35 rfl rfl ?_
  refine K.load1 Y (gd0 rfl) rfl rfl t3 rfl rfl ?_
  refine K.bin (V := .bool (decide (a0.k < a1.k))) (gd0 rfl) rfl rfl (fun _ => rfl) rfl ?_
  refine K.nil ?_
  refine At.next ?_
  refine G.cond rfl (fun h1 => ?_) (fun h1 => ?_)
  ·
    replace H0 := bif_t H0 h1
    refine G.seq ?_
    refine G.rg ?_
    refine K.move (.inr rfl) (gd0 rfl) rfl rfl ?_
    refine K.nil ?_
    refine At.next ?_
    refine G.ret ?_
    refine At.over_ret ?_
    refine At.done Y [(.tmp 4, .c _)] rfl ⟨.tmp rfl, trivial⟩ (to' := []) trivial ?_ ?_ rfl rfl rfl (.inl rfl)
    · cases H0; rfl
    · cases H0; rfl
  ·
    replace H0 := bif_f H0 h1
    refine G.skip ?_
    refine At.next ?_
    refine G.seq ?_
    refine G.seq ?_
    refine G.rg ?_
    refine K.fieldAddr Y (gd0 rfl) rfl t35 rfl rfl ?_
    refine K.load1 Y (gd0 rfl) rfl rfl t3 rfl rfl ?_
    refine K.fieldAddr Y (gd0 rfl) rfl t35 rfl rfl ?_
    refine K.load1 Y (gd0 rfl) rfl rfl t3 rfl rfl ?_
    refine K.bin (V := .bool (decide (a0.k > a1.k))) (gd0 rfl) rfl rfl (fun _ => rfl) rfl ?_
    refine K.nil ?_
    refine At.next ?_
    refine G.cond rfl (fun h2 => ?_) (fun h2 => ?_)
    ·
      replace H0 := bif_t H0 h2
      refine G.seq ?_
      refine G.rg ?_
      refine K.move (.inr rfl) (gd0 rfl) rfl rfl ?_
      refine K.nil ?_
      refine At.next ?_
      refine G.ret ?_
      refine At.over_ret ?_
      refine At.done Y [(.tmp 4, .c _)] rfl ⟨.tmp rfl, trivial⟩ (to' := []) trivial ?_ ?_ rfl rfl rfl (.inl rfl)
      · cases H0; rfl
      · cases H0; rfl
    ·
      replace H0 := bif_f H0 h2
      refine G.skip ?_
      refine At.next ?_
      refine G.seq ?_
      refine G.rg ?_
      refine K.move (.inr rfl) (gd0 rfl) rfl rfl ?_
      refine K.nil ?_
      refine At.next ?_
      refine G.ret ?_
      refine At.done Y [(.tmp 4, .c _)] rfl ⟨.tmp rfl, trivial⟩ (to' := []) trivial ?_ ?_ rfl rfl rfl (.inl rfl)
      · cases H0; rfl
      · cases H0; rfl
theorem Lw07_elem_Compare_con {k : Nat}  {a0 : TL07Elem} {a1 : TL07Elem} {r : Int}  (H0 : Lw07_elem_Compare.f k a0 a1 = some r) : SCon Try.prog 131 [.a (.agg ((eTL07Elem a0).map .v)), .a (.agg ((eTL07Elem a1).map .v))] [] (.a (.c (.v (.int .i64 r)))) [] [] :=
  SCon.ren (rn []) (Lw07_elem_Compare_con0 (k := k)   H0) trivial trivial (by simp) (by simp)
end Go.Proofs.Ytjokolmijhhinaa


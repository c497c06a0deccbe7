/- A law's walk. Printed by a program of mine. -/
import Derived.KernelRfl
import Derived.Test.YtjokolmijhhinaaMx
namespace Go.Proofs.Ytjokolmijhhinaa
open Go Go.Proofs.Ytjokolmijhhinaa.Sx
set_option linter.unusedVariables false
set_option linter.unusedSimpArgs false
theorem Lw09_ShelfTimes_con0 {k : Nat}  {a0 : TArr2TItem} {a1 : TArr2Int} {a2 : TArr2Int} {r : Bool}  (H0 : Lw09_ShelfTimes.f k a0 a1 a2 = some r) : SCon Try.prog 9 [.a (.agg ((eTArr2TItem a0).map .v)), .a (.agg ((eTArr2Int a1).map .v)), .a (.agg ((eTArr2Int a2).map .v))] [] (.a (.c (.v (.bool r)))) [] [] := by
  rw [Lw09_ShelfTimes.f] at H0
  refine spec_of [(0, _), (1, _), (2, _)] [] 123 Try.func9 rfl Try.ntmps9 rfl rfl rfl rfl (fun β W F => ?_)
  refine G.seq ?_
  refine G.rg ?_
  refine K.box Y 100 [_, _, _, _] (gd0 rfl) rfl rfl rfl rfl rfl rfl ?_
  refine K.box Y 101 [_, _] (gd0 rfl) rfl rfl rfl rfl rfl rfl ?_
  refine K.box Y 102 [_, _] (gd0 rfl) rfl rfl rfl rfl rfl rfl ?_
  refine K.move (.inr rfl) (gd0 rfl) rfl rfl ?_
  refine K.nil ?_
  refine At.next ?_
  refine G.seq ?_
  refine G.seq ?_
  obtain ⟨x1, hx1, H0⟩ := bnd H0
  refine G.rg ?_
  refine K.callR [(.func 40, _)] (Lw09_awake_con (k := k) hx1) (toFn_func (cf 40 rfl) rfl) (gd0 rfl) ⟨rfl, trivial⟩ trivial rfl rfl rfl ?_
  refine K.un (V := .bool (!x1)) (gd0 rfl) rfl (fun _ => rfl) rfl ?_
  refine K.nil ?_
  refine At.next ?_
  refine G.cond rfl (fun h1 => ?_) (fun h1 => ?_)
  ·
    replace H0 := bif_t H0 h1
    refine G.seq ?_
    refine G.rg ?_
    refine K.move (.inr rfl) (gd0 rfl) rfl rfl ?_
    refine K.nil ?_
    refine At.next ?_
    refine G.ret ?_
    refine At.over_ret ?_
    refine At.done Y [(.tmp 6, .c _)] rfl ⟨.tmp rfl, trivial⟩ (to' := []) trivial ?_ ?_ rfl rfl rfl (.inl rfl)
    · cases H0; rfl
    · cases H0; rfl
  ·
    replace H0 := bif_f H0 h1
    refine G.skip ?_
    refine At.next ?_
    refine G.seq ?_
    refine G.rd mixed ?_
    refine K.idxA 0 tA69 (gd0 rfl) rfl rfl rfl rfl rfl ?_
    refine K.loadS Y [_, _] (gd0 rfl) rfl rfl t68 rfl rfl rfl ?_
    refine K.idxA 0 tA70 (gd0 rfl) rfl rfl rfl rfl rfl ?_
    refine K.load1 Y (gd0 rfl) rfl rfl t3 rfl rfl ?_
    refine K.build Y [(0, _), (1, _), (2, _)] [_, _, _, _] [((.tmp 21), _), (_, _), ((.tmp 23), _)] (gd0 rfl) (AllE.spec ⟨rfl, rfl, rfl, trivial⟩) rfl rfl t72 rfl rfl ?_
    refine K.idxA 1 tA69 (gd0 rfl) rfl rfl rfl rfl rfl ?_
    refine K.loadS Y [_, _] (gd0 rfl) rfl rfl t68 rfl rfl rfl ?_
    refine K.idxA 1 tA70 (gd0 rfl) rfl rfl rfl rfl rfl ?_
    refine K.load1 Y (gd0 rfl) rfl rfl t3 rfl rfl ?_
    refine K.bin (V := .int .i64 (a1.i1.tmod 2)) (gd0 rfl) rfl rfl (rem_run (by decide)) rfl ?_
    refine K.bin (V := .bool ((a1.i1.tmod 2) == 0)) (gd0 rfl) rfl rfl (fun _ => rfl) rfl ?_
    refine K.idxA 1 tA70 (gd0 rfl) rfl rfl rfl rfl rfl ?_
    refine K.load1 Y (gd0 rfl) rfl rfl t3 rfl rfl ?_
    refine K.build Y [(0, _), (1, _), (2, _)] [_, _, _, _] [((.tmp 26), _), ((.tmp 30), _), ((.tmp 32), _)] (gd0 rfl) (AllE.spec ⟨rfl, rfl, rfl, trivial⟩) rfl rfl t72 rfl rfl ?_
    refine K.alloc Y 103 [_, _, _, _] (gd0 rfl) t72 rfl rfl rfl rfl rfl ?_
    refine K.alloc Y 104 [_, _, _, _] (gd0 rfl) t72 rfl rfl rfl rfl rfl ?_
    refine K.store Y [_, _, _, _] (gd0 rfl) rfl rfl rfl t72 rfl rfl rfl rfl rfl ?_
    refine K.store Y [_, _, _, _] (gd0 rfl) rfl rfl rfl t72 rfl rfl rfl rfl rfl ?_
    refine K.nil ?_
    refine ⟨by kernel_rfl, ?_⟩
    refine At.next ?_
    refine G.seq ?_
    refine G.rd mixed ?_
    refine K.idxA 0 tA70 (gd0 rfl) rfl rfl rfl rfl rfl ?_
    refine K.load1 Y (gd0 rfl) rfl rfl t3 rfl rfl ?_
    refine K.idxA 1 tA70 (gd0 rfl) rfl rfl rfl rfl rfl ?_
    refine K.load1 Y (gd0 rfl) rfl rfl t3 rfl rfl ?_
    refine K.move (.inr rfl) (gd0 rfl) rfl rfl ?_
    refine K.move (.inr rfl) (gd0 rfl) rfl rfl ?_
    refine K.nil ?_
    refine ⟨by kernel_rfl, ?_⟩
    refine At.next ?_
    refine G.seq ?_
    obtain ⟨x2, hx2, H0⟩ := bnd H0
    refine G.rg ?_
    refine K.call0 [(.func 41, _), (_, _)] (shelf_New_con (k := k) hx2 105 106 rfl) (toFn_func (cf 41 rfl) rfl) (gd0 rfl) ⟨rfl, rfl, trivial⟩ trivial rfl rfl rfl rfl rfl rfl ?_
    refine K.move (.inr rfl) (gd0 rfl) rfl rfl ?_
    refine K.nil ?_
    refine At.next ?_
    obtain ⟨x3, H1, H0⟩ := bnd H0
    refine G.seqJ (σ := { v : Pool (TNode TSlot TSize) × Int × Int // x3 = Sum.inr v }) (fun q => [(7, .a (.c (.p 107 0))), (8, .a (.c (.p 108 0))), (9, .a (.c (.v (.int .i64 a2.i0)))), (10, .a (.c (.v (.int .i64 a2.i1)))), (11, .a (.c (.p 109 0)))]) (fun q => [(107, blk 107 [.v (.int .i64 a0.i0.key), .v (.int .i64 a0.i0.id), .v (.bool true), .v (.int .i64 a1.i0)] 72), (108, blk 108 [.v (.int .i64 a0.i1.key), .v (.int .i64 a0.i1.id), .v (.bool ((a1.i1.tmod 2) == 0)), .v (.int .i64 a1.i1)] 72), (110, plS 110 q.1.1), (109, blk 109 [.p 110 0, .v (.int .i64 q.1.2.1), .v (.int .i64 q.1.2.2)] 122)]) ?_ ?_
    ·
      refine G.seq ?_
      obtain ⟨x4, hx4, H1⟩ := bnd H1
      rcases Bool.eq_false_or_eq_true (!x4.1) with h2 | h2
      ·
        replace H1 := bif_t H1 h2
        refine G.rg ?_
        refine K.move (.inl rfl) (gd0 rfl) rfl rfl ?_
        refine K.loadS Y [_, _, _, _] (gd0 rfl) rfl rfl t72 rfl rfl rfl ?_
        refine K.call0 [(.func 42, _), ((.tmp 39), _), ((.tmp 40), _)] (Tree_PutS_con (k := k) hx4 105 106) (toFn_func (cf 42 rfl) rfl) (gd0 rfl) ⟨rfl, rfl, rfl, trivial⟩ ⟨rfl, rfl, trivial⟩ rfl rfl rfl rfl rfl rfl ?_
        refine K.un (V := .bool (!x4.1)) (gd0 rfl) rfl (fun _ => rfl) rfl ?_
        refine K.move (.inl rfl) (gd0 rfl) rfl rfl ?_
        refine K.skip rfl rfl rfl rfl (h2) rfl ?_
        refine K.skip rfl rfl rfl rfl (h2) rfl ?_
        refine K.skip rfl rfl rfl rfl (h2) rfl ?_
        refine K.skip rfl rfl rfl rfl (h2) rfl ?_
        refine K.pickT (gd0 rfl) rfl (h2) rfl rfl ?_
        refine K.nil ?_
        refine At.next ?_
        refine G.cond rfl (fun h3 => ?_) (fun h3 => ?_)
        ·
          refine G.seq ?_
          refine G.rg ?_
          refine K.move (.inr rfl) (gd0 rfl) rfl rfl ?_
          refine K.nil ?_
          refine At.next ?_
          refine G.ret ?_
          refine At.over_ret ?_
          cases H1
          replace H0 := sum_l H0
          refine At.done Y [(.tmp 6, .c _)] rfl ⟨.tmp rfl, trivial⟩ (to' := []) trivial ?_ ?_ rfl rfl rfl (.inl rfl)
          · cases H0; rfl
          · cases H0; rfl
        · cases h3
      ·
        replace H1 := bif_f H1 h2
        obtain ⟨x5, hx5, H1⟩ := bnd H1
        refine G.rg ?_
        refine K.move (.inl rfl) (gd0 rfl) rfl rfl ?_
        refine K.loadS Y [_, _, _, _] (gd0 rfl) rfl rfl t72 rfl rfl rfl ?_
        refine K.call0 [(.func 42, _), ((.tmp 39), _), ((.tmp 40), _)] (Tree_PutS_con (k := k) hx4 105 106) (toFn_func (cf 42 rfl) rfl) (gd0 rfl) ⟨rfl, rfl, rfl, trivial⟩ ⟨rfl, rfl, trivial⟩ rfl rfl rfl rfl rfl rfl ?_
        refine K.un (V := .bool (!x4.1)) (gd0 rfl) rfl (fun _ => rfl) rfl ?_
        refine K.move (.inl rfl) (gd0 rfl) rfl rfl ?_
        refine K.move (.inl rfl) (gd1 rfl rfl rfl (h2)) rfl rfl ?_
        refine K.loadS Y [_, _, _, _] (gd1 rfl rfl rfl (h2)) rfl rfl t72 rfl rfl rfl ?_
        refine K.call0 [(.func 42, _), ((.tmp 44), _), ((.tmp 45), _)] (Tree_PutS_con (k := k) hx5 105 106) (toFn_func (cf 42 rfl) rfl) (gd1 rfl rfl rfl (h2)) ⟨rfl, rfl, rfl, trivial⟩ ⟨rfl, rfl, trivial⟩ rfl rfl rfl rfl rfl rfl ?_
        refine K.un (V := .bool (!x5.1)) (gd1 rfl rfl rfl (h2)) rfl (fun _ => rfl) rfl ?_
        refine K.pickF (gd0 rfl) rfl (h2) rfl rfl ?_
        refine K.nil ?_
        refine At.next ?_
        refine G.cond rfl (fun h4 => ?_) (fun h4 => ?_)
        ·
          replace H1 := bif_t H1 h4
          refine G.seq ?_
          refine G.rg ?_
          refine K.move (.inr rfl) (gd0 rfl) rfl rfl ?_
          refine K.nil ?_
          refine At.next ?_
          refine G.ret ?_
          refine At.over_ret ?_
          cases H1
          replace H0 := sum_l H0
          refine At.done Y [(.tmp 6, .c _)] rfl ⟨.tmp rfl, trivial⟩ (to' := []) trivial ?_ ?_ rfl rfl rfl (.inl rfl)
          · cases H0; rfl
          · cases H0; rfl
        ·
          replace H1 := bif_f H1 h4
          refine G.skip ?_
          exact At.joined (σ := { v : Pool (TNode TSlot TSize) × Int × Int // x3 = Sum.inr v }) (Fs := fun q => [(7, .a (.c (.p 107 0))), (8, .a (.c (.p 108 0))), (9, .a (.c (.v (.int .i64 a2.i0)))), (10, .a (.c (.v (.int .i64 a2.i1)))), (11, .a (.c (.p 109 0)))]) (Tl := fun q => [(107, blk 107 [.v (.int .i64 a0.i0.key), .v (.int .i64 a0.i0.id), .v (.bool true), .v (.int .i64 a1.i0)] 72), (108, blk 108 [.v (.int .i64 a0.i1.key), .v (.int .i64 a0.i1.id), .v (.bool ((a1.i1.tmod 2) == 0)), .v (.int .i64 a1.i1)] 72), (110, plS 110 q.1.1), (109, blk 109 [.p 110 0, .v (.int .i64 q.1.2.1), .v (.int .i64 q.1.2.2)] 122)]) ⟨(x5.2.2, x5.2.1.index, x5.2.1.gen), (Option.some.inj H1).symm⟩ [(107, 103), (108, 104), (109, 105), (110, 106)] [_, _, _, _] rfl ⟨rfl, rfl, rfl, rfl, rfl, trivial⟩ ⟨rfl, (blk_ren rfl rfl), rfl, (blk_ren rfl rfl), rfl, (pl_ren rfl), rfl, (blk_ren rfl rfl), trivial⟩ rfl
    ·
      rintro ⟨v3, rfl⟩
      replace H0 := sum_r H0
      show G _ _ [(7, .a (.c (.p 107 0))), (8, .a (.c (.p 108 0))), (9, .a (.c (.v (.int .i64 a2.i0)))), (10, .a (.c (.v (.int .i64 a2.i1)))), (11, .a (.c (.p 109 0)))] [(107, some (blk 107 [.v (.int .i64 a0.i0.key), .v (.int .i64 a0.i0.id), .v (.bool true), .v (.int .i64 a1.i0)] 72)), (108, some (blk 108 [.v (.int .i64 a0.i1.key), .v (.int .i64 a0.i1.id), .v (.bool ((a1.i1.tmod 2) == 0)), .v (.int .i64 a1.i1)] 72)), (110, some (plS 110 v3.1)), (109, some (blk 109 [.p 110 0, .v (.int .i64 v3.2.1), .v (.int .i64 v3.2.2)] 122))] _ _
      refine G.seq ?_
      obtain ⟨x6, hx6, H0⟩ := bnd H0
      obtain ⟨x7, hx7, H0⟩ := bnd H0
      refine G.rg ?_
      refine K.move (.inl rfl) (gd0 rfl) rfl rfl ?_
      refine K.fieldAddr Y (gd0 rfl) rfl t72 rfl rfl ?_
      refine K.loadS Y [_, _] (gd0 rfl) rfl rfl t68 rfl rfl rfl ?_
      refine K.callR [(.func 44, _), ((.tmp 52), _)] (shelf_Of_con (k := k) hx6) (toFn_func (cf 44 rfl) rfl) (gd0 rfl) ⟨rfl, rfl, trivial⟩ trivial rfl rfl rfl ?_
      refine K.callR [(.func 43, _), ((.tmp 50), _), ((.tmp 53), _)] (Tree_FindS_con (k := k) hx7 109 110) (toFn_func (cf 43 rfl) rfl) (gd0 rfl) ⟨rfl, rfl, rfl, trivial⟩ ⟨rfl, rfl, trivial⟩ rfl rfl rfl ?_
      refine K.move (.inl rfl) (gd0 rfl) rfl rfl ?_
      refine K.extract (gd0 rfl) rfl rfl rfl ?_
      refine K.extract (gd0 rfl) rfl rfl rfl ?_
      refine K.alloc Y 111 [_, _, _, _] (gd0 rfl) t72 rfl rfl rfl rfl rfl ?_
      refine K.store Y [_, _, _, _] (gd0 rfl) rfl rfl rfl t72 rfl rfl rfl rfl rfl ?_
      refine K.move (.inr rfl) (gd0 rfl) rfl rfl ?_
      refine K.nil ?_
      refine At.next ?_
      refine G.seq ?_
      obtain ⟨x8, hx8, H0⟩ := bnd H0
      obtain ⟨x9, hx9, H0⟩ := bnd H0
      refine G.rg ?_
      refine K.move (.inl rfl) (gd0 rfl) rfl rfl ?_
      refine K.fieldAddr Y (gd0 rfl) rfl t72 rfl rfl ?_
      refine K.loadS Y [_, _] (gd0 rfl) rfl rfl t68 rfl rfl rfl ?_
      refine K.callR [(.func 44, _), ((.tmp 60), _)] (shelf_Of_con (k := k) hx8) (toFn_func (cf 44 rfl) rfl) (gd0 rfl) ⟨rfl, rfl, trivial⟩ trivial rfl rfl rfl ?_
      refine K.callR [(.func 43, _), ((.tmp 58), _), ((.tmp 61), _)] (Tree_FindS_con (k := k) hx9 109 110) (toFn_func (cf 43 rfl) rfl) (gd0 rfl) ⟨rfl, rfl, rfl, trivial⟩ ⟨rfl, rfl, trivial⟩ rfl rfl rfl ?_
      refine K.move (.inl rfl) (gd0 rfl) rfl rfl ?_
      refine K.extract (gd0 rfl) rfl rfl rfl ?_
      refine K.extract (gd0 rfl) rfl rfl rfl ?_
      refine K.alloc Y 112 [_, _, _, _] (gd0 rfl) t72 rfl rfl rfl rfl rfl ?_
      refine K.store Y [_, _, _, _] (gd0 rfl) rfl rfl rfl t72 rfl rfl rfl rfl rfl ?_
      refine K.move (.inr rfl) (gd0 rfl) rfl rfl ?_
      refine K.nil ?_
      refine At.next ?_
      refine G.seq ?_
      refine G.rg ?_
      refine K.loadS Y [_, _, _, _] (gd0 rfl) rfl rfl t72 rfl rfl rfl ?_
      refine K.alloc Y 113 [_, _, _, _] (gd0 rfl) t72 rfl rfl rfl rfl rfl ?_
      refine K.store Y [_, _, _, _] (gd0 rfl) rfl rfl rfl t72 rfl rfl rfl rfl rfl ?_
      refine K.nil ?_
      refine At.next ?_
      obtain ⟨x10, H1, H0⟩ := bnd H0
      refine G.seqJ (σ := { v : TSlot // x10 = v }) (fun q => [(7, .a (.c (.p 114 0))), (8, .a (.c (.p 115 0))), (9, .a (.c (.v (.int .i64 a2.i0)))), (10, .a (.c (.v (.int .i64 a2.i1)))), (12, .a (.c (.p 116 0))), (13, .a (.c (.v (.bool x7.2)))), (14, .a (.c (.p 117 0))), (15, .a (.c (.v (.bool x9.2)))), (16, .a (.c (.p 118 0)))]) (fun q => [(114, blk 114 [.v (.int .i64 a0.i0.key), .v (.int .i64 a0.i0.id), .v (.bool true), .v (.int .i64 a1.i0)] 72), (115, blk 115 [.v (.int .i64 a0.i1.key), .v (.int .i64 a0.i1.id), .v (.bool ((a1.i1.tmod 2) == 0)), .v (.int .i64 a1.i1)] 72), (116, blk 116 [.v (.int .i64 x7.1.item.key), .v (.int .i64 x7.1.item.id), .v (.bool x7.1.eaten), .v (.int .i64 x7.1.time)] 72), (117, blk 117 [.v (.int .i64 x9.1.item.key), .v (.int .i64 x9.1.item.id), .v (.bool x9.1.eaten), .v (.int .i64 x9.1.time)] 72), (118, blk 118 [.v (.int .i64 q.1.item.key), .v (.int .i64 q.1.item.id), .v (.bool q.1.eaten), .v (.int .i64 q.1.time)] 72)]) ?_ ?_
      ·
        refine G.seq ?_
        refine G.rg ?_
        refine K.fieldAddr Y (gd0 rfl) rfl t72 rfl rfl ?_
        refine K.loadS Y [_, _] (gd0 rfl) rfl rfl t68 rfl rfl rfl ?_
        refine K.fieldAddr Y (gd0 rfl) rfl t72 rfl rfl ?_
        refine K.loadS Y [_, _] (gd0 rfl) rfl rfl t68 rfl rfl rfl ?_
        refine K.eqS [_, _] [_, _] (gd0 rfl) rfl rfl cmp68 rfl (.inl rfl) ((a0.i0.key == a0.i1.key) && ((a0.i0.id == a0.i1.id) && true)) rfl rfl ?_
        refine K.nil ?_
        refine At.next ?_
        refine G.cond rfl (fun h5 => ?_) (fun h5 => ?_)
        ·
          replace H1 := bif_t H1 h5
          refine G.rg ?_
          refine K.loadS Y [_, _, _, _] (gd0 rfl) rfl rfl t72 rfl rfl rfl ?_
          refine K.store Y [_, _, _, _] (gd0 rfl) rfl rfl rfl t72 rfl rfl rfl rfl rfl ?_
          refine K.nil ?_
          exact At.joined (σ := { v : TSlot // x10 = v }) (Fs := fun q => [(7, .a (.c (.p 114 0))), (8, .a (.c (.p 115 0))), (9, .a (.c (.v (.int .i64 a2.i0)))), (10, .a (.c (.v (.int .i64 a2.i1)))), (12, .a (.c (.p 116 0))), (13, .a (.c (.v (.bool x7.2)))), (14, .a (.c (.p 117 0))), (15, .a (.c (.v (.bool x9.2)))), (16, .a (.c (.p 118 0)))]) (Tl := fun q => [(114, blk 114 [.v (.int .i64 a0.i0.key), .v (.int .i64 a0.i0.id), .v (.bool true), .v (.int .i64 a1.i0)] 72), (115, blk 115 [.v (.int .i64 a0.i1.key), .v (.int .i64 a0.i1.id), .v (.bool ((a1.i1.tmod 2) == 0)), .v (.int .i64 a1.i1)] 72), (116, blk 116 [.v (.int .i64 x7.1.item.key), .v (.int .i64 x7.1.item.id), .v (.bool x7.1.eaten), .v (.int .i64 x7.1.time)] 72), (117, blk 117 [.v (.int .i64 x9.1.item.key), .v (.int .i64 x9.1.item.id), .v (.bool x9.1.eaten), .v (.int .i64 x9.1.time)] 72), (118, blk 118 [.v (.int .i64 q.1.item.key), .v (.int .i64 q.1.item.id), .v (.bool q.1.eaten), .v (.int .i64 q.1.time)] 72)]) ⟨(TSlot.mk a0.i1 ((a1.i1.tmod 2) == 0) a1.i1), (Option.some.inj H1).symm⟩ [(114, 107), (115, 108), (116, 111), (117, 112), (118, 113)] [_, _, _, _, _] rfl ⟨rfl, rfl, rfl, rfl, rfl, rfl, rfl, rfl, rfl, trivial⟩ ⟨rfl, (blk_ren rfl rfl), rfl, (blk_ren rfl rfl), rfl, (blk_ren rfl rfl), rfl, (blk_ren rfl rfl), rfl, (blk_ren rfl rfl), trivial⟩ rfl
        ·
          replace H1 := bif_f H1 h5
          refine G.skip ?_
          exact At.joined (σ := { v : TSlot // x10 = v }) (Fs := fun q => [(7, .a (.c (.p 114 0))), (8, .a (.c (.p 115 0))), (9, .a (.c (.v (.int .i64 a2.i0)))), (10, .a (.c (.v (.int .i64 a2.i1)))), (12, .a (.c (.p 116 0))), (13, .a (.c (.v (.bool x7.2)))), (14, .a (.c (.p 117 0))), (15, .a (.c (.v (.bool x9.2)))), (16, .a (.c (.p 118 0)))]) (Tl := fun q => [(114, blk 114 [.v (.int .i64 a0.i0.key), .v (.int .i64 a0.i0.id), .v (.bool true), .v (.int .i64 a1.i0)] 72), (115, blk 115 [.v (.int .i64 a0.i1.key), .v (.int .i64 a0.i1.id), .v (.bool ((a1.i1.tmod 2) == 0)), .v (.int .i64 a1.i1)] 72), (116, blk 116 [.v (.int .i64 x7.1.item.key), .v (.int .i64 x7.1.item.id), .v (.bool x7.1.eaten), .v (.int .i64 x7.1.time)] 72), (117, blk 117 [.v (.int .i64 x9.1.item.key), .v (.int .i64 x9.1.item.id), .v (.bool x9.1.eaten), .v (.int .i64 x9.1.time)] 72), (118, blk 118 [.v (.int .i64 q.1.item.key), .v (.int .i64 q.1.item.id), .v (.bool q.1.eaten), .v (.int .i64 q.1.time)] 72)]) ⟨(TSlot.mk a0.i0 true a1.i0), (Option.some.inj H1).symm⟩ [(114, 107), (115, 108), (116, 111), (117, 112), (118, 113)] [_, _, _, _, _] rfl ⟨rfl, rfl, rfl, rfl, rfl, rfl, rfl, rfl, rfl, trivial⟩ ⟨rfl, (blk_ren rfl rfl), rfl, (blk_ren rfl rfl), rfl, (blk_ren rfl rfl), rfl, (blk_ren rfl rfl), rfl, (blk_ren rfl rfl), trivial⟩ rfl
      ·
        rintro ⟨_, rfl⟩
        show G _ _ [(7, .a (.c (.p 114 0))), (8, .a (.c (.p 115 0))), (9, .a (.c (.v (.int .i64 a2.i0)))), (10, .a (.c (.v (.int .i64 a2.i1)))), (12, .a (.c (.p 116 0))), (13, .a (.c (.v (.bool x7.2)))), (14, .a (.c (.p 117 0))), (15, .a (.c (.v (.bool x9.2)))), (16, .a (.c (.p 118 0)))] [(114, some (blk 114 [.v (.int .i64 a0.i0.key), .v (.int .i64 a0.i0.id), .v (.bool true), .v (.int .i64 a1.i0)] 72)), (115, some (blk 115 [.v (.int .i64 a0.i1.key), .v (.int .i64 a0.i1.id), .v (.bool ((a1.i1.tmod 2) == 0)), .v (.int .i64 a1.i1)] 72)), (116, some (blk 116 [.v (.int .i64 x7.1.item.key), .v (.int .i64 x7.1.item.id), .v (.bool x7.1.eaten), .v (.int .i64 x7.1.time)] 72)), (117, some (blk 117 [.v (.int .i64 x9.1.item.key), .v (.int .i64 x9.1.item.id), .v (.bool x9.1.eaten), .v (.int .i64 x9.1.time)] 72)), (118, some (blk 118 [.v (.int .i64 x10.item.key), .v (.int .i64 x10.item.id), .v (.bool x10.eaten), .v (.int .i64 x10.time)] 72))] _ _
        refine G.seq ?_
        obtain ⟨x11, hx11, H0⟩ := bnd H0
        refine G.rg ?_
        refine K.loadS Y [_, _, _, _] (gd0 rfl) rfl rfl t72 rfl rfl rfl ?_
        refine K.loadS Y [_, _, _, _] (gd0 rfl) rfl rfl t72 rfl rfl rfl ?_
        refine K.callR [(.func 45, _), ((.tmp 72), _), ((.tmp 73), _)] (shelf_Slot_Compare_con (k := k) hx11) (toFn_func (cf 45 rfl) rfl) (gd0 rfl) ⟨rfl, rfl, rfl, trivial⟩ trivial rfl rfl rfl ?_
        refine K.move (.inr rfl) (gd0 rfl) rfl rfl ?_
        refine K.nil ?_
        refine At.next ?_
        refine G.seq ?_
        rcases Bool.eq_false_or_eq_true x7.2 with h6 | h6
        ·
          replace H0 := bif_t H0 h6
          rcases Bool.eq_false_or_eq_true x9.2 with h7 | h7
          ·
            replace H0 := bif_t H0 h7
            rcases Bool.eq_false_or_eq_true ((x7.1.item.key == x10.item.key) && ((x7.1.item.id == x10.item.id) && ((x7.1.eaten == x10.eaten) && ((x7.1.time == x10.time) && true)))) with h8 | h8
            ·
              replace H0 := bif_t H0 h8
              rcases Bool.eq_false_or_eq_true ((x9.1.item.key == a0.i1.key) && ((x9.1.item.id == a0.i1.id) && ((x9.1.eaten == ((a1.i1.tmod 2) == 0)) && ((x9.1.time == a1.i1) && true)))) with h9 | h9
              ·
                replace H0 := bif_t H0 h9
                obtain ⟨x12, hx12, H0⟩ := bnd H0
                rcases Bool.eq_false_or_eq_true ((decide (x11 < 0)) == x12) with h10 | h10
                ·
                  replace H0 := bif_t H0 h10
                  obtain ⟨x13, hx13, H0⟩ := bnd H0
                  rcases Bool.eq_false_or_eq_true ((decide (x11 > 0)) == x13) with h11 | h11
                  ·
                    replace H0 := bif_t H0 h11
                    obtain ⟨x14, hx14, H0⟩ := bnd H0
                    rcases Bool.eq_false_or_eq_true (x14 == 1) with h12 | h12
                    ·
                      replace H0 := bif_t H0 h12
                      obtain ⟨x15, hx15, H0⟩ := bnd H0
                      refine G.rg ?_
                      refine K.move (.inl rfl) (gd0 rfl) rfl rfl ?_
                      refine K.move (.inl rfl) (gd0 rfl) rfl rfl ?_
                      refine K.move (.inl rfl) (gd1 rfl rfl rfl (h6)) rfl rfl ?_
                      refine K.pickT (gd0 rfl) rfl (h6) rfl rfl ?_
                      refine K.move (.inl rfl) (gd0 rfl) rfl rfl ?_
                      refine K.loadS Y [_, _, _, _] (gd1 rfl rfl rfl (h7)) rfl rfl t72 rfl rfl rfl ?_
                      refine K.loadS Y [_, _, _, _] (gd1 rfl rfl rfl (h7)) rfl rfl t72 rfl rfl rfl ?_
                      refine K.eqS [_, _, _, _] [_, _, _, _] (gd1 rfl rfl rfl (h7)) rfl rfl cmp72 rfl (.inl rfl) ((x7.1.item.key == x10.item.key) && ((x7.1.item.id == x10.item.id) && ((x7.1.eaten == x10.eaten) && ((x7.1.time == x10.time) && true)))) rfl rfl ?_
                      refine K.pickT (gd0 rfl) rfl (h7) rfl rfl ?_
                      refine K.move (.inl rfl) (gd0 rfl) rfl rfl ?_
                      refine K.loadS Y [_, _, _, _] (gd1 rfl rfl rfl (h8)) rfl rfl t72 rfl rfl rfl ?_
                      refine K.loadS Y [_, _, _, _] (gd1 rfl rfl rfl (h8)) rfl rfl t72 rfl rfl rfl ?_
                      refine K.eqS [_, _, _, _] [_, _, _, _] (gd1 rfl rfl rfl (h8)) rfl rfl cmp72 rfl (.inl rfl) ((x9.1.item.key == a0.i1.key) && ((x9.1.item.id == a0.i1.id) && ((x9.1.eaten == ((a1.i1.tmod 2) == 0)) && ((x9.1.time == a1.i1) && true)))) rfl rfl ?_
                      refine K.pickT (gd0 rfl) rfl (h8) rfl rfl ?_
                      refine K.move (.inl rfl) (gd0 rfl) rfl rfl ?_
                      refine K.move (.inl rfl) (gd1 rfl rfl rfl (h9)) rfl rfl ?_
                      refine K.bin (V := .bool (decide (x11 < 0))) (gd1 rfl rfl rfl (h9)) rfl rfl (fun _ => rfl) rfl ?_
                      refine K.fieldAddr Y (gd1 rfl rfl rfl (h9)) rfl t72 rfl rfl ?_
                      refine K.loadS Y [_, _] (gd1 rfl rfl rfl (h9)) rfl rfl t68 rfl rfl rfl ?_
                      refine K.fieldAddr Y (gd1 rfl rfl rfl (h9)) rfl t72 rfl rfl ?_
                      refine K.loadS Y [_, _] (gd1 rfl rfl rfl (h9)) rfl rfl t68 rfl rfl rfl ?_
                      refine K.callR [(.func 46, _), ((.tmp 93), _), ((.tmp 95), _)] (R02_Ahead_con (k := k) hx12) (toFn_func (cf 46 rfl) rfl) (gd1 rfl rfl rfl (h9)) ⟨rfl, rfl, rfl, trivial⟩ trivial rfl rfl rfl ?_
                      refine K.bin (V := .bool ((decide (x11 < 0)) == x12)) (gd1 rfl rfl rfl (h9)) rfl rfl (bq_eql Try.underlying4 _ _) rfl ?_
                      refine K.pickT (gd0 rfl) rfl (h9) rfl rfl ?_
                      refine K.move (.inl rfl) (gd0 rfl) rfl rfl ?_
                      refine K.move (.inl rfl) (gd1 rfl rfl rfl (h10)) rfl rfl ?_
                      refine K.bin (V := .bool (decide (x11 > 0))) (gd1 rfl rfl rfl (h10)) rfl rfl (fun _ => rfl) rfl ?_
                      refine K.fieldAddr Y (gd1 rfl rfl rfl (h10)) rfl t72 rfl rfl ?_
                      refine K.loadS Y [_, _] (gd1 rfl rfl rfl (h10)) rfl rfl t68 rfl rfl rfl ?_
                      refine K.fieldAddr Y (gd1 rfl rfl rfl (h10)) rfl t72 rfl rfl ?_
                      refine K.loadS Y [_, _] (gd1 rfl rfl rfl (h10)) rfl rfl t68 rfl rfl rfl ?_
                      refine K.callR [(.func 46, _), ((.tmp 103), _), ((.tmp 105), _)] (R02_Ahead_con (k := k) hx13) (toFn_func (cf 46 rfl) rfl) (gd1 rfl rfl rfl (h10)) ⟨rfl, rfl, rfl, trivial⟩ trivial rfl rfl rfl ?_
                      refine K.bin (V := .bool ((decide (x11 > 0)) == x13)) (gd1 rfl rfl rfl (h10)) rfl rfl (bq_eql Try.underlying4 _ _) rfl ?_
                      refine K.pickT (gd0 rfl) rfl (h10) rfl rfl ?_
                      refine K.move (.inl rfl) (gd0 rfl) rfl rfl ?_
                      refine K.loadS Y [_, _, _, _] (gd1 rfl rfl rfl (h11)) rfl rfl t72 rfl rfl rfl ?_
                      refine K.callR [(.func 47, _), ((.tmp 110), _)] (shelf_Slot_Sum_con (k := k) hx14) (toFn_func (cf 47 rfl) rfl) (gd1 rfl rfl rfl (h11)) ⟨rfl, rfl, trivial⟩ trivial rfl rfl rfl ?_
                      refine K.bin (V := .bool (x14 == 1)) (gd1 rfl rfl rfl (h11)) rfl rfl (fun _ => rfl) rfl ?_
                      refine K.pickT (gd0 rfl) rfl (h11) rfl rfl ?_
                      refine K.move (.inl rfl) (gd0 rfl) rfl rfl ?_
                      refine K.move (.inl rfl) (gd1 rfl rfl rfl (h12)) rfl rfl ?_
                      refine K.move (.inl rfl) (gd1 rfl rfl rfl (h12)) rfl rfl ?_
                      refine K.callR [(.func 48, _), ((.tmp 115), _), ((.tmp 116), _)] (shelf_Size_Plus_con (k := k) hx15) (toFn_func (cf 48 rfl) rfl) (gd1 rfl rfl rfl (h12)) ⟨rfl, rfl, rfl, trivial⟩ trivial rfl rfl rfl ?_
                      refine K.move (.inl rfl) (gd1 rfl rfl rfl (h12)) rfl rfl ?_
                      refine K.move (.inl rfl) (gd1 rfl rfl rfl (h12)) rfl rfl ?_
                      refine K.bin (V := .int .i64 (w64 (a2.i0 + a2.i1))) (gd1 rfl rfl rfl (h12)) rfl rfl (fun _ => rfl) rfl ?_
                      refine K.bin (V := .bool (x15 == (w64 (a2.i0 + a2.i1)))) (gd1 rfl rfl rfl (h12)) rfl rfl (fun _ => rfl) rfl ?_
                      refine K.pickT (gd0 rfl) rfl (h12) rfl rfl ?_
                      refine K.move (.inr rfl) (gd0 rfl) rfl rfl ?_
                      refine K.nil ?_
                      refine At.next ?_
                      refine G.ret ?_
                      refine At.done Y [(.tmp 6, .c _)] rfl ⟨.tmp rfl, trivial⟩ (to' := []) trivial ?_ ?_ rfl rfl rfl (.inl rfl)
                      · cases H0; rfl
                      · cases H0; rfl
                    ·
                      replace H0 := bif_f H0 h12
                      refine G.rg ?_
                      refine K.move (.inl rfl) (gd0 rfl) rfl rfl ?_
                      refine K.move (.inl rfl) (gd0 rfl) rfl rfl ?_
                      refine K.move (.inl rfl) (gd1 rfl rfl rfl (h6)) rfl rfl ?_
                      refine K.pickT (gd0 rfl) rfl (h6) rfl rfl ?_
                      refine K.move (.inl rfl) (gd0 rfl) rfl rfl ?_
                      refine K.loadS Y [_, _, _, _] (gd1 rfl rfl rfl (h7)) rfl rfl t72 rfl rfl rfl ?_
                      refine K.loadS Y [_, _, _, _] (gd1 rfl rfl rfl (h7)) rfl rfl t72 rfl rfl rfl ?_
                      refine K.eqS [_, _, _, _] [_, _, _, _] (gd1 rfl rfl rfl (h7)) rfl rfl cmp72 rfl (.inl rfl) ((x7.1.item.key == x10.item.key) && ((x7.1.item.id == x10.item.id) && ((x7.1.eaten == x10.eaten) && ((x7.1.time == x10.time) && true)))) rfl rfl ?_
                      refine K.pickT (gd0 rfl) rfl (h7) rfl rfl ?_
                      refine K.move (.inl rfl) (gd0 rfl) rfl rfl ?_
                      refine K.loadS Y [_, _, _, _] (gd1 rfl rfl rfl (h8)) rfl rfl t72 rfl rfl rfl ?_
                      refine K.loadS Y [_, _, _, _] (gd1 rfl rfl rfl (h8)) rfl rfl t72 rfl rfl rfl ?_
                      refine K.eqS [_, _, _, _] [_, _, _, _] (gd1 rfl rfl rfl (h8)) rfl rfl cmp72 rfl (.inl rfl) ((x9.1.item.key == a0.i1.key) && ((x9.1.item.id == a0.i1.id) && ((x9.1.eaten == ((a1.i1.tmod 2) == 0)) && ((x9.1.time == a1.i1) && true)))) rfl rfl ?_
                      refine K.pickT (gd0 rfl) rfl (h8) rfl rfl ?_
                      refine K.move (.inl rfl) (gd0 rfl) rfl rfl ?_
                      refine K.move (.inl rfl) (gd1 rfl rfl rfl (h9)) rfl rfl ?_
                      refine K.bin (V := .bool (decide (x11 < 0))) (gd1 rfl rfl rfl (h9)) rfl rfl (fun _ => rfl) rfl ?_
                      refine K.fieldAddr Y (gd1 rfl rfl rfl (h9)) rfl t72 rfl rfl ?_
                      refine K.loadS Y [_, _] (gd1 rfl rfl rfl (h9)) rfl rfl t68 rfl rfl rfl ?_
                      refine K.fieldAddr Y (gd1 rfl rfl rfl (h9)) rfl t72 rfl rfl ?_
                      refine K.loadS Y [_, _] (gd1 rfl rfl rfl (h9)) rfl rfl t68 rfl rfl rfl ?_
                      refine K.callR [(.func 46, _), ((.tmp 93), _), ((.tmp 95), _)] (R02_Ahead_con (k := k) hx12) (toFn_func (cf 46 rfl) rfl) (gd1 rfl rfl rfl (h9)) ⟨rfl, rfl, rfl, trivial⟩ trivial rfl rfl rfl ?_
                      refine K.bin (V := .bool ((decide (x11 < 0)) == x12)) (gd1 rfl rfl rfl (h9)) rfl rfl (bq_eql Try.underlying4 _ _) rfl ?_
                      refine K.pickT (gd0 rfl) rfl (h9) rfl rfl ?_
                      refine K.move (.inl rfl) (gd0 rfl) rfl rfl ?_
                      refine K.move (.inl rfl) (gd1 rfl rfl rfl (h10)) rfl rfl ?_
                      refine K.bin (V := .bool (decide (x11 > 0))) (gd1 rfl rfl rfl (h10)) rfl rfl (fun _ => rfl) rfl ?_
                      refine K.fieldAddr Y (gd1 rfl rfl rfl (h10)) rfl t72 rfl rfl ?_
                      refine K.loadS Y [_, _] (gd1 rfl rfl rfl (h10)) rfl rfl t68 rfl rfl rfl ?_
                      refine K.fieldAddr Y (gd1 rfl rfl rfl (h10)) rfl t72 rfl rfl ?_
                      refine K.loadS Y [_, _] (gd1 rfl rfl rfl (h10)) rfl rfl t68 rfl rfl rfl ?_
                      refine K.callR [(.func 46, _), ((.tmp 103), _), ((.tmp 105), _)] (R02_Ahead_con (k := k) hx13) (toFn_func (cf 46 rfl) rfl) (gd1 rfl rfl rfl (h10)) ⟨rfl, rfl, rfl, trivial⟩ trivial rfl rfl rfl ?_
                      refine K.bin (V := .bool ((decide (x11 > 0)) == x13)) (gd1 rfl rfl rfl (h10)) rfl rfl (bq_eql Try.underlying4 _ _) rfl ?_
                      refine K.pickT (gd0 rfl) rfl (h10) rfl rfl ?_
                      refine K.move (.inl rfl) (gd0 rfl) rfl rfl ?_
                      refine K.loadS Y [_, _, _, _] (gd1 rfl rfl rfl (h11)) rfl rfl t72 rfl rfl rfl ?_
                      refine K.callR [(.func 47, _), ((.tmp 110), _)] (shelf_Slot_Sum_con (k := k) hx14) (toFn_func (cf 47 rfl) rfl) (gd1 rfl rfl rfl (h11)) ⟨rfl, rfl, trivial⟩ trivial rfl rfl rfl ?_
                      refine K.bin (V := .bool (x14 == 1)) (gd1 rfl rfl rfl (h11)) rfl rfl (fun _ => rfl) rfl ?_
                      refine K.pickT (gd0 rfl) rfl (h11) rfl rfl ?_
                      refine K.move (.inl rfl) (gd0 rfl) rfl rfl ?_
                      refine K.skip rfl rfl rfl rfl (h12) rfl ?_
                      refine K.skip rfl rfl rfl rfl (h12) rfl ?_
                      refine K.skip rfl rfl rfl rfl (h12) rfl ?_
                      refine K.skip rfl rfl rfl rfl (h12) rfl ?_
                      refine K.skip rfl rfl rfl rfl (h12) rfl ?_
                      refine K.skip rfl rfl rfl rfl (h12) rfl ?_
                      refine K.skip rfl rfl rfl rfl (h12) rfl ?_
                      refine K.pickF (gd0 rfl) rfl (h12) rfl rfl ?_
                      refine K.move (.inr rfl) (gd0 rfl) rfl rfl ?_
                      refine K.nil ?_
                      refine At.next ?_
                      refine G.ret ?_
                      refine At.done Y [(.tmp 6, .c _)] rfl ⟨.tmp rfl, trivial⟩ (to' := []) trivial ?_ ?_ rfl rfl rfl (.inl rfl)
                      · cases H0; rfl
                      · cases H0; rfl
                  ·
                    replace H0 := bif_f H0 h11
                    refine G.rg ?_
                    refine K.move (.inl rfl) (gd0 rfl) rfl rfl ?_
                    refine K.move (.inl rfl) (gd0 rfl) rfl rfl ?_
                    refine K.move (.inl rfl) (gd1 rfl rfl rfl (h6)) rfl rfl ?_
                    refine K.pickT (gd0 rfl) rfl (h6) rfl rfl ?_
                    refine K.move (.inl rfl) (gd0 rfl) rfl rfl ?_
                    refine K.loadS Y [_, _, _, _] (gd1 rfl rfl rfl (h7)) rfl rfl t72 rfl rfl rfl ?_
                    refine K.loadS Y [_, _, _, _] (gd1 rfl rfl rfl (h7)) rfl rfl t72 rfl rfl rfl ?_
                    refine K.eqS [_, _, _, _] [_, _, _, _] (gd1 rfl rfl rfl (h7)) rfl rfl cmp72 rfl (.inl rfl) ((x7.1.item.key == x10.item.key) && ((x7.1.item.id == x10.item.id) && ((x7.1.eaten == x10.eaten) && ((x7.1.time == x10.time) && true)))) rfl rfl ?_
                    refine K.pickT (gd0 rfl) rfl (h7) rfl rfl ?_
                    refine K.move (.inl rfl) (gd0 rfl) rfl rfl ?_
                    refine K.loadS Y [_, _, _, _] (gd1 rfl rfl rfl (h8)) rfl rfl t72 rfl rfl rfl ?_
                    refine K.loadS Y [_, _, _, _] (gd1 rfl rfl rfl (h8)) rfl rfl t72 rfl rfl rfl ?_
                    refine K.eqS [_, _, _, _] [_, _, _, _] (gd1 rfl rfl rfl (h8)) rfl rfl cmp72 rfl (.inl rfl) ((x9.1.item.key == a0.i1.key) && ((x9.1.item.id == a0.i1.id) && ((x9.1.eaten == ((a1.i1.tmod 2) == 0)) && ((x9.1.time == a1.i1) && true)))) rfl rfl ?_
                    refine K.pickT (gd0 rfl) rfl (h8) rfl rfl ?_
                    refine K.move (.inl rfl) (gd0 rfl) rfl rfl ?_
                    refine K.move (.inl rfl) (gd1 rfl rfl rfl (h9)) rfl rfl ?_
                    refine K.bin (V := .bool (decide (x11 < 0))) (gd1 rfl rfl rfl (h9)) rfl rfl (fun _ => rfl) rfl ?_
                    refine K.fieldAddr Y (gd1 rfl rfl rfl (h9)) rfl t72 rfl rfl ?_
                    refine K.loadS Y [_, _] (gd1 rfl rfl rfl (h9)) rfl rfl t68 rfl rfl rfl ?_
                    refine K.fieldAddr Y (gd1 rfl rfl rfl (h9)) rfl t72 rfl rfl ?_
                    refine K.loadS Y [_, _] (gd1 rfl rfl rfl (h9)) rfl rfl t68 rfl rfl rfl ?_
                    refine K.callR [(.func 46, _), ((.tmp 93), _), ((.tmp 95), _)] (R02_Ahead_con (k := k) hx12) (toFn_func (cf 46 rfl) rfl) (gd1 rfl rfl rfl (h9)) ⟨rfl, rfl, rfl, trivial⟩ trivial rfl rfl rfl ?_
                    refine K.bin (V := .bool ((decide (x11 < 0)) == x12)) (gd1 rfl rfl rfl (h9)) rfl rfl (bq_eql Try.underlying4 _ _) rfl ?_
                    refine K.pickT (gd0 rfl) rfl (h9) rfl rfl ?_
                    refine K.move (.inl rfl) (gd0 rfl) rfl rfl ?_
                    refine K.move (.inl rfl) (gd1 rfl rfl rfl (h10)) rfl rfl ?_
                    refine K.bin (V := .bool (decide (x11 > 0))) (gd1 rfl rfl rfl (h10)) rfl rfl (fun _ => rfl) rfl ?_
                    refine K.fieldAddr Y (gd1 rfl rfl rfl (h10)) rfl t72 rfl rfl ?_
                    refine K.loadS Y [_, _] (gd1 rfl rfl rfl (h10)) rfl rfl t68 rfl rfl rfl ?_
                    refine K.fieldAddr Y (gd1 rfl rfl rfl (h10)) rfl t72 rfl rfl ?_
                    refine K.loadS Y [_, _] (gd1 rfl rfl rfl (h10)) rfl rfl t68 rfl rfl rfl ?_
                    refine K.callR [(.func 46, _), ((.tmp 103), _), ((.tmp 105), _)] (R02_Ahead_con (k := k) hx13) (toFn_func (cf 46 rfl) rfl) (gd1 rfl rfl rfl (h10)) ⟨rfl, rfl, rfl, trivial⟩ trivial rfl rfl rfl ?_
                    refine K.bin (V := .bool ((decide (x11 > 0)) == x13)) (gd1 rfl rfl rfl (h10)) rfl rfl (bq_eql Try.underlying4 _ _) rfl ?_
                    refine K.pickT (gd0 rfl) rfl (h10) rfl rfl ?_
                    refine K.move (.inl rfl) (gd0 rfl) rfl rfl ?_
                    refine K.skip rfl rfl rfl rfl (h11) rfl ?_
                    refine K.skip rfl rfl rfl rfl (h11) rfl ?_
                    refine K.skip rfl rfl rfl rfl (h11) rfl ?_
                    refine K.pickF (gd0 rfl) rfl (h11) rfl rfl ?_
                    refine K.move (.inl rfl) (gd0 rfl) rfl rfl ?_
                    refine K.skip rfl rfl rfl rfl (rfl) rfl ?_
                    refine K.skip rfl rfl rfl rfl (rfl) rfl ?_
                    refine K.skip rfl rfl rfl rfl (rfl) rfl ?_
                    refine K.skip rfl rfl rfl rfl (rfl) rfl ?_
                    refine K.skip rfl rfl rfl rfl (rfl) rfl ?_
                    refine K.skip rfl rfl rfl rfl (rfl) rfl ?_
                    refine K.skip rfl rfl rfl rfl (rfl) rfl ?_
                    refine K.pickF (gd0 rfl) rfl (rfl) rfl rfl ?_
                    refine K.move (.inr rfl) (gd0 rfl) rfl rfl ?_
                    refine K.nil ?_
                    refine At.next ?_
                    refine G.ret ?_
                    refine At.done Y [(.tmp 6, .c _)] rfl ⟨.tmp rfl, trivial⟩ (to' := []) trivial ?_ ?_ rfl rfl rfl (.inl rfl)
                    · cases H0; rfl
                    · cases H0; rfl
                ·
                  replace H0 := bif_f H0 h10
                  refine G.rg ?_
                  refine K.move (.inl rfl) (gd0 rfl) rfl rfl ?_
                  refine K.move (.inl rfl) (gd0 rfl) rfl rfl ?_
                  refine K.move (.inl rfl) (gd1 rfl rfl rfl (h6)) rfl rfl ?_
                  refine K.pickT (gd0 rfl) rfl (h6) rfl rfl ?_
                  refine K.move (.inl rfl) (gd0 rfl) rfl rfl ?_
                  refine K.loadS Y [_, _, _, _] (gd1 rfl rfl rfl (h7)) rfl rfl t72 rfl rfl rfl ?_
                  refine K.loadS Y [_, _, _, _] (gd1 rfl rfl rfl (h7)) rfl rfl t72 rfl rfl rfl ?_
                  refine K.eqS [_, _, _, _] [_, _, _, _] (gd1 rfl rfl rfl (h7)) rfl rfl cmp72 rfl (.inl rfl) ((x7.1.item.key == x10.item.key) && ((x7.1.item.id == x10.item.id) && ((x7.1.eaten == x10.eaten) && ((x7.1.time == x10.time) && true)))) rfl rfl ?_
                  refine K.pickT (gd0 rfl) rfl (h7) rfl rfl ?_
                  refine K.move (.inl rfl) (gd0 rfl) rfl rfl ?_
                  refine K.loadS Y [_, _, _, _] (gd1 rfl rfl rfl (h8)) rfl rfl t72 rfl rfl rfl ?_
                  refine K.loadS Y [_, _, _, _] (gd1 rfl rfl rfl (h8)) rfl rfl t72 rfl rfl rfl ?_
                  refine K.eqS [_, _, _, _] [_, _, _, _] (gd1 rfl rfl rfl (h8)) rfl rfl cmp72 rfl (.inl rfl) ((x9.1.item.key == a0.i1.key) && ((x9.1.item.id == a0.i1.id) && ((x9.1.eaten == ((a1.i1.tmod 2) == 0)) && ((x9.1.time == a1.i1) && true)))) rfl rfl ?_
                  refine K.pickT (gd0 rfl) rfl (h8) rfl rfl ?_
                  refine K.move (.inl rfl) (gd0 rfl) rfl rfl ?_
                  refine K.move (.inl rfl) (gd1 rfl rfl rfl (h9)) rfl rfl ?_
                  refine K.bin (V := .bool (decide (x11 < 0))) (gd1 rfl rfl rfl (h9)) rfl rfl (fun _ => rfl) rfl ?_
                  refine K.fieldAddr Y (gd1 rfl rfl rfl (h9)) rfl t72 rfl rfl ?_
                  refine K.loadS Y [_, _] (gd1 rfl rfl rfl (h9)) rfl rfl t68 rfl rfl rfl ?_
                  refine K.fieldAddr Y (gd1 rfl rfl rfl (h9)) rfl t72 rfl rfl ?_
                  refine K.loadS Y [_, _] (gd1 rfl rfl rfl (h9)) rfl rfl t68 rfl rfl rfl ?_
                  refine K.callR [(.func 46, _), ((.tmp 93), _), ((.tmp 95), _)] (R02_Ahead_con (k := k) hx12) (toFn_func (cf 46 rfl) rfl) (gd1 rfl rfl rfl (h9)) ⟨rfl, rfl, rfl, trivial⟩ trivial rfl rfl rfl ?_
                  refine K.bin (V := .bool ((decide (x11 < 0)) == x12)) (gd1 rfl rfl rfl (h9)) rfl rfl (bq_eql Try.underlying4 _ _) rfl ?_
                  refine K.pickT (gd0 rfl) rfl (h9) rfl rfl ?_
                  refine K.move (.inl rfl) (gd0 rfl) rfl rfl ?_
                  refine K.skip rfl rfl rfl rfl (h10) rfl ?_
                  refine K.skip rfl rfl rfl rfl (h10) rfl ?_
                  refine K.skip rfl rfl rfl rfl (h10) rfl ?_
                  refine K.skip rfl rfl rfl rfl (h10) rfl ?_
                  refine K.skip rfl rfl rfl rfl (h10) rfl ?_
                  refine K.skip rfl rfl rfl rfl (h10) rfl ?_
                  refine K.skip rfl rfl rfl rfl (h10) rfl ?_
                  refine K.skip rfl rfl rfl rfl (h10) rfl ?_
                  refine K.pickF (gd0 rfl) rfl (h10) rfl rfl ?_
                  refine K.move (.inl rfl) (gd0 rfl) rfl rfl ?_
                  refine K.skip rfl rfl rfl rfl (rfl) rfl ?_
                  refine K.skip rfl rfl rfl rfl (rfl) rfl ?_
                  refine K.skip rfl rfl rfl rfl (rfl) rfl ?_
                  refine K.pickF (gd0 rfl) rfl (rfl) rfl rfl ?_
                  refine K.move (.inl rfl) (gd0 rfl) rfl rfl ?_
                  refine K.skip rfl rfl rfl rfl (rfl) rfl ?_
                  refine K.skip rfl rfl rfl rfl (rfl) rfl ?_
                  refine K.skip rfl rfl rfl rfl (rfl) rfl ?_
                  refine K.skip rfl rfl rfl rfl (rfl) rfl ?_
                  refine K.skip rfl rfl rfl rfl (rfl) rfl ?_
                  refine K.skip rfl rfl rfl rfl (rfl) rfl ?_
                  refine K.skip rfl rfl rfl rfl (rfl) rfl ?_
                  refine K.pickF (gd0 rfl) rfl (rfl) rfl rfl ?_
                  refine K.move (.inr rfl) (gd0 rfl) rfl rfl ?_
                  refine K.nil ?_
                  refine At.next ?_
                  refine G.ret ?_
                  refine At.done Y [(.tmp 6, .c _)] rfl ⟨.tmp rfl, trivial⟩ (to' := []) trivial ?_ ?_ rfl rfl rfl (.inl rfl)
                  · cases H0; rfl
                  · cases H0; rfl
              ·
                replace H0 := bif_f H0 h9
                refine G.rg ?_
                refine K.move (.inl rfl) (gd0 rfl) rfl rfl ?_
                refine K.move (.inl rfl) (gd0 rfl) rfl rfl ?_
                refine K.move (.inl rfl) (gd1 rfl rfl rfl (h6)) rfl rfl ?_
                refine K.pickT (gd0 rfl) rfl (h6) rfl rfl ?_
                refine K.move (.inl rfl) (gd0 rfl) rfl rfl ?_
                refine K.loadS Y [_, _, _, _] (gd1 rfl rfl rfl (h7)) rfl rfl t72 rfl rfl rfl ?_
                refine K.loadS Y [_, _, _, _] (gd1 rfl rfl rfl (h7)) rfl rfl t72 rfl rfl rfl ?_
                refine K.eqS [_, _, _, _] [_, _, _, _] (gd1 rfl rfl rfl (h7)) rfl rfl cmp72 rfl (.inl rfl) ((x7.1.item.key == x10.item.key) && ((x7.1.item.id == x10.item.id) && ((x7.1.eaten == x10.eaten) && ((x7.1.time == x10.time) && true)))) rfl rfl ?_
                refine K.pickT (gd0 rfl) rfl (h7) rfl rfl ?_
                refine K.move (.inl rfl) (gd0 rfl) rfl rfl ?_
                refine K.loadS Y [_, _, _, _] (gd1 rfl rfl rfl (h8)) rfl rfl t72 rfl rfl rfl ?_
                refine K.loadS Y [_, _, _, _] (gd1 rfl rfl rfl (h8)) rfl rfl t72 rfl rfl rfl ?_
                refine K.eqS [_, _, _, _] [_, _, _, _] (gd1 rfl rfl rfl (h8)) rfl rfl cmp72 rfl (.inl rfl) ((x9.1.item.key == a0.i1.key) && ((x9.1.item.id == a0.i1.id) && ((x9.1.eaten == ((a1.i1.tmod 2) == 0)) && ((x9.1.time == a1.i1) && true)))) rfl rfl ?_
                refine K.pickT (gd0 rfl) rfl (h8) rfl rfl ?_
                refine K.move (.inl rfl) (gd0 rfl) rfl rfl ?_
                refine K.skip rfl rfl rfl rfl (h9) rfl ?_
                refine K.skip rfl rfl rfl rfl (h9) rfl ?_
                refine K.skip rfl rfl rfl rfl (h9) rfl ?_
                refine K.skip rfl rfl rfl rfl (h9) rfl ?_
                refine K.skip rfl rfl rfl rfl (h9) rfl ?_
                refine K.skip rfl rfl rfl rfl (h9) rfl ?_
                refine K.skip rfl rfl rfl rfl (h9) rfl ?_
                refine K.skip rfl rfl rfl rfl (h9) rfl ?_
                refine K.pickF (gd0 rfl) rfl (h9) rfl rfl ?_
                refine K.move (.inl rfl) (gd0 rfl) rfl rfl ?_
                refine K.skip rfl rfl rfl rfl (rfl) rfl ?_
                refine K.skip rfl rfl rfl rfl (rfl) rfl ?_
                refine K.skip rfl rfl rfl rfl (rfl) rfl ?_
                refine K.skip rfl rfl rfl rfl (rfl) rfl ?_
                refine K.skip rfl rfl rfl rfl (rfl) rfl ?_
                refine K.skip rfl rfl rfl rfl (rfl) rfl ?_
                refine K.skip rfl rfl rfl rfl (rfl) rfl ?_
                refine K.skip rfl rfl rfl rfl (rfl) rfl ?_
                refine K.pickF (gd0 rfl) rfl (rfl) rfl rfl ?_
                refine K.move (.inl rfl) (gd0 rfl) rfl rfl ?_
                refine K.skip rfl rfl rfl rfl (rfl) rfl ?_
                refine K.skip rfl rfl rfl rfl (rfl) rfl ?_
                refine K.skip rfl rfl rfl rfl (rfl) rfl ?_
                refine K.pickF (gd0 rfl) rfl (rfl) rfl rfl ?_
                refine K.move (.inl rfl) (gd0 rfl) rfl rfl ?_
                refine K.skip rfl rfl rfl rfl (rfl) rfl ?_
                refine K.skip rfl rfl rfl rfl (rfl) rfl ?_
                refine K.skip rfl rfl rfl rfl (rfl) rfl ?_
                refine K.skip rfl rfl rfl rfl (rfl) rfl ?_
                refine K.skip rfl rfl rfl rfl (rfl) rfl ?_
                refine K.skip rfl rfl rfl rfl (rfl) rfl ?_
                refine K.skip rfl rfl rfl rfl (rfl) rfl ?_
                refine K.pickF (gd0 rfl) rfl (rfl) rfl rfl ?_
                refine K.move (.inr rfl) (gd0 rfl) rfl rfl ?_
                refine K.nil ?_
                refine At.next ?_
                refine G.ret ?_
                refine At.done Y [(.tmp 6, .c _)] rfl ⟨.tmp rfl, trivial⟩ (to' := []) trivial ?_ ?_ rfl rfl rfl (.inl rfl)
                · cases H0; rfl
                · cases H0; rfl
            ·
              replace H0 := bif_f H0 h8
              refine G.rg ?_
              refine K.move (.inl rfl) (gd0 rfl) rfl rfl ?_
              refine K.move (.inl rfl) (gd0 rfl) rfl rfl ?_
              refine K.move (.inl rfl) (gd1 rfl rfl rfl (h6)) rfl rfl ?_
              refine K.pickT (gd0 rfl) rfl (h6) rfl rfl ?_
              refine K.move (.inl rfl) (gd0 rfl) rfl rfl ?_
              refine K.loadS Y [_, _, _, _] (gd1 rfl rfl rfl (h7)) rfl rfl t72 rfl rfl rfl ?_
              refine K.loadS Y [_, _, _, _] (gd1 rfl rfl rfl (h7)) rfl rfl t72 rfl rfl rfl ?_
              refine K.eqS [_, _, _, _] [_, _, _, _] (gd1 rfl rfl rfl (h7)) rfl rfl cmp72 rfl (.inl rfl) ((x7.1.item.key == x10.item.key) && ((x7.1.item.id == x10.item.id) && ((x7.1.eaten == x10.eaten) && ((x7.1.time == x10.time) && true)))) rfl rfl ?_
              refine K.pickT (gd0 rfl) rfl (h7) rfl rfl ?_
              refine K.move (.inl rfl) (gd0 rfl) rfl rfl ?_
              refine K.skip rfl rfl rfl rfl (h8) rfl ?_
              refine K.skip rfl rfl rfl rfl (h8) rfl ?_
              refine K.skip rfl rfl rfl rfl (h8) rfl ?_
              refine K.pickF (gd0 rfl) rfl (h8) rfl rfl ?_
              refine K.move (.inl rfl) (gd0 rfl) rfl rfl ?_
              refine K.skip rfl rfl rfl rfl (rfl) rfl ?_
              refine K.skip rfl rfl rfl rfl (rfl) rfl ?_
              refine K.skip rfl rfl rfl rfl (rfl) rfl ?_
              refine K.skip rfl rfl rfl rfl (rfl) rfl ?_
              refine K.skip rfl rfl rfl rfl (rfl) rfl ?_
              refine K.skip rfl rfl rfl rfl (rfl) rfl ?_
              refine K.skip rfl rfl rfl rfl (rfl) rfl ?_
              refine K.skip rfl rfl rfl rfl (rfl) rfl ?_
              refine K.pickF (gd0 rfl) rfl (rfl) rfl rfl ?_
              refine K.move (.inl rfl) (gd0 rfl) rfl rfl ?_
              refine K.skip rfl rfl rfl rfl (rfl) rfl ?_
              refine K.skip rfl rfl rfl rfl (rfl) rfl ?_
              refine K.skip rfl rfl rfl rfl (rfl) rfl ?_
              refine K.skip rfl rfl rfl rfl (rfl) rfl ?_
              refine K.skip rfl rfl rfl rfl (rfl) rfl ?_
              refine K.skip rfl rfl rfl rfl (rfl) rfl ?_
              refine K.skip rfl rfl rfl rfl (rfl) rfl ?_
              refine K.skip rfl rfl rfl rfl (rfl) rfl ?_
              refine K.pickF (gd0 rfl) rfl (rfl) rfl rfl ?_
              refine K.move (.inl rfl) (gd0 rfl) rfl rfl ?_
              refine K.skip rfl rfl rfl rfl (rfl) rfl ?_
              refine K.skip rfl rfl rfl rfl (rfl) rfl ?_
              refine K.skip rfl rfl rfl rfl (rfl) rfl ?_
              refine K.pickF (gd0 rfl) rfl (rfl) rfl rfl ?_
              refine K.move (.inl rfl) (gd0 rfl) rfl rfl ?_
              refine K.skip rfl rfl rfl rfl (rfl) rfl ?_
              refine K.skip rfl rfl rfl rfl (rfl) rfl ?_
              refine K.skip rfl rfl rfl rfl (rfl) rfl ?_
              refine K.skip rfl rfl rfl rfl (rfl) rfl ?_
              refine K.skip rfl rfl rfl rfl (rfl) rfl ?_
              refine K.skip rfl rfl rfl rfl (rfl) rfl ?_
              refine K.skip rfl rfl rfl rfl (rfl) rfl ?_
              refine K.pickF (gd0 rfl) rfl (rfl) rfl rfl ?_
              refine K.move (.inr rfl) (gd0 rfl) rfl rfl ?_
              refine K.nil ?_
              refine At.next ?_
              refine G.ret ?_
              refine At.done Y [(.tmp 6, .c _)] rfl ⟨.tmp rfl, trivial⟩ (to' := []) trivial ?_ ?_ rfl rfl rfl (.inl rfl)
              · cases H0; rfl
              · cases H0; rfl
          ·
            replace H0 := bif_f H0 h7
            refine G.rg ?_
            refine K.move (.inl rfl) (gd0 rfl) rfl rfl ?_
            refine K.move (.inl rfl) (gd0 rfl) rfl rfl ?_
            refine K.move (.inl rfl) (gd1 rfl rfl rfl (h6)) rfl rfl ?_
            refine K.pickT (gd0 rfl) rfl (h6) rfl rfl ?_
            refine K.move (.inl rfl) (gd0 rfl) rfl rfl ?_
            refine K.skip rfl rfl rfl rfl (h7) rfl ?_
            refine K.skip rfl rfl rfl rfl (h7) rfl ?_
            refine K.skip rfl rfl rfl rfl (h7) rfl ?_
            refine K.pickF (gd0 rfl) rfl (h7) rfl rfl ?_
            refine K.move (.inl rfl) (gd0 rfl) rfl rfl ?_
            refine K.skip rfl rfl rfl rfl (rfl) rfl ?_
            refine K.skip rfl rfl rfl rfl (rfl) rfl ?_
            refine K.skip rfl rfl rfl rfl (rfl) rfl ?_
            refine K.pickF (gd0 rfl) rfl (rfl) rfl rfl ?_
            refine K.move (.inl rfl) (gd0 rfl) rfl rfl ?_
            refine K.skip rfl rfl rfl rfl (rfl) rfl ?_
            refine K.skip rfl rfl rfl rfl (rfl) rfl ?_
            refine K.skip rfl rfl rfl rfl (rfl) rfl ?_
            refine K.skip rfl rfl rfl rfl (rfl) rfl ?_
            refine K.skip rfl rfl rfl rfl (rfl) rfl ?_
            refine K.skip rfl rfl rfl rfl (rfl) rfl ?_
            refine K.skip rfl rfl rfl rfl (rfl) rfl ?_
            refine K.skip rfl rfl rfl rfl (rfl) rfl ?_
            refine K.pickF (gd0 rfl) rfl (rfl) rfl rfl ?_
            refine K.move (.inl rfl) (gd0 rfl) rfl rfl ?_
            refine K.skip rfl rfl rfl rfl (rfl) rfl ?_
            refine K.skip rfl rfl rfl rfl (rfl) rfl ?_
            refine K.skip rfl rfl rfl rfl (rfl) rfl ?_
            refine K.skip rfl rfl rfl rfl (rfl) rfl ?_
            refine K.skip rfl rfl rfl rfl (rfl) rfl ?_
            refine K.skip rfl rfl rfl rfl (rfl) rfl ?_
            refine K.skip rfl rfl rfl rfl (rfl) rfl ?_
            refine K.skip rfl rfl rfl rfl (rfl) rfl ?_
            refine K.pickF (gd0 rfl) rfl (rfl) rfl rfl ?_
            refine K.move (.inl rfl) (gd0 rfl) rfl rfl ?_
            refine K.skip rfl rfl rfl rfl (rfl) rfl ?_
            refine K.skip rfl rfl rfl rfl (rfl) rfl ?_
            refine K.skip rfl rfl rfl rfl (rfl) rfl ?_
            refine K.pickF (gd0 rfl) rfl (rfl) rfl rfl ?_
            refine K.move (.inl rfl) (gd0 rfl) rfl rfl ?_
            refine K.skip rfl rfl rfl rfl (rfl) rfl ?_
            refine K.skip rfl rfl rfl rfl (rfl) rfl ?_
            refine K.skip rfl rfl rfl rfl (rfl) rfl ?_
            refine K.skip rfl rfl rfl rfl (rfl) rfl ?_
            refine K.skip rfl rfl rfl rfl (rfl) rfl ?_
            refine K.skip rfl rfl rfl rfl (rfl) rfl ?_
            refine K.skip rfl rfl rfl rfl (rfl) rfl ?_
            refine K.pickF (gd0 rfl) rfl (rfl) rfl rfl ?_
            refine K.move (.inr rfl) (gd0 rfl) rfl rfl ?_
            refine K.nil ?_
            refine At.next ?_
            refine G.ret ?_
            refine At.done Y [(.tmp 6, .c _)] rfl ⟨.tmp rfl, trivial⟩ (to' := []) trivial ?_ ?_ rfl rfl rfl (.inl rfl)
            · cases H0; rfl
            · cases H0; rfl
        ·
          replace H0 := bif_f H0 h6
          refine G.rg ?_
          refine K.move (.inl rfl) (gd0 rfl) rfl rfl ?_
          refine K.move (.inl rfl) (gd0 rfl) rfl rfl ?_
          refine K.skip rfl rfl rfl rfl (h6) rfl ?_
          refine K.pickF (gd0 rfl) rfl (h6) rfl rfl ?_
          refine K.move (.inl rfl) (gd0 rfl) rfl rfl ?_
          refine K.skip rfl rfl rfl rfl (rfl) rfl ?_
          refine K.skip rfl rfl rfl rfl (rfl) rfl ?_
          refine K.skip rfl rfl rfl rfl (rfl) rfl ?_
          refine K.pickF (gd0 rfl) rfl (rfl) rfl rfl ?_
          refine K.move (.inl rfl) (gd0 rfl) rfl rfl ?_
          refine K.skip rfl rfl rfl rfl (rfl) rfl ?_
          refine K.skip rfl rfl rfl rfl (rfl) rfl ?_
          refine K.skip rfl rfl rfl rfl (rfl) rfl ?_
          refine K.pickF (gd0 rfl) rfl (rfl) rfl rfl ?_
          refine K.move (.inl rfl) (gd0 rfl) rfl rfl ?_
          refine K.skip rfl rfl rfl rfl (rfl) rfl ?_
          refine K.skip rfl rfl rfl rfl (rfl) rfl ?_
          refine K.skip rfl rfl rfl rfl (rfl) rfl ?_
          refine K.skip rfl rfl rfl rfl (rfl) rfl ?_
          refine K.skip rfl rfl rfl rfl (rfl) rfl ?_
          refine K.skip rfl rfl rfl rfl (rfl) rfl ?_
          refine K.skip rfl rfl rfl rfl (rfl) rfl ?_
          refine K.skip rfl rfl rfl rfl (rfl) rfl ?_
          refine K.pickF (gd0 rfl) rfl (rfl) rfl rfl ?_
          refine K.move (.inl rfl) (gd0 rfl) rfl rfl ?_
          refine K.skip rfl rfl rfl rfl (rfl) rfl ?_
          refine K.skip rfl rfl rfl rfl (rfl) rfl ?_
          refine K.skip rfl rfl rfl rfl (rfl) rfl ?_
          refine K.skip rfl rfl rfl rfl (rfl) rfl ?_
          refine K.skip rfl rfl rfl rfl (rfl) rfl ?_
          refine K.skip rfl rfl rfl rfl (rfl) rfl ?_
          refine K.skip rfl rfl rfl rfl (rfl) rfl ?_
          refine K.skip rfl rfl rfl rfl (rfl) rfl ?_
          refine K.pickF (gd0 rfl) rfl (rfl) rfl rfl ?_
          refine K.move (.inl rfl) (gd0 rfl) rfl rfl ?_
          refine K.skip rfl rfl rfl rfl (rfl) rfl ?_
          refine K.skip rfl rfl rfl rfl (rfl) rfl ?_
          refine K.skip rfl rfl rfl rfl (rfl) rfl ?_
          refine K.pickF (gd0 rfl) rfl (rfl) rfl rfl ?_
          refine K.move (.inl rfl) (gd0 rfl) rfl rfl ?_
          refine K.skip rfl rfl rfl rfl (rfl) rfl ?_
          refine K.skip rfl rfl rfl rfl (rfl) rfl ?_
          refine K.skip rfl rfl rfl rfl (rfl) rfl ?_
          refine K.skip rfl rfl rfl rfl (rfl) rfl ?_
          refine K.skip rfl rfl rfl rfl (rfl) rfl ?_
          refine K.skip rfl rfl rfl rfl (rfl) rfl ?_
          refine K.skip rfl rfl rfl rfl (rfl) rfl ?_
          refine K.pickF (gd0 rfl) rfl (rfl) rfl rfl ?_
          refine K.move (.inr rfl) (gd0 rfl) rfl rfl ?_
          refine K.nil ?_
          refine At.next ?_
          refine G.ret ?_
          refine At.done Y [(.tmp 6, .c _)] rfl ⟨.tmp rfl, trivial⟩ (to' := []) trivial ?_ ?_ rfl rfl rfl (.inl rfl)
          · cases H0; rfl
          · cases H0; rfl
theorem Lw09_ShelfTimes_con {k : Nat}  {a0 : TArr2TItem} {a1 : TArr2Int} {a2 : TArr2Int} {r : Bool}  (H0 : Lw09_ShelfTimes.f k a0 a1 a2 = some r) : SCon Try.prog 9 [.a (.agg ((eTArr2TItem a0).map .v)), .a (.agg ((eTArr2Int a1).map .v)), .a (.agg ((eTArr2Int a2).map .v))] [] (.a (.c (.v (.bool r)))) [] [] :=
  SCon.ren (rn []) (Lw09_ShelfTimes_con0 (k := k)   H0) trivial trivial (by simp) (by simp)
end Go.Proofs.Ytjokolmijhhinaa


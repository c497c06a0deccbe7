/- Walks of what uses trees. Printed by a program of mine. -/
import Derived.KernelRfl
import Derived.Test.YtjokolmijhhinaaTrS
namespace Go.Proofs.Ytjokolmijhhinaa
open Go Go.Proofs.Ytjokolmijhhinaa.Sx
set_option linter.unusedVariables false
set_option linter.unusedSimpArgs false
theorem shelf_New_con0 {k : Nat}  {a0 : Int} {r : TRef × Pool (TNode TSlot TSize)}  (H0 : shelf_New.f k a0 = some r) : SCon Try.prog 41 [.a (.c (.v (.int .i64 a0)))] [] (.a (.c (.p 40 0))) [(40, blk 40 [.p 41 0, .i r.1.index, .i r.1.gen] 122), (41, plS 41 r.2)] [40, 41] := by
  rw [shelf_New.f] at H0
  refine spec_of [(0, _)] [] 5 Try.func41 rfl Try.ntmps41 rfl rfl rfl rfl (fun β W F => ?_)
  refine G.seq ?_
  refine G.rg ?_
  refine K.move (.inr rfl) (gd0 rfl) rfl rfl ?_
  refine K.nil ?_
  refine At.next ?_
  refine G.seq ?_
  obtain ⟨x1, hx1, H0⟩ := bnd H0
  refine G.rg ?_
  refine K.move (.inl rfl) (gd0 rfl) rfl rfl ?_
  refine K.call0 [(.func 74, _), ((.tmp 3), _)] (Tree_NewS_con (k := k) hx1 100 101 rfl) (toFn_func (cf 74 rfl) rfl) (gd0 rfl) ⟨rfl, rfl, trivial⟩ trivial rfl rfl rfl rfl rfl rfl ?_
  refine K.move (.inr rfl) (gd0 rfl) rfl rfl ?_
  refine K.nil ?_
  refine At.next ?_
  refine G.ret ?_
  refine At.ren (fs' := [(2, .a (.c (.p 40 0)))]) (tl := [(40, blk 40 [.p 41 0, .v (.int .i64 x1.1.index), .v (.int .i64 x1.1.gen)] 122), (41, plS 41 x1.2)]) [(40, 100), (41, 101)] [_, _] rfl ⟨rfl, trivial⟩ ⟨rfl, (blk_ren rfl rfl), rfl, (pl_ren rfl), trivial⟩ rfl ?_
  refine At.done Y [(.tmp 2, .c _)] rfl ⟨.tmp rfl, trivial⟩ (to' := [(40, _), (41, _)]) ⟨rfl, rfl, trivial⟩ ?_ ?_ rfl rfl rfl (.inl rfl)
  · cases H0; rfl
  · cases H0; rfl
theorem shelf_New_con {k : Nat}  {a0 : Int} {r : TRef × Pool (TNode TSlot TSize)}  (H0 : shelf_New.f k a0 = some r) (m40 m41 : Nat) (hd : ndB [m40, m41] = true) : SCon Try.prog 41 [.a (.c (.v (.int .i64 a0)))] [] (.a (.c (.p m40 0))) [(m40, blk m40 [.p m41 0, .i r.1.index, .i r.1.gen] 122), (m41, plS m41 r.2)] [m40, m41] :=
  SCon.ren (rn [(40, m40), (41, m41)]) (shelf_New_con0 (k := k)   H0) trivial ⟨(blk_ren rfl rfl), (pl_ren rfl), trivial⟩ (rn_nd hd rfl rfl) (rn_ks hd rfl rfl rfl)
theorem shelf_Of_con0 {k : Nat}  {a0 : TItem} {r : TSlot}  (H0 : shelf_Of.f k a0 = some r) : SCon Try.prog 44 [.a (.agg ((eTItem a0).map .v))] [] (.a (.agg ((eTSlot r).map .v))) [] [] := by
  rw [shelf_Of.f] at H0
  refine spec_of [(0, _)] [] 5 Try.func44 rfl Try.ntmps44 rfl rfl rfl rfl (fun β W F => ?_)
  refine G.seq ?_
  refine G.rg ?_
  refine K.box Y 100 [_, _] (gd0 rfl) rfl rfl rfl rfl rfl rfl ?_
  refine K.alloc Y 101 [_, _, _, _] (gd0 rfl) t72 rfl rfl rfl rfl rfl ?_
  refine K.nil ?_
  refine At.next ?_
  refine G.seq ?_
  refine G.rg ?_
  refine K.loadS Y [_, _] (gd0 rfl) rfl rfl t68 rfl rfl rfl ?_
  refine K.build Y [(0, _)] [_, _, _, _] [((.tmp 3), _)] (gd0 rfl) (AllE.spec ⟨rfl, trivial⟩) rfl rfl t72 rfl rfl ?_
  refine K.store Y [_, _, _, _] (gd0 rfl) rfl rfl rfl t72 rfl rfl rfl rfl rfl ?_
  refine K.nil ?_
  refine At.next ?_
  refine G.ret ?_
  refine At.done Y [(.cell 2 72, .agg [_, _, _, _])] rfl ⟨.st rfl rfl t72 rfl rfl, trivial⟩ (to' := []) trivial ?_ ?_ rfl rfl rfl (.inl rfl)
  · cases H0; rfl
  · cases H0; rfl
theorem shelf_Of_con {k : Nat}  {a0 : TItem} {r : TSlot}  (H0 : shelf_Of.f k a0 = some r) : SCon Try.prog 44 [.a (.agg ((eTItem a0).map .v))] [] (.a (.agg ((eTSlot r).map .v))) [] [] :=
  SCon.ren (rn []) (shelf_Of_con0 (k := k)   H0) trivial trivial (by simp) (by simp)
theorem shelf_Above_con0 {k : Nat}  {p1 : Pool (TNode TSlot TSize)} {rt0 : TRef} {a1 : TItem} {r : Int}  (H0 : shelf_Above.f k p1 rt0 a1 = some r) : SCon Try.prog 57 [SV.p 0 0, .a (.agg ((eTItem a1).map .v))] [(0, blk 0 [.p 1 0, .i rt0.index, .i rt0.gen] 122), (1, plS 1 p1)] (.a (.c (.v (.int .i64 r)))) [(0, blk 0 [.p 1 0, .i rt0.index, .i rt0.gen] 122), (1, plS 1 p1)] [] := by
  rw [shelf_Above.f] at H0
  refine spec_of [(0, _), (1, _)] [(0, _), (1, _)] 28 Try.func57 rfl Try.ntmps57 rfl rfl rfl rfl (fun β W F => ?_)
  refine G.seq ?_
  refine G.rg ?_
  refine K.box Y 100 [_, _] (gd0 rfl) rfl rfl rfl rfl rfl rfl ?_
  refine K.move (.inr rfl) (gd0 rfl) rfl rfl ?_
  refine K.nil ?_
  refine At.next ?_
  refine G.seq ?_
  refine G.seq ?_
  refine G.rg ?_
  refine K.move (.inl rfl) (gd0 rfl) rfl rfl ?_
  refine K.eqnil (V := false) (gd0 rfl) rfl rfl (pn_eql_some Try.underlying73) rfl ?_
  refine K.nil ?_
  refine At.next ?_
  refine G.cond rfl (fun h1 => ?_) (fun h1 => ?_)
  · cases h1
  ·
    refine G.skip ?_
    refine At.next ?_
    refine G.seq ?_
    obtain ⟨x1, hx1, H0⟩ := bnd H0
    obtain ⟨x2, hx2, H0⟩ := bnd H0
    obtain ⟨x3, hx3, H0⟩ := bnd H0
    refine G.rd mixed ?_
    refine K.move (.inl rfl) (gd0 rfl) rfl rfl ?_
    refine K.callR [(.func 56, _), ((.tmp 10), _)] (Tree_LenS_con (k := k) hx1 0 1) (toFn_func (cf 56 rfl) rfl) (gd0 rfl) ⟨rfl, rfl, trivial⟩ ⟨rfl, rfl, trivial⟩ rfl rfl rfl ?_
    refine K.move (.inl rfl) (gd0 rfl) rfl rfl ?_
    refine K.loadS Y [_, _] (gd0 rfl) rfl rfl t68 rfl rfl rfl ?_
    refine K.callR [(.func 44, _), ((.tmp 13), _)] (shelf_Of_con (k := k) hx2) (toFn_func (cf 44 rfl) rfl) (gd0 rfl) ⟨rfl, rfl, trivial⟩ trivial rfl rfl rfl ?_
    refine K.callR [(.func 82, _), ((.tmp 12), _), ((.tmp 14), _)] (Tree_RankS_con (k := k) hx3 0 1) (toFn_func (cf 82 rfl) rfl) (gd0 rfl) ⟨rfl, rfl, rfl, trivial⟩ ⟨rfl, rfl, trivial⟩ rfl rfl rfl ?_
    refine K.bin (V := .int .i64 (w64 (x1 - x3))) (gd0 rfl) rfl rfl (fun _ => rfl) rfl ?_
    refine K.move (.inr rfl) (gd0 rfl) rfl rfl ?_
    refine K.nil ?_
    refine ⟨by kernel_rfl, ?_⟩
    refine At.next ?_
    refine G.seq ?_
    refine G.seq ?_
    obtain ⟨x4, hx4, H0⟩ := bnd H0
    obtain ⟨x5, hx5, H0⟩ := bnd H0
    refine G.rg ?_
    refine K.move (.inl rfl) (gd0 rfl) rfl rfl ?_
    refine K.loadS Y [_, _] (gd0 rfl) rfl rfl t68 rfl rfl rfl ?_
    refine K.callR [(.func 44, _), ((.tmp 19), _)] (shelf_Of_con (k := k) hx4) (toFn_func (cf 44 rfl) rfl) (gd0 rfl) ⟨rfl, rfl, trivial⟩ trivial rfl rfl rfl ?_
    refine K.callR [(.func 43, _), ((.tmp 18), _), ((.tmp 20), _)] (Tree_FindS_con (k := k) hx5 0 1) (toFn_func (cf 43 rfl) rfl) (gd0 rfl) ⟨rfl, rfl, rfl, trivial⟩ ⟨rfl, rfl, trivial⟩ rfl rfl rfl ?_
    refine K.move (.inl rfl) (gd0 rfl) rfl rfl ?_
    refine K.extract (gd0 rfl) rfl rfl rfl ?_
    refine K.extract (gd0 rfl) rfl rfl rfl ?_
    refine K.alloc Y 101 [_, _, _, _] (gd0 rfl) t72 rfl rfl rfl rfl rfl ?_
    refine K.store Y [_, _, _, _] (gd0 rfl) rfl rfl rfl t72 rfl rfl rfl rfl rfl ?_
    refine K.move (.inr rfl) (gd0 rfl) rfl rfl ?_
    refine K.nil ?_
    refine At.next ?_
    refine G.seq ?_
    refine G.rg ?_
    refine K.move (.inl rfl) (gd0 rfl) rfl rfl ?_
    refine K.nil ?_
    refine At.next ?_
    refine G.cond rfl (fun h2 => ?_) (fun h2 => ?_)
    ·
      replace H0 := bif_t H0 h2
      refine G.rg ?_
      refine K.move (.inl rfl) (gd0 rfl) rfl rfl ?_
      refine K.bin (V := .int .i64 (w64 ((w64 (x1 - x3)) - 1))) (gd0 rfl) rfl rfl (fun _ => rfl) rfl ?_
      refine K.move (.inr rfl) (gd0 rfl) rfl rfl ?_
      refine K.nil ?_
      refine At.next ?_
      refine G.seq ?_
      refine G.rg ?_
      refine K.move (.inl rfl) (gd0 rfl) rfl rfl ?_
      refine K.move (.inr rfl) (gd0 rfl) rfl rfl ?_
      refine K.nil ?_
      refine At.next ?_
      refine G.ret ?_
      refine At.done Y [(.tmp 4, .c _)] rfl ⟨.tmp rfl, trivial⟩ (to' := [(0, _), (1, _)]) ⟨rfl, rfl, trivial⟩ ?_ ?_ rfl rfl rfl (.inl rfl)
      · cases H0; rfl
      · cases H0; rfl
    ·
      replace H0 := bif_f H0 h2
      refine G.skip ?_
      refine At.next ?_
      refine G.seq ?_
      refine G.rg ?_
      refine K.move (.inl rfl) (gd0 rfl) rfl rfl ?_
      refine K.move (.inr rfl) (gd0 rfl) rfl rfl ?_
      refine K.nil ?_
      refine At.next ?_
      refine G.ret ?_
      refine At.done Y [(.tmp 4, .c _)] rfl ⟨.tmp rfl, trivial⟩ (to' := [(0, _), (1, _)]) ⟨rfl, rfl, trivial⟩ ?_ ?_ rfl rfl rfl (.inl rfl)
      · cases H0; rfl
      · cases H0; rfl
theorem shelf_Above_con {k : Nat}  {p1 : Pool (TNode TSlot TSize)} {rt0 : TRef} {a1 : TItem} {r : Int}  (H0 : shelf_Above.f k p1 rt0 a1 = some r) (m0 m1 : Nat) : SCon Try.prog 57 [SV.p m0 0, .a (.agg ((eTItem a1).map .v))] [(m0, blk m0 [.p m1 0, .i rt0.index, .i rt0.gen] 122), (m1, plS m1 p1)] (.a (.c (.v (.int .i64 r)))) [(m0, blk m0 [.p m1 0, .i rt0.index, .i rt0.gen] 122), (m1, plS m1 p1)] [] :=
  SCon.ren (rn [(0, m0), (1, m1)]) (shelf_Above_con0 (k := k)   H0) ⟨(blk_ren rfl rfl), (pl_ren rfl), trivial⟩ ⟨(blk_ren rfl rfl), (pl_ren rfl), trivial⟩ (by simp) (by simp)
theorem Lw09_awake_con0 {k : Nat}  {r : Bool}  (H0 : Lw09_awake.f k = some r) : SCon Try.prog 40 [] [] (.a (.c (.v (.bool r)))) [] [] := by
  rw [Lw09_awake.f] at H0
  refine spec_of [] [] 41 Try.func40 rfl Try.ntmps40 rfl rfl rfl rfl (fun β W F => ?_)
  refine G.seq ?_
  refine G.rg ?_
  refine K.move (.inr rfl) (gd0 rfl) rfl rfl ?_
  refine K.nil ?_
  refine At.next ?_
  refine G.seq ?_
  obtain ⟨x1, hx1, H0⟩ := bnd H0
  refine G.rg ?_
  refine K.call0 [(.func 41, _), (_, _)] (shelf_New_con (k := k) hx1 100 101 rfl) (toFn_func (cf 41 rfl) rfl) (gd0 rfl) ⟨rfl, rfl, trivial⟩ trivial rfl rfl rfl rfl rfl rfl ?_
  refine K.move (.inr rfl) (gd0 rfl) rfl rfl ?_
  refine K.nil ?_
  refine At.next ?_
  obtain ⟨x2, H1, H0⟩ := bnd H0
  refine G.seqJ (σ := { v : Pool (TNode TSlot TSize) × Int × Int // x2 = Sum.inr v }) (fun q => [(1, .a (.c (.p 102 0)))]) (fun q => [(103, plS 103 q.1.1), (102, blk 102 [.p 103 0, .v (.int .i64 q.1.2.1), .v (.int .i64 q.1.2.2)] 122)]) ?_ ?_
  ·
    refine G.seq ?_
    obtain ⟨x3, hx3, H1⟩ := bnd H1
    obtain ⟨x4, hx4, H1⟩ := bnd H1
    rcases Bool.eq_false_or_eq_true (!x4.1) with h1 | h1
    ·
      replace H1 := bif_t H1 h1
      refine G.rg ?_
      refine K.move (.inl rfl) (gd0 rfl) rfl rfl ?_
      refine K.eqnil (V := false) (gd0 rfl) rfl rfl (pn_eql_some Try.underlying73) rfl ?_
      refine K.move (.inl rfl) (gd0 rfl) rfl rfl ?_
      refine K.move (.inl rfl) (gd1 rfl rfl rfl (rfl)) rfl rfl ?_
      refine K.build Y [(0, _)] [_, _] [(_, _)] (gd1 rfl rfl rfl (rfl)) (AllE.spec ⟨rfl, trivial⟩) rfl rfl t68 rfl rfl ?_
      refine K.callR [(.func 44, _), ((.tmp 7), _)] (shelf_Of_con (k := k) hx3) (toFn_func (cf 44 rfl) rfl) (gd1 rfl rfl rfl (rfl)) ⟨rfl, rfl, trivial⟩ trivial rfl rfl rfl ?_
      refine K.call0 [(.func 42, _), ((.tmp 6), _), ((.tmp 8), _)] (Tree_PutS_con (k := k) hx4 100 101) (toFn_func (cf 42 rfl) rfl) (gd1 rfl rfl rfl (rfl)) ⟨rfl, rfl, rfl, trivial⟩ ⟨rfl, rfl, trivial⟩ rfl rfl rfl rfl rfl rfl ?_
      refine K.un (V := .bool (!x4.1)) (gd1 rfl rfl rfl (rfl)) rfl (fun _ => rfl) rfl ?_
      refine K.pickF (gd0 rfl) rfl (rfl) rfl rfl ?_
      refine K.move (.inl rfl) (gd0 rfl) rfl rfl ?_
      refine K.skip rfl rfl rfl rfl (h1) rfl ?_
      refine K.skip rfl rfl rfl rfl (h1) rfl ?_
      refine K.skip rfl rfl rfl rfl (h1) rfl ?_
      refine K.skip rfl rfl rfl rfl (h1) rfl ?_
      refine K.skip rfl rfl rfl rfl (h1) rfl ?_
      refine K.pickT (gd0 rfl) rfl (h1) rfl rfl ?_
      refine K.move (.inl rfl) (gd0 rfl) rfl rfl ?_
      refine K.skip rfl rfl rfl rfl (rfl) rfl ?_
      refine K.skip rfl rfl rfl rfl (rfl) rfl ?_
      refine K.skip rfl rfl rfl rfl (rfl) rfl ?_
      refine K.skip rfl rfl rfl rfl (rfl) rfl ?_
      refine K.skip rfl rfl rfl rfl (rfl) rfl ?_
      refine K.pickT (gd0 rfl) rfl (rfl) rfl rfl ?_
      refine K.nil ?_
      refine At.next ?_
      refine G.cond rfl (fun h2 => ?_) (fun h2 => ?_)
      ·
        refine G.seq ?_
        refine G.rg ?_
        refine K.move (.inr rfl) (gd0 rfl) rfl rfl ?_
        refine K.nil ?_
        refine At.next ?_
        refine G.ret ?_
        refine At.over_ret ?_
        cases H1
        replace H0 := sum_l H0
        refine At.done Y [(.tmp 0, .c _)] rfl ⟨.tmp rfl, trivial⟩ (to' := []) trivial ?_ ?_ rfl rfl rfl (.inl rfl)
        · cases H0; rfl
        · cases H0; rfl
      · cases h2
    ·
      replace H1 := bif_f H1 h1
      obtain ⟨x5, hx5, H1⟩ := bnd H1
      obtain ⟨x6, hx6, H1⟩ := bnd H1
      rcases Bool.eq_false_or_eq_true (!x6.1) with h3 | h3
      ·
        replace H1 := bif_t H1 h3
        refine G.rg ?_
        refine K.move (.inl rfl) (gd0 rfl) rfl rfl ?_
        refine K.eqnil (V := false) (gd0 rfl) rfl rfl (pn_eql_some Try.underlying73) rfl ?_
        refine K.move (.inl rfl) (gd0 rfl) rfl rfl ?_
        refine K.move (.inl rfl) (gd1 rfl rfl rfl (rfl)) rfl rfl ?_
        refine K.build Y [(0, _)] [_, _] [(_, _)] (gd1 rfl rfl rfl (rfl)) (AllE.spec ⟨rfl, trivial⟩) rfl rfl t68 rfl rfl ?_
        refine K.callR [(.func 44, _), ((.tmp 7), _)] (shelf_Of_con (k := k) hx3) (toFn_func (cf 44 rfl) rfl) (gd1 rfl rfl rfl (rfl)) ⟨rfl, rfl, trivial⟩ trivial rfl rfl rfl ?_
        refine K.call0 [(.func 42, _), ((.tmp 6), _), ((.tmp 8), _)] (Tree_PutS_con (k := k) hx4 100 101) (toFn_func (cf 42 rfl) rfl) (gd1 rfl rfl rfl (rfl)) ⟨rfl, rfl, rfl, trivial⟩ ⟨rfl, rfl, trivial⟩ rfl rfl rfl rfl rfl rfl ?_
        refine K.un (V := .bool (!x4.1)) (gd1 rfl rfl rfl (rfl)) rfl (fun _ => rfl) rfl ?_
        refine K.pickF (gd0 rfl) rfl (rfl) rfl rfl ?_
        refine K.move (.inl rfl) (gd0 rfl) rfl rfl ?_
        refine K.move (.inl rfl) (gd1 rfl rfl rfl (h1)) rfl rfl ?_
        refine K.build Y [(0, _)] [_, _] [(_, _)] (gd1 rfl rfl rfl (h1)) (AllE.spec ⟨rfl, trivial⟩) rfl rfl t68 rfl rfl ?_
        refine K.callR [(.func 44, _), ((.tmp 14), _)] (shelf_Of_con (k := k) hx5) (toFn_func (cf 44 rfl) rfl) (gd1 rfl rfl rfl (h1)) ⟨rfl, rfl, trivial⟩ trivial rfl rfl rfl ?_
        refine K.call0 [(.func 42, _), ((.tmp 13), _), ((.tmp 15), _)] (Tree_PutS_con (k := k) hx6 100 101) (toFn_func (cf 42 rfl) rfl) (gd1 rfl rfl rfl (h1)) ⟨rfl, rfl, rfl, trivial⟩ ⟨rfl, rfl, trivial⟩ rfl rfl rfl rfl rfl rfl ?_
        refine K.un (V := .bool (!x6.1)) (gd1 rfl rfl rfl (h1)) rfl (fun _ => rfl) rfl ?_
        refine K.pickF (gd0 rfl) rfl (h1) rfl rfl ?_
        refine K.move (.inl rfl) (gd0 rfl) rfl rfl ?_
        refine K.skip rfl rfl rfl rfl (h3) rfl ?_
        refine K.skip rfl rfl rfl rfl (h3) rfl ?_
        refine K.skip rfl rfl rfl rfl (h3) rfl ?_
        refine K.skip rfl rfl rfl rfl (h3) rfl ?_
        refine K.skip rfl rfl rfl rfl (h3) rfl ?_
        refine K.pickT (gd0 rfl) rfl (h3) rfl rfl ?_
        refine K.nil ?_
        refine At.next ?_
        refine G.cond rfl (fun h4 => ?_) (fun h4 => ?_)
        ·
          refine G.seq ?_
          refine G.rg ?_
          refine K.move (.inr rfl) (gd0 rfl) rfl rfl ?_
          refine K.nil ?_
          refine At.next ?_
          refine G.ret ?_
          refine At.over_ret ?_
          cases H1
          replace H0 := sum_l H0
          refine At.done Y [(.tmp 0, .c _)] rfl ⟨.tmp rfl, trivial⟩ (to' := []) trivial ?_ ?_ rfl rfl rfl (.inl rfl)
          · cases H0; rfl
          · cases H0; rfl
        · cases h4
      ·
        replace H1 := bif_f H1 h3
        obtain ⟨x7, hx7, H1⟩ := bnd H1
        obtain ⟨x8, hx8, H1⟩ := bnd H1
        refine G.rg ?_
        refine K.move (.inl rfl) (gd0 rfl) rfl rfl ?_
        refine K.eqnil (V := false) (gd0 rfl) rfl rfl (pn_eql_some Try.underlying73) rfl ?_
        refine K.move (.inl rfl) (gd0 rfl) rfl rfl ?_
        refine K.move (.inl rfl) (gd1 rfl rfl rfl (rfl)) rfl rfl ?_
        refine K.build Y [(0, _)] [_, _] [(_, _)] (gd1 rfl rfl rfl (rfl)) (AllE.spec ⟨rfl, trivial⟩) rfl rfl t68 rfl rfl ?_
        refine K.callR [(.func 44, _), ((.tmp 7), _)] (shelf_Of_con (k := k) hx3) (toFn_func (cf 44 rfl) rfl) (gd1 rfl rfl rfl (rfl)) ⟨rfl, rfl, trivial⟩ trivial rfl rfl rfl ?_
        refine K.call0 [(.func 42, _), ((.tmp 6), _), ((.tmp 8), _)] (Tree_PutS_con (k := k) hx4 100 101) (toFn_func (cf 42 rfl) rfl) (gd1 rfl rfl rfl (rfl)) ⟨rfl, rfl, rfl, trivial⟩ ⟨rfl, rfl, trivial⟩ rfl rfl rfl rfl rfl rfl ?_
        refine K.un (V := .bool (!x4.1)) (gd1 rfl rfl rfl (rfl)) rfl (fun _ => rfl) rfl ?_
        refine K.pickF (gd0 rfl) rfl (rfl) rfl rfl ?_
        refine K.move (.inl rfl) (gd0 rfl) rfl rfl ?_
        refine K.move (.inl rfl) (gd1 rfl rfl rfl (h1)) rfl rfl ?_
        refine K.build Y [(0, _)] [_, _] [(_, _)] (gd1 rfl rfl rfl (h1)) (AllE.spec ⟨rfl, trivial⟩) rfl rfl t68 rfl rfl ?_
        refine K.callR [(.func 44, _), ((.tmp 14), _)] (shelf_Of_con (k := k) hx5) (toFn_func (cf 44 rfl) rfl) (gd1 rfl rfl rfl (h1)) ⟨rfl, rfl, trivial⟩ trivial rfl rfl rfl ?_
        refine K.call0 [(.func 42, _), ((.tmp 13), _), ((.tmp 15), _)] (Tree_PutS_con (k := k) hx6 100 101) (toFn_func (cf 42 rfl) rfl) (gd1 rfl rfl rfl (h1)) ⟨rfl, rfl, rfl, trivial⟩ ⟨rfl, rfl, trivial⟩ rfl rfl rfl rfl rfl rfl ?_
        refine K.un (V := .bool (!x6.1)) (gd1 rfl rfl rfl (h1)) rfl (fun _ => rfl) rfl ?_
        refine K.pickF (gd0 rfl) rfl (h1) rfl rfl ?_
        refine K.move (.inl rfl) (gd0 rfl) rfl rfl ?_
        refine K.move (.inl rfl) (gd1 rfl rfl rfl (h3)) rfl rfl ?_
        refine K.build Y [(0, _)] [_, _] [(_, _)] (gd1 rfl rfl rfl (h3)) (AllE.spec ⟨rfl, trivial⟩) rfl rfl t68 rfl rfl ?_
        refine K.callR [(.func 44, _), ((.tmp 21), _)] (shelf_Of_con (k := k) hx7) (toFn_func (cf 44 rfl) rfl) (gd1 rfl rfl rfl (h3)) ⟨rfl, rfl, trivial⟩ trivial rfl rfl rfl ?_
        refine K.call0 [(.func 42, _), ((.tmp 20), _), ((.tmp 22), _)] (Tree_PutS_con (k := k) hx8 100 101) (toFn_func (cf 42 rfl) rfl) (gd1 rfl rfl rfl (h3)) ⟨rfl, rfl, rfl, trivial⟩ ⟨rfl, rfl, trivial⟩ rfl rfl rfl rfl rfl rfl ?_
        refine K.un (V := .bool (!x8.1)) (gd1 rfl rfl rfl (h3)) rfl (fun _ => rfl) rfl ?_
        refine K.pickF (gd0 rfl) rfl (h3) rfl rfl ?_
        refine K.nil ?_
        refine At.next ?_
        refine G.cond rfl (fun h5 => ?_) (fun h5 => ?_)
        ·
          replace H1 := bif_t H1 h5
          refine G.seq ?_
          refine G.rg ?_
          refine K.move (.inr rfl) (gd0 rfl) rfl rfl ?_
          refine K.nil ?_
          refine At.next ?_
          refine G.ret ?_
          refine At.over_ret ?_
          cases H1
          replace H0 := sum_l H0
          refine At.done Y [(.tmp 0, .c _)] rfl ⟨.tmp rfl, trivial⟩ (to' := []) trivial ?_ ?_ rfl rfl rfl (.inl rfl)
          · cases H0; rfl
          · cases H0; rfl
        ·
          replace H1 := bif_f H1 h5
          refine G.skip ?_
          exact At.joined (σ := { v : Pool (TNode TSlot TSize) × Int × Int // x2 = Sum.inr v }) (Fs := fun q => [(1, .a (.c (.p 102 0)))]) (Tl := fun q => [(103, plS 103 q.1.1), (102, blk 102 [.p 103 0, .v (.int .i64 q.1.2.1), .v (.int .i64 q.1.2.2)] 122)]) ⟨(x8.2.2, x8.2.1.index, x8.2.1.gen), (Option.some.inj H1).symm⟩ [(102, 100), (103, 101)] [_, _] rfl ⟨rfl, trivial⟩ ⟨rfl, (pl_ren rfl), rfl, (blk_ren rfl rfl), trivial⟩ rfl
  ·
    rintro ⟨v2, rfl⟩
    replace H0 := sum_r H0
    show G _ _ [(1, .a (.c (.p 102 0)))] [(103, some (plS 103 v2.1)), (102, some (blk 102 [.p 103 0, .v (.int .i64 v2.2.1), .v (.int .i64 v2.2.2)] 122))] _ _
    refine G.seq ?_
    obtain ⟨x9, hx9, H0⟩ := bnd H0
    rcases Bool.eq_false_or_eq_true (x9 == 2) with h6 | h6
    ·
      replace H0 := bif_t H0 h6
      obtain ⟨x10, hx10, H0⟩ := bnd H0
      rcases Bool.eq_false_or_eq_true (x10 == 1) with h7 | h7
      ·
        replace H0 := bif_t H0 h7
        obtain ⟨x11, hx11, H0⟩ := bnd H0
        refine G.rg ?_
        refine K.move (.inl rfl) (gd0 rfl) rfl rfl ?_
        refine K.build Y [(0, _)] [_, _] [(_, _)] (gd0 rfl) (AllE.spec ⟨rfl, trivial⟩) rfl rfl t68 rfl rfl ?_
        refine K.callR [(.func 57, _), ((.tmp 26), _), ((.tmp 27), _)] (shelf_Above_con (k := k) hx9 102 103) (toFn_func (cf 57 rfl) rfl) (gd0 rfl) ⟨rfl, rfl, rfl, trivial⟩ ⟨rfl, rfl, trivial⟩ rfl rfl rfl ?_
        refine K.bin (V := .bool (x9 == 2)) (gd0 rfl) rfl rfl (fun _ => rfl) rfl ?_
        refine K.move (.inl rfl) (gd0 rfl) rfl rfl ?_
        refine K.move (.inl rfl) (gd1 rfl rfl rfl (h6)) rfl rfl ?_
        refine K.build Y [(0, _)] [_, _] [(_, _)] (gd1 rfl rfl rfl (h6)) (AllE.spec ⟨rfl, trivial⟩) rfl rfl t68 rfl rfl ?_
        refine K.callR [(.func 57, _), ((.tmp 31), _), ((.tmp 32), _)] (shelf_Above_con (k := k) hx10 102 103) (toFn_func (cf 57 rfl) rfl) (gd1 rfl rfl rfl (h6)) ⟨rfl, rfl, rfl, trivial⟩ ⟨rfl, rfl, trivial⟩ rfl rfl rfl ?_
        refine K.bin (V := .bool (x10 == 1)) (gd1 rfl rfl rfl (h6)) rfl rfl (fun _ => rfl) rfl ?_
        refine K.pickT (gd0 rfl) rfl (h6) rfl rfl ?_
        refine K.move (.inl rfl) (gd0 rfl) rfl rfl ?_
        refine K.move (.inl rfl) (gd1 rfl rfl rfl (h7)) rfl rfl ?_
        refine K.callR [(.func 55, _), ((.tmp 37), _), (_, _), (_, _)] (Tree_BetweenS_con (k := k) hx11 102 103) (toFn_func (cf 55 rfl) rfl) (gd1 rfl rfl rfl (h7)) ⟨rfl, rfl, rfl, rfl, trivial⟩ ⟨rfl, rfl, trivial⟩ rfl rfl rfl ?_
        refine K.bin (V := .bool (x11 == 3)) (gd1 rfl rfl rfl (h7)) rfl rfl (fun _ => rfl) rfl ?_
        refine K.pickT (gd0 rfl) rfl (h7) rfl rfl ?_
        refine K.move (.inr rfl) (gd0 rfl) rfl rfl ?_
        refine K.nil ?_
        refine At.next ?_
        refine G.ret ?_
        refine At.done Y [(.tmp 0, .c _)] rfl ⟨.tmp rfl, trivial⟩ (to' := []) trivial ?_ ?_ rfl rfl rfl (.inl rfl)
        · cases H0; rfl
        · cases H0; rfl
      ·
        replace H0 := bif_f H0 h7
        refine G.rg ?_
        refine K.move (.inl rfl) (gd0 rfl) rfl rfl ?_
        refine K.build Y [(0, _)] [_, _] [(_, _)] (gd0 rfl) (AllE.spec ⟨rfl, trivial⟩) rfl rfl t68 rfl rfl ?_
        refine K.callR [(.func 57, _), ((.tmp 26), _), ((.tmp 27), _)] (shelf_Above_con (k := k) hx9 102 103) (toFn_func (cf 57 rfl) rfl) (gd0 rfl) ⟨rfl, rfl, rfl, trivial⟩ ⟨rfl, rfl, trivial⟩ rfl rfl rfl ?_
        refine K.bin (V := .bool (x9 == 2)) (gd0 rfl) rfl rfl (fun _ => rfl) rfl ?_
        refine K.move (.inl rfl) (gd0 rfl) rfl rfl ?_
        refine K.move (.inl rfl) (gd1 rfl rfl rfl (h6)) rfl rfl ?_
        refine K.build Y [(0, _)] [_, _] [(_, _)] (gd1 rfl rfl rfl (h6)) (AllE.spec ⟨rfl, trivial⟩) rfl rfl t68 rfl rfl ?_
        refine K.callR [(.func 57, _), ((.tmp 31), _), ((.tmp 32), _)] (shelf_Above_con (k := k) hx10 102 103) (toFn_func (cf 57 rfl) rfl) (gd1 rfl rfl rfl (h6)) ⟨rfl, rfl, rfl, trivial⟩ ⟨rfl, rfl, trivial⟩ rfl rfl rfl ?_
        refine K.bin (V := .bool (x10 == 1)) (gd1 rfl rfl rfl (h6)) rfl rfl (fun _ => rfl) rfl ?_
        refine K.pickT (gd0 rfl) rfl (h6) rfl rfl ?_
        refine K.move (.inl rfl) (gd0 rfl) rfl rfl ?_
        refine K.skip rfl rfl rfl rfl (h7) rfl ?_
        refine K.skip rfl rfl rfl rfl (h7) rfl ?_
        refine K.skip rfl rfl rfl rfl (h7) rfl ?_
        refine K.pickF (gd0 rfl) rfl (h7) rfl rfl ?_
        refine K.move (.inr rfl) (gd0 rfl) rfl rfl ?_
        refine K.nil ?_
        refine At.next ?_
        refine G.ret ?_
        refine At.done Y [(.tmp 0, .c _)] rfl ⟨.tmp rfl, trivial⟩ (to' := []) trivial ?_ ?_ rfl rfl rfl (.inl rfl)
        · cases H0; rfl
        · cases H0; rfl
    ·
      replace H0 := bif_f H0 h6
      refine G.rg ?_
      refine K.move (.inl rfl) (gd0 rfl) rfl rfl ?_
      refine K.build Y [(0, _)] [_, _] [(_, _)] (gd0 rfl) (AllE.spec ⟨rfl, trivial⟩) rfl rfl t68 rfl rfl ?_
      refine K.callR [(.func 57, _), ((.tmp 26), _), ((.tmp 27), _)] (shelf_Above_con (k := k) hx9 102 103) (toFn_func (cf 57 rfl) rfl) (gd0 rfl) ⟨rfl, rfl, rfl, trivial⟩ ⟨rfl, rfl, trivial⟩ rfl rfl rfl ?_
      refine K.bin (V := .bool (x9 == 2)) (gd0 rfl) rfl rfl (fun _ => rfl) rfl ?_
      refine K.move (.inl rfl) (gd0 rfl) rfl rfl ?_
      refine K.skip rfl rfl rfl rfl (h6) rfl ?_
      refine K.skip rfl rfl rfl rfl (h6) rfl ?_
      refine K.skip rfl rfl rfl rfl (h6) rfl ?_
      refine K.skip rfl rfl rfl rfl (h6) rfl ?_
      refine K.pickF (gd0 rfl) rfl (h6) rfl rfl ?_
      refine K.move (.inl rfl) (gd0 rfl) rfl rfl ?_
      refine K.skip rfl rfl rfl rfl (rfl) rfl ?_
      refine K.skip rfl rfl rfl rfl (rfl) rfl ?_
      refine K.skip rfl rfl rfl rfl (rfl) rfl ?_
      refine K.pickF (gd0 rfl) rfl (rfl) rfl rfl ?_
      refine K.move (.inr rfl) (gd0 rfl) rfl rfl ?_
      refine K.nil ?_
      refine At.next ?_
      refine G.ret ?_
      refine At.done Y [(.tmp 0, .c _)] rfl ⟨.tmp rfl, trivial⟩ (to' := []) trivial ?_ ?_ rfl rfl rfl (.inl rfl)
      · cases H0; rfl
      · cases H0; rfl
theorem Lw09_awake_con {k : Nat}  {r : Bool}  (H0 : Lw09_awake.f k = some r) : SCon Try.prog 40 [] [] (.a (.c (.v (.bool r)))) [] [] :=
  SCon.ren (rn []) (Lw09_awake_con0 (k := k)   H0) trivial trivial (by simp) (by simp)
theorem R02_Ahead_con0 {k : Nat}  {a0 : TItem} {a1 : TItem} {r : Bool}  (H0 : R02_Ahead.f k a0 a1 = some r) : SCon Try.prog 46 [.a (.agg ((eTItem a0).map .v)), .a (.agg ((eTItem a1).map .v))] [] (.a (.c (.v (.bool r)))) [] [] := by
  rw [R02_Ahead.f] at H0
  refine spec_of [(0, _), (1, _)] [] 24 Try.func46 rfl Try.ntmps46 rfl rfl rfl rfl (fun β W F => ?_)
  refine G.seq ?_
  refine G.rg ?_
  refine K.box Y 100 [_, _] (gd0 rfl) rfl rfl rfl rfl rfl rfl ?_
  refine K.box Y 101 [_, _] (gd0 rfl) rfl rfl rfl rfl rfl rfl ?_
  refine K.move (.inr rfl) (gd0 rfl) rfl rfl ?_
  refine K.nil ?_
  refine At.next ?_
  refine G.seq ?_
  rcases Bool.eq_false_or_eq_true (decide (a0.key < a1.key)) with h1 | h1
  ·
    replace H0 := bif_t H0 h1
    refine G.rg ?_
    refine K.fieldAddr Y (gd0 rfl) rfl t68 rfl rfl ?_
    refine K.load1 Y (gd0 rfl) rfl rfl t3 rfl rfl ?_
    refine K.fieldAddr Y (gd0 rfl) rfl t68 rfl rfl ?_
    refine K.load1 Y (gd0 rfl) rfl rfl t3 rfl rfl ?_
    refine K.bin (V := .bool (decide (a0.key < a1.key))) (gd0 rfl) rfl rfl (fun _ => rfl) rfl ?_
    refine K.move (.inl rfl) (gd0 rfl) rfl rfl ?_
    refine K.skip rfl rfl rfl rfl (h1) rfl ?_
    refine K.skip rfl rfl rfl rfl (h1) rfl ?_
    refine K.skip rfl rfl rfl rfl (h1) rfl ?_
    refine K.skip rfl rfl rfl rfl (h1) rfl ?_
    refine K.skip rfl rfl rfl rfl (h1) rfl ?_
    refine K.skip rfl rfl rfl rfl (h1) rfl ?_
    refine K.skipU rfl rfl rfl rfl rfl ?_
    refine K.skipU rfl rfl rfl rfl rfl ?_
    refine K.skipU rfl rfl rfl rfl rfl ?_
    refine K.skipU rfl rfl rfl rfl rfl ?_
    refine K.skipU rfl rfl rfl rfl rfl ?_
    refine K.skip rfl rfl rfl rfl (h1) rfl ?_
    refine K.pickT (gd0 rfl) rfl (h1) rfl rfl ?_
    refine K.move (.inr rfl) (gd0 rfl) rfl rfl ?_
    refine K.nil ?_
    refine At.next ?_
    refine G.ret ?_
    refine At.done Y [(.tmp 4, .c _)] rfl ⟨.tmp rfl, trivial⟩ (to' := []) trivial ?_ ?_ rfl rfl rfl (.inl rfl)
    · cases H0; rfl
    · cases H0; rfl
  ·
    replace H0 := bif_f H0 h1
    rcases Bool.eq_false_or_eq_true (a0.key == a1.key) with h2 | h2
    ·
      replace H0 := bif_t H0 h2
      refine G.rg ?_
      refine K.fieldAddr Y (gd0 rfl) rfl t68 rfl rfl ?_
      refine K.load1 Y (gd0 rfl) rfl rfl t3 rfl rfl ?_
      refine K.fieldAddr Y (gd0 rfl) rfl t68 rfl rfl ?_
      refine K.load1 Y (gd0 rfl) rfl rfl t3 rfl rfl ?_
      refine K.bin (V := .bool (decide (a0.key < a1.key))) (gd0 rfl) rfl rfl (fun _ => rfl) rfl ?_
      refine K.move (.inl rfl) (gd0 rfl) rfl rfl ?_
      refine K.fieldAddr Y (gd1 rfl rfl rfl (h1)) rfl t68 rfl rfl ?_
      refine K.load1 Y (gd1 rfl rfl rfl (h1)) rfl rfl t3 rfl rfl ?_
      refine K.fieldAddr Y (gd1 rfl rfl rfl (h1)) rfl t68 rfl rfl ?_
      refine K.load1 Y (gd1 rfl rfl rfl (h1)) rfl rfl t3 rfl rfl ?_
      refine K.bin (V := .bool (a0.key == a1.key)) (gd1 rfl rfl rfl (h1)) rfl rfl (fun _ => rfl) rfl ?_
      refine K.move (.inl rfl) (gd1 rfl rfl rfl (h1)) rfl rfl ?_
      refine K.fieldAddr Y (gd1 rfl rfl rfl (h2)) rfl t68 rfl rfl ?_
      refine K.load1 Y (gd1 rfl rfl rfl (h2)) rfl rfl t3 rfl rfl ?_
      refine K.fieldAddr Y (gd1 rfl rfl rfl (h2)) rfl t68 rfl rfl ?_
      refine K.load1 Y (gd1 rfl rfl rfl (h2)) rfl rfl t3 rfl rfl ?_
      refine K.bin (V := .bool (decide (a0.id < a1.id))) (gd1 rfl rfl rfl (h2)) rfl rfl (fun _ => rfl) rfl ?_
      refine K.pickT (gd1 rfl rfl rfl (h1)) rfl (h2) rfl rfl ?_
      refine K.pickF (gd0 rfl) rfl (h1) rfl rfl ?_
      refine K.move (.inr rfl) (gd0 rfl) rfl rfl ?_
      refine K.nil ?_
      refine At.next ?_
      refine G.ret ?_
      refine At.done Y [(.tmp 4, .c _)] rfl ⟨.tmp rfl, trivial⟩ (to' := []) trivial ?_ ?_ rfl rfl rfl (.inl rfl)
      · cases H0; rfl
      · cases H0; rfl
    ·
      replace H0 := bif_f H0 h2
      refine G.rg ?_
      refine K.fieldAddr Y (gd0 rfl) rfl t68 rfl rfl ?_
      refine K.load1 Y (gd0 rfl) rfl rfl t3 rfl rfl ?_
      refine K.fieldAddr Y (gd0 rfl) rfl t68 rfl rfl ?_
      refine K.load1 Y (gd0 rfl) rfl rfl t3 rfl rfl ?_
      refine K.bin (V := .bool (decide (a0.key < a1.key))) (gd0 rfl) rfl rfl (fun _ => rfl) rfl ?_
      refine K.move (.inl rfl) (gd0 rfl) rfl rfl ?_
      refine K.fieldAddr Y (gd1 rfl rfl rfl (h1)) rfl t68 rfl rfl ?_
      refine K.load1 Y (gd1 rfl rfl rfl (h1)) rfl rfl t3 rfl rfl ?_
      refine K.fieldAddr Y (gd1 rfl rfl rfl (h1)) rfl t68 rfl rfl ?_
      refine K.load1 Y (gd1 rfl rfl rfl (h1)) rfl rfl t3 rfl rfl ?_
      refine K.bin (V := .bool (a0.key == a1.key)) (gd1 rfl rfl rfl (h1)) rfl rfl (fun _ => rfl) rfl ?_
      refine K.move (.inl rfl) (gd1 rfl rfl rfl (h1)) rfl rfl ?_
      refine K.skip rfl rfl rfl rfl (h2) rfl ?_
      refine K.skip rfl rfl rfl rfl (h2) rfl ?_
      refine K.skip rfl rfl rfl rfl (h2) rfl ?_
      refine K.skip rfl rfl rfl rfl (h2) rfl ?_
      refine K.skip rfl rfl rfl rfl (h2) rfl ?_
      refine K.pickF (gd1 rfl rfl rfl (h1)) rfl (h2) rfl rfl ?_
      refine K.pickF (gd0 rfl) rfl (h1) rfl rfl ?_
      refine K.move (.inr rfl) (gd0 rfl) rfl rfl ?_
      refine K.nil ?_
      refine At.next ?_
      refine G.ret ?_
      refine At.done Y [(.tmp 4, .c _)] rfl ⟨.tmp rfl, trivial⟩ (to' := []) trivial ?_ ?_ rfl rfl rfl (.inl rfl)
      · cases H0; rfl
      · cases H0; rfl
theorem R02_Ahead_con {k : Nat}  {a0 : TItem} {a1 : TItem} {r : Bool}  (H0 : R02_Ahead.f k a0 a1 = some r) : SCon Try.prog 46 [.a (.agg ((eTItem a0).map .v)), .a (.agg ((eTItem a1).map .v))] [] (.a (.c (.v (.bool r)))) [] [] :=
  SCon.ren (rn []) (R02_Ahead_con0 (k := k)   H0) trivial trivial (by simp) (by simp)
theorem R09_At_con0 {k : Nat}  {S : Foot} {W0 : World} {s0 : Value} {l0 : List TItem} {a1 : TItem} {r : Int} (hL0 : LArg S W0 s0 eTItem 2 l0) (H0 : R09_At.f k l0 a1 = some r) : SCon Try.prog 50 [SV.raw s0, .a (.agg ((eTItem a1).map .v))] [(0, rd S W0)] (.a (.c (.v (.int .i64 r)))) [(0, rd S W0)] [] := by
  rw [R09_At.f] at H0
  obtain ⟨b0, o0, hI0⟩ := hL0
  refine spec_of [(0, _), (1, _)] [(0, _)] 19 Try.func50 rfl Try.ntmps50 rfl rfl rfl rfl (fun β W F => ?_)
  refine G.seq ?_
  refine G.rg ?_
  refine K.box Y 100 [_, _] (gd0 rfl) rfl rfl rfl rfl rfl rfl ?_
  refine K.move (.inr rfl) (gd0 rfl) rfl rfl ?_
  refine K.nil ?_
  refine At.next ?_
  obtain ⟨x1, H1, H0⟩ := bnd H0
  refine G.seqJ (σ := { v : Unit // x1 = Sum.inr v }) (fun q => []) (fun q => [(0, rd S W0)]) ?_ ?_
  ·
    refine G.seq ?_
    refine G.rg ?_
    refine K.move (.inr rfl) (gd0 rfl) rfl rfl ?_
    refine K.nil ?_
    refine At.next ?_
    refine G.block ?_
    refine G.loop (σ := { q : Nat × (Int) // R09_At.l0 k l0 a1 q.1 q.2 = some x1 }) (fun q => [(0, SV.raw s0), (3, .a (.c (.p 103 0))), (5, .a (.c (.v (.int .i64 q.1.2))))]) (fun q => [(0, rd S W0), (103, blk 103 [.v (.int .i64 a1.key), .v (.int .i64 a1.id)] 68)]) (fun q => q.1.1) ⟨(k, 0), H1⟩ ?_ ?_
    · exact At.into [(103, 100)] [_, _] rfl ⟨rfl, rfl, rfl, trivial⟩ ⟨rfl, (fun _ => rfl), rfl, (blk_ren rfl rfl), trivial⟩ rfl
    ·
      rintro ⟨⟨n0, v1⟩, H1⟩
      show G _ _ [(0, SV.raw s0), (3, .a (.c (.p 103 0))), (5, .a (.c (.v (.int .i64 v1))))] [(0, some (rd S W0)), (103, some (blk 103 [.v (.int .i64 a1.key), .v (.int .i64 a1.id)] 68))] _ _
      cases n0 with
      | zero => exact absurd H1 (by simp [R09_At.l0])
      | succ n0 =>
        have HL0 := H1
        rw [R09_At.l0] at H1
        refine G.seq ?_
        refine G.seq ?_
        refine G.rg ?_
        refine K.move (.inl rfl) (gd0 rfl) rfl rfl ?_
        refine K.move (.inl rfl) (gd0 rfl) rfl rfl ?_
        refine K.lenL (rV 0 S W0 s0 b0 o0 eTItem 2 l0) (hI0.is 0) (gd0 rfl) rfl rfl Try.underlying86 rfl ?_
        refine K.bin (V := .bool (decide (v1 < (l0.length : Int)))) (gd0 rfl) rfl rfl (fun _ => rfl) rfl ?_
        refine K.nil ?_
        refine At.next ?_
        refine G.cond rfl (fun h1 => ?_) (fun h1 => ?_)
        ·
          replace H1 := bif_t H1 h1
          refine G.skip ?_
          refine At.next ?_
          refine G.seq ?_
          refine G.block ?_
          refine G.seq ?_
          obtain ⟨x2, hx2, H1⟩ := bnd H1
          refine G.rd mixed ?_
          refine K.move (.inl rfl) (gd0 rfl) rfl rfl ?_
          refine K.move (.inl rfl) (gd0 rfl) rfl rfl ?_
          refine K.idxL (rV 0 S W0 s0 b0 o0 eTItem 2 l0) ((v1).toNat) (hI0.is 0) (atL_get hx2) (atL_nn hx2) (gd0 rfl) rfl rfl rfl Try.underlying86 el86.size_run rfl ?_
          refine K.loadSL Y (rV 0 S W0 s0 b0 o0 eTItem 2 l0) ((v1).toNat) 0 [_, _] [_, _] (hI0.is 0) (atL_get hx2) (gd0 rfl) rfl rfl t68 rfl rfl rfl rfl rfl ?_
          refine K.loadS Y [_, _] (gd0 rfl) rfl rfl t68 rfl rfl rfl ?_
          refine K.eqS [_, _] [_, _] (gd0 rfl) rfl rfl cmp68 rfl (.inl rfl) ((x2.key == a1.key) && ((x2.id == a1.id) && true)) rfl rfl ?_
          refine K.nil ?_
          refine ⟨by kernel_rfl, ?_⟩
          refine At.next ?_
          refine G.cond rfl (fun h2 => ?_) (fun h2 => ?_)
          ·
            replace H1 := bif_t H1 h2
            refine G.seq ?_
            refine G.rg ?_
            refine K.move (.inl rfl) (gd0 rfl) rfl rfl ?_
            refine K.move (.inr rfl) (gd0 rfl) rfl rfl ?_
            refine K.nil ?_
            refine At.next ?_
            refine G.ret ?_
            refine At.block_ret ?_
            refine At.over_ret ?_
            refine At.over_ret ?_
            refine At.block_ret ?_
            refine At.over_ret ?_
            cases H1
            replace H0 := sum_l H0
            refine At.done Y [(.tmp 4, .c _)] rfl ⟨.tmp rfl, trivial⟩ (to' := [(0, _)]) ⟨rfl, trivial⟩ ?_ ?_ rfl rfl rfl (.inl rfl)
            · cases H0; rfl
            · cases H0; rfl
          ·
            replace H1 := bif_f H1 h2
            refine G.skip ?_
            refine At.block_normal ?_
            refine At.next ?_
            refine G.rg ?_
            refine K.move (.inl rfl) (gd0 rfl) rfl rfl ?_
            refine K.bin (V := .int .i64 (w64 (v1 + 1))) (gd0 rfl) rfl rfl (fun _ => rfl) rfl ?_
            refine K.move (.inr rfl) (gd0 rfl) rfl rfl ?_
            refine K.nil ?_
            exact At.again (σ := { q : Nat × (Int) // R09_At.l0 k l0 a1 q.1 q.2 = some x1 }) (Fs := fun q => [(0, SV.raw s0), (3, .a (.c (.p 103 0))), (5, .a (.c (.v (.int .i64 q.1.2))))]) (Tl := fun q => [(0, rd S W0), (103, blk 103 [.v (.int .i64 a1.key), .v (.int .i64 a1.id)] 68)]) (μ := fun q => q.1.1) (s := ⟨(n0 + 1, v1), HL0⟩) ⟨(n0, (w64 (v1 + 1))), H1⟩ [] [_, _] (Nat.lt_succ_self _) rfl ⟨rfl, rfl, rfl, trivial⟩ ⟨rfl, (fun _ => rfl), rfl, (blk_ren rfl rfl), trivial⟩ rfl
        ·
          replace H1 := bif_f H1 h1
          refine G.exit ?_
          refine At.over_exit ?_
          refine At.over_exit ?_
          refine At.block_hit ?_
          exact At.joined (σ := { v : Unit // x1 = Sum.inr v }) (Fs := fun q => []) (Tl := fun q => [(0, rd S W0)]) ⟨(), (Option.some.inj H1).symm⟩ [] [_] rfl trivial ⟨rfl, (fun _ => rfl), trivial⟩ rfl
  ·
    rintro ⟨v1, rfl⟩
    replace H0 := sum_r H0
    show G _ _ [] [(0, some (rd S W0))] _ _
    refine G.seq ?_
    refine G.rg ?_
    refine K.move (.inr rfl) (gd0 rfl) rfl rfl ?_
    refine K.nil ?_
    refine At.next ?_
    refine G.ret ?_
    refine At.done Y [(.tmp 4, .c _)] rfl ⟨.tmp rfl, trivial⟩ (to' := [(0, _)]) ⟨rfl, trivial⟩ ?_ ?_ rfl rfl rfl (.inl rfl)
    · cases H0; rfl
    · cases H0; rfl
theorem R09_At_con {k : Nat}  {S : Foot} {W0 : World} {s0 : Value} {l0 : List TItem} {a1 : TItem} {r : Int} (hL0 : LArg S W0 s0 eTItem 2 l0) (H0 : R09_At.f k l0 a1 = some r) : SCon Try.prog 50 [SV.raw s0, .a (.agg ((eTItem a1).map .v))] [(0, rd S W0)] (.a (.c (.v (.int .i64 r)))) [(0, rd S W0)] [] :=
  SCon.ren (rn []) (R09_At_con0 (k := k)  hL0 H0) ⟨(fun _ => rfl), trivial⟩ ⟨(fun _ => rfl), trivial⟩ (by simp) (by simp)
theorem R09_Drop_o0_con0 {k : Nat}  {l0 : List TItem} {a1 : TItem} {r : List TItem}  (H0 : R09_Drop.f k l0 a1 = some r) : SCon Try.prog 51 [.a (.c (.nv 0)), .a (.agg ((eTItem a1).map .v))] [(0, lrow 0 68 eTItem 2 l0)] (.a (.c (.nv 30))) [(30, lrow 30 68 eTItem 2 r)] [30] := by
  rw [R09_Drop.f] at H0
  refine spec_of [(0, _), (1, _)] [(0, _)] 24 Try.func51 rfl Try.ntmps51 rfl rfl rfl rfl (fun β W F => ?_)
  refine G.seq ?_
  refine G.rg ?_
  refine K.box Y 100 [_, _] (gd0 rfl) rfl rfl rfl rfl rfl rfl ?_
  refine K.nilRow 101 68 eTItem 2 (.inl rfl) (gd0 rfl) rfl rfl rfl ?_
  refine K.nil ?_
  refine At.next ?_
  refine G.seq ?_
  obtain ⟨x1, hx1, H0⟩ := bnd H0
  refine G.rg ?_
  refine K.move (.inl rfl) (gd0 rfl) rfl rfl ?_
  refine K.loadS Y [_, _] (gd0 rfl) rfl rfl t68 rfl rfl rfl ?_
  refine K.callV [(.func 50, _), ((.tmp 7), _), ((.tmp 8), _)] [(0, lrow 0 68 eTItem 2 l0)] [] [] (fun β => [SV.raw ((lrowV 0 68 eTItem 2 l0).s.den β), .a (.agg ((eTItem a1).map .v))]) (fun β w S2 h => R09_At_con (k := k) ((lrowV_isC eTItem_len (by decide)).larg ⟨_, List.mem_cons_self⟩ h) hx1) (toFn_func (cf 50 rfl) rfl) (gd0 rfl) ⟨rfl, rfl, rfl, trivial⟩ (fun _ => rfl) ⟨rfl, trivial⟩ rfl rfl rfl rfl rfl rfl ?_
  refine K.move (.inr rfl) (gd0 rfl) rfl rfl ?_
  refine K.nil ?_
  refine At.next ?_
  refine G.seq ?_
  refine G.seq ?_
  refine G.rg ?_
  refine K.move (.inl rfl) (gd0 rfl) rfl rfl ?_
  refine K.bin (V := .bool (decide (x1 < 0))) (gd0 rfl) rfl rfl (fun _ => rfl) rfl ?_
  refine K.nil ?_
  refine At.next ?_
  refine G.cond rfl (fun h1 => ?_) (fun h1 => ?_)
  ·
    replace H0 := bif_t H0 h1
    refine G.seq ?_
    refine G.rg ?_
    refine K.move (.inl rfl) (gd0 rfl) rfl rfl ?_
    refine K.move (.inr rfl) (gd0 rfl) rfl rfl ?_
    refine K.nil ?_
    refine At.next ?_
    refine G.ret ?_
    refine At.over_ret ?_
    refine At.ren (fs' := [(4, .a (.c (.nv 30)))]) (tl := [(30, lrow 30 68 eTItem 2 l0)]) [(30, 0)] [_] rfl ⟨rfl, trivial⟩ ⟨rfl, (lrow_ren rfl), trivial⟩ rfl ?_
    refine At.done Y [(.tmp 4, .c _)] rfl ⟨.tmp rfl, trivial⟩ (to' := [(30, _)]) ⟨rfl, trivial⟩ ?_ ?_ rfl rfl rfl (.inl rfl)
    · cases H0; rfl
    · cases H0; rfl
  ·
    replace H0 := bif_f H0 h1
    refine G.skip ?_
    refine At.next ?_
    refine G.seq ?_
    refine G.rg ?_
    refine K.nilRow 102 68 eTItem 2 (.inl rfl) (gd0 rfl) rfl rfl rfl ?_
    refine K.nil ?_
    refine At.next ?_
    refine G.seq ?_
    obtain ⟨h2, H0⟩ := grd H0
    obtain ⟨h4, H0⟩ := grd H0
    refine G.rg ?_
    refine K.move (.inl rfl) (gd0 rfl) rfl rfl ?_
    refine K.move (.inl rfl) (gd0 rfl) rfl rfl ?_
    refine K.move (.inl rfl) (gd0 rfl) rfl rfl ?_
    refine K.partL 0 ((x1).toNat) (gd0 rfl) rfl .no (.at_ rfl h2.1 rfl) rfl Try.underlying86 el86.size_run (Nat.zero_le _) (tn_len h2.2) rfl ?_
    refine K.appendL 103 (lsubV 0 68 eTItem 2 l0 0 ((x1).toNat)) _ el86 (lsubV_is eTItem_len (by decide) (Nat.zero_le _) (tn_len h2.2)) eTItem_one (gd0 rfl) rfl rfl rfl rfl rfl (ap_m h4) (ap_b h4 (by decide)) rfl rfl rfl rfl rfl rfl ?_
    refine K.move (.inr rfl) (gd0 rfl) rfl rfl ?_
    refine K.nil ?_
    refine At.next ?_
    refine G.seq ?_
    obtain ⟨h5, H0⟩ := grd H0
    obtain ⟨h7, H0⟩ := grd H0
    refine G.rg ?_
    refine K.move (.inl rfl) (gd0 rfl) rfl rfl ?_
    refine K.move (.inl rfl) (gd0 rfl) rfl rfl ?_
    refine K.move (.inl rfl) (gd0 rfl) rfl rfl ?_
    refine K.bin (V := .int .i64 (w64 (x1 + 1))) (gd0 rfl) rfl rfl (fun _ => rfl) rfl ?_
    refine K.partL (((w64 (x1 + 1))).toNat) l0.length (gd0 rfl) rfl (.at_ rfl h5.1 rfl) .no rfl Try.underlying86 el86.size_run (tn_len h5.2) (Nat.le_refl _) rfl ?_
    refine K.appendL 104 (lsubV 0 68 eTItem 2 l0 (((w64 (x1 + 1))).toNat) l0.length) _ el86 (lsubV_is eTItem_len (by decide) (tn_len h5.2) (Nat.le_refl _)) eTItem_one (gd0 rfl) rfl rfl rfl rfl rfl (ap_m h7) (ap_b h7 (by decide)) rfl rfl rfl rfl rfl rfl ?_
    refine K.move (.inr rfl) (gd0 rfl) rfl rfl ?_
    refine K.nil ?_
    refine At.next ?_
    refine G.ret ?_
    refine At.ren (fs' := [(4, .a (.c (.nv 30)))]) (tl := [(30, lrow 30 68 eTItem 2 ((([] : List TItem) ++ ((l0.drop 0).take (((x1).toNat) - 0))) ++ ((l0.drop (((w64 (x1 + 1))).toNat)).take (l0.length - (((w64 (x1 + 1))).toNat)))))]) [(30, 104)] [_] rfl ⟨rfl, trivial⟩ ⟨rfl, (lrow_ren rfl), trivial⟩ rfl ?_
    refine At.done Y [(.tmp 4, .c _)] rfl ⟨.tmp rfl, trivial⟩ (to' := [(30, _)]) ⟨rfl, trivial⟩ ?_ ?_ rfl rfl rfl (.inl rfl)
    · cases H0; rfl
    · cases H0; rfl
theorem R09_Drop_o0_con {k : Nat}  {l0 : List TItem} {a1 : TItem} {r : List TItem}  (H0 : R09_Drop.f k l0 a1 = some r) (m0 m30 : Nat) (hd : ndB [m0, m30] = true) : SCon Try.prog 51 [.a (.c (.nv m0)), .a (.agg ((eTItem a1).map .v))] [(m0, lrow m0 68 eTItem 2 l0)] (.a (.c (.nv m30))) [(m30, lrow m30 68 eTItem 2 r)] [m30] :=
  SCon.ren (rn [(0, m0), (30, m30)]) (R09_Drop_o0_con0 (k := k)   H0) ⟨(lrow_ren rfl), trivial⟩ ⟨(lrow_ren rfl), trivial⟩ (rn_nd hd rfl rfl) (rn_ks hd rfl rfl rfl)
theorem R02_Sorted_con0 {k : Nat}  {S : Foot} {W0 : World} {s0 : Value} {l0 : List TItem} {r : List TItem} (hL0 : LArg S W0 s0 eTItem 2 l0) (H0 : R02_Sorted.f k l0 = some r) : SCon Try.prog 79 [SV.raw s0] [(0, rd S W0)] (.a (.c (.nv 30))) [(0, rd S W0), (30, lrow 30 68 eTItem 2 r)] [30] := by
  rw [R02_Sorted.f] at H0
  obtain ⟨b0, o0, hI0⟩ := hL0
  refine spec_of [(0, _)] [(0, _)] 49 Try.func79 rfl Try.ntmps79 rfl rfl rfl rfl (fun β W F => ?_)
  refine G.seq ?_
  refine G.rg ?_
  refine K.nilRow 100 68 eTItem 2 (.inl rfl) (gd0 rfl) rfl rfl rfl ?_
  refine K.nil ?_
  refine At.next ?_
  refine G.seq ?_
  refine G.rg ?_
  refine K.nilRow 101 68 eTItem 2 (.inl rfl) (gd0 rfl) rfl rfl rfl ?_
  refine K.nil ?_
  refine At.next ?_
  obtain ⟨x1, H1, H0⟩ := bnd H0
  refine G.seqJ (σ := { v : List TItem // x1 = v }) (fun q => [(3, .a (.c (.nv 102)))]) (fun q => [(0, rd S W0), (102, lrow 102 68 eTItem 2 q.1)]) ?_ ?_
  ·
    refine G.seq ?_
    refine G.rg ?_
    refine K.move (.inr rfl) (gd0 rfl) rfl rfl ?_
    refine K.nil ?_
    refine At.next ?_
    refine G.block ?_
    refine G.loop (σ := { q : Nat × (List TItem × Int) // R02_Sorted.l0 k l0 q.1 q.2 = some x1 }) (fun q => [(0, SV.raw s0), (3, .a (.c (.nv 105))), (4, .a (.c (.v (.int .i64 q.1.2.2))))]) (fun q => [(0, rd S W0), (105, lrow 105 68 eTItem 2 q.1.2.1)]) (fun q => q.1.1) ⟨(k, (([] : List TItem), 0)), H1⟩ ?_ ?_
    · exact At.into [(105, 101)] [_, _] rfl ⟨rfl, rfl, rfl, trivial⟩ ⟨rfl, (fun _ => rfl), rfl, (lrow_ren rfl), trivial⟩ rfl
    ·
      rintro ⟨⟨n0, v1, v2⟩, H1⟩
      show G _ _ [(0, SV.raw s0), (3, .a (.c (.nv 105))), (4, .a (.c (.v (.int .i64 v2))))] [(0, some (rd S W0)), (105, some (lrow 105 68 eTItem 2 v1))] _ _
      cases n0 with
      | zero => exact absurd H1 (by simp [R02_Sorted.l0])
      | succ n0 =>
        have HL0 := H1
        rw [R02_Sorted.l0] at H1
        refine G.seq ?_
        refine G.seq ?_
        refine G.rg ?_
        refine K.move (.inl rfl) (gd0 rfl) rfl rfl ?_
        refine K.move (.inl rfl) (gd0 rfl) rfl rfl ?_
        refine K.lenL (rV 0 S W0 s0 b0 o0 eTItem 2 l0) (hI0.is 0) (gd0 rfl) rfl rfl Try.underlying86 rfl ?_
        refine K.bin (V := .bool (decide (v2 < (l0.length : Int)))) (gd0 rfl) rfl rfl (fun _ => rfl) rfl ?_
        refine K.nil ?_
        refine At.next ?_
        refine G.cond rfl (fun h1 => ?_) (fun h1 => ?_)
        ·
          replace H1 := bif_t H1 h1
          refine G.skip ?_
          refine At.next ?_
          obtain ⟨x2, H2, H1⟩ := bnd H1
          refine G.seqJ (σ := { v : List TItem // x2 = v }) (fun q => [(0, SV.raw s0), (3, .a (.c (.nv 106))), (4, .a (.c (.v (.int .i64 v2))))]) (fun q => [(0, rd S W0), (106, lrow 106 68 eTItem 2 q.1)]) ?_ ?_
          ·
            refine G.block ?_
            refine G.seq ?_
            refine G.rg ?_
            refine K.move (.inl rfl) (gd0 rfl) rfl rfl ?_
            refine K.lenL (lrowV 105 68 eTItem 2 v1) (lrowV_is eTItem_len (by decide)) (gd0 rfl) rfl rfl Try.underlying86 rfl ?_
            refine K.move (.inr rfl) (gd0 rfl) rfl rfl ?_
            refine K.nil ?_
            refine At.next ?_
            obtain ⟨x3, H3, H2⟩ := bnd H2
            refine G.seqJ (σ := { v : Int // x3 = v }) (fun q => [(0, SV.raw s0), (3, .a (.c (.nv 107))), (4, .a (.c (.v (.int .i64 v2)))), (5, .a (.c (.v (.int .i64 q.1))))]) (fun q => [(0, rd S W0), (107, lrow 107 68 eTItem 2 v1)]) ?_ ?_
            ·
              refine G.block ?_
              refine G.loop (σ := { q : Nat × (Int) // R02_Sorted.l1 k l0 v1 v2 q.1 q.2 = some x3 }) (fun q => [(0, SV.raw s0), (3, .a (.c (.nv 110))), (4, .a (.c (.v (.int .i64 v2)))), (5, .a (.c (.v (.int .i64 q.1.2))))]) (fun q => [(0, rd S W0), (110, lrow 110 68 eTItem 2 v1)]) (fun q => q.1.1) ⟨(k, (v1.length : Int)), H3⟩ ?_ ?_
              · exact At.into [(110, 105)] [_, _] rfl ⟨rfl, rfl, rfl, rfl, trivial⟩ ⟨rfl, (fun _ => rfl), rfl, (lrow_ren rfl), trivial⟩ rfl
              ·
                rintro ⟨⟨n0, v101⟩, H3⟩
                show G _ _ [(0, SV.raw s0), (3, .a (.c (.nv 110))), (4, .a (.c (.v (.int .i64 v2)))), (5, .a (.c (.v (.int .i64 v101))))] [(0, some (rd S W0)), (110, some (lrow 110 68 eTItem 2 v1))] _ _
                cases n0 with
                | zero => exact absurd H3 (by simp [R02_Sorted.l1])
                | succ n0 =>
                  have HL1 := H3
                  rw [R02_Sorted.l1] at H3
                  refine G.seq ?_
                  refine G.seq ?_
                  rcases Bool.eq_false_or_eq_true (decide (v101 > 0)) with h2 | h2
                  ·
                    replace H3 := bif_t H3 h2
                    obtain ⟨x4, hx4, H3⟩ := bnd H3
                    obtain ⟨x5, hx5, H3⟩ := bnd H3
                    obtain ⟨x6, hx6, H3⟩ := bnd H3
                    refine G.rd mixed ?_
                    refine K.move (.inl rfl) (gd0 rfl) rfl rfl ?_
                    refine K.bin (V := .bool (decide (v101 > 0))) (gd0 rfl) rfl rfl (fun _ => rfl) rfl ?_
                    refine K.move (.inl rfl) (gd0 rfl) rfl rfl ?_
                    refine K.move (.inl rfl) (gd1 rfl rfl rfl (h2)) rfl rfl ?_
                    refine K.move (.inl rfl) (gd1 rfl rfl rfl (h2)) rfl rfl ?_
                    refine K.idxL (rV 0 S W0 s0 b0 o0 eTItem 2 l0) ((v2).toNat) (hI0.is 0) (atL_get hx4) (atL_nn hx4) (gd1 rfl rfl rfl (h2)) rfl rfl rfl Try.underlying86 el86.size_run rfl ?_
                    refine K.loadSL Y (rV 0 S W0 s0 b0 o0 eTItem 2 l0) ((v2).toNat) 0 [_, _] [_, _] (hI0.is 0) (atL_get hx4) (gd1 rfl rfl rfl (h2)) rfl rfl t68 rfl rfl rfl rfl rfl ?_
                    refine K.move (.inl rfl) (gd1 rfl rfl rfl (h2)) rfl rfl ?_
                    refine K.move (.inl rfl) (gd1 rfl rfl rfl (h2)) rfl rfl ?_
                    refine K.bin (V := .int .i64 (w64 (v101 - 1))) (gd1 rfl rfl rfl (h2)) rfl rfl (fun _ => rfl) rfl ?_
                    refine K.idxL (lrowV 110 68 eTItem 2 v1) (((w64 (v101 - 1))).toNat) (lrowV_is eTItem_len (by decide)) (atL_get hx5) (atL_nn hx5) (gd1 rfl rfl rfl (h2)) rfl rfl rfl Try.underlying86 el86.size_run rfl ?_
                    refine K.loadSL Y (lrowV 110 68 eTItem 2 v1) (((w64 (v101 - 1))).toNat) 0 [_, _] [_, _] (lrowV_is eTItem_len (by decide)) (atL_get hx5) (gd1 rfl rfl rfl (h2)) rfl rfl t68 rfl rfl rfl rfl rfl ?_
                    refine K.callR [(.func 46, _), ((.tmp 21), _), ((.tmp 26), _)] (R02_Ahead_con (k := k) hx6) (toFn_func (cf 46 rfl) rfl) (gd1 rfl rfl rfl (h2)) ⟨rfl, rfl, rfl, trivial⟩ trivial rfl rfl rfl ?_
                    refine K.pickT (gd0 rfl) rfl (h2) rfl rfl ?_
                    refine K.nil ?_
                    refine ⟨by kernel_rfl, ?_⟩
                    refine At.next ?_
                    refine G.cond rfl (fun h3 => ?_) (fun h3 => ?_)
                    ·
                      replace H3 := bif_t H3 h3
                      refine G.skip ?_
                      refine At.next ?_
                      refine G.block ?_
                      refine G.rg ?_
                      refine K.move (.inl rfl) (gd0 rfl) rfl rfl ?_
                      refine K.bin (V := .int .i64 (w64 (v101 - 1))) (gd0 rfl) rfl rfl (fun _ => rfl) rfl ?_
                      refine K.move (.inr rfl) (gd0 rfl) rfl rfl ?_
                      refine K.nil ?_
                      refine At.block_normal ?_
                      exact At.again (σ := { q : Nat × (Int) // R02_Sorted.l1 k l0 v1 v2 q.1 q.2 = some x3 }) (Fs := fun q => [(0, SV.raw s0), (3, .a (.c (.nv 110))), (4, .a (.c (.v (.int .i64 v2)))), (5, .a (.c (.v (.int .i64 q.1.2))))]) (Tl := fun q => [(0, rd S W0), (110, lrow 110 68 eTItem 2 v1)]) (μ := fun q => q.1.1) (s := ⟨(n0 + 1, v101), HL1⟩) ⟨(n0, (w64 (v101 - 1))), H3⟩ [] [_, _] (Nat.lt_succ_self _) rfl ⟨rfl, rfl, rfl, rfl, trivial⟩ ⟨rfl, (fun _ => rfl), rfl, (lrow_ren rfl), trivial⟩ rfl
                    ·
                      replace H3 := bif_f H3 h3
                      refine G.exit ?_
                      refine At.over_exit ?_
                      refine At.over_exit ?_
                      refine At.block_hit ?_
                      exact At.joined (σ := { v : Int // x3 = v }) (Fs := fun q => [(0, SV.raw s0), (3, .a (.c (.nv 107))), (4, .a (.c (.v (.int .i64 v2)))), (5, .a (.c (.v (.int .i64 q.1))))]) (Tl := fun q => [(0, rd S W0), (107, lrow 107 68 eTItem 2 v1)]) ⟨v101, (Option.some.inj H3).symm⟩ [(107, 110)] [_, _] rfl ⟨rfl, rfl, rfl, rfl, trivial⟩ ⟨rfl, (fun _ => rfl), rfl, (lrow_ren rfl), trivial⟩ rfl
                  ·
                    replace H3 := bif_f H3 h2
                    refine G.rd mixed ?_
                    refine K.move (.inl rfl) (gd0 rfl) rfl rfl ?_
                    refine K.bin (V := .bool (decide (v101 > 0))) (gd0 rfl) rfl rfl (fun _ => rfl) rfl ?_
                    refine K.move (.inl rfl) (gd0 rfl) rfl rfl ?_
                    refine K.skip rfl rfl rfl rfl (h2) rfl ?_
                    refine K.skip rfl rfl rfl rfl (h2) rfl ?_
                    refine K.skip rfl rfl rfl rfl (h2) rfl ?_
                    refine K.skip rfl rfl rfl rfl (h2) rfl ?_
                    refine K.skip rfl rfl rfl rfl (h2) rfl ?_
                    refine K.skip rfl rfl rfl rfl (h2) rfl ?_
                    refine K.skip rfl rfl rfl rfl (h2) rfl ?_
                    refine K.skip rfl rfl rfl rfl (h2) rfl ?_
                    refine K.skip rfl rfl rfl rfl (h2) rfl ?_
                    refine K.skip rfl rfl rfl rfl (h2) rfl ?_
                    refine K.pickF (gd0 rfl) rfl (h2) rfl rfl ?_
                    refine K.nil ?_
                    refine ⟨by kernel_rfl, ?_⟩
                    refine At.next ?_
                    refine G.cond rfl (fun h4 => ?_) (fun h4 => ?_)
                    · cases h4
                    ·
                      refine G.exit ?_
                      refine At.over_exit ?_
                      refine At.over_exit ?_
                      refine At.block_hit ?_
                      exact At.joined (σ := { v : Int // x3 = v }) (Fs := fun q => [(0, SV.raw s0), (3, .a (.c (.nv 107))), (4, .a (.c (.v (.int .i64 v2)))), (5, .a (.c (.v (.int .i64 q.1))))]) (Tl := fun q => [(0, rd S W0), (107, lrow 107 68 eTItem 2 v1)]) ⟨v101, (Option.some.inj H3).symm⟩ [(107, 110)] [_, _] rfl ⟨rfl, rfl, rfl, rfl, trivial⟩ ⟨rfl, (fun _ => rfl), rfl, (lrow_ren rfl), trivial⟩ rfl
            ·
              rintro ⟨_, rfl⟩
              show G _ _ [(0, SV.raw s0), (3, .a (.c (.nv 107))), (4, .a (.c (.v (.int .i64 v2)))), (5, .a (.c (.v (.int .i64 x3))))] [(0, some (rd S W0)), (107, some (lrow 107 68 eTItem 2 v1))] _ _
              refine G.seq ?_
              refine G.rg ?_
              refine K.nilRow 111 68 eTItem 2 (.inl rfl) (gd0 rfl) rfl rfl rfl ?_
              refine K.nil ?_
              refine At.next ?_
              refine G.seq ?_
              obtain ⟨h5, H2⟩ := grd H2
              obtain ⟨h7, H2⟩ := grd H2
              refine G.rg ?_
              refine K.move (.inl rfl) (gd0 rfl) rfl rfl ?_
              refine K.move (.inl rfl) (gd0 rfl) rfl rfl ?_
              refine K.move (.inl rfl) (gd0 rfl) rfl rfl ?_
              refine K.partL 0 ((x3).toNat) (gd0 rfl) rfl .no (.at_ rfl h5.1 rfl) rfl Try.underlying86 el86.size_run (Nat.zero_le _) (tn_len h5.2) rfl ?_
              refine K.appendL 112 (lsubV 107 68 eTItem 2 v1 0 ((x3).toNat)) _ el86 (lsubV_is eTItem_len (by decide) (Nat.zero_le _) (tn_len h5.2)) eTItem_one (gd0 rfl) rfl rfl rfl rfl rfl (ap_m h7) (ap_b h7 (by decide)) rfl rfl rfl rfl rfl rfl ?_
              refine K.move (.inr rfl) (gd0 rfl) rfl rfl ?_
              refine K.nil ?_
              refine At.next ?_
              refine G.seq ?_
              obtain ⟨x7, hx7, H2⟩ := bnd H2
              obtain ⟨h8, H2⟩ := grd H2
              refine G.rg ?_
              refine K.move (.inl rfl) (gd0 rfl) rfl rfl ?_
              refine K.move (.inl rfl) (gd0 rfl) rfl rfl ?_
              refine K.move (.inl rfl) (gd0 rfl) rfl rfl ?_
              refine K.idxL (rV 0 S W0 s0 b0 o0 eTItem 2 l0) ((v2).toNat) (hI0.is 0) (atL_get hx7) (atL_nn hx7) (gd0 rfl) rfl rfl rfl Try.underlying86 el86.size_run rfl ?_
              refine K.loadSL Y (rV 0 S W0 s0 b0 o0 eTItem 2 l0) ((v2).toNat) 0 [_, _] [_, _] (hI0.is 0) (atL_get hx7) (gd0 rfl) rfl rfl t68 rfl rfl rfl rfl rfl ?_
              refine K.buildL Y 113 ([x7] : List TItem) [(0, _)] [((.tmp 40), _)] eTItem_len (gd0 rfl) (AllE.spec ⟨rfl, trivial⟩) rfl rfl Try.underlying86 t68 rfl rfl rfl rfl rfl rfl rfl rfl ?_
              refine K.appendL 114 (lrowV 113 68 eTItem 2 ([x7] : List TItem)) _ el86 (lrowV_is eTItem_len (by decide)) eTItem_one (gd0 rfl) rfl rfl rfl rfl rfl (ap_m h8) (ap_b h8 (by decide)) rfl rfl rfl rfl rfl rfl ?_
              refine K.move (.inr rfl) (gd0 rfl) rfl rfl ?_
              refine K.nil ?_
              refine At.next ?_
              obtain ⟨h9, H2⟩ := grd H2
              obtain ⟨h11, H2⟩ := grd H2
              refine G.rg ?_
              refine K.move (.inl rfl) (gd0 rfl) rfl rfl ?_
              refine K.move (.inl rfl) (gd0 rfl) rfl rfl ?_
              refine K.move (.inl rfl) (gd0 rfl) rfl rfl ?_
              refine K.partL ((x3).toNat) v1.length (gd0 rfl) rfl (.at_ rfl h9.1 rfl) .no rfl Try.underlying86 el86.size_run (tn_len h9.2) (Nat.le_refl _) rfl ?_
              refine K.appendL 115 (lsubV 107 68 eTItem 2 v1 ((x3).toNat) v1.length) _ el86 (lsubV_is eTItem_len (by decide) (tn_len h9.2) (Nat.le_refl _)) eTItem_one (gd0 rfl) rfl rfl rfl rfl rfl (ap_m h11) (ap_b h11 (by decide)) rfl rfl rfl rfl rfl rfl ?_
              refine K.move (.inr rfl) (gd0 rfl) rfl rfl ?_
              refine K.nil ?_
              refine At.block_normal ?_
              exact At.joined (σ := { v : List TItem // x2 = v }) (Fs := fun q => [(0, SV.raw s0), (3, .a (.c (.nv 106))), (4, .a (.c (.v (.int .i64 v2))))]) (Tl := fun q => [(0, rd S W0), (106, lrow 106 68 eTItem 2 q.1)]) ⟨(((([] : List TItem) ++ ((v1.drop 0).take (((x3).toNat) - 0))) ++ ([x7] : List TItem)) ++ ((v1.drop ((x3).toNat)).take (v1.length - ((x3).toNat)))), (Option.some.inj H2).symm⟩ [(106, 115)] [_, _] rfl ⟨rfl, rfl, rfl, trivial⟩ ⟨rfl, (fun _ => rfl), rfl, (lrow_ren rfl), trivial⟩ rfl
          ·
            rintro ⟨_, rfl⟩
            show G _ _ [(0, SV.raw s0), (3, .a (.c (.nv 106))), (4, .a (.c (.v (.int .i64 v2))))] [(0, some (rd S W0)), (106, some (lrow 106 68 eTItem 2 x2))] _ _
            refine G.rg ?_
            refine K.move (.inl rfl) (gd0 rfl) rfl rfl ?_
            refine K.bin (V := .int .i64 (w64 (v2 + 1))) (gd0 rfl) rfl rfl (fun _ => rfl) rfl ?_
            refine K.move (.inr rfl) (gd0 rfl) rfl rfl ?_
            refine K.nil ?_
            exact At.again (σ := { q : Nat × (List TItem × Int) // R02_Sorted.l0 k l0 q.1 q.2 = some x1 }) (Fs := fun q => [(0, SV.raw s0), (3, .a (.c (.nv 105))), (4, .a (.c (.v (.int .i64 q.1.2.2))))]) (Tl := fun q => [(0, rd S W0), (105, lrow 105 68 eTItem 2 q.1.2.1)]) (μ := fun q => q.1.1) (s := ⟨(n0 + 1, (v1, v2)), HL0⟩) ⟨(n0, (x2, (w64 (v2 + 1)))), H1⟩ [(105, 106)] [_, _] (Nat.lt_succ_self _) rfl ⟨rfl, rfl, rfl, trivial⟩ ⟨rfl, (fun _ => rfl), rfl, (lrow_ren rfl), trivial⟩ rfl
        ·
          replace H1 := bif_f H1 h1
          refine G.exit ?_
          refine At.over_exit ?_
          refine At.over_exit ?_
          refine At.block_hit ?_
          exact At.joined (σ := { v : List TItem // x1 = v }) (Fs := fun q => [(3, .a (.c (.nv 102)))]) (Tl := fun q => [(0, rd S W0), (102, lrow 102 68 eTItem 2 q.1)]) ⟨v1, (Option.some.inj H1).symm⟩ [(102, 105)] [_, _] rfl ⟨rfl, trivial⟩ ⟨rfl, (fun _ => rfl), rfl, (lrow_ren rfl), trivial⟩ rfl
  ·
    rintro ⟨_, rfl⟩
    show G _ _ [(3, .a (.c (.nv 102)))] [(0, some (rd S W0)), (102, some (lrow 102 68 eTItem 2 x1))] _ _
    refine G.seq ?_
    refine G.rg ?_
    refine K.move (.inl rfl) (gd0 rfl) rfl rfl ?_
    refine K.move (.inr rfl) (gd0 rfl) rfl rfl ?_
    refine K.nil ?_
    refine At.next ?_
    refine G.ret ?_
    refine At.ren (fs' := [(2, .a (.c (.nv 30)))]) (tl := [(0, rd S W0), (30, lrow 30 68 eTItem 2 x1)]) [(30, 102)] [_, _] rfl ⟨rfl, trivial⟩ ⟨rfl, (fun _ => rfl), rfl, (lrow_ren rfl), trivial⟩ rfl ?_
    refine At.done Y [(.tmp 2, .c _)] rfl ⟨.tmp rfl, trivial⟩ (to' := [(0, _), (30, _)]) ⟨rfl, rfl, trivial⟩ ?_ ?_ rfl rfl rfl (.inl rfl)
    · cases H0; rfl
    · cases H0; rfl
theorem R02_Sorted_con {k : Nat}  {S : Foot} {W0 : World} {s0 : Value} {l0 : List TItem} {r : List TItem} (hL0 : LArg S W0 s0 eTItem 2 l0) (H0 : R02_Sorted.f k l0 = some r) (m30 : Nat) (hd : ndB [m30] = true) : SCon Try.prog 79 [SV.raw s0] [(0, rd S W0)] (.a (.c (.nv m30))) [(0, rd S W0), (m30, lrow m30 68 eTItem 2 r)] [m30] :=
  SCon.ren (rn [(30, m30)]) (R02_Sorted_con0 (k := k)  hL0 H0) ⟨(fun _ => rfl), trivial⟩ ⟨(fun _ => rfl), (lrow_ren rfl), trivial⟩ (rn_nd hd rfl rfl) (rn_ks hd rfl rfl rfl)
theorem R09_Put_o0_con0 {k : Nat}  {l0 : List TItem} {a1 : TItem} {r : List TItem}  (H0 : R09_Put.f k l0 a1 = some r) : SCon Try.prog 52 [.a (.c (.nv 0)), .a (.agg ((eTItem a1).map .v))] [(0, lrow 0 68 eTItem 2 l0)] (.a (.c (.nv 30))) [(30, lrow 30 68 eTItem 2 r)] [30] := by
  rw [R09_Put.f] at H0
  refine spec_of [(0, _), (1, _)] [(0, _)] 17 Try.func52 rfl Try.ntmps52 rfl rfl rfl rfl (fun β W F => ?_)
  refine G.seq ?_
  refine G.rg ?_
  refine K.box Y 100 [_, _] (gd0 rfl) rfl rfl rfl rfl rfl rfl ?_
  refine K.nilRow 101 68 eTItem 2 (.inl rfl) (gd0 rfl) rfl rfl rfl ?_
  refine K.nil ?_
  refine At.next ?_
  refine G.seq ?_
  refine G.seq ?_
  obtain ⟨x1, hx1, H0⟩ := bnd H0
  refine G.rg ?_
  refine K.move (.inl rfl) (gd0 rfl) rfl rfl ?_
  refine K.loadS Y [_, _] (gd0 rfl) rfl rfl t68 rfl rfl rfl ?_
  refine K.callV [(.func 50, _), ((.tmp 5), _), ((.tmp 6), _)] [(0, lrow 0 68 eTItem 2 l0)] [] [] (fun β => [SV.raw ((lrowV 0 68 eTItem 2 l0).s.den β), .a (.agg ((eTItem a1).map .v))]) (fun β w S2 h => R09_At_con (k := k) ((lrowV_isC eTItem_len (by decide)).larg ⟨_, List.mem_cons_self⟩ h) hx1) (toFn_func (cf 50 rfl) rfl) (gd0 rfl) ⟨rfl, rfl, rfl, trivial⟩ (fun _ => rfl) ⟨rfl, trivial⟩ rfl rfl rfl rfl rfl rfl ?_
  refine K.bin (V := .bool (decide (x1 ≥ 0))) (gd0 rfl) rfl rfl (fun _ => rfl) rfl ?_
  refine K.nil ?_
  refine At.next ?_
  refine G.cond rfl (fun h1 => ?_) (fun h1 => ?_)
  ·
    replace H0 := bif_t H0 h1
    refine G.seq ?_
    refine G.rg ?_
    refine K.move (.inl rfl) (gd0 rfl) rfl rfl ?_
    refine K.move (.inr rfl) (gd0 rfl) rfl rfl ?_
    refine K.nil ?_
    refine At.next ?_
    refine G.ret ?_
    refine At.over_ret ?_
    refine At.ren (fs' := [(4, .a (.c (.nv 30)))]) (tl := [(30, lrow 30 68 eTItem 2 l0)]) [(30, 0)] [_] rfl ⟨rfl, trivial⟩ ⟨rfl, (lrow_ren rfl), trivial⟩ rfl ?_
    refine At.done Y [(.tmp 4, .c _)] rfl ⟨.tmp rfl, trivial⟩ (to' := [(30, _)]) ⟨rfl, trivial⟩ ?_ ?_ rfl rfl rfl (.inl rfl)
    · cases H0; rfl
    · cases H0; rfl
  ·
    replace H0 := bif_f H0 h1
    refine G.skip ?_
    refine At.next ?_
    refine G.seq ?_
    obtain ⟨h2, H0⟩ := grd H0
    obtain ⟨h3, H0⟩ := grd H0
    obtain ⟨x2, hx2, H0⟩ := bnd H0
    refine G.rd mixed ?_
    refine K.buildL Y 102 ([] : List TItem) [] [] eTItem_len (gd0 rfl) (AllE.spec trivial) rfl rfl Try.underlying86 t68 rfl rfl rfl rfl rfl rfl rfl rfl ?_
    refine K.move (.inl rfl) (gd0 rfl) rfl rfl ?_
    refine K.appendL 103 (lrowV 0 68 eTItem 2 l0) _ el86 (lrowV_is eTItem_len (by decide)) eTItem_one (gd0 rfl) rfl rfl rfl rfl rfl (ap_m h2) (ap_b h2 (by decide)) rfl rfl rfl rfl rfl rfl ?_
    refine K.loadS Y [_, _] (gd0 rfl) rfl rfl t68 rfl rfl rfl ?_
    refine K.buildL Y 104 ([a1] : List TItem) [(0, _)] [((.tmp 13), _)] eTItem_len (gd0 rfl) (AllE.spec ⟨rfl, trivial⟩) rfl rfl Try.underlying86 t68 rfl rfl rfl rfl rfl rfl rfl rfl ?_
    refine K.appendL 105 (lrowV 104 68 eTItem 2 ([a1] : List TItem)) _ el86 (lrowV_is eTItem_len (by decide)) eTItem_one (gd0 rfl) rfl rfl rfl rfl rfl (ap_m h3) (ap_b h3 (by decide)) rfl rfl rfl rfl rfl rfl ?_
    refine K.callV [(.func 79, _), ((.tmp 15), _)] [(105, lrow 105 68 eTItem 2 ((([] : List TItem) ++ l0) ++ ([a1] : List TItem)))] [] [(106, _)] (fun β => [SV.raw ((lrowV 105 68 eTItem 2 ((([] : List TItem) ++ l0) ++ ([a1] : List TItem))).s.den β)]) (fun β w S2 h => R02_Sorted_con (k := k) ((lrowV_isC eTItem_len (by decide)).larg ⟨_, List.mem_cons_self⟩ h) hx2 106 rfl) (toFn_func (cf 79 rfl) rfl) (gd0 rfl) ⟨rfl, rfl, trivial⟩ (fun _ => rfl) ⟨rfl, trivial⟩ rfl rfl rfl rfl rfl rfl ?_
    refine K.move (.inr rfl) (gd0 rfl) rfl rfl ?_
    refine K.nil ?_
    refine ⟨by kernel_rfl, ?_⟩
    refine At.next ?_
    refine G.ret ?_
    refine At.ren (fs' := [(4, .a (.c (.nv 30)))]) (tl := [(30, lrow 30 68 eTItem 2 x2)]) [(30, 106)] [_] rfl ⟨rfl, trivial⟩ ⟨rfl, (lrow_ren rfl), trivial⟩ rfl ?_
    refine At.done Y [(.tmp 4, .c _)] rfl ⟨.tmp rfl, trivial⟩ (to' := [(30, _)]) ⟨rfl, trivial⟩ ?_ ?_ rfl rfl rfl (.inl rfl)
    · cases H0; rfl
    · cases H0; rfl
theorem R09_Put_o0_con {k : Nat}  {l0 : List TItem} {a1 : TItem} {r : List TItem}  (H0 : R09_Put.f k l0 a1 = some r) (m0 m30 : Nat) (hd : ndB [m0, m30] = true) : SCon Try.prog 52 [.a (.c (.nv m0)), .a (.agg ((eTItem a1).map .v))] [(m0, lrow m0 68 eTItem 2 l0)] (.a (.c (.nv m30))) [(m30, lrow m30 68 eTItem 2 r)] [m30] :=
  SCon.ren (rn [(0, m0), (30, m30)]) (R09_Put_o0_con0 (k := k)   H0) ⟨(lrow_ren rfl), trivial⟩ ⟨(lrow_ren rfl), trivial⟩ (rn_nd hd rfl rfl) (rn_ks hd rfl rfl rfl)
theorem shelf_Items_con0 {k : Nat}  {p1 : Pool (TNode TSlot TSize)} {rt0 : TRef} {r : List TItem}  (H0 : shelf_Items.f k p1 rt0 = some r) : SCon Try.prog 54 [SV.p 0 0] [(0, blk 0 [.p 1 0, .i rt0.index, .i rt0.gen] 122), (1, plS 1 p1)] (.a (.c (.nv 30))) [(0, blk 0 [.p 1 0, .i rt0.index, .i rt0.gen] 122), (1, plS 1 p1), (30, lrow 30 68 eTItem 2 r)] [30] := by
  rw [shelf_Items.f] at H0
  refine spec_of [(0, _)] [(0, _), (1, _)] 22 Try.func54 rfl Try.ntmps54 rfl rfl rfl rfl (fun β W F => ?_)
  refine G.seq ?_
  refine G.rg ?_
  refine K.nilRow 100 68 eTItem 2 (.inl rfl) (gd0 rfl) rfl rfl rfl ?_
  refine K.nil ?_
  refine At.next ?_
  refine G.seq ?_
  refine G.seq ?_
  refine G.rg ?_
  refine K.move (.inl rfl) (gd0 rfl) rfl rfl ?_
  refine K.eqnil (V := false) (gd0 rfl) rfl rfl (pn_eql_some Try.underlying73) rfl ?_
  refine K.nil ?_
  refine At.next ?_
  refine G.cond rfl (fun h1 => ?_) (fun h1 => ?_)
  · cases h1
  ·
    refine G.skip ?_
    refine At.next ?_
    refine G.seq ?_
    refine G.rg ?_
    refine K.nilRow 101 68 eTItem 2 (.inl rfl) (gd0 rfl) rfl rfl rfl ?_
    refine K.nil ?_
    refine At.next ?_
    obtain ⟨x1, H1, H0⟩ := bnd H0
    refine G.seqJ (σ := { v : List TItem // x1 = v }) (fun q => [(3, .a (.c (.nv 102)))]) (fun q => [(102, lrow 102 68 eTItem 2 q.1), (1, plS 1 p1), (0, blk 0 [.p 1 0, .v (.int .i64 rt0.index), .v (.int .i64 rt0.gen)] 122)]) ?_ ?_
    ·
      refine G.seq ?_
      obtain ⟨x2, hx2, H1⟩ := bnd H1
      refine G.rg ?_
      refine K.move (.inl rfl) (gd0 rfl) rfl rfl ?_
      refine K.call0 [(.func 80, _), ((.tmp 8), _)] (Tree_AllS_con (k := k) hx2 0 1 103 rfl) (toFn_func (cf 80 rfl) rfl) (gd0 rfl) ⟨rfl, rfl, trivial⟩ ⟨rfl, rfl, trivial⟩ rfl rfl rfl rfl rfl rfl ?_
      refine K.lenL (lrowV 103 72 eTSlot 4 x2) (lrowV_is eTSlot_len (by decide)) (gd0 rfl) rfl rfl Try.underlying130 rfl ?_
      refine K.move (.inl rfl) (gd0 rfl) rfl rfl ?_
      refine K.nil ?_
      refine At.next ?_
      refine G.block ?_
      refine G.loop (σ := { q : Nat × (List TItem × Int) // shelf_Items.l0 k x2 q.1 q.2 = some x1 }) (fun q => [(3, .a (.c (.nv 108))), (9, .a (.c (.nv 109))), (10, .a (.c (.v (.int .i64 (x2.length : Int))))), (11, .a (.c (.v (.int .i64 q.1.2.2))))]) (fun q => [(108, lrow 108 68 eTItem 2 q.1.2.1), (109, lrow 109 72 eTSlot 4 x2), (1, plS 1 p1), (0, blk 0 [.p 1 0, .v (.int .i64 rt0.index), .v (.int .i64 rt0.gen)] 122)]) (fun q => q.1.1) ⟨(k, (([] : List TItem), 0)), H1⟩ ?_ ?_
      · exact At.into [(108, 101), (109, 103)] [_, _, _, _] rfl ⟨rfl, rfl, rfl, rfl, trivial⟩ ⟨rfl, (lrow_ren rfl), rfl, (lrow_ren rfl), rfl, (pl_ren rfl), rfl, (blk_ren rfl rfl), trivial⟩ rfl
      ·
        rintro ⟨⟨n0, v1, v2⟩, H1⟩
        show G _ _ [(3, .a (.c (.nv 108))), (9, .a (.c (.nv 109))), (10, .a (.c (.v (.int .i64 (x2.length : Int))))), (11, .a (.c (.v (.int .i64 v2))))] [(108, some (lrow 108 68 eTItem 2 v1)), (109, some (lrow 109 72 eTSlot 4 x2)), (1, some (plS 1 p1)), (0, some (blk 0 [.p 1 0, .v (.int .i64 rt0.index), .v (.int .i64 rt0.gen)] 122))] _ _
        cases n0 with
        | zero => exact absurd H1 (by simp [shelf_Items.l0])
        | succ n0 =>
          have HL0 := H1
          rw [shelf_Items.l0] at H1
          refine G.seq ?_
          refine G.rg ?_
          refine K.bin (V := .bool (decide (v2 < (x2.length : Int)))) (gd0 rfl) rfl rfl (fun _ => rfl) rfl ?_
          refine K.nil ?_
          refine At.next ?_
          refine G.seq ?_
          refine G.cond rfl (fun h2 => ?_) (fun h2 => ?_)
          ·
            replace H1 := bif_t H1 h2
            refine G.skip ?_
            refine At.next ?_
            refine G.seq ?_
            refine G.block ?_
            refine G.seq ?_
            obtain ⟨x3, hx3, H1⟩ := bnd H1
            refine G.rg ?_
            refine K.idxL (lrowV 109 72 eTSlot 4 x2) ((v2).toNat) (lrowV_is eTSlot_len (by decide)) (atL_get hx3) (atL_nn hx3) (gd0 rfl) rfl rfl rfl Try.underlying130 el130.size_run rfl ?_
            refine K.loadSL Y (lrowV 109 72 eTSlot 4 x2) ((v2).toNat) 0 [_, _, _, _] [_, _, _, _] (lrowV_is eTSlot_len (by decide)) (atL_get hx3) (gd0 rfl) rfl rfl t72 rfl rfl rfl rfl rfl ?_
            refine K.alloc Y 110 [_, _, _, _] (gd0 rfl) t72 rfl rfl rfl rfl rfl ?_
            refine K.store Y [_, _, _, _] (gd0 rfl) rfl rfl rfl t72 rfl rfl rfl rfl rfl ?_
            refine K.nil ?_
            refine At.next ?_
            obtain ⟨h3, H1⟩ := grd H1
            refine G.rg ?_
            refine K.move (.inl rfl) (gd0 rfl) rfl rfl ?_
            refine K.fieldAddr Y (gd0 rfl) rfl t72 rfl rfl ?_
            refine K.loadS Y [_, _] (gd0 rfl) rfl rfl t68 rfl rfl rfl ?_
            refine K.buildL Y 111 ([x3.item] : List TItem) [(0, _)] [((.tmp 17), _)] eTItem_len (gd0 rfl) (AllE.spec ⟨rfl, trivial⟩) rfl rfl Try.underlying86 t68 rfl rfl rfl rfl rfl rfl rfl rfl ?_
            refine K.appendL 112 (lrowV 111 68 eTItem 2 ([x3.item] : List TItem)) _ el86 (lrowV_is eTItem_len (by decide)) eTItem_one (gd0 rfl) rfl rfl rfl rfl rfl (ap_m h3) (ap_b h3 (by decide)) rfl rfl rfl rfl rfl rfl ?_
            refine K.move (.inr rfl) (gd0 rfl) rfl rfl ?_
            refine K.nil ?_
            refine At.block_normal ?_
            refine At.next ?_
            refine G.rg ?_
            refine K.bin (V := .int .i64 (w64 (v2 + 1))) (gd0 rfl) rfl rfl (fun _ => rfl) rfl ?_
            refine K.move (.inl rfl) (gd0 rfl) rfl rfl ?_
            refine K.nil ?_
            exact At.again (σ := { q : Nat × (List TItem × Int) // shelf_Items.l0 k x2 q.1 q.2 = some x1 }) (Fs := fun q => [(3, .a (.c (.nv 108))), (9, .a (.c (.nv 109))), (10, .a (.c (.v (.int .i64 (x2.length : Int))))), (11, .a (.c (.v (.int .i64 q.1.2.2))))]) (Tl := fun q => [(108, lrow 108 68 eTItem 2 q.1.2.1), (109, lrow 109 72 eTSlot 4 x2), (1, plS 1 p1), (0, blk 0 [.p 1 0, .v (.int .i64 rt0.index), .v (.int .i64 rt0.gen)] 122)]) (μ := fun q => q.1.1) (s := ⟨(n0 + 1, (v1, v2)), HL0⟩) ⟨(n0, ((v1 ++ ([x3.item] : List TItem)), (w64 (v2 + 1)))), H1⟩ [(108, 112)] [_, _, _, _] (Nat.lt_succ_self _) rfl ⟨rfl, rfl, rfl, rfl, trivial⟩ ⟨rfl, (lrow_ren rfl), rfl, (lrow_ren rfl), rfl, (pl_ren rfl), rfl, (blk_ren rfl rfl), trivial⟩ rfl
          ·
            replace H1 := bif_f H1 h2
            refine G.exit ?_
            refine At.over_exit ?_
            refine At.over_exit ?_
            refine At.block_hit ?_
            exact At.joined (σ := { v : List TItem // x1 = v }) (Fs := fun q => [(3, .a (.c (.nv 102)))]) (Tl := fun q => [(102, lrow 102 68 eTItem 2 q.1), (1, plS 1 p1), (0, blk 0 [.p 1 0, .v (.int .i64 rt0.index), .v (.int .i64 rt0.gen)] 122)]) ⟨v1, (Option.some.inj H1).symm⟩ [(102, 108)] [_, _, _] rfl ⟨rfl, trivial⟩ ⟨rfl, (lrow_ren rfl), rfl, (pl_ren rfl), rfl, (blk_ren rfl rfl), trivial⟩ rfl
    ·
      rintro ⟨_, rfl⟩
      show G _ _ [(3, .a (.c (.nv 102)))] [(102, some (lrow 102 68 eTItem 2 x1)), (1, some (plS 1 p1)), (0, some (blk 0 [.p 1 0, .v (.int .i64 rt0.index), .v (.int .i64 rt0.gen)] 122))] _ _
      refine G.seq ?_
      refine G.rg ?_
      refine K.move (.inl rfl) (gd0 rfl) rfl rfl ?_
      refine K.move (.inr rfl) (gd0 rfl) rfl rfl ?_
      refine K.nil ?_
      refine At.next ?_
      refine G.ret ?_
      refine At.ren (fs' := [(2, .a (.c (.nv 30)))]) (tl := [(0, blk 0 [.p 1 0, .v (.int .i64 rt0.index), .v (.int .i64 rt0.gen)] 122), (1, plS 1 p1), (30, lrow 30 68 eTItem 2 x1)]) [(30, 102)] [_, _, _] rfl ⟨rfl, trivial⟩ ⟨rfl, (blk_ren rfl rfl), rfl, (pl_ren rfl), rfl, (lrow_ren rfl), trivial⟩ rfl ?_
      refine At.done Y [(.tmp 2, .c _)] rfl ⟨.tmp rfl, trivial⟩ (to' := [(0, _), (1, _), (30, _)]) ⟨rfl, rfl, rfl, trivial⟩ ?_ ?_ rfl rfl rfl (.inl rfl)
      · cases H0; rfl
      · cases H0; rfl
theorem shelf_Items_con {k : Nat}  {p1 : Pool (TNode TSlot TSize)} {rt0 : TRef} {r : List TItem}  (H0 : shelf_Items.f k p1 rt0 = some r) (m0 m1 m30 : Nat) (hd : ndB [m0, m1, m30] = true) : SCon Try.prog 54 [SV.p m0 0] [(m0, blk m0 [.p m1 0, .i rt0.index, .i rt0.gen] 122), (m1, plS m1 p1)] (.a (.c (.nv m30))) [(m0, blk m0 [.p m1 0, .i rt0.index, .i rt0.gen] 122), (m1, plS m1 p1), (m30, lrow m30 68 eTItem 2 r)] [m30] :=
  SCon.ren (rn [(0, m0), (1, m1), (30, m30)]) (shelf_Items_con0 (k := k)   H0) ⟨(blk_ren rfl rfl), (pl_ren rfl), trivial⟩ ⟨(blk_ren rfl rfl), (pl_ren rfl), (lrow_ren rfl), trivial⟩ (rn_nd hd rfl rfl) (rn_ks hd rfl rfl rfl)
theorem R02_Same_con0 {k : Nat}  {S : Foot} {W0 : World} {s0 : Value} {s1 : Value} {l0 : List TItem} {l1 : List TItem} {r : Bool} (hL0 : LArg S W0 s0 eTItem 2 l0) (hL1 : LArg S W0 s1 eTItem 2 l1) (H0 : R02_Same.f k l0 l1 = some r) : SCon Try.prog 53 [SV.raw s0, SV.raw s1] [(0, rd S W0)] (.a (.c (.v (.bool r)))) [(0, rd S W0)] [] := by
  rw [R02_Same.f] at H0
  obtain ⟨b0, o0, hI0⟩ := hL0
  obtain ⟨b1, o1, hI1⟩ := hL1
  refine spec_of [(0, _), (1, _)] [(0, _)] 26 Try.func53 rfl Try.ntmps53 rfl rfl rfl rfl (fun β W F => ?_)
  refine G.seq ?_
  refine G.rg ?_
  refine K.move (.inr rfl) (gd0 rfl) rfl rfl ?_
  refine K.nil ?_
  refine At.next ?_
  refine G.seq ?_
  refine G.seq ?_
  refine G.rg ?_
  refine K.move (.inl rfl) (gd0 rfl) rfl rfl ?_
  refine K.lenL (rV 0 S W0 s0 b0 o0 eTItem 2 l0) (hI0.is 0) (gd0 rfl) rfl rfl Try.underlying86 rfl ?_
  refine K.move (.inl rfl) (gd0 rfl) rfl rfl ?_
  refine K.lenL (rV 0 S W0 s1 b1 o1 eTItem 2 l1) (hI1.is 0) (gd0 rfl) rfl rfl Try.underlying86 rfl ?_
  refine K.bin (V := .bool ((l0.length : Int) != (l1.length : Int))) (gd0 rfl) rfl rfl (fun _ => rfl) rfl ?_
  refine K.nil ?_
  refine At.next ?_
  refine G.cond rfl (fun h1 => ?_) (fun h1 => ?_)
  ·
    replace H0 := bif_t H0 h1
    refine G.seq ?_
    refine G.rg ?_
    refine K.move (.inr rfl) (gd0 rfl) rfl rfl ?_
    refine K.nil ?_
    refine At.next ?_
    refine G.ret ?_
    refine At.over_ret ?_
    refine At.done Y [(.tmp 4, .c _)] rfl ⟨.tmp rfl, trivial⟩ (to' := [(0, _)]) ⟨rfl, trivial⟩ ?_ ?_ rfl rfl rfl (.inl rfl)
    · cases H0; rfl
    · cases H0; rfl
  ·
    replace H0 := bif_f H0 h1
    refine G.skip ?_
    refine At.next ?_
    obtain ⟨x1, H1, H0⟩ := bnd H0
    refine G.seqJ (σ := { v : Unit // x1 = Sum.inr v }) (fun q => []) (fun q => [(0, rd S W0)]) ?_ ?_
    ·
      refine G.seq ?_
      refine G.rg ?_
      refine K.move (.inr rfl) (gd0 rfl) rfl rfl ?_
      refine K.nil ?_
      refine At.next ?_
      refine G.block ?_
      refine G.loop (σ := { q : Nat × (Int) // R02_Same.l0 k l0 l1 q.1 q.2 = some x1 }) (fun q => [(0, SV.raw s0), (1, SV.raw s1), (5, .a (.c (.v (.int .i64 q.1.2))))]) (fun q => [(0, rd S W0)]) (fun q => q.1.1) ⟨(k, 0), H1⟩ ?_ ?_
      · exact At.into [] [_] rfl ⟨rfl, rfl, rfl, trivial⟩ ⟨rfl, (fun _ => rfl), trivial⟩ rfl
      ·
        rintro ⟨⟨n0, v1⟩, H1⟩
        show G _ _ [(0, SV.raw s0), (1, SV.raw s1), (5, .a (.c (.v (.int .i64 v1))))] [(0, some (rd S W0))] _ _
        cases n0 with
        | zero => exact absurd H1 (by simp [R02_Same.l0])
        | succ n0 =>
          have HL0 := H1
          rw [R02_Same.l0] at H1
          refine G.seq ?_
          refine G.seq ?_
          refine G.rg ?_
          refine K.move (.inl rfl) (gd0 rfl) rfl rfl ?_
          refine K.move (.inl rfl) (gd0 rfl) rfl rfl ?_
          refine K.lenL (rV 0 S W0 s0 b0 o0 eTItem 2 l0) (hI0.is 0) (gd0 rfl) rfl rfl Try.underlying86 rfl ?_
          refine K.bin (V := .bool (decide (v1 < (l0.length : Int)))) (gd0 rfl) rfl rfl (fun _ => rfl) rfl ?_
          refine K.nil ?_
          refine At.next ?_
          refine G.cond rfl (fun h2 => ?_) (fun h2 => ?_)
          ·
            replace H1 := bif_t H1 h2
            refine G.skip ?_
            refine At.next ?_
            refine G.seq ?_
            refine G.block ?_
            refine G.seq ?_
            obtain ⟨x2, hx2, H1⟩ := bnd H1
            obtain ⟨x3, hx3, H1⟩ := bnd H1
            refine G.rd mixed ?_
            refine K.move (.inl rfl) (gd0 rfl) rfl rfl ?_
            refine K.move (.inl rfl) (gd0 rfl) rfl rfl ?_
            refine K.idxL (rV 0 S W0 s0 b0 o0 eTItem 2 l0) ((v1).toNat) (hI0.is 0) (atL_get hx2) (atL_nn hx2) (gd0 rfl) rfl rfl rfl Try.underlying86 el86.size_run rfl ?_
            refine K.loadSL Y (rV 0 S W0 s0 b0 o0 eTItem 2 l0) ((v1).toNat) 0 [_, _] [_, _] (hI0.is 0) (atL_get hx2) (gd0 rfl) rfl rfl t68 rfl rfl rfl rfl rfl ?_
            refine K.move (.inl rfl) (gd0 rfl) rfl rfl ?_
            refine K.move (.inl rfl) (gd0 rfl) rfl rfl ?_
            refine K.idxL (rV 0 S W0 s1 b1 o1 eTItem 2 l1) ((v1).toNat) (hI1.is 0) (atL_get hx3) (atL_nn hx3) (gd0 rfl) rfl rfl rfl Try.underlying86 el86.size_run rfl ?_
            refine K.loadSL Y (rV 0 S W0 s1 b1 o1 eTItem 2 l1) ((v1).toNat) 0 [_, _] [_, _] (hI1.is 0) (atL_get hx3) (gd0 rfl) rfl rfl t68 rfl rfl rfl rfl rfl ?_
            refine K.eqS [_, _] [_, _] (gd0 rfl) rfl rfl cmp68 rfl (.inr rfl) (!((x2.key == x3.key) && ((x2.id == x3.id) && true))) rfl rfl ?_
            refine K.nil ?_
            refine ⟨by kernel_rfl, ?_⟩
            refine At.next ?_
            refine G.cond rfl (fun h3 => ?_) (fun h3 => ?_)
            ·
              replace H1 := bif_t H1 h3
              refine G.seq ?_
              refine G.rg ?_
              refine K.move (.inr rfl) (gd0 rfl) rfl rfl ?_
              refine K.nil ?_
              refine At.next ?_
              refine G.ret ?_
              refine At.block_ret ?_
              refine At.over_ret ?_
              refine At.over_ret ?_
              refine At.block_ret ?_
              refine At.over_ret ?_
              cases H1
              replace H0 := sum_l H0
              refine At.done Y [(.tmp 4, .c _)] rfl ⟨.tmp rfl, trivial⟩ (to' := [(0, _)]) ⟨rfl, trivial⟩ ?_ ?_ rfl rfl rfl (.inl rfl)
              · cases H0; rfl
              · cases H0; rfl
            ·
              replace H1 := bif_f H1 h3
              refine G.skip ?_
              refine At.block_normal ?_
              refine At.next ?_
              refine G.rg ?_
              refine K.move (.inl rfl) (gd0 rfl) rfl rfl ?_
              refine K.bin (V := .int .i64 (w64 (v1 + 1))) (gd0 rfl) rfl rfl (fun _ => rfl) rfl ?_
              refine K.move (.inr rfl) (gd0 rfl) rfl rfl ?_
              refine K.nil ?_
              exact At.again (σ := { q : Nat × (Int) // R02_Same.l0 k l0 l1 q.1 q.2 = some x1 }) (Fs := fun q => [(0, SV.raw s0), (1, SV.raw s1), (5, .a (.c (.v (.int .i64 q.1.2))))]) (Tl := fun q => [(0, rd S W0)]) (μ := fun q => q.1.1) (s := ⟨(n0 + 1, v1), HL0⟩) ⟨(n0, (w64 (v1 + 1))), H1⟩ [] [_] (Nat.lt_succ_self _) rfl ⟨rfl, rfl, rfl, trivial⟩ ⟨rfl, (fun _ => rfl), trivial⟩ rfl
          ·
            replace H1 := bif_f H1 h2
            refine G.exit ?_
            refine At.over_exit ?_
            refine At.over_exit ?_
            refine At.block_hit ?_
            exact At.joined (σ := { v : Unit // x1 = Sum.inr v }) (Fs := fun q => []) (Tl := fun q => [(0, rd S W0)]) ⟨(), (Option.some.inj H1).symm⟩ [] [_] rfl trivial ⟨rfl, (fun _ => rfl), trivial⟩ rfl
    ·
      rintro ⟨v1, rfl⟩
      replace H0 := sum_r H0
      show G _ _ [] [(0, some (rd S W0))] _ _
      refine G.seq ?_
      refine G.rg ?_
      refine K.move (.inr rfl) (gd0 rfl) rfl rfl ?_
      refine K.nil ?_
      refine At.next ?_
      refine G.ret ?_
      refine At.done Y [(.tmp 4, .c _)] rfl ⟨.tmp rfl, trivial⟩ (to' := [(0, _)]) ⟨rfl, trivial⟩ ?_ ?_ rfl rfl rfl (.inl rfl)
      · cases H0; rfl
      · cases H0; rfl
theorem R02_Same_con {k : Nat}  {S : Foot} {W0 : World} {s0 : Value} {s1 : Value} {l0 : List TItem} {l1 : List TItem} {r : Bool} (hL0 : LArg S W0 s0 eTItem 2 l0) (hL1 : LArg S W0 s1 eTItem 2 l1) (H0 : R02_Same.f k l0 l1 = some r) : SCon Try.prog 53 [SV.raw s0, SV.raw s1] [(0, rd S W0)] (.a (.c (.v (.bool r)))) [(0, rd S W0)] [] :=
  SCon.ren (rn []) (R02_Same_con0 (k := k)  hL0 hL1 H0) ⟨(fun _ => rfl), trivial⟩ ⟨(fun _ => rfl), trivial⟩ (by simp) (by simp)
theorem R09_Above_con0 {k : Nat}  {S : Foot} {W0 : World} {s0 : Value} {l0 : List TItem} {a1 : TItem} {r : Int} (hL0 : LArg S W0 s0 eTItem 2 l0) (H0 : R09_Above.f k l0 a1 = some r) : SCon Try.prog 58 [SV.raw s0, .a (.agg ((eTItem a1).map .v))] [(0, rd S W0)] (.a (.c (.v (.int .i64 r)))) [(0, rd S W0)] [] := by
  rw [R09_Above.f] at H0
  obtain ⟨b0, o0, hI0⟩ := hL0
  refine spec_of [(0, _), (1, _)] [(0, _)] 22 Try.func58 rfl Try.ntmps58 rfl rfl rfl rfl (fun β W F => ?_)
  refine G.seq ?_
  refine G.rg ?_
  refine K.box Y 100 [_, _] (gd0 rfl) rfl rfl rfl rfl rfl rfl ?_
  refine K.move (.inr rfl) (gd0 rfl) rfl rfl ?_
  refine K.nil ?_
  refine At.next ?_
  refine G.seq ?_
  refine G.rg ?_
  refine K.move (.inr rfl) (gd0 rfl) rfl rfl ?_
  refine K.nil ?_
  refine At.next ?_
  obtain ⟨x1, H1, H0⟩ := bnd H0
  refine G.seqJ (σ := { v : Int // x1 = v }) (fun q => [(5, .a (.c (.v (.int .i64 q.1))))]) (fun q => [(0, rd S W0)]) ?_ ?_
  ·
    refine G.seq ?_
    refine G.rg ?_
    refine K.move (.inr rfl) (gd0 rfl) rfl rfl ?_
    refine K.nil ?_
    refine At.next ?_
    refine G.block ?_
    refine G.loop (σ := { q : Nat × (Int × Int) // R09_Above.l0 k l0 a1 q.1 q.2 = some x1 }) (fun q => [(0, SV.raw s0), (3, .a (.c (.p 103 0))), (5, .a (.c (.v (.int .i64 q.1.2.1)))), (6, .a (.c (.v (.int .i64 q.1.2.2))))]) (fun q => [(0, rd S W0), (103, blk 103 [.v (.int .i64 a1.key), .v (.int .i64 a1.id)] 68)]) (fun q => q.1.1) ⟨(k, (0, 0)), H1⟩ ?_ ?_
    · exact At.into [(103, 100)] [_, _] rfl ⟨rfl, rfl, rfl, rfl, trivial⟩ ⟨rfl, (fun _ => rfl), rfl, (blk_ren rfl rfl), trivial⟩ rfl
    ·
      rintro ⟨⟨n0, v1, v2⟩, H1⟩
      show G _ _ [(0, SV.raw s0), (3, .a (.c (.p 103 0))), (5, .a (.c (.v (.int .i64 v1)))), (6, .a (.c (.v (.int .i64 v2))))] [(0, some (rd S W0)), (103, some (blk 103 [.v (.int .i64 a1.key), .v (.int .i64 a1.id)] 68))] _ _
      cases n0 with
      | zero => exact absurd H1 (by simp [R09_Above.l0])
      | succ n0 =>
        have HL0 := H1
        rw [R09_Above.l0] at H1
        refine G.seq ?_
        refine G.seq ?_
        refine G.rg ?_
        refine K.move (.inl rfl) (gd0 rfl) rfl rfl ?_
        refine K.move (.inl rfl) (gd0 rfl) rfl rfl ?_
        refine K.lenL (rV 0 S W0 s0 b0 o0 eTItem 2 l0) (hI0.is 0) (gd0 rfl) rfl rfl Try.underlying86 rfl ?_
        refine K.bin (V := .bool (decide (v2 < (l0.length : Int)))) (gd0 rfl) rfl rfl (fun _ => rfl) rfl ?_
        refine K.nil ?_
        refine At.next ?_
        refine G.cond rfl (fun h1 => ?_) (fun h1 => ?_)
        ·
          replace H1 := bif_t H1 h1
          refine G.skip ?_
          refine At.next ?_
          refine G.seq ?_
          refine G.block ?_
          refine G.seq ?_
          obtain ⟨x2, hx2, H1⟩ := bnd H1
          obtain ⟨x3, hx3, H1⟩ := bnd H1
          refine G.rd mixed ?_
          refine K.loadS Y [_, _] (gd0 rfl) rfl rfl t68 rfl rfl rfl ?_
          refine K.move (.inl rfl) (gd0 rfl) rfl rfl ?_
          refine K.move (.inl rfl) (gd0 rfl) rfl rfl ?_
          refine K.idxL (rV 0 S W0 s0 b0 o0 eTItem 2 l0) ((v2).toNat) (hI0.is 0) (atL_get hx2) (atL_nn hx2) (gd0 rfl) rfl rfl rfl Try.underlying86 el86.size_run rfl ?_
          refine K.loadSL Y (rV 0 S W0 s0 b0 o0 eTItem 2 l0) ((v2).toNat) 0 [_, _] [_, _] (hI0.is 0) (atL_get hx2) (gd0 rfl) rfl rfl t68 rfl rfl rfl rfl rfl ?_
          refine K.callR [(.func 46, _), ((.tmp 13), _), ((.tmp 17), _)] (R02_Ahead_con (k := k) hx3) (toFn_func (cf 46 rfl) rfl) (gd0 rfl) ⟨rfl, rfl, rfl, trivial⟩ trivial rfl rfl rfl ?_
          refine K.nil ?_
          refine ⟨by kernel_rfl, ?_⟩
          refine At.next ?_
          refine G.cond rfl (fun h2 => ?_) (fun h2 => ?_)
          ·
            replace H1 := bif_t H1 h2
            refine G.rg ?_
            refine K.move (.inl rfl) (gd0 rfl) rfl rfl ?_
            refine K.bin (V := .int .i64 (w64 (v1 + 1))) (gd0 rfl) rfl rfl (fun _ => rfl) rfl ?_
            refine K.move (.inr rfl) (gd0 rfl) rfl rfl ?_
            refine K.nil ?_
            refine At.block_normal ?_
            refine At.next ?_
            refine G.rg ?_
            refine K.move (.inl rfl) (gd0 rfl) rfl rfl ?_
            refine K.bin (V := .int .i64 (w64 (v2 + 1))) (gd0 rfl) rfl rfl (fun _ => rfl) rfl ?_
            refine K.move (.inr rfl) (gd0 rfl) rfl rfl ?_
            refine K.nil ?_
            exact At.again (σ := { q : Nat × (Int × Int) // R09_Above.l0 k l0 a1 q.1 q.2 = some x1 }) (Fs := fun q => [(0, SV.raw s0), (3, .a (.c (.p 103 0))), (5, .a (.c (.v (.int .i64 q.1.2.1)))), (6, .a (.c (.v (.int .i64 q.1.2.2))))]) (Tl := fun q => [(0, rd S W0), (103, blk 103 [.v (.int .i64 a1.key), .v (.int .i64 a1.id)] 68)]) (μ := fun q => q.1.1) (s := ⟨(n0 + 1, (v1, v2)), HL0⟩) ⟨(n0, ((w64 (v1 + 1)), (w64 (v2 + 1)))), H1⟩ [] [_, _] (Nat.lt_succ_self _) rfl ⟨rfl, rfl, rfl, rfl, trivial⟩ ⟨rfl, (fun _ => rfl), rfl, (blk_ren rfl rfl), trivial⟩ rfl
          ·
            replace H1 := bif_f H1 h2
            refine G.skip ?_
            refine At.block_normal ?_
            refine At.next ?_
            refine G.rg ?_
            refine K.move (.inl rfl) (gd0 rfl) rfl rfl ?_
            refine K.bin (V := .int .i64 (w64 (v2 + 1))) (gd0 rfl) rfl rfl (fun _ => rfl) rfl ?_
            refine K.move (.inr rfl) (gd0 rfl) rfl rfl ?_
            refine K.nil ?_
            exact At.again (σ := { q : Nat × (Int × Int) // R09_Above.l0 k l0 a1 q.1 q.2 = some x1 }) (Fs := fun q => [(0, SV.raw s0), (3, .a (.c (.p 103 0))), (5, .a (.c (.v (.int .i64 q.1.2.1)))), (6, .a (.c (.v (.int .i64 q.1.2.2))))]) (Tl := fun q => [(0, rd S W0), (103, blk 103 [.v (.int .i64 a1.key), .v (.int .i64 a1.id)] 68)]) (μ := fun q => q.1.1) (s := ⟨(n0 + 1, (v1, v2)), HL0⟩) ⟨(n0, (v1, (w64 (v2 + 1)))), H1⟩ [] [_, _] (Nat.lt_succ_self _) rfl ⟨rfl, rfl, rfl, rfl, trivial⟩ ⟨rfl, (fun _ => rfl), rfl, (blk_ren rfl rfl), trivial⟩ rfl
        ·
          replace H1 := bif_f H1 h1
          refine G.exit ?_
          refine At.over_exit ?_
          refine At.over_exit ?_
          refine At.block_hit ?_
          exact At.joined (σ := { v : Int // x1 = v }) (Fs := fun q => [(5, .a (.c (.v (.int .i64 q.1))))]) (Tl := fun q => [(0, rd S W0)]) ⟨v1, (Option.some.inj H1).symm⟩ [] [_] rfl ⟨rfl, trivial⟩ ⟨rfl, (fun _ => rfl), trivial⟩ rfl
  ·
    rintro ⟨_, rfl⟩
    show G _ _ [(5, .a (.c (.v (.int .i64 x1))))] [(0, some (rd S W0))] _ _
    refine G.seq ?_
    refine G.rg ?_
    refine K.move (.inl rfl) (gd0 rfl) rfl rfl ?_
    refine K.move (.inr rfl) (gd0 rfl) rfl rfl ?_
    refine K.nil ?_
    refine At.next ?_
    refine G.ret ?_
    refine At.done Y [(.tmp 4, .c _)] rfl ⟨.tmp rfl, trivial⟩ (to' := [(0, _)]) ⟨rfl, trivial⟩ ?_ ?_ rfl rfl rfl (.inl rfl)
    · cases H0; rfl
    · cases H0; rfl
theorem R09_Above_con {k : Nat}  {S : Foot} {W0 : World} {s0 : Value} {l0 : List TItem} {a1 : TItem} {r : Int} (hL0 : LArg S W0 s0 eTItem 2 l0) (H0 : R09_Above.f k l0 a1 = some r) : SCon Try.prog 58 [SV.raw s0, .a (.agg ((eTItem a1).map .v))] [(0, rd S W0)] (.a (.c (.v (.int .i64 r)))) [(0, rd S W0)] [] :=
  SCon.ren (rn []) (R09_Above_con0 (k := k)  hL0 H0) ⟨(fun _ => rfl), trivial⟩ ⟨(fun _ => rfl), trivial⟩ (by simp) (by simp)
theorem shelf_Items_z_z0_con0 {k : Nat}  {r : List TItem}  (H0 : shelf_Items_z.f k = some r) : SCon Try.prog 54 [SV.raw (.pointer none)] [] (.a (.c (.nv 30))) [(30, lrow 30 68 eTItem 2 r)] [30] := by
  rw [shelf_Items_z.f] at H0
  refine spec_of [(0, _)] [] 22 Try.func54 rfl Try.ntmps54 rfl rfl rfl rfl (fun β W F => ?_)
  refine G.seq ?_
  refine G.rg ?_
  refine K.nilRow 100 68 eTItem 2 (.inl rfl) (gd0 rfl) rfl rfl rfl ?_
  refine K.nil ?_
  refine At.next ?_
  refine G.seq ?_
  refine G.seq ?_
  refine G.rg ?_
  refine K.move (.inl rfl) (gd0 rfl) rfl rfl ?_
  refine K.bin (V := .bool true) (gd0 rfl) rfl rfl (pn_eql_none Try.underlying73) rfl ?_
  refine K.nil ?_
  refine At.next ?_
  refine G.cond rfl (fun h1 => ?_) (fun h1 => ?_)
  ·
    refine G.seq ?_
    refine G.rg ?_
    refine K.nilRow 101 68 eTItem 2 (.inl rfl) (gd0 rfl) rfl rfl rfl ?_
    refine K.nil ?_
    refine At.next ?_
    refine G.ret ?_
    refine At.over_ret ?_
    refine At.ren (fs' := [(2, .a (.c (.nv 30)))]) (tl := [(30, lrow 30 68 eTItem 2 ([] : List TItem))]) [(30, 101)] [_] rfl ⟨rfl, trivial⟩ ⟨rfl, (lrow_ren rfl), trivial⟩ rfl ?_
    refine At.done Y [(.tmp 2, .c _)] rfl ⟨.tmp rfl, trivial⟩ (to' := [(30, _)]) ⟨rfl, trivial⟩ ?_ ?_ rfl rfl rfl (.inl rfl)
    · cases H0; rfl
    · cases H0; rfl
  · cases h1
theorem shelf_Items_z_z0_con {k : Nat}  {r : List TItem}  (H0 : shelf_Items_z.f k = some r) (m30 : Nat) (hd : ndB [m30] = true) : SCon Try.prog 54 [SV.raw (.pointer none)] [] (.a (.c (.nv m30))) [(m30, lrow m30 68 eTItem 2 r)] [m30] :=
  SCon.ren (rn [(30, m30)]) (shelf_Items_z_z0_con0 (k := k)   H0) trivial ⟨(lrow_ren rfl), trivial⟩ (rn_nd hd rfl rfl) (rn_ks hd rfl rfl rfl)
theorem shelf_Above_z_z0_con0 {k : Nat}  {a1 : TItem} {r : Int}  (H0 : shelf_Above_z.f k a1 = some r) : SCon Try.prog 57 [SV.raw (.pointer none), .a (.agg ((eTItem a1).map .v))] [] (.a (.c (.v (.int .i64 r)))) [] [] := by
  rw [shelf_Above_z.f] at H0
  refine spec_of [(0, _), (1, _)] [] 28 Try.func57 rfl Try.ntmps57 rfl rfl rfl rfl (fun β W F => ?_)
  refine G.seq ?_
  refine G.rg ?_
  refine K.box Y 100 [_, _] (gd0 rfl) rfl rfl rfl rfl rfl rfl ?_
  refine K.move (.inr rfl) (gd0 rfl) rfl rfl ?_
  refine K.nil ?_
  refine At.next ?_
  refine G.seq ?_
  refine G.seq ?_
  refine G.rg ?_
  refine K.move (.inl rfl) (gd0 rfl) rfl rfl ?_
  refine K.bin (V := .bool true) (gd0 rfl) rfl rfl (pn_eql_none Try.underlying73) rfl ?_
  refine K.nil ?_
  refine At.next ?_
  refine G.cond rfl (fun h1 => ?_) (fun h1 => ?_)
  ·
    refine G.seq ?_
    refine G.rg ?_
    refine K.move (.inr rfl) (gd0 rfl) rfl rfl ?_
    refine K.nil ?_
    refine At.next ?_
    refine G.ret ?_
    refine At.over_ret ?_
    refine At.done Y [(.tmp 4, .c _)] rfl ⟨.tmp rfl, trivial⟩ (to' := []) trivial ?_ ?_ rfl rfl rfl (.inl rfl)
    · cases H0; rfl
    · cases H0; rfl
  · cases h1
theorem shelf_Above_z_z0_con {k : Nat}  {a1 : TItem} {r : Int}  (H0 : shelf_Above_z.f k a1 = some r) : SCon Try.prog 57 [SV.raw (.pointer none), .a (.agg ((eTItem a1).map .v))] [] (.a (.c (.v (.int .i64 r)))) [] [] :=
  SCon.ren (rn []) (shelf_Above_z_z0_con0 (k := k)   H0) trivial trivial (by simp) (by simp)
end Go.Proofs.Ytjokolmijhhinaa


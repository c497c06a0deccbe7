/- The law functions of layer 3, walked. Printed by a program of mine. -/
import Derived.KernelRfl
import Derived.Test.YtgogiehpenfdpaaArI
import Derived.Test.YtgogiehpenfdpaaArT
import Derived.Test.YtgogiehpenfdpaaArB
namespace Go.Proofs.Ytgogiehpenfdpaa
open Go Go.Proofs.Ytgogiehpenfdpaa.Sx
set_option linter.unusedVariables false
set_option linter.unusedSimpArgs false
theorem awake03 : SCon Try.prog 11 [] [] (SV.b true) [] [] := by
  refine spec_of [] [] 63 Try.func11 rfl Try.ntmps11 rfl rfl rfl rfl (fun β W F => ?_)
  refine G.seq ?_
  refine G.rg ?_
  refine K.move (.inr rfl) (gd0 rfl) rfl rfl ?_
  refine K.nil ?_
  refine At.next ?_
  refine G.seq ?_
  refine G.rg ?_
  refine K.call0 [(.func 23, _), (_, _)] (newI _ 110) (toFn_func (cf 23 rfl) rfl) (gd0 rfl) ⟨rfl, rfl, trivial⟩ trivial rfl rfl rfl rfl rfl rfl ?_
  refine K.move (.inr rfl) (gd0 rfl) rfl rfl ?_
  refine K.nil ?_
  refine At.next ?_
  refine G.seq ?_
  refine G.seq ?_
  refine G.rg ?_
  refine K.move (.inl rfl) (gd0 rfl) rfl rfl ?_
  refine K.eqnil (V := false) (gd0 rfl) rfl rfl (pn_eql_some Try.underlying48) rfl ?_
  refine K.nil ?_
  refine At.next ?_
  refine G.cond rfl (fun h1 => ?_) (fun h1 => ?_)
  · cases h1
  ·
    refine G.skip ?_
    refine At.next ?_
    refine G.seq ?_
    refine G.rg ?_
    refine K.move (.inl rfl) (gd0 rfl) rfl rfl ?_
    refine K.call0 [(.func 24, _), ((.tmp 14), _), (_, _)] (putI _ _ (PoolOk.new _) (by decide) 110) (toFn_func (cf 24 rfl) rfl) (gd0 rfl) ⟨rfl, rfl, rfl, trivial⟩ ⟨rfl, trivial⟩ rfl rfl rfl rfl rfl rfl ?_
    refine K.move (.inl rfl) (gd0 rfl) rfl rfl ?_
    refine K.extract (gd0 rfl) rfl rfl rfl ?_
    refine K.extract (gd0 rfl) rfl rfl rfl ?_
    refine K.alloc Y 102 [_, _] (gd0 rfl) t40 rfl rfl rfl rfl rfl ?_
    refine K.store Y [_, _] (gd0 rfl) rfl rfl rfl t40 rfl rfl rfl rfl rfl ?_
    refine K.move (.inr rfl) (gd0 rfl) rfl rfl ?_
    refine K.nil ?_
    refine At.next ?_
    refine G.seq ?_
    refine G.rg ?_
    refine K.move (.inl rfl) (gd0 rfl) rfl rfl ?_
    refine K.call0 [(.func 24, _), ((.tmp 19), _), (_, _)] (putI _ _ (PoolOk.put (PoolOk.new _)) (by decide) 110) (toFn_func (cf 24 rfl) rfl) (gd0 rfl) ⟨rfl, rfl, rfl, trivial⟩ ⟨rfl, trivial⟩ rfl rfl rfl rfl rfl rfl ?_
    refine K.move (.inl rfl) (gd0 rfl) rfl rfl ?_
    refine K.extract (gd0 rfl) rfl rfl rfl ?_
    refine K.extract (gd0 rfl) rfl rfl rfl ?_
    refine K.alloc Y 104 [_, _] (gd0 rfl) t40 rfl rfl rfl rfl rfl ?_
    refine K.store Y [_, _] (gd0 rfl) rfl rfl rfl t40 rfl rfl rfl rfl rfl ?_
    refine K.move (.inr rfl) (gd0 rfl) rfl rfl ?_
    refine K.nil ?_
    refine At.next ?_
    refine G.seq ?_
    refine G.rg ?_
    refine K.move (.inl rfl) (gd0 rfl) rfl rfl ?_
    refine K.loadS Y [_, _] (gd0 rfl) rfl rfl t40 rfl rfl rfl ?_
    refine K.call0 [(.func 25, _), ((.tmp 24), _), ((.tmp 25), _)] (dropI' _ _ _ (PoolOk.put (PoolOk.put (PoolOk.new _))) (by decide) 110) (toFn_func (cf 25 rfl) rfl) (gd0 rfl) ⟨rfl, rfl, rfl, trivial⟩ ⟨rfl, trivial⟩ rfl rfl rfl rfl rfl rfl ?_
    refine K.move (.inl rfl) (gd0 rfl) rfl rfl ?_
    refine K.extract (gd0 rfl) rfl rfl rfl ?_
    refine K.extract (gd0 rfl) rfl rfl rfl ?_
    refine K.move (.inr rfl) (gd0 rfl) rfl rfl ?_
    refine K.move (.inr rfl) (gd0 rfl) rfl rfl ?_
    refine K.nil ?_
    refine At.next ?_
    refine G.seq ?_
    refine G.rg ?_
    refine K.move (.inl rfl) (gd0 rfl) rfl rfl ?_
    refine K.call0 [(.func 24, _), ((.tmp 30), _), (_, _)] (putI _ _ (PoolOk.drop (PoolOk.put (PoolOk.put (PoolOk.new _)))) (by decide) 110) (toFn_func (cf 24 rfl) rfl) (gd0 rfl) ⟨rfl, rfl, rfl, trivial⟩ ⟨rfl, trivial⟩ rfl rfl rfl rfl rfl rfl ?_
    refine K.move (.inl rfl) (gd0 rfl) rfl rfl ?_
    refine K.extract (gd0 rfl) rfl rfl rfl ?_
    refine K.extract (gd0 rfl) rfl rfl rfl ?_
    refine K.alloc Y 108 [_, _] (gd0 rfl) t40 rfl rfl rfl rfl rfl ?_
    refine K.store Y [_, _] (gd0 rfl) rfl rfl rfl t40 rfl rfl rfl rfl rfl ?_
    refine K.move (.inr rfl) (gd0 rfl) rfl rfl ?_
    refine K.nil ?_
    refine At.next ?_
    refine G.seq ?_
    refine G.rg ?_
    refine K.move (.inl rfl) (gd0 rfl) rfl rfl ?_
    refine K.move (.inl rfl) (gd0 rfl) rfl rfl ?_
    refine K.move (.inl rfl) (gd1 rfl rfl rfl (by kernel_rfl)) rfl rfl ?_
    refine K.pickT (gd0 rfl) rfl (by kernel_rfl) rfl rfl ?_
    refine K.move (.inl rfl) (gd0 rfl) rfl rfl ?_
    refine K.move (.inl rfl) (gd1 rfl rfl rfl (by kernel_rfl)) rfl rfl ?_
    refine K.pickT (gd0 rfl) rfl (by kernel_rfl) rfl rfl ?_
    refine K.move (.inl rfl) (gd0 rfl) rfl rfl ?_
    refine K.move (.inl rfl) (gd1 rfl rfl rfl (by kernel_rfl)) rfl rfl ?_
    refine K.pickT (gd0 rfl) rfl (by kernel_rfl) rfl rfl ?_
    refine K.move (.inl rfl) (gd0 rfl) rfl rfl ?_
    refine K.move (.inl rfl) (gd1 rfl rfl rfl (by kernel_rfl)) rfl rfl ?_
    refine K.bin (gd1 rfl rfl rfl (by kernel_rfl)) rfl rfl (fun _ => rfl) rfl ?_
    refine K.pickT (gd0 rfl) rfl (by kernel_rfl) rfl rfl ?_
    refine K.move (.inl rfl) (gd0 rfl) rfl rfl ?_
    refine K.loadS Y [_, _] (gd1 rfl rfl rfl (by kernel_rfl)) rfl rfl t40 rfl rfl rfl ?_
    refine K.build Y [(1, _)] [_, _] [(_, _)] (gd1 rfl rfl rfl (by kernel_rfl)) (AllE.spec ⟨rfl, trivial⟩) rfl rfl t40 rfl rfl ?_
    refine K.eqS [_, _] [_, _] (gd1 rfl rfl rfl (by kernel_rfl)) rfl rfl cmp40 rfl (.inl rfl) _ rfl rfl ?_
    refine K.pickT (gd0 rfl) rfl (by kernel_rfl) rfl rfl ?_
    refine K.move (.inl rfl) (gd0 rfl) rfl rfl ?_
    refine K.loadS Y [_, _] (gd1 rfl rfl rfl (by kernel_rfl)) rfl rfl t40 rfl rfl rfl ?_
    refine K.build Y [(0, _), (1, _)] [_, _] [(_, _), (_, _)] (gd1 rfl rfl rfl (by kernel_rfl)) (AllE.spec ⟨rfl, rfl, trivial⟩) rfl rfl t40 rfl rfl ?_
    refine K.eqS [_, _] [_, _] (gd1 rfl rfl rfl (by kernel_rfl)) rfl rfl cmp40 rfl (.inl rfl) _ rfl rfl ?_
    refine K.pickT (gd0 rfl) rfl (by kernel_rfl) rfl rfl ?_
    refine K.move (.inl rfl) (gd0 rfl) rfl rfl ?_
    refine K.loadS Y [_, _] (gd1 rfl rfl rfl (by kernel_rfl)) rfl rfl t40 rfl rfl rfl ?_
    refine K.build Y [(1, _)] [_, _] [(_, _)] (gd1 rfl rfl rfl (by kernel_rfl)) (AllE.spec ⟨rfl, trivial⟩) rfl rfl t40 rfl rfl ?_
    refine K.eqS [_, _] [_, _] (gd1 rfl rfl rfl (by kernel_rfl)) rfl rfl cmp40 rfl (.inl rfl) _ rfl rfl ?_
    refine K.pickT (gd0 rfl) rfl (by kernel_rfl) rfl rfl ?_
    refine K.move (.inr rfl) (gd0 rfl) rfl rfl ?_
    refine K.nil ?_
    refine At.next ?_
    refine G.ret ?_
    refine At.done Y [(.tmp 0, .c _)] rfl ⟨.tmp rfl, trivial⟩ (to' := []) trivial ?_ ?_ rfl rfl rfl (.inl rfl)
    · rfl
    · kernel_rfl
theorem refnew_ (c : Int) : SCon Try.prog 14 [SV.i c] [] (SV.p 109 0) [(109, blk 109 [.v (.slice none 0 0), .v (.slice none 0 0), .v (.slice none 0 0), .v (.slice none 0 0), .i (capOf c), .i 0] 29)] [109] := by
  refine spec_of [(0, _)] [] 10 Try.func14 rfl Try.ntmps14 rfl rfl rfl rfl (fun β W F => ?_)
  refine G.seq ?_
  refine G.rg ?_
  refine K.move (.inr rfl) (gd0 rfl) rfl rfl ?_
  refine K.nil ?_
  refine At.next ?_
  refine G.seq ?_
  refine G.seq ?_
  refine G.rg ?_
  refine K.move (.inl rfl) (gd0 rfl) rfl rfl ?_
  refine K.bin (gd0 rfl) rfl rfl (fun _ => rfl) rfl ?_
  refine K.nil ?_
  refine At.next ?_
  refine G.cond rfl (fun h1 => ?_) (fun h1 => ?_)
  ·
    refine G.rg ?_
    refine K.move (.inr rfl) (gd0 rfl) rfl rfl ?_
    refine K.nil ?_
    refine At.next ?_
    refine G.seq ?_
    refine G.seq ?_
    refine G.rg ?_
    refine K.move (.inl rfl) (gd0 rfl) rfl rfl ?_
    refine K.bin (gd0 rfl) rfl rfl (fun _ => rfl) rfl ?_
    refine K.nil ?_
    refine At.next ?_
    refine G.cond rfl (fun h2 => ?_) (fun h2 => ?_)
    ·
      refine G.rg ?_
      refine K.move (.inr rfl) (gd0 rfl) rfl rfl ?_
      refine K.nil ?_
      refine At.next ?_
      refine G.seq ?_
      refine G.rg ?_
      refine K.move (.inl rfl) (gd0 rfl) rfl rfl ?_
      refine K.build Y [(4, _)] [_, _, _, _, _, _] [((.tmp 7), _)] (gd0 rfl) (AllE.spec ⟨rfl, trivial⟩) rfl rfl t29 rfl rfl ?_
      refine K.box Y 109 [_, _, _, _, _, _] (gd0 rfl) rfl rfl rfl rfl rfl rfl ?_
      refine K.move (.inr rfl) (gd0 rfl) rfl rfl ?_
      refine K.nil ?_
      refine At.next ?_
      refine G.ret ?_
      refine At.done Y [(.tmp 2, .c _)] rfl ⟨.tmp rfl, trivial⟩ (to' := [(109, _)]) ⟨rfl, trivial⟩ ?_ ?_ rfl rfl rfl (.inl rfl)
      · exact congrArg (fun x => [(109, blk 109 [.v (.slice none 0 0), .v (.slice none 0 0), .v (.slice none 0 0), .v (.slice none 0 0), .i x, .i 0] 29)]) (by simp [capOf] at * <;> omega)
      · rfl
    ·
      refine G.skip ?_
      refine At.next ?_
      refine G.seq ?_
      refine G.rg ?_
      refine K.move (.inl rfl) (gd0 rfl) rfl rfl ?_
      refine K.build Y [(4, _)] [_, _, _, _, _, _] [((.tmp 7), _)] (gd0 rfl) (AllE.spec ⟨rfl, trivial⟩) rfl rfl t29 rfl rfl ?_
      refine K.box Y 109 [_, _, _, _, _, _] (gd0 rfl) rfl rfl rfl rfl rfl rfl ?_
      refine K.move (.inr rfl) (gd0 rfl) rfl rfl ?_
      refine K.nil ?_
      refine At.next ?_
      refine G.ret ?_
      refine At.done Y [(.tmp 2, .c _)] rfl ⟨.tmp rfl, trivial⟩ (to' := [(109, _)]) ⟨rfl, trivial⟩ ?_ ?_ rfl rfl rfl (.inl rfl)
      · exact congrArg (fun x => [(109, blk 109 [.v (.slice none 0 0), .v (.slice none 0 0), .v (.slice none 0 0), .v (.slice none 0 0), .i x, .i 0] 29)]) (by simp [capOf] at * <;> omega)
      · rfl
  ·
    refine G.skip ?_
    refine At.next ?_
    refine G.seq ?_
    refine G.seq ?_
    refine G.rg ?_
    refine K.move (.inl rfl) (gd0 rfl) rfl rfl ?_
    refine K.bin (gd0 rfl) rfl rfl (fun _ => rfl) rfl ?_
    refine K.nil ?_
    refine At.next ?_
    refine G.cond rfl (fun h3 => ?_) (fun h3 => ?_)
    ·
      refine G.rg ?_
      refine K.move (.inr rfl) (gd0 rfl) rfl rfl ?_
      refine K.nil ?_
      refine At.next ?_
      refine G.seq ?_
      refine G.rg ?_
      refine K.move (.inl rfl) (gd0 rfl) rfl rfl ?_
      refine K.build Y [(4, _)] [_, _, _, _, _, _] [((.tmp 7), _)] (gd0 rfl) (AllE.spec ⟨rfl, trivial⟩) rfl rfl t29 rfl rfl ?_
      refine K.box Y 109 [_, _, _, _, _, _] (gd0 rfl) rfl rfl rfl rfl rfl rfl ?_
      refine K.move (.inr rfl) (gd0 rfl) rfl rfl ?_
      refine K.nil ?_
      refine At.next ?_
      refine G.ret ?_
      refine At.done Y [(.tmp 2, .c _)] rfl ⟨.tmp rfl, trivial⟩ (to' := [(109, _)]) ⟨rfl, trivial⟩ ?_ ?_ rfl rfl rfl (.inl rfl)
      · exact congrArg (fun x => [(109, blk 109 [.v (.slice none 0 0), .v (.slice none 0 0), .v (.slice none 0 0), .v (.slice none 0 0), .i x, .i 0] 29)]) (by simp [capOf] at * <;> omega)
      · rfl
    ·
      refine G.skip ?_
      refine At.next ?_
      refine G.seq ?_
      refine G.rg ?_
      refine K.move (.inl rfl) (gd0 rfl) rfl rfl ?_
      refine K.build Y [(4, _)] [_, _, _, _, _, _] [((.tmp 7), _)] (gd0 rfl) (AllE.spec ⟨rfl, trivial⟩) rfl rfl t29 rfl rfl ?_
      refine K.box Y 109 [_, _, _, _, _, _] (gd0 rfl) rfl rfl rfl rfl rfl rfl ?_
      refine K.move (.inr rfl) (gd0 rfl) rfl rfl ?_
      refine K.nil ?_
      refine At.next ?_
      refine G.ret ?_
      refine At.done Y [(.tmp 2, .c _)] rfl ⟨.tmp rfl, trivial⟩ (to' := [(109, _)]) ⟨rfl, trivial⟩ ?_ ?_ rfl rfl rfl (.inl rfl)
      · exact congrArg (fun x => [(109, blk 109 [.v (.slice none 0 0), .v (.slice none 0 0), .v (.slice none 0 0), .v (.slice none 0 0), .i x, .i 0] 29)]) (by simp [capOf] at * <;> omega)
      · rfl
theorem refnew (c : Int) (k : Nat) : SCon Try.prog 14 [SV.i c] [] (SV.p k 0) [(k, blk k [.v (.slice none 0 0), .v (.slice none 0 0), .v (.slice none 0 0), .v (.slice none 0 0), .i (capOf c), .i 0] 29)] [k] :=
  SCon.ren (rn [(109, k)]) (refnew_ c) trivial ⟨blk_ren rfl rfl, trivial⟩ (by simp) (by intro j hj hn; simp [SV.ks, Av.ks, Cl.ks, blk] at hj hn; exact absurd hj hn)
theorem caps (c : Int) : SCon Try.prog 3 [SV.i c] [] (SV.b true) [] [] := by
  refine spec_of [(0, _)] [] 30 Try.func3 rfl Try.ntmps3 rfl rfl rfl rfl (fun β W F => ?_)
  refine G.seq ?_
  refine G.rg ?_
  refine K.move (.inr rfl) (gd0 rfl) rfl rfl ?_
  refine K.nil ?_
  refine At.next ?_
  refine G.seq ?_
  refine G.seq ?_
  refine G.rg ?_
  refine K.call0 [(.func 11, _)] (awake03) (toFn_func (cf 11 rfl) rfl) (gd0 rfl) ⟨rfl, trivial⟩ trivial rfl rfl rfl rfl rfl rfl ?_
  refine K.un (gd0 rfl) rfl (fun _ => rfl) rfl ?_
  refine K.nil ?_
  refine At.next ?_
  refine G.cond rfl (fun h1 => ?_) (fun h1 => ?_)
  · exact absurd h1 (by simp)
  ·
    refine G.skip ?_
    refine At.next ?_
    refine G.seq ?_
    refine G.rg ?_
    refine K.move (.inl rfl) (gd0 rfl) rfl rfl ?_
    refine K.call0 [(.func 12, _), ((.tmp 6), _)] (newB _ 107) (toFn_func (cf 12 rfl) rfl) (gd0 rfl) ⟨rfl, rfl, trivial⟩ trivial rfl rfl rfl rfl rfl rfl ?_
    refine K.move (.inr rfl) (gd0 rfl) rfl rfl ?_
    refine K.nil ?_
    refine At.next ?_
    refine G.seq ?_
    refine G.rg ?_
    refine K.move (.inl rfl) (gd0 rfl) rfl rfl ?_
    refine K.eqnil (V := true) (gd0 rfl) rfl rfl (pn_neq_some Try.underlying23) rfl ?_
    refine K.move (.inl rfl) (gd0 rfl) rfl rfl ?_
    refine K.move (.inl rfl) (gd1 rfl rfl rfl (by simp)) rfl rfl ?_
    refine K.callR [(.func 13, _), ((.tmp 11), _)] (capB' _ 107) (toFn_func (cf 13 rfl) rfl) (gd1 rfl rfl rfl (by simp)) ⟨rfl, rfl, trivial⟩ ⟨rfl, trivial⟩ rfl rfl rfl ?_
    refine K.move (.inl rfl) (gd1 rfl rfl rfl (by simp)) rfl rfl ?_
    refine K.call0 [(.func 14, _), ((.tmp 13), _)] (refnew _ 114) (toFn_func (cf 14 rfl) rfl) (gd1 rfl rfl rfl (by simp)) ⟨rfl, rfl, trivial⟩ trivial rfl rfl rfl rfl rfl rfl ?_
    refine K.nilCheck (gd1 rfl rfl rfl (by simp)) rfl rfl ?_
    refine K.fieldAddr Y (gd1 rfl rfl rfl (by simp)) rfl t29 rfl rfl ?_
    refine K.load1 Y (gd1 rfl rfl rfl (by simp)) rfl rfl t3 rfl rfl ?_
    refine K.bin (gd1 rfl rfl rfl (by simp)) rfl rfl (fun _ => rfl) rfl ?_
    refine K.pickT (gd0 rfl) rfl (by simp) rfl rfl ?_
    refine K.move (.inl rfl) (gd0 rfl) rfl rfl ?_
    refine K.move (.inl rfl) (gd1 rfl rfl rfl (by simp)) rfl rfl ?_
    refine K.callR [(.func 15, _), ((.tmp 21), _)] (lenB' _ 107) (toFn_func (cf 15 rfl) rfl) (gd1 rfl rfl rfl (by simp)) ⟨rfl, rfl, trivial⟩ ⟨rfl, trivial⟩ rfl rfl rfl ?_
    refine K.bin (gd1 rfl rfl rfl (by simp)) rfl rfl (fun _ => rfl) rfl ?_
    refine K.pickT (gd0 rfl) rfl (by simp) rfl rfl ?_
    refine K.move (.inl rfl) (gd0 rfl) rfl rfl ?_
    refine K.move (.inl rfl) (gd1 rfl rfl rfl (by simp)) rfl rfl ?_
    refine K.callR [(.func 16, _), ((.tmp 26), _)] (visitsB' _ 107) (toFn_func (cf 16 rfl) rfl) (gd1 rfl rfl rfl (by simp)) ⟨rfl, rfl, trivial⟩ ⟨rfl, trivial⟩ rfl rfl rfl ?_
    refine K.bin (gd1 rfl rfl rfl (by simp)) rfl rfl (fun _ => rfl) rfl ?_
    refine K.pickT (gd0 rfl) rfl (by simp) rfl rfl ?_
    refine K.move (.inr rfl) (gd0 rfl) rfl rfl ?_
    refine K.nil ?_
    refine At.next ?_
    refine G.ret ?_
    refine At.done Y [(.tmp 2, .c _)] rfl ⟨.tmp rfl, trivial⟩ (to' := []) trivial ?_ ?_ rfl rfl rfl (.inl rfl)
    · rfl
    · simp; rfl
end Go.Proofs.Ytgogiehpenfdpaa

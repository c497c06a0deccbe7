/- Contracts of a pool's functions. Printed by a program of mine. -/
import Derived.KernelRfl
import Derived.Test.YtgogiehpenfdpaaBase
import Derived.Test.YtgogiehpenfdpaaSxm
namespace Go.Proofs.Ytgogiehpenfdpaa
open Go Go.Proofs.Ytgogiehpenfdpaa.Sx
set_option linter.unusedVariables false
set_option linter.unusedSimpArgs false
abbrev fCB : Cell Bool → List Value := cellE boolE
theorem fCB_len : ∀ c, (fCB c).length = 3 := cellE_len boolE_len
theorem fCB_one : ∀ c, (fCB c).all Value.oneCell' = true := cellE_one boolE_one
abbrev avB (x : Bool) : Av := .c (.v (.bool x))
abbrev poolB (k : Nat) (p : Pool Bool) : Tok := pool k 90 167 3 3 fCB p

theorem lenB (p : Pool Bool) : SCon Try.prog 15 [SV.p 0 0] [(0, poolB 0 p)] (SV.i p.held) [(0, poolB 0 p)] [] := by
  obtain ⟨cells, free, cap, held, vis⟩ := p
  refine spec_of [(0, _)] [(0, _)] 7 Try.func15 rfl Try.ntmps15 rfl rfl rfl rfl (fun β W F => ?_)
  refine G.ent [(0, _)] [(0, _), (21, _), (22, _)] [21, 22] (pool_open (by decide) (by decide) (by decide)) ⟨rfl, trivial⟩ rfl rfl rfl rfl ?_
  refine G.seq ?_
  refine G.rg ?_
  refine K.move (.inr rfl) (gd0 rfl) rfl rfl ?_
  refine K.nil ?_
  refine At.next ?_
  refine G.seq ?_
  refine G.rg ?_
  refine K.move (.inl rfl) (gd0 rfl) rfl rfl ?_
  refine K.nilCheck (gd0 rfl) rfl rfl ?_
  refine K.fieldAddr Y (gd0 rfl) rfl t90 rfl rfl ?_
  refine K.load1 Y (gd0 rfl) rfl rfl t3 rfl rfl ?_
  refine K.move (.inr rfl) (gd0 rfl) rfl rfl ?_
  refine K.nil ?_
  refine At.next ?_
  refine G.ret ?_
  refine At.ent [(0, _), (21, _), (22, _)] [(0, poolB 0 ⟨_, _, _, _, _⟩)] [] (pool_close _ _ _ _ _) ⟨rfl, rfl, rfl, trivial⟩ rfl rfl rfl rfl ?_
  refine At.done Y [(.tmp 2, .c _)] rfl ⟨.tmp rfl, trivial⟩ (to' := [(0, _)]) ⟨rfl, trivial⟩ ?_ ?_ rfl rfl rfl (.inl rfl)
  · rfl
  · rfl
theorem capB (p : Pool Bool) : SCon Try.prog 13 [SV.p 0 0] [(0, poolB 0 p)] (SV.i p.cap) [(0, poolB 0 p)] [] := by
  obtain ⟨cells, free, cap, held, vis⟩ := p
  refine spec_of [(0, _)] [(0, _)] 7 Try.func13 rfl Try.ntmps13 rfl rfl rfl rfl (fun β W F => ?_)
  refine G.ent [(0, _)] [(0, _), (21, _), (22, _)] [21, 22] (pool_open (by decide) (by decide) (by decide)) ⟨rfl, trivial⟩ rfl rfl rfl rfl ?_
  refine G.seq ?_
  refine G.rg ?_
  refine K.move (.inr rfl) (gd0 rfl) rfl rfl ?_
  refine K.nil ?_
  refine At.next ?_
  refine G.seq ?_
  refine G.rg ?_
  refine K.move (.inl rfl) (gd0 rfl) rfl rfl ?_
  refine K.nilCheck (gd0 rfl) rfl rfl ?_
  refine K.fieldAddr Y (gd0 rfl) rfl t90 rfl rfl ?_
  refine K.load1 Y (gd0 rfl) rfl rfl t3 rfl rfl ?_
  refine K.move (.inr rfl) (gd0 rfl) rfl rfl ?_
  refine K.nil ?_
  refine At.next ?_
  refine G.ret ?_
  refine At.ent [(0, _), (21, _), (22, _)] [(0, poolB 0 ⟨_, _, _, _, _⟩)] [] (pool_close _ _ _ _ _) ⟨rfl, rfl, rfl, trivial⟩ rfl rfl rfl rfl ?_
  refine At.done Y [(.tmp 2, .c _)] rfl ⟨.tmp rfl, trivial⟩ (to' := [(0, _)]) ⟨rfl, trivial⟩ ?_ ?_ rfl rfl rfl (.inl rfl)
  · rfl
  · rfl
theorem visitsB (p : Pool Bool) : SCon Try.prog 16 [SV.p 0 0] [(0, poolB 0 p)] (SV.i p.vis) [(0, poolB 0 p)] [] := by
  obtain ⟨cells, free, cap, held, vis⟩ := p
  refine spec_of [(0, _)] [(0, _)] 7 Try.func16 rfl Try.ntmps16 rfl rfl rfl rfl (fun β W F => ?_)
  refine G.ent [(0, _)] [(0, _), (21, _), (22, _)] [21, 22] (pool_open (by decide) (by decide) (by decide)) ⟨rfl, trivial⟩ rfl rfl rfl rfl ?_
  refine G.seq ?_
  refine G.rg ?_
  refine K.move (.inr rfl) (gd0 rfl) rfl rfl ?_
  refine K.nil ?_
  refine At.next ?_
  refine G.seq ?_
  refine G.rg ?_
  refine K.move (.inl rfl) (gd0 rfl) rfl rfl ?_
  refine K.nilCheck (gd0 rfl) rfl rfl ?_
  refine K.fieldAddr Y (gd0 rfl) rfl t90 rfl rfl ?_
  refine K.load1 Y (gd0 rfl) rfl rfl t3 rfl rfl ?_
  refine K.move (.inr rfl) (gd0 rfl) rfl rfl ?_
  refine K.nil ?_
  refine At.next ?_
  refine G.ret ?_
  refine At.ent [(0, _), (21, _), (22, _)] [(0, poolB 0 ⟨_, _, _, _, _⟩)] [] (pool_close _ _ _ _ _) ⟨rfl, rfl, rfl, trivial⟩ rfl rfl rfl rfl ?_
  refine At.done Y [(.tmp 2, .c _)] rfl ⟨.tmp rfl, trivial⟩ (to' := [(0, _)]) ⟨rfl, trivial⟩ ?_ ?_ rfl rfl rfl (.inl rfl)
  · rfl
  · rfl
theorem newB_ (c : Int) : SCon Try.prog 12 [SV.i c] [] (SV.p 107 0) [(107, poolB 107 ⟨[], [], capOf c, 0, 0⟩)] [107] := by
  refine spec_of [(0, _)] [] 8 Try.func12 rfl Try.ntmps12 rfl rfl rfl rfl (fun β W F => ?_)
  refine G.seq ?_
  refine G.rg ?_
  refine K.move (.inr rfl) (gd0 rfl) rfl rfl ?_
  refine K.nil ?_
  refine At.next ?_
  refine G.seq ?_
  refine G.rg ?_
  refine K.move (.inl rfl) (gd0 rfl) rfl rfl ?_
  refine K.bi2 (gd0 rfl) rfl rfl (fun _ _ => rfl) rfl ?_
  refine K.bi2 (gd0 rfl) rfl rfl (fun _ _ => rfl) rfl ?_
  refine K.build Y [(2, _)] [_, _, _, _, _] [((.tmp 5), _)] (gd0 rfl) (AllE.spec ⟨rfl, trivial⟩) rfl rfl t90 rfl rfl ?_
  refine K.box Y 107 [_, _, _, _, _] (gd0 rfl) rfl rfl rfl rfl rfl rfl ?_
  refine K.move (.inr rfl) (gd0 rfl) rfl rfl ?_
  refine K.nil ?_
  refine At.next ?_
  refine G.ret ?_
  refine At.ent [(107, _)] [(107, poolB 107 ⟨_, _, _, _, _⟩)] [] (pool_nil _ _ _) ⟨rfl, trivial⟩ rfl rfl rfl rfl ?_
  refine At.done Y [(.tmp 2, .c _)] rfl ⟨.tmp rfl, trivial⟩ (to' := [(107, _)]) ⟨rfl, trivial⟩ ?_ ?_ rfl rfl rfl (.inl rfl)
  · rfl
  · rfl
theorem newB (c : Int) (k : Nat) : SCon Try.prog 12 [SV.i c] [] (SV.p k 0) [(k, poolB k ⟨[], [], capOf c, 0, 0⟩)] [k] :=
  SCon.ren (rn [(107, k)]) (newB_ c) trivial ⟨pool_ren rfl, trivial⟩ (by simp) (by intro j hj hn; simp [SV.ks, Av.ks, Cl.ks, pool] at hj hn; exact absurd hj hn)
theorem lenB' (p : Pool Bool) (k : Nat) : SCon Try.prog 15 [SV.p k 0] [(k, poolB k p)] (SV.i p.held) [(k, poolB k p)] [] :=
  SCon.ren (rn [(0, k)]) (lenB p) ⟨pool_ren rfl, trivial⟩ ⟨pool_ren rfl, trivial⟩ (by simp) (by simp)

theorem capB' (p : Pool Bool) (k : Nat) : SCon Try.prog 13 [SV.p k 0] [(k, poolB k p)] (SV.i p.cap) [(k, poolB k p)] [] :=
  SCon.ren (rn [(0, k)]) (capB p) ⟨pool_ren rfl, trivial⟩ ⟨pool_ren rfl, trivial⟩ (by simp) (by simp)

theorem visitsB' (p : Pool Bool) (k : Nat) : SCon Try.prog 16 [SV.p k 0] [(k, poolB k p)] (SV.i p.vis) [(k, poolB k p)] [] :=
  SCon.ren (rn [(0, k)]) (visitsB p) ⟨pool_ren rfl, trivial⟩ ⟨pool_ren rfl, trivial⟩ (by simp) (by simp)

end Go.Proofs.Ytgogiehpenfdpaa

/- Contracts of a pool's functions. Printed by a program of mine. -/
import Derived.KernelRfl
import Derived.Test.YtgogiehpenfdpaaBase
import Derived.Test.YtgogiehpenfdpaaSxm
namespace Go.Proofs.Ytgogiehpenfdpaa
open Go Go.Proofs.Ytgogiehpenfdpaa.Sx
set_option linter.unusedVariables false
set_option linter.unusedSimpArgs false
abbrev fCI : Cell Int → List Value := cellE intE
theorem fCI_len : ∀ c, (fCI c).length = 3 := cellE_len intE_len
theorem fCI_one : ∀ c, (fCI c).all Value.oneCell' = true := cellE_one intE_one
abbrev avI (x : Int) : Av := .c (.v (.int .i64 x))
abbrev poolI (k : Nat) (p : Pool Int) : Tok := pool k 100 103 3 3 fCI p

theorem nextI (p : Pool Int) (hc : p.cells.length < 4294967296) (hf : p.free.length < 4294967296) : SCon Try.prog 52 [SV.p 0 0] [(0, poolI 0 p)] (SV.i (p.next 0).1) [(0, poolI 0 (p.next 0).2)] [] := by
  obtain ⟨cells, free, cap, held, vis⟩ := p
  simp only at hc hf
  rcases List.eq_nil_or_concat free with h0 | ⟨l, x, h0⟩
  · subst h0
    refine spec_of [(0, _)] [(0, _)] 46 Try.func52 rfl Try.ntmps52 rfl rfl rfl rfl (fun β W F => ?_)
    refine G.ent [(0, _)] [(0, _), (21, _), (22, _)] [21, 22] (pool_open (by decide) (by decide) (by decide)) ⟨rfl, trivial⟩ rfl rfl rfl rfl ?_
    refine G.seq ?_
    refine G.rg ?_
    refine K.move (.inr rfl) (gd0 rfl) rfl rfl ?_
    refine K.nil ?_
    refine At.next ?_
    refine G.seq ?_
    refine G.seq ?_
    refine G.rg ?_
    refine K.move (.inl rfl) (gd0 rfl) rfl rfl ?_
    refine K.nilCheck (gd0 rfl) rfl rfl ?_
    refine K.fieldAddr Y (gd0 rfl) rfl t100 rfl rfl ?_
    refine K.load1 Y (gd0 rfl) rfl rfl t26 rfl rfl ?_
    refine K.lenL (lrowV 22 3 intE 1 _) (lrowV_is intE_len (by decide)) (gd0 rfl) rfl rfl Try.underlying26 rfl ?_
    refine K.bin (gd0 rfl) rfl rfl (fun _ => rfl) rfl ?_
    refine K.move (.inr rfl) (gd0 rfl) rfl rfl ?_
    refine K.nil ?_
    refine At.next ?_
    refine G.seq ?_
    refine G.rg ?_
    refine K.move (.inl rfl) (gd0 rfl) rfl rfl ?_
    refine K.bin (gd0 rfl) rfl rfl (fun _ => rfl) rfl ?_
    refine K.nil ?_
    refine At.next ?_
    refine G.cond rfl (fun h1 => ?_) (fun h1 => ?_)
    · exact absurd h1 (by simp [IntKind.wrap_i64] at * <;> omega)
    ·
      refine G.skip ?_
      refine At.next ?_
      refine G.seq ?_
      refine G.rg ?_
      refine K.move (.inl rfl) (gd0 rfl) rfl rfl ?_
      refine K.move (.inl rfl) (gd0 rfl) rfl rfl ?_
      refine K.nilCheck (gd0 rfl) rfl rfl ?_
      refine K.fieldAddr Y (gd0 rfl) rfl t100 rfl rfl ?_
      refine K.load1 Y (gd0 rfl) rfl rfl t98 rfl rfl ?_
      refine K.build Y [] [_, _, _] [] (gd0 rfl) (AllE.spec trivial) rfl rfl t103 rfl rfl ?_
      refine K.buildL Y 136 [(⟨0, 0, false⟩ : Cell Int)] [(0, _)] [((.tmp 35), _)] fCI_len (gd0 rfl) (AllE.spec ⟨rfl, trivial⟩) rfl rfl Try.underlying98 t103 rfl rfl rfl rfl rfl rfl rfl rfl ?_
      refine K.appendL 137 (lrowV 136 103 fCI 3 _) _ el98 (lrowV_is fCI_len (by decide)) fCI_one (gd0 rfl) rfl rfl rfl rfl rfl (by simp only [List.length_cons, List.length_nil, maxLen]; omega) (by simp only [List.length_cons, List.length_nil, maxLen]; omega) rfl rfl rfl rfl rfl rfl ?_
      refine K.nilCheck (gd0 rfl) rfl rfl ?_
      refine K.fieldAddr Y (gd0 rfl) rfl t100 rfl rfl ?_
      refine K.store Y [_, _, _, _, _] (gd0 rfl) rfl rfl rfl t98 rfl rfl rfl rfl rfl ?_
      refine K.nil ?_
      refine At.next ?_
      refine G.seq ?_
      refine G.rg ?_
      refine K.move (.inl rfl) (gd0 rfl) rfl rfl ?_
      refine K.nilCheck (gd0 rfl) rfl rfl ?_
      refine K.fieldAddr Y (gd0 rfl) rfl t100 rfl rfl ?_
      refine K.load1 Y (gd0 rfl) rfl rfl t98 rfl rfl ?_
      refine K.lenL (lrowV 137 103 fCI 3 _) (lrowV_is fCI_len (by decide)) (gd0 rfl) rfl rfl Try.underlying98 rfl ?_
      refine K.bin (gd0 rfl) rfl rfl (fun _ => rfl) rfl ?_
      refine K.move (.inr rfl) (gd0 rfl) rfl rfl ?_
      refine K.nil ?_
      refine At.next ?_
      refine G.ret ?_
      refine At.ent [(0, _), (137, _), (22, _)] [(0, poolI 0 ⟨_, _, _, _, _⟩)] [] (pool_close _ _ _ _ _) ⟨rfl, rfl, rfl, trivial⟩ rfl rfl rfl rfl ?_
      refine At.done Y [(.tmp 2, .c _)] rfl ⟨.tmp rfl, trivial⟩ (to' := [(0, _)]) ⟨rfl, trivial⟩ ?_ ?_ rfl rfl rfl (.inl rfl)
      · simp [Pool.next, *]
      · exact ret_i (by simp [Pool.next, IntKind.wrap_i64]; omega)
  · rw [List.concat_eq_append] at h0; subst h0
    have hget : (l ++ [x])[l.length]? = some x := by simp
    refine spec_of [(0, _)] [(0, _)] 46 Try.func52 rfl Try.ntmps52 rfl rfl rfl rfl (fun β W F => ?_)
    refine G.ent [(0, _)] [(0, _), (21, _), (22, _)] [21, 22] (pool_open (by decide) (by decide) (by decide)) ⟨rfl, trivial⟩ rfl rfl rfl rfl ?_
    refine G.seq ?_
    refine G.rg ?_
    refine K.move (.inr rfl) (gd0 rfl) rfl rfl ?_
    refine K.nil ?_
    refine At.next ?_
    refine G.seq ?_
    refine G.seq ?_
    refine G.rg ?_
    refine K.move (.inl rfl) (gd0 rfl) rfl rfl ?_
    refine K.nilCheck (gd0 rfl) rfl rfl ?_
    refine K.fieldAddr Y (gd0 rfl) rfl t100 rfl rfl ?_
    refine K.load1 Y (gd0 rfl) rfl rfl t26 rfl rfl ?_
    refine K.lenL (lrowV 22 3 intE 1 _) (lrowV_is intE_len (by decide)) (gd0 rfl) rfl rfl Try.underlying26 rfl ?_
    refine K.bin (gd0 rfl) rfl rfl (fun _ => rfl) rfl ?_
    refine K.move (.inr rfl) (gd0 rfl) rfl rfl ?_
    refine K.nil ?_
    refine At.next ?_
    refine G.seq ?_
    refine G.rg ?_
    refine K.move (.inl rfl) (gd0 rfl) rfl rfl ?_
    refine K.bin (gd0 rfl) rfl rfl (fun _ => rfl) rfl ?_
    refine K.nil ?_
    refine At.next ?_
    refine G.cond rfl (fun h1 => ?_) (fun h1 => ?_)
    ·
      refine G.seq ?_
      refine G.rg ?_
      refine K.move (.inl rfl) (gd0 rfl) rfl rfl ?_
      refine K.nilCheck (gd0 rfl) rfl rfl ?_
      refine K.fieldAddr Y (gd0 rfl) rfl t100 rfl rfl ?_
      refine K.load1 Y (gd0 rfl) rfl rfl t26 rfl rfl ?_
      refine K.move (.inl rfl) (gd0 rfl) rfl rfl ?_
      refine K.idxL (lrowV 22 3 intE 1 _) l.length (lrowV_is intE_len (by decide)) hget (by simp [IntKind.wrap_i64] at * <;> omega) (gd0 rfl) rfl rfl rfl Try.underlying26 el26.size_run rfl ?_
      refine K.load1L Y (lrowV 22 3 intE 1 _) l.length 0 (lrowV_is intE_len (by decide)) hget (gd0 rfl) rfl rfl t3 rfl rfl ?_
      refine K.move (.inr rfl) (gd0 rfl) rfl rfl ?_
      refine K.nil ?_
      refine At.next ?_
      refine G.seq ?_
      refine G.rg ?_
      refine K.move (.inl rfl) (gd0 rfl) rfl rfl ?_
      refine K.move (.inl rfl) (gd0 rfl) rfl rfl ?_
      refine K.nilCheck (gd0 rfl) rfl rfl ?_
      refine K.fieldAddr Y (gd0 rfl) rfl t100 rfl rfl ?_
      refine K.load1 Y (gd0 rfl) rfl rfl t26 rfl rfl ?_
      refine K.move (.inl rfl) (gd0 rfl) rfl rfl ?_
      refine K.cutL 126 l.length intE_len (gd0 rfl) rfl (.at_ rfl (by simp [IntKind.wrap_i64] at * <;> omega) (by simp [IntKind.wrap_i64] at * <;> omega)) rfl Try.underlying26 el26.size_run (by simp) rfl rfl rfl rfl ?_
      refine K.nilCheck (gd0 rfl) rfl rfl ?_
      refine K.fieldAddr Y (gd0 rfl) rfl t100 rfl rfl ?_
      refine K.store Y [_, _, _, _, _] (gd0 rfl) rfl rfl rfl t26 rfl rfl rfl rfl rfl ?_
      refine K.nil ?_
      refine At.next ?_
      refine G.seq ?_
      refine G.rg ?_
      refine K.move (.inl rfl) (gd0 rfl) rfl rfl ?_
      refine K.move (.inr rfl) (gd0 rfl) rfl rfl ?_
      refine K.nil ?_
      refine At.next ?_
      refine G.ret ?_
      refine At.over_ret ?_
      refine At.ent [(0, _), (21, _), (126, _)] [(0, poolI 0 ⟨_, _, _, _, _⟩)] [] (pool_close _ _ _ _ _) ⟨rfl, rfl, rfl, trivial⟩ rfl rfl rfl rfl ?_
      refine At.done Y [(.tmp 2, .c _)] rfl ⟨.tmp rfl, trivial⟩ (to' := [(0, _)]) ⟨rfl, trivial⟩ ?_ ?_ rfl rfl rfl (.inl rfl)
      · simp [Pool.next, *]
      · exact ret_i (by simp [Pool.next])
    · exact absurd h1 (by simp [IntKind.wrap_i64] at * <;> omega)
theorem findSI {cells : List (Cell Int)} {n : Nat} {c : Cell Int} (hg : cells[n]? = some c) (hl : c.live = true) (hlen : cells.length < 4294967296) (cap held vis : Int) : SCon Try.prog 53 [SV.p 0 0, SV.agg [.i (n : Int), .i c.gen]] [(0, blk 0 [.nv 1, .nv 2, .i cap, .i held, .i vis] 100), (1, lrow 1 103 fCI 3 cells)] (.a (.c (.rp 1 (n * 3)))) [(0, blk 0 [.nv 1, .nv 2, .i cap, .i held, .i (IntKind.i64.wrap (vis + 1))] 100), (1, lrow 1 103 fCI 3 cells)] [] := by
  have hlt := (List.getElem?_eq_some_iff.1 hg).1
  refine spec_of [(0, _), (1, _)] [(0, _), (1, _)] 48 Try.func53 rfl Try.ntmps53 rfl rfl rfl rfl (fun β W F => ?_)
  refine G.seq ?_
  refine G.rg ?_
  refine K.box Y 103 [_, _] (gd0 rfl) rfl rfl rfl rfl rfl rfl ?_
  refine K.move (.inr rfl) (gd0 rfl) rfl rfl ?_
  refine K.nil ?_
  refine At.next ?_
  refine G.seq ?_
  refine G.seq ?_
  have h1 : (decide ((n : Int) < 0)) = false := by simp [IntKind.wrap_i64] at * <;> omega
  refine G.rd mixed ?_
  refine K.fieldAddr Y (gd0 rfl) rfl t40 rfl rfl ?_
  refine K.load1 Y (gd0 rfl) rfl rfl t3 rfl rfl ?_
  refine K.bin (gd0 rfl) rfl rfl (fun _ => rfl) rfl ?_
  refine K.move (.inl rfl) (gd0 rfl) rfl rfl ?_
  refine K.fieldAddr Y (gd1 rfl rfl rfl (h1)) rfl t40 rfl rfl ?_
  refine K.load1 Y (gd1 rfl rfl rfl (h1)) rfl rfl t3 rfl rfl ?_
  refine K.move (.inl rfl) (gd1 rfl rfl rfl (h1)) rfl rfl ?_
  refine K.nilCheck (gd1 rfl rfl rfl (h1)) rfl rfl ?_
  refine K.fieldAddr Y (gd1 rfl rfl rfl (h1)) rfl t100 rfl rfl ?_
  refine K.load1 Y (gd1 rfl rfl rfl (h1)) rfl rfl t98 rfl rfl ?_
  refine K.lenL (lrowV 1 103 fCI 3 _) (lrowV_is fCI_len (by decide)) (gd1 rfl rfl rfl (h1)) rfl rfl Try.underlying98 rfl ?_
  refine K.bin (gd1 rfl rfl rfl (h1)) rfl rfl (fun _ => rfl) rfl ?_
  refine K.pickF (gd0 rfl) rfl (h1) rfl rfl ?_
  refine K.nil ?_
  refine ⟨by kernel_rfl, ?_⟩
  refine At.next ?_
  refine G.cond rfl (fun h2 => ?_) (fun h2 => ?_)
  · exact absurd h2 (by simp [IntKind.wrap_i64] at * <;> omega)
  ·
    refine G.skip ?_
    refine At.next ?_
    refine G.seq ?_
    refine G.rd mixed ?_
    refine K.move (.inl rfl) (gd0 rfl) rfl rfl ?_
    refine K.nilCheck (gd0 rfl) rfl rfl ?_
    refine K.fieldAddr Y (gd0 rfl) rfl t100 rfl rfl ?_
    refine K.load1 Y (gd0 rfl) rfl rfl t98 rfl rfl ?_
    refine K.fieldAddr Y (gd0 rfl) rfl t40 rfl rfl ?_
    refine K.load1 Y (gd0 rfl) rfl rfl t3 rfl rfl ?_
    refine K.idxL (lrowV 1 103 fCI 3 _) n (lrowV_is fCI_len (by decide)) hg rfl (gd0 rfl) rfl rfl rfl Try.underlying98 el98.size_run rfl ?_
    refine K.move (.inr rfl) (gd0 rfl) rfl rfl ?_
    refine K.nil ?_
    refine ⟨by kernel_rfl, ?_⟩
    refine At.next ?_
    refine G.seq ?_
    refine G.seq ?_
    have h3 : (!c.live) = false := by simp [hl]
    refine G.rd mixed ?_
    refine K.move (.inl rfl) (gd0 rfl) rfl rfl ?_
    refine K.nilL (lrowV 1 103 fCI 3 _) n 0 (lrowV_is fCI_len (by decide)) hg (gd0 rfl) rfl rfl rfl rfl ?_
    refine K.fieldL Y (lrowV 1 103 fCI 3 _) n 0 2 (lrowV_is fCI_len (by decide)) hg (gd0 rfl) rfl rfl t103 rfl rfl rfl rfl ?_
    refine K.load1L Y (lrowV 1 103 fCI 3 _) n 2 (lrowV_is fCI_len (by decide)) hg (gd0 rfl) rfl rfl t4 rfl rfl ?_
    refine K.un (gd0 rfl) rfl (fun _ => rfl) rfl ?_
    refine K.move (.inl rfl) (gd0 rfl) rfl rfl ?_
    refine K.move (.inl rfl) (gd1 rfl rfl rfl (h3)) rfl rfl ?_
    refine K.nilL (lrowV 1 103 fCI 3 _) n 0 (lrowV_is fCI_len (by decide)) hg (gd1 rfl rfl rfl (h3)) rfl rfl rfl rfl ?_
    refine K.fieldL Y (lrowV 1 103 fCI 3 _) n 0 1 (lrowV_is fCI_len (by decide)) hg (gd1 rfl rfl rfl (h3)) rfl rfl t103 rfl rfl rfl rfl ?_
    refine K.load1L Y (lrowV 1 103 fCI 3 _) n 1 (lrowV_is fCI_len (by decide)) hg (gd1 rfl rfl rfl (h3)) rfl rfl t3 rfl rfl ?_
    refine K.fieldAddr Y (gd1 rfl rfl rfl (h3)) rfl t40 rfl rfl ?_
    refine K.load1 Y (gd1 rfl rfl rfl (h3)) rfl rfl t3 rfl rfl ?_
    refine K.bin (gd1 rfl rfl rfl (h3)) rfl rfl (fun _ => rfl) rfl ?_
    refine K.pickF (gd0 rfl) rfl (h3) rfl rfl ?_
    refine K.nil ?_
    refine ⟨by kernel_rfl, ?_⟩
    refine At.next ?_
    refine G.cond rfl (fun h4 => ?_) (fun h4 => ?_)
    · exact absurd h4 (by simp)
    ·
      refine G.skip ?_
      refine At.next ?_
      refine G.seq ?_
      refine G.rg ?_
      refine K.move (.inl rfl) (gd0 rfl) rfl rfl ?_
      refine K.nilCheck (gd0 rfl) rfl rfl ?_
      refine K.fieldAddr Y (gd0 rfl) rfl t100 rfl rfl ?_
      refine K.load1 Y (gd0 rfl) rfl rfl t3 rfl rfl ?_
      refine K.bin (gd0 rfl) rfl rfl (fun _ => rfl) rfl ?_
      refine K.nilCheck (gd0 rfl) rfl rfl ?_
      refine K.fieldAddr Y (gd0 rfl) rfl t100 rfl rfl ?_
      refine K.store Y [_, _, _, _, _] (gd0 rfl) rfl rfl rfl t3 rfl rfl rfl rfl rfl ?_
      refine K.nil ?_
      refine At.next ?_
      refine G.seq ?_
      refine G.rg ?_
      refine K.move (.inl rfl) (gd0 rfl) rfl rfl ?_
      refine K.move (.inr rfl) (gd0 rfl) rfl rfl ?_
      refine K.nil ?_
      refine At.next ?_
      refine G.ret ?_
      refine At.done Y [(.tmp 4, .c _)] rfl ⟨.tmp rfl, trivial⟩ (to' := [(0, _), (1, _)]) ⟨rfl, rfl, trivial⟩ ?_ ?_ rfl rfl rfl (.inl rfl)
      · rfl
      · rfl
theorem findNI {cells : List (Cell Int)} {i g : Int} (hn : lookC cells i g = none) (hlen : cells.length < 4294967296) (cap held vis : Int) : SCon Try.prog 53 [SV.p 0 0, SV.agg [.i i, .i g]] [(0, blk 0 [.nv 1, .nv 2, .i cap, .i held, .i vis] 100), (1, lrow 1 103 fCI 3 cells)] (SV.raw (.pointer none)) [(0, blk 0 [.nv 1, .nv 2, .i cap, .i held, .i vis] 100), (1, lrow 1 103 fCI 3 cells)] [] := by
  refine spec_of [(0, _), (1, _)] [(0, _), (1, _)] 48 Try.func53 rfl Try.ntmps53 rfl rfl rfl rfl (fun β W F => ?_)
  refine G.seq ?_
  refine G.rg ?_
  refine K.box Y 103 [_, _] (gd0 rfl) rfl rfl rfl rfl rfl rfl ?_
  refine K.move (.inr rfl) (gd0 rfl) rfl rfl ?_
  refine K.nil ?_
  refine At.next ?_
  refine G.seq ?_
  refine G.seq ?_
  rcases Bool.eq_false_or_eq_true (decide (i < 0)) with h1 | h1
  ·
    refine G.rd mixed ?_
    refine K.fieldAddr Y (gd0 rfl) rfl t40 rfl rfl ?_
    refine K.load1 Y (gd0 rfl) rfl rfl t3 rfl rfl ?_
    refine K.bin (gd0 rfl) rfl rfl (fun _ => rfl) rfl ?_
    refine K.move (.inl rfl) (gd0 rfl) rfl rfl ?_
    refine K.skip rfl rfl rfl rfl (h1) rfl ?_
    refine K.skip rfl rfl rfl rfl (h1) rfl ?_
    refine K.skip rfl rfl rfl rfl (h1) rfl ?_
    refine K.skip rfl rfl rfl rfl (h1) rfl ?_
    refine K.skip rfl rfl rfl rfl (h1) rfl ?_
    refine K.skip rfl rfl rfl rfl (h1) rfl ?_
    refine K.skip rfl rfl rfl rfl (h1) rfl ?_
    refine K.skip rfl rfl rfl rfl (h1) rfl ?_
    refine K.pickT (gd0 rfl) rfl (h1) rfl rfl ?_
    refine K.nil ?_
    refine ⟨by kernel_rfl, ?_⟩
    refine At.next ?_
    refine G.cond rfl (fun h2 => ?_) (fun h2 => ?_)
    ·
      refine G.seq ?_
      refine G.rg ?_
      refine K.move (.inr rfl) (gd0 rfl) rfl rfl ?_
      refine K.nil ?_
      refine At.next ?_
      refine G.ret ?_
      refine At.over_ret ?_
      refine At.done Y [(.tmp 4, .c _)] rfl ⟨.tmp rfl, trivial⟩ (to' := [(0, _), (1, _)]) ⟨rfl, rfl, trivial⟩ ?_ ?_ rfl rfl rfl (.inl rfl)
      · rfl
      · rfl
    · cases h2
  ·
    refine G.rd mixed ?_
    refine K.fieldAddr Y (gd0 rfl) rfl t40 rfl rfl ?_
    refine K.load1 Y (gd0 rfl) rfl rfl t3 rfl rfl ?_
    refine K.bin (gd0 rfl) rfl rfl (fun _ => rfl) rfl ?_
    refine K.move (.inl rfl) (gd0 rfl) rfl rfl ?_
    refine K.fieldAddr Y (gd1 rfl rfl rfl (h1)) rfl t40 rfl rfl ?_
    refine K.load1 Y (gd1 rfl rfl rfl (h1)) rfl rfl t3 rfl rfl ?_
    refine K.move (.inl rfl) (gd1 rfl rfl rfl (h1)) rfl rfl ?_
    refine K.nilCheck (gd1 rfl rfl rfl (h1)) rfl rfl ?_
    refine K.fieldAddr Y (gd1 rfl rfl rfl (h1)) rfl t100 rfl rfl ?_
    refine K.load1 Y (gd1 rfl rfl rfl (h1)) rfl rfl t98 rfl rfl ?_
    refine K.lenL (lrowV 1 103 fCI 3 _) (lrowV_is fCI_len (by decide)) (gd1 rfl rfl rfl (h1)) rfl rfl Try.underlying98 rfl ?_
    refine K.bin (gd1 rfl rfl rfl (h1)) rfl rfl (fun _ => rfl) rfl ?_
    refine K.pickF (gd0 rfl) rfl (h1) rfl rfl ?_
    refine K.nil ?_
    refine ⟨by kernel_rfl, ?_⟩
    refine At.next ?_
    refine G.cond rfl (fun h3 => ?_) (fun h3 => ?_)
    ·
      refine G.seq ?_
      refine G.rg ?_
      refine K.move (.inr rfl) (gd0 rfl) rfl rfl ?_
      refine K.nil ?_
      refine At.next ?_
      refine G.ret ?_
      refine At.over_ret ?_
      refine At.done Y [(.tmp 4, .c _)] rfl ⟨.tmp rfl, trivial⟩ (to' := [(0, _), (1, _)]) ⟨rfl, rfl, trivial⟩ ?_ ?_ rfl rfl rfl (.inl rfl)
      · rfl
      · rfl
    ·
      refine G.skip ?_
      refine At.next ?_
      refine G.seq ?_
      obtain ⟨c, hg⟩ : ∃ c, cells[i.toNat]? = some c := ⟨_, List.getElem?_eq_getElem (by simp [IntKind.wrap_i64] at * <;> omega)⟩
      refine G.rd mixed ?_
      refine K.move (.inl rfl) (gd0 rfl) rfl rfl ?_
      refine K.nilCheck (gd0 rfl) rfl rfl ?_
      refine K.fieldAddr Y (gd0 rfl) rfl t100 rfl rfl ?_
      refine K.load1 Y (gd0 rfl) rfl rfl t98 rfl rfl ?_
      refine K.fieldAddr Y (gd0 rfl) rfl t40 rfl rfl ?_
      refine K.load1 Y (gd0 rfl) rfl rfl t3 rfl rfl ?_
      refine K.idxL (lrowV 1 103 fCI 3 _) i.toNat (lrowV_is fCI_len (by decide)) hg (by simp [IntKind.wrap_i64] at * <;> omega) (gd0 rfl) rfl rfl rfl Try.underlying98 el98.size_run rfl ?_
      refine K.move (.inr rfl) (gd0 rfl) rfl rfl ?_
      refine K.nil ?_
      refine ⟨by kernel_rfl, ?_⟩
      refine At.next ?_
      refine G.seq ?_
      refine G.seq ?_
      rcases Bool.eq_false_or_eq_true (!c.live) with h4 | h4
      ·
        refine G.rd mixed ?_
        refine K.move (.inl rfl) (gd0 rfl) rfl rfl ?_
        refine K.nilL (lrowV 1 103 fCI 3 _) i.toNat 0 (lrowV_is fCI_len (by decide)) hg (gd0 rfl) rfl rfl rfl rfl ?_
        refine K.fieldL Y (lrowV 1 103 fCI 3 _) i.toNat 0 2 (lrowV_is fCI_len (by decide)) hg (gd0 rfl) rfl rfl t103 rfl rfl rfl rfl ?_
        refine K.load1L Y (lrowV 1 103 fCI 3 _) i.toNat 2 (lrowV_is fCI_len (by decide)) hg (gd0 rfl) rfl rfl t4 rfl rfl ?_
        refine K.un (gd0 rfl) rfl (fun _ => rfl) rfl ?_
        refine K.move (.inl rfl) (gd0 rfl) rfl rfl ?_
        refine K.skip rfl rfl rfl rfl (h4) rfl ?_
        refine K.skip rfl rfl rfl rfl (h4) rfl ?_
        refine K.skip rfl rfl rfl rfl (h4) rfl ?_
        refine K.skip rfl rfl rfl rfl (h4) rfl ?_
        refine K.skip rfl rfl rfl rfl (h4) rfl ?_
        refine K.skip rfl rfl rfl rfl (h4) rfl ?_
        refine K.skip rfl rfl rfl rfl (h4) rfl ?_
        refine K.pickT (gd0 rfl) rfl (h4) rfl rfl ?_
        refine K.nil ?_
        refine ⟨by kernel_rfl, ?_⟩
        refine At.next ?_
        refine G.cond rfl (fun h5 => ?_) (fun h5 => ?_)
        ·
          refine G.seq ?_
          refine G.rg ?_
          refine K.move (.inr rfl) (gd0 rfl) rfl rfl ?_
          refine K.nil ?_
          refine At.next ?_
          refine G.ret ?_
          refine At.over_ret ?_
          refine At.done Y [(.tmp 4, .c _)] rfl ⟨.tmp rfl, trivial⟩ (to' := [(0, _), (1, _)]) ⟨rfl, rfl, trivial⟩ ?_ ?_ rfl rfl rfl (.inl rfl)
          · rfl
          · rfl
        · cases h5
      ·
        refine G.rd mixed ?_
        refine K.move (.inl rfl) (gd0 rfl) rfl rfl ?_
        refine K.nilL (lrowV 1 103 fCI 3 _) i.toNat 0 (lrowV_is fCI_len (by decide)) hg (gd0 rfl) rfl rfl rfl rfl ?_
        refine K.fieldL Y (lrowV 1 103 fCI 3 _) i.toNat 0 2 (lrowV_is fCI_len (by decide)) hg (gd0 rfl) rfl rfl t103 rfl rfl rfl rfl ?_
        refine K.load1L Y (lrowV 1 103 fCI 3 _) i.toNat 2 (lrowV_is fCI_len (by decide)) hg (gd0 rfl) rfl rfl t4 rfl rfl ?_
        refine K.un (gd0 rfl) rfl (fun _ => rfl) rfl ?_
        refine K.move (.inl rfl) (gd0 rfl) rfl rfl ?_
        refine K.move (.inl rfl) (gd1 rfl rfl rfl (h4)) rfl rfl ?_
        refine K.nilL (lrowV 1 103 fCI 3 _) i.toNat 0 (lrowV_is fCI_len (by decide)) hg (gd1 rfl rfl rfl (h4)) rfl rfl rfl rfl ?_
        refine K.fieldL Y (lrowV 1 103 fCI 3 _) i.toNat 0 1 (lrowV_is fCI_len (by decide)) hg (gd1 rfl rfl rfl (h4)) rfl rfl t103 rfl rfl rfl rfl ?_
        refine K.load1L Y (lrowV 1 103 fCI 3 _) i.toNat 1 (lrowV_is fCI_len (by decide)) hg (gd1 rfl rfl rfl (h4)) rfl rfl t3 rfl rfl ?_
        refine K.fieldAddr Y (gd1 rfl rfl rfl (h4)) rfl t40 rfl rfl ?_
        refine K.load1 Y (gd1 rfl rfl rfl (h4)) rfl rfl t3 rfl rfl ?_
        refine K.bin (gd1 rfl rfl rfl (h4)) rfl rfl (fun _ => rfl) rfl ?_
        refine K.pickF (gd0 rfl) rfl (h4) rfl rfl ?_
        refine K.nil ?_
        refine ⟨by kernel_rfl, ?_⟩
        refine At.next ?_
        refine G.cond rfl (fun h6 => ?_) (fun h6 => ?_)
        ·
          refine G.seq ?_
          refine G.rg ?_
          refine K.move (.inr rfl) (gd0 rfl) rfl rfl ?_
          refine K.nil ?_
          refine At.next ?_
          refine G.ret ?_
          refine At.over_ret ?_
          refine At.done Y [(.tmp 4, .c _)] rfl ⟨.tmp rfl, trivial⟩ (to' := [(0, _), (1, _)]) ⟨rfl, rfl, trivial⟩ ?_ ?_ rfl rfl rfl (.inl rfl)
          · rfl
          · rfl
        · exact absurd h6 (by simp_all [lookC])
theorem findSI' {cells : List (Cell Int)} {n : Nat} {c : Cell Int} (hg : cells[n]? = some c) (hl : c.live = true) (hlen : cells.length < 4294967296) (cap held vis : Int) (k0 k1 k2 : Nat) : SCon Try.prog 53 [SV.p k0 0, SV.agg [.i (n : Int), .i c.gen]]
    [(k0, blk k0 [.nv k1, .nv k2, .i cap, .i held, .i vis] 100), (k1, lrow k1 103 fCI 3 cells)] (.a (.c (.rp k1 (n * 3)))) [(k0, blk k0 [.nv k1, .nv k2, .i cap, .i held, .i (IntKind.i64.wrap (vis + 1))] 100), (k1, lrow k1 103 fCI 3 cells)] [] :=
  SCon.ren (rn [(0, k0), (1, k1), (2, k2)]) (findSI hg hl hlen cap held vis) ⟨blk_ren rfl rfl, lrow_ren rfl, trivial⟩ ⟨blk_ren rfl rfl, lrow_ren rfl, trivial⟩ (by simp) (by simp)
theorem findNI' {cells : List (Cell Int)} {i g : Int} (hn : lookC cells i g = none) (hlen : cells.length < 4294967296) (cap held vis : Int) (k0 k1 k2 : Nat) : SCon Try.prog 53 [SV.p k0 0, SV.agg [.i i, .i g]]
    [(k0, blk k0 [.nv k1, .nv k2, .i cap, .i held, .i vis] 100), (k1, lrow k1 103 fCI 3 cells)] (SV.raw (.pointer none)) [(k0, blk k0 [.nv k1, .nv k2, .i cap, .i held, .i vis] 100), (k1, lrow k1 103 fCI 3 cells)] [] :=
  SCon.ren (rn [(0, k0), (1, k1), (2, k2)]) (findNI hn hlen cap held vis) ⟨blk_ren rfl rfl, lrow_ren rfl, trivial⟩ ⟨blk_ren rfl rfl, lrow_ren rfl, trivial⟩ (by simp) (by simp)

theorem getI (p : Pool Int) (i g : Int) (hlen : p.cells.length < 4294967296) (hfree : p.free.length < 4294967296) : SCon Try.prog 26 [SV.p 0 0, SV.agg [.i i, .i g]] [(0, poolI 0 p)] (.tup [avI (p.get 0 i g).1.1, .c (.b (p.get 0 i g).1.2)]) [(0, poolI 0 (p.get 0 i g).2)] [] := by
  obtain ⟨cells, free, cap, held, vis⟩ := p
  simp only at hlen hfree
  cases hlk : lookC cells i g with
  | none =>
    refine spec_of [(0, _), (1, _)] [(0, _)] 18 Try.func26 rfl Try.ntmps26 rfl rfl rfl rfl (fun β W F => ?_)
    refine G.ent [(0, _)] [(0, _), (21, _), (22, _)] [21, 22] (pool_open (by decide) (by decide) (by decide)) ⟨rfl, trivial⟩ rfl rfl rfl rfl ?_
    refine G.seq ?_
    refine G.rg ?_
    refine K.box Y 103 [_, _] (gd0 rfl) rfl rfl rfl rfl rfl rfl ?_
    refine K.move (.inr rfl) (gd0 rfl) rfl rfl ?_
    refine K.move (.inr rfl) (gd0 rfl) rfl rfl ?_
    refine K.nil ?_
    refine At.next ?_
    refine G.seq ?_
    refine G.rg ?_
    refine K.move (.inl rfl) (gd0 rfl) rfl rfl ?_
    refine K.loadS Y [_, _] (gd0 rfl) rfl rfl t40 rfl rfl rfl ?_
    refine K.call0 [(.func 53, _), ((.tmp 8), _), ((.tmp 9), _)] (findNI' hlk hlen _ _ _ 0 21 22) (toFn_func (cf 53 rfl) rfl) (gd0 rfl) ⟨rfl, rfl, rfl, trivial⟩ ⟨rfl, rfl, trivial⟩ rfl rfl rfl rfl rfl rfl ?_
    refine K.move (.inr rfl) (gd0 rfl) rfl rfl ?_
    refine K.nil ?_
    refine At.next ?_
    refine G.seq ?_
    refine G.seq ?_
    refine G.rg ?_
    refine K.move (.inl rfl) (gd0 rfl) rfl rfl ?_
    refine K.bin (gd0 rfl) rfl rfl (pn_eql_none Try.underlying101) rfl ?_
    refine K.nil ?_
    refine At.next ?_
    refine G.cond rfl (fun h1 => ?_) (fun h1 => ?_)
    ·
      refine G.seq ?_
      refine G.rg ?_
      refine K.move (.inr rfl) (gd0 rfl) rfl rfl ?_
      refine K.nil ?_
      refine At.next ?_
      refine G.seq ?_
      refine G.rg ?_
      refine K.move (.inl rfl) (gd0 rfl) rfl rfl ?_
      refine K.move (.inr rfl) (gd0 rfl) rfl rfl ?_
      refine K.move (.inr rfl) (gd0 rfl) rfl rfl ?_
      refine K.nil ?_
      refine At.next ?_
      refine G.ret ?_
      refine At.over_ret ?_
      refine At.ent [(0, _), (21, _), (22, _)] [(0, poolI 0 ⟨_, _, _, _, _⟩)] [] (pool_close _ _ _ _ _) ⟨rfl, rfl, rfl, trivial⟩ rfl rfl rfl rfl ?_
      refine At.done Y [(.tmp 4, .c _), (.tmp 5, .c _)] rfl ⟨.tmp rfl, .tmp rfl, trivial⟩ (to' := [(0, _)]) ⟨rfl, trivial⟩ ?_ ?_ rfl rfl rfl (.inl rfl)
      · simp only [Pool.get, hlk]
      · simp only [Pool.get, hlk]; rfl
    · cases h1
  | some c =>
    obtain ⟨n, rfl, hg, hl, rfl⟩ := lookC_some hlk
    refine spec_of [(0, _), (1, _)] [(0, _)] 18 Try.func26 rfl Try.ntmps26 rfl rfl rfl rfl (fun β W F => ?_)
    refine G.ent [(0, _)] [(0, _), (21, _), (22, _)] [21, 22] (pool_open (by decide) (by decide) (by decide)) ⟨rfl, trivial⟩ rfl rfl rfl rfl ?_
    refine G.seq ?_
    refine G.rg ?_
    refine K.box Y 103 [_, _] (gd0 rfl) rfl rfl rfl rfl rfl rfl ?_
    refine K.move (.inr rfl) (gd0 rfl) rfl rfl ?_
    refine K.move (.inr rfl) (gd0 rfl) rfl rfl ?_
    refine K.nil ?_
    refine At.next ?_
    refine G.seq ?_
    refine G.rg ?_
    refine K.move (.inl rfl) (gd0 rfl) rfl rfl ?_
    refine K.loadS Y [_, _] (gd0 rfl) rfl rfl t40 rfl rfl rfl ?_
    refine K.call0 [(.func 53, _), ((.tmp 8), _), ((.tmp 9), _)] (findSI' hg hl hlen _ _ _ 0 21 22) (toFn_func (cf 53 rfl) rfl) (gd0 rfl) ⟨rfl, rfl, rfl, trivial⟩ ⟨rfl, rfl, trivial⟩ rfl rfl rfl rfl rfl rfl ?_
    refine K.move (.inr rfl) (gd0 rfl) rfl rfl ?_
    refine K.nil ?_
    refine At.next ?_
    refine G.seq ?_
    refine G.seq ?_
    refine G.rg ?_
    refine K.move (.inl rfl) (gd0 rfl) rfl rfl ?_
    refine K.eqnilL (lrowV 21 103 fCI 3 _) n 0 (B := false) (lrowV_is fCI_len (by decide)) hg (gd0 rfl) rfl rfl rfl rfl (pn_eql_some Try.underlying101) rfl ?_
    refine K.nil ?_
    refine At.next ?_
    refine G.cond rfl (fun h1 => ?_) (fun h1 => ?_)
    · cases h1
    ·
      refine G.skip ?_
      refine At.next ?_
      refine G.seq ?_
      refine G.rg ?_
      refine K.move (.inl rfl) (gd0 rfl) rfl rfl ?_
      refine K.nilL (lrowV 21 103 fCI 3 _) n 0 (lrowV_is fCI_len (by decide)) hg (gd0 rfl) rfl rfl rfl rfl ?_
      refine K.fieldL Y (lrowV 21 103 fCI 3 _) n 0 0 (lrowV_is fCI_len (by decide)) hg (gd0 rfl) rfl rfl t103 rfl rfl rfl rfl ?_
      refine K.load1L Y (lrowV 21 103 fCI 3 _) n 0 (lrowV_is fCI_len (by decide)) hg (gd0 rfl) rfl rfl t3 rfl rfl ?_
      refine K.move (.inr rfl) (gd0 rfl) rfl rfl ?_
      refine K.move (.inr rfl) (gd0 rfl) rfl rfl ?_
      refine K.nil ?_
      refine At.next ?_
      refine G.ret ?_
      refine At.ent [(0, _), (21, _), (22, _)] [(0, poolI 0 ⟨_, _, _, _, _⟩)] [] (pool_close _ _ _ _ _) ⟨rfl, rfl, rfl, trivial⟩ rfl rfl rfl rfl ?_
      refine At.done Y [(.tmp 4, .c _), (.tmp 5, .c _)] rfl ⟨.tmp rfl, .tmp rfl, trivial⟩ (to' := [(0, _)]) ⟨rfl, trivial⟩ ?_ ?_ rfl rfl rfl (.inl rfl)
      · simp [Pool.get, hlk, Pool.hit]
      · simp only [Pool.get, hlk]; rfl
theorem setI (p : Pool Int) (i g : Int) (v : Int) (hlen : p.cells.length < 4294967296) (hfree : p.free.length < 4294967296) : SCon Try.prog 27 [SV.p 0 0, SV.agg [.i i, .i g], .a (avI v)] [(0, poolI 0 p)] (SV.b (p.set i g v).1) [(0, poolI 0 (p.set i g v).2)] [] := by
  obtain ⟨cells, free, cap, held, vis⟩ := p
  simp only at hlen hfree
  cases hlk : lookC cells i g with
  | none =>
    refine spec_of [(0, _), (1, _), (2, _)] [(0, _)] 19 Try.func27 rfl Try.ntmps27 rfl rfl rfl rfl (fun β W F => ?_)
    refine G.ent [(0, _)] [(0, _), (21, _), (22, _)] [21, 22] (pool_open (by decide) (by decide) (by decide)) ⟨rfl, trivial⟩ rfl rfl rfl rfl ?_
    refine G.seq ?_
    refine G.rg ?_
    refine K.box Y 104 [_, _] (gd0 rfl) rfl rfl rfl rfl rfl rfl ?_
    refine K.move (.inr rfl) (gd0 rfl) rfl rfl ?_
    refine K.nil ?_
    refine At.next ?_
    refine G.seq ?_
    refine G.rg ?_
    refine K.move (.inl rfl) (gd0 rfl) rfl rfl ?_
    refine K.loadS Y [_, _] (gd0 rfl) rfl rfl t40 rfl rfl rfl ?_
    refine K.call0 [(.func 53, _), ((.tmp 8), _), ((.tmp 9), _)] (findNI' hlk hlen _ _ _ 0 21 22) (toFn_func (cf 53 rfl) rfl) (gd0 rfl) ⟨rfl, rfl, rfl, trivial⟩ ⟨rfl, rfl, trivial⟩ rfl rfl rfl rfl rfl rfl ?_
    refine K.move (.inr rfl) (gd0 rfl) rfl rfl ?_
    refine K.nil ?_
    refine At.next ?_
    refine G.seq ?_
    refine G.seq ?_
    refine G.rg ?_
    refine K.move (.inl rfl) (gd0 rfl) rfl rfl ?_
    refine K.bin (gd0 rfl) rfl rfl (pn_neq_none Try.underlying101) rfl ?_
    refine K.nil ?_
    refine At.next ?_
    refine G.cond rfl (fun h1 => ?_) (fun h1 => ?_)
    · cases h1
    ·
      refine G.skip ?_
      refine At.next ?_
      refine G.seq ?_
      refine G.rg ?_
      refine K.move (.inl rfl) (gd0 rfl) rfl rfl ?_
      refine K.bin (gd0 rfl) rfl rfl (pn_neq_none Try.underlying101) rfl ?_
      refine K.move (.inr rfl) (gd0 rfl) rfl rfl ?_
      refine K.nil ?_
      refine At.next ?_
      refine G.ret ?_
      refine At.ent [(0, _), (21, _), (22, _)] [(0, poolI 0 ⟨_, _, _, _, _⟩)] [] (pool_close _ _ _ _ _) ⟨rfl, rfl, rfl, trivial⟩ rfl rfl rfl rfl ?_
      refine At.done Y [(.tmp 6, .c _)] rfl ⟨.tmp rfl, trivial⟩ (to' := [(0, _)]) ⟨rfl, trivial⟩ ?_ ?_ rfl rfl rfl (.inl rfl)
      · simp only [Pool.set, hlk]
      · simp only [Pool.set, hlk]; rfl
  | some c =>
    obtain ⟨n, rfl, hg, hl, rfl⟩ := lookC_some hlk
    refine spec_of [(0, _), (1, _), (2, _)] [(0, _)] 19 Try.func27 rfl Try.ntmps27 rfl rfl rfl rfl (fun β W F => ?_)
    refine G.ent [(0, _)] [(0, _), (21, _), (22, _)] [21, 22] (pool_open (by decide) (by decide) (by decide)) ⟨rfl, trivial⟩ rfl rfl rfl rfl ?_
    refine G.seq ?_
    refine G.rg ?_
    refine K.box Y 104 [_, _] (gd0 rfl) rfl rfl rfl rfl rfl rfl ?_
    refine K.move (.inr rfl) (gd0 rfl) rfl rfl ?_
    refine K.nil ?_
    refine At.next ?_
    refine G.seq ?_
    refine G.rg ?_
    refine K.move (.inl rfl) (gd0 rfl) rfl rfl ?_
    refine K.loadS Y [_, _] (gd0 rfl) rfl rfl t40 rfl rfl rfl ?_
    refine K.call0 [(.func 53, _), ((.tmp 8), _), ((.tmp 9), _)] (findSI' hg hl hlen _ _ _ 0 21 22) (toFn_func (cf 53 rfl) rfl) (gd0 rfl) ⟨rfl, rfl, rfl, trivial⟩ ⟨rfl, rfl, trivial⟩ rfl rfl rfl rfl rfl rfl ?_
    refine K.move (.inr rfl) (gd0 rfl) rfl rfl ?_
    refine K.nil ?_
    refine At.next ?_
    refine G.seq ?_
    refine G.seq ?_
    refine G.rg ?_
    refine K.move (.inl rfl) (gd0 rfl) rfl rfl ?_
    refine K.eqnilL (lrowV 21 103 fCI 3 _) n 0 (B := true) (lrowV_is fCI_len (by decide)) hg (gd0 rfl) rfl rfl rfl rfl (pn_neq_some Try.underlying101) rfl ?_
    refine K.nil ?_
    refine At.next ?_
    refine G.cond rfl (fun h1 => ?_) (fun h1 => ?_)
    ·
      refine G.rg ?_
      refine K.move (.inl rfl) (gd0 rfl) rfl rfl ?_
      refine K.move (.inl rfl) (gd0 rfl) rfl rfl ?_
      refine K.nilL (lrowV 21 103 fCI 3 _) n 0 (lrowV_is fCI_len (by decide)) hg (gd0 rfl) rfl rfl rfl rfl ?_
      refine K.fieldL Y (lrowV 21 103 fCI 3 _) n 0 0 (lrowV_is fCI_len (by decide)) hg (gd0 rfl) rfl rfl t103 rfl rfl rfl rfl ?_
      refine K.storeL Y n 0 [_] { c with v := v } fCI_len (by decide) hg (gd0 rfl) rfl rfl rfl t3 rfl rfl rfl rfl rfl rfl ?_
      refine K.nil ?_
      refine At.next ?_
      refine G.seq ?_
      refine G.rg ?_
      refine K.move (.inl rfl) (gd0 rfl) rfl rfl ?_
      refine K.eqnilL (lrowV 21 103 fCI 3 _) n 0 (B := true) (lrowV_is fCI_len (by decide)) (set_get hg) (gd0 rfl) rfl rfl rfl rfl (pn_neq_some Try.underlying101) rfl ?_
      refine K.move (.inr rfl) (gd0 rfl) rfl rfl ?_
      refine K.nil ?_
      refine At.next ?_
      refine G.ret ?_
      refine At.ent [(0, _), (21, _), (22, _)] [(0, poolI 0 ⟨_, _, _, _, _⟩)] [] (pool_close _ _ _ _ _) ⟨rfl, rfl, rfl, trivial⟩ rfl rfl rfl rfl ?_
      refine At.done Y [(.tmp 6, .c _)] rfl ⟨.tmp rfl, trivial⟩ (to' := [(0, _)]) ⟨rfl, trivial⟩ ?_ ?_ rfl rfl rfl (.inl rfl)
      · simp [Pool.set, hlk, Pool.hit]
      · simp only [Pool.set, hlk]; rfl
    · cases h1
theorem dropI (p : Pool Int) (i g : Int) (hlen : p.cells.length < 4294967296) (hfree : p.free.length < 4294967296) : SCon Try.prog 25 [SV.p 0 0, SV.agg [.i i, .i g]] [(0, poolI 0 p)] (.tup [avI (p.drop 0 i g).1.1, .c (.b (p.drop 0 i g).1.2)]) [(0, poolI 0 (p.drop 0 i g).2)] [] := by
  obtain ⟨cells, free, cap, held, vis⟩ := p
  simp only at hlen hfree
  cases hlk : lookC cells i g with
  | none =>
    refine spec_of [(0, _), (1, _)] [(0, _)] 50 Try.func25 rfl Try.ntmps25 rfl rfl rfl rfl (fun β W F => ?_)
    refine G.ent [(0, _)] [(0, _), (21, _), (22, _)] [21, 22] (pool_open (by decide) (by decide) (by decide)) ⟨rfl, trivial⟩ rfl rfl rfl rfl ?_
    refine G.seq ?_
    refine G.rg ?_
    refine K.box Y 103 [_, _] (gd0 rfl) rfl rfl rfl rfl rfl rfl ?_
    refine K.move (.inr rfl) (gd0 rfl) rfl rfl ?_
    refine K.move (.inr rfl) (gd0 rfl) rfl rfl ?_
    refine K.nil ?_
    refine At.next ?_
    refine G.seq ?_
    refine G.rg ?_
    refine K.move (.inl rfl) (gd0 rfl) rfl rfl ?_
    refine K.loadS Y [_, _] (gd0 rfl) rfl rfl t40 rfl rfl rfl ?_
    refine K.call0 [(.func 53, _), ((.tmp 9), _), ((.tmp 10), _)] (findNI' hlk hlen _ _ _ 0 21 22) (toFn_func (cf 53 rfl) rfl) (gd0 rfl) ⟨rfl, rfl, rfl, trivial⟩ ⟨rfl, rfl, trivial⟩ rfl rfl rfl rfl rfl rfl ?_
    refine K.move (.inr rfl) (gd0 rfl) rfl rfl ?_
    refine K.nil ?_
    refine At.next ?_
    refine G.seq ?_
    refine G.seq ?_
    refine G.rg ?_
    refine K.move (.inl rfl) (gd0 rfl) rfl rfl ?_
    refine K.bin (gd0 rfl) rfl rfl (pn_eql_none Try.underlying101) rfl ?_
    refine K.nil ?_
    refine At.next ?_
    refine G.cond rfl (fun h1 => ?_) (fun h1 => ?_)
    ·
      refine G.seq ?_
      refine G.rg ?_
      refine K.move (.inr rfl) (gd0 rfl) rfl rfl ?_
      refine K.nil ?_
      refine At.next ?_
      refine G.seq ?_
      refine G.rg ?_
      refine K.move (.inl rfl) (gd0 rfl) rfl rfl ?_
      refine K.move (.inr rfl) (gd0 rfl) rfl rfl ?_
      refine K.move (.inr rfl) (gd0 rfl) rfl rfl ?_
      refine K.nil ?_
      refine At.next ?_
      refine G.ret ?_
      refine At.over_ret ?_
      refine At.ent [(0, _), (21, _), (22, _)] [(0, poolI 0 ⟨_, _, _, _, _⟩)] [] (pool_close _ _ _ _ _) ⟨rfl, rfl, rfl, trivial⟩ rfl rfl rfl rfl ?_
      refine At.done Y [(.tmp 4, .c _), (.tmp 5, .c _)] rfl ⟨.tmp rfl, .tmp rfl, trivial⟩ (to' := [(0, _)]) ⟨rfl, trivial⟩ ?_ ?_ rfl rfl rfl (.inl rfl)
      · simp only [Pool.drop, hlk]
      · simp only [Pool.drop, hlk]; rfl
    · cases h1
  | some c =>
    obtain ⟨n, rfl, hg, hl, rfl⟩ := lookC_some hlk
    refine spec_of [(0, _), (1, _)] [(0, _)] 50 Try.func25 rfl Try.ntmps25 rfl rfl rfl rfl (fun β W F => ?_)
    refine G.ent [(0, _)] [(0, _), (21, _), (22, _)] [21, 22] (pool_open (by decide) (by decide) (by decide)) ⟨rfl, trivial⟩ rfl rfl rfl rfl ?_
    refine G.seq ?_
    refine G.rg ?_
    refine K.box Y 103 [_, _] (gd0 rfl) rfl rfl rfl rfl rfl rfl ?_
    refine K.move (.inr rfl) (gd0 rfl) rfl rfl ?_
    refine K.move (.inr rfl) (gd0 rfl) rfl rfl ?_
    refine K.nil ?_
    refine At.next ?_
    refine G.seq ?_
    refine G.rg ?_
    refine K.move (.inl rfl) (gd0 rfl) rfl rfl ?_
    refine K.loadS Y [_, _] (gd0 rfl) rfl rfl t40 rfl rfl rfl ?_
    refine K.call0 [(.func 53, _), ((.tmp 9), _), ((.tmp 10), _)] (findSI' hg hl hlen _ _ _ 0 21 22) (toFn_func (cf 53 rfl) rfl) (gd0 rfl) ⟨rfl, rfl, rfl, trivial⟩ ⟨rfl, rfl, trivial⟩ rfl rfl rfl rfl rfl rfl ?_
    refine K.move (.inr rfl) (gd0 rfl) rfl rfl ?_
    refine K.nil ?_
    refine At.next ?_
    refine G.seq ?_
    refine G.seq ?_
    refine G.rg ?_
    refine K.move (.inl rfl) (gd0 rfl) rfl rfl ?_
    refine K.eqnilL (lrowV 21 103 fCI 3 _) n 0 (B := false) (lrowV_is fCI_len (by decide)) hg (gd0 rfl) rfl rfl rfl rfl (pn_eql_some Try.underlying101) rfl ?_
    refine K.nil ?_
    refine At.next ?_
    refine G.cond rfl (fun h1 => ?_) (fun h1 => ?_)
    · cases h1
    ·
      refine G.skip ?_
      refine At.next ?_
      refine G.seq ?_
      refine G.rg ?_
      refine K.move (.inl rfl) (gd0 rfl) rfl rfl ?_
      refine K.nilL (lrowV 21 103 fCI 3 _) n 0 (lrowV_is fCI_len (by decide)) hg (gd0 rfl) rfl rfl rfl rfl ?_
      refine K.fieldL Y (lrowV 21 103 fCI 3 _) n 0 0 (lrowV_is fCI_len (by decide)) hg (gd0 rfl) rfl rfl t103 rfl rfl rfl rfl ?_
      refine K.load1L Y (lrowV 21 103 fCI 3 _) n 0 (lrowV_is fCI_len (by decide)) hg (gd0 rfl) rfl rfl t3 rfl rfl ?_
      refine K.move (.inr rfl) (gd0 rfl) rfl rfl ?_
      refine K.nil ?_
      refine At.next ?_
      refine G.seq ?_
      refine G.rg ?_
      refine K.move (.inl rfl) (gd0 rfl) rfl rfl ?_
      refine K.move (.inl rfl) (gd0 rfl) rfl rfl ?_
      refine K.nilL (lrowV 21 103 fCI 3 _) n 0 (lrowV_is fCI_len (by decide)) hg (gd0 rfl) rfl rfl rfl rfl ?_
      refine K.fieldL Y (lrowV 21 103 fCI 3 _) n 0 1 (lrowV_is fCI_len (by decide)) hg (gd0 rfl) rfl rfl t103 rfl rfl rfl rfl ?_
      refine K.load1L Y (lrowV 21 103 fCI 3 _) n 1 (lrowV_is fCI_len (by decide)) hg (gd0 rfl) rfl rfl t3 rfl rfl ?_
      refine K.build Y [(1, _)] [_, _, _] [((.tmp 23), _)] (gd0 rfl) (AllE.spec ⟨rfl, trivial⟩) rfl rfl t103 rfl rfl ?_
      refine K.nilL (lrowV 21 103 fCI 3 _) n 0 (lrowV_is fCI_len (by decide)) hg (gd0 rfl) rfl rfl rfl rfl ?_
      refine K.storeL Y n 0 [_, _, _] ⟨0, c.gen, false⟩ fCI_len (by decide) hg (gd0 rfl) rfl rfl rfl t103 rfl rfl rfl rfl rfl rfl ?_
      refine K.nil ?_
      refine At.next ?_
      refine G.seq ?_
      refine G.rg ?_
      refine K.move (.inl rfl) (gd0 rfl) rfl rfl ?_
      refine K.nilCheck (gd0 rfl) rfl rfl ?_
      refine K.fieldAddr Y (gd0 rfl) rfl t100 rfl rfl ?_
      refine K.load1 Y (gd0 rfl) rfl rfl t3 rfl rfl ?_
      refine K.bin (gd0 rfl) rfl rfl (fun _ => rfl) rfl ?_
      refine K.nilCheck (gd0 rfl) rfl rfl ?_
      refine K.fieldAddr Y (gd0 rfl) rfl t100 rfl rfl ?_
      refine K.store Y [_, _, _, _, _] (gd0 rfl) rfl rfl rfl t3 rfl rfl rfl rfl rfl ?_
      refine K.nil ?_
      refine At.next ?_
      refine G.seq ?_
      refine G.seq ?_
      refine G.rg ?_
      refine K.move (.inl rfl) (gd0 rfl) rfl rfl ?_
      refine K.nilL (lrowV 21 103 fCI 3 _) n 0 (lrowV_is fCI_len (by decide)) (set_get hg) (gd0 rfl) rfl rfl rfl rfl ?_
      refine K.fieldL Y (lrowV 21 103 fCI 3 _) n 0 1 (lrowV_is fCI_len (by decide)) (set_get hg) (gd0 rfl) rfl rfl t103 rfl rfl rfl rfl ?_
      refine K.load1L Y (lrowV 21 103 fCI 3 _) n 1 (lrowV_is fCI_len (by decide)) (set_get hg) (gd0 rfl) rfl rfl t3 rfl rfl ?_
      refine K.bin (gd0 rfl) rfl rfl (fun _ => rfl) rfl ?_
      refine K.nil ?_
      refine At.next ?_
      refine G.cond rfl (fun h2 => ?_) (fun h2 => ?_)
      ·
        refine G.rd mixed ?_
        refine K.move (.inl rfl) (gd0 rfl) rfl rfl ?_
        refine K.move (.inl rfl) (gd0 rfl) rfl rfl ?_
        refine K.nilCheck (gd0 rfl) rfl rfl ?_
        refine K.fieldAddr Y (gd0 rfl) rfl t100 rfl rfl ?_
        refine K.load1 Y (gd0 rfl) rfl rfl t26 rfl rfl ?_
        refine K.fieldAddr Y (gd0 rfl) rfl t40 rfl rfl ?_
        refine K.load1 Y (gd0 rfl) rfl rfl t3 rfl rfl ?_
        refine K.buildL Y 145 [(n : Int)] [(0, _)] [((.tmp 44), _)] intE_len (gd0 rfl) (AllE.spec ⟨rfl, trivial⟩) rfl rfl Try.underlying26 t3 rfl rfl rfl rfl rfl rfl rfl rfl ?_
        refine K.appendL 146 (lrowV 145 3 intE 1 _) _ el26 (lrowV_is intE_len (by decide)) intE_one (gd0 rfl) rfl rfl rfl rfl rfl (by simp only [List.length_cons, List.length_nil, maxLen]; omega) (by simp only [List.length_cons, List.length_nil, maxLen]; omega) rfl rfl rfl rfl rfl rfl ?_
        refine K.nilCheck (gd0 rfl) rfl rfl ?_
        refine K.fieldAddr Y (gd0 rfl) rfl t100 rfl rfl ?_
        refine K.store Y [_, _, _, _, _] (gd0 rfl) rfl rfl rfl t26 rfl rfl rfl rfl rfl ?_
        refine K.nil ?_
        refine ⟨by kernel_rfl, ?_⟩
        refine At.next ?_
        refine G.seq ?_
        refine G.rg ?_
        refine K.move (.inl rfl) (gd0 rfl) rfl rfl ?_
        refine K.move (.inr rfl) (gd0 rfl) rfl rfl ?_
        refine K.move (.inr rfl) (gd0 rfl) rfl rfl ?_
        refine K.nil ?_
        refine At.next ?_
        refine G.ret ?_
        refine At.ent [(0, _), (21, _), (146, _)] [(0, poolI 0 ⟨_, _, _, _, _⟩)] [] (pool_close _ _ _ _ _) ⟨rfl, rfl, rfl, trivial⟩ rfl rfl rfl rfl ?_
        refine At.done Y [(.tmp 4, .c _), (.tmp 5, .c _)] rfl ⟨.tmp rfl, .tmp rfl, trivial⟩ (to' := [(0, _)]) ⟨rfl, trivial⟩ ?_ ?_ rfl rfl rfl (.inl rfl)
        · simp [Pool.drop, hlk, Pool.hit, h2]
        · simp only [Pool.drop, hlk]; rfl
      ·
        refine G.skip ?_
        refine At.next ?_
        refine G.seq ?_
        refine G.rg ?_
        refine K.move (.inl rfl) (gd0 rfl) rfl rfl ?_
        refine K.move (.inr rfl) (gd0 rfl) rfl rfl ?_
        refine K.move (.inr rfl) (gd0 rfl) rfl rfl ?_
        refine K.nil ?_
        refine At.next ?_
        refine G.ret ?_
        refine At.ent [(0, _), (21, _), (22, _)] [(0, poolI 0 ⟨_, _, _, _, _⟩)] [] (pool_close _ _ _ _ _) ⟨rfl, rfl, rfl, trivial⟩ rfl rfl rfl rfl ?_
        refine At.done Y [(.tmp 4, .c _), (.tmp 5, .c _)] rfl ⟨.tmp rfl, .tmp rfl, trivial⟩ (to' := [(0, _)]) ⟨rfl, trivial⟩ ?_ ?_ rfl rfl rfl (.inl rfl)
        · simp [Pool.drop, hlk, Pool.hit, h2]
        · simp only [Pool.drop, hlk]; rfl
theorem putFI (p : Pool Int) (v : Int) (hh : p.held = p.cap) : SCon Try.prog 24 [SV.p 0 0, .a (avI v)] [(0, poolI 0 p)] (.tup [.agg [.i 0, .i 0], .c (.b false)]) [(0, poolI 0 p)] [] := by
  obtain ⟨cells, free, cap, held, vis⟩ := p
  simp only at hh
  refine spec_of [(0, _), (1, _)] [(0, _)] 53 Try.func24 rfl Try.ntmps24 rfl rfl rfl rfl (fun β W F => ?_)
  refine G.ent [(0, _)] [(0, _), (21, _), (22, _)] [21, 22] (pool_open (by decide) (by decide) (by decide)) ⟨rfl, trivial⟩ rfl rfl rfl rfl ?_
  refine G.seq ?_
  refine G.rg ?_
  refine K.alloc Y 104 [_, _] (gd0 rfl) t40 rfl rfl rfl rfl rfl ?_
  refine K.move (.inr rfl) (gd0 rfl) rfl rfl ?_
  refine K.nil ?_
  refine At.next ?_
  refine G.seq ?_
  refine G.seq ?_
  refine G.rd mixed ?_
  refine K.move (.inl rfl) (gd0 rfl) rfl rfl ?_
  refine K.nilCheck (gd0 rfl) rfl rfl ?_
  refine K.fieldAddr Y (gd0 rfl) rfl t100 rfl rfl ?_
  refine K.load1 Y (gd0 rfl) rfl rfl t3 rfl rfl ?_
  refine K.move (.inl rfl) (gd0 rfl) rfl rfl ?_
  refine K.nilCheck (gd0 rfl) rfl rfl ?_
  refine K.fieldAddr Y (gd0 rfl) rfl t100 rfl rfl ?_
  refine K.load1 Y (gd0 rfl) rfl rfl t3 rfl rfl ?_
  refine K.bin (gd0 rfl) rfl rfl (fun _ => rfl) rfl ?_
  refine K.nil ?_
  refine ⟨by kernel_rfl, ?_⟩
  refine At.next ?_
  refine G.cond rfl (fun h1 => ?_) (fun h1 => ?_)
  ·
    refine G.seq ?_
    refine G.rg ?_
    refine K.build Y [] [_, _] [] (gd0 rfl) (AllE.spec trivial) rfl rfl t40 rfl rfl ?_
    refine K.store Y [_, _] (gd0 rfl) rfl rfl rfl t40 rfl rfl rfl rfl rfl ?_
    refine K.move (.inr rfl) (gd0 rfl) rfl rfl ?_
    refine K.nil ?_
    refine At.next ?_
    refine G.ret ?_
    refine At.over_ret ?_
    refine At.ent [(0, _), (21, _), (22, _)] [(0, poolI 0 ⟨_, _, _, _, _⟩)] [] (pool_close _ _ _ _ _) ⟨rfl, rfl, rfl, trivial⟩ rfl rfl rfl rfl ?_
    refine At.done Y [(.cell 4 40, .agg [_, _]), (.tmp 5, .c _)] rfl ⟨.st rfl rfl t40 rfl rfl, .tmp rfl, trivial⟩ (to' := [(0, _)]) ⟨rfl, trivial⟩ ?_ ?_ rfl rfl rfl (.inl rfl)
    · rfl
    · rfl
  · exact absurd h1 (by simp [hh])
theorem putTI (p : Pool Int) (v : Int) (hh : p.held ≠ p.cap) (hlen : p.cells.length < 4294967296) (hfree : p.free.length < 4294967296) {n : Nat} {c : Cell Int} (hn : (p.next 0).1 = n) (hg : (p.next 0).2.cells[n]? = some c) : SCon Try.prog 24 [SV.p 0 0, .a (avI v)] [(0, poolI 0 p)]
    (.tup [.agg [.i n, .i (IntKind.i64.wrap (c.gen + 1))], .c (.b true)]) [(0, poolI 0 ((p.next 0).2.lay n c v))] [] := by
  obtain ⟨cells, free, cap, held, vis⟩ := p
  simp only at hh hlen hfree
  refine spec_of [(0, _), (1, _)] [(0, _)] 53 Try.func24 rfl Try.ntmps24 rfl rfl rfl rfl (fun β W F => ?_)
  refine G.ent [(0, _)] [(0, _), (21, _), (22, _)] [21, 22] (pool_open (by decide) (by decide) (by decide)) ⟨rfl, trivial⟩ rfl rfl rfl rfl ?_
  refine G.seq ?_
  refine G.rg ?_
  refine K.alloc Y 104 [_, _] (gd0 rfl) t40 rfl rfl rfl rfl rfl ?_
  refine K.move (.inr rfl) (gd0 rfl) rfl rfl ?_
  refine K.nil ?_
  refine At.next ?_
  refine G.seq ?_
  refine G.seq ?_
  refine G.rd mixed ?_
  refine K.move (.inl rfl) (gd0 rfl) rfl rfl ?_
  refine K.nilCheck (gd0 rfl) rfl rfl ?_
  refine K.fieldAddr Y (gd0 rfl) rfl t100 rfl rfl ?_
  refine K.load1 Y (gd0 rfl) rfl rfl t3 rfl rfl ?_
  refine K.move (.inl rfl) (gd0 rfl) rfl rfl ?_
  refine K.nilCheck (gd0 rfl) rfl rfl ?_
  refine K.fieldAddr Y (gd0 rfl) rfl t100 rfl rfl ?_
  refine K.load1 Y (gd0 rfl) rfl rfl t3 rfl rfl ?_
  refine K.bin (gd0 rfl) rfl rfl (fun _ => rfl) rfl ?_
  refine K.nil ?_
  refine ⟨by kernel_rfl, ?_⟩
  refine At.next ?_
  refine G.cond rfl (fun h1 => ?_) (fun h1 => ?_)
  · exact absurd h1 (by simp [hh])
  ·
    refine G.skip ?_
    refine At.next ?_
    refine G.seq ?_
    refine G.ent [(0, _), (21, _), (22, _)] [(0, poolI 0 ⟨_, _, _, _, _⟩)] [] (pool_close _ _ _ _ _) ⟨rfl, rfl, rfl, trivial⟩ rfl rfl rfl rfl ?_
    refine G.rg ?_
    refine K.move (.inl rfl) (gd0 rfl) rfl rfl ?_
    refine K.call0 [(.func 52, _), ((.tmp 18), _)] (nextI _ hlen hfree) (toFn_func (cf 52 rfl) rfl) (gd0 rfl) ⟨rfl, rfl, trivial⟩ ⟨rfl, trivial⟩ rfl rfl rfl rfl rfl rfl ?_
    refine K.move (.inr rfl) (gd0 rfl) rfl rfl ?_
    refine K.nil ?_
    refine At.next ?_
    refine G.seq ?_
    refine G.ent [(0, _)] [(0, _), (23, _), (24, _)] [23, 24] (pool_open (by decide) (by decide) (by decide)) ⟨rfl, trivial⟩ rfl rfl rfl rfl ?_
    refine G.rg ?_
    refine K.move (.inl rfl) (gd0 rfl) rfl rfl ?_
    refine K.nilCheck (gd0 rfl) rfl rfl ?_
    refine K.fieldAddr Y (gd0 rfl) rfl t100 rfl rfl ?_
    refine K.load1 Y (gd0 rfl) rfl rfl t98 rfl rfl ?_
    refine K.move (.inl rfl) (gd0 rfl) rfl rfl ?_
    refine K.idxL (lrowV 23 103 fCI 3 _) n (lrowV_is fCI_len (by decide)) hg hn (gd0 rfl) rfl rfl rfl Try.underlying98 el98.size_run rfl ?_
    refine K.move (.inr rfl) (gd0 rfl) rfl rfl ?_
    refine K.nil ?_
    refine At.next ?_
    refine G.seq ?_
    refine G.rg ?_
    refine K.move (.inl rfl) (gd0 rfl) rfl rfl ?_
    refine K.move (.inl rfl) (gd0 rfl) rfl rfl ?_
    refine K.move (.inl rfl) (gd0 rfl) rfl rfl ?_
    refine K.nilL (lrowV 23 103 fCI 3 _) n 0 (lrowV_is fCI_len (by decide)) hg (gd0 rfl) rfl rfl rfl rfl ?_
    refine K.fieldL Y (lrowV 23 103 fCI 3 _) n 0 0 (lrowV_is fCI_len (by decide)) hg (gd0 rfl) rfl rfl t103 rfl rfl rfl rfl ?_
    refine K.storeL Y n 0 [_] { c with v := v } fCI_len (by decide) hg (gd0 rfl) rfl rfl rfl t3 rfl rfl rfl rfl rfl rfl ?_
    refine K.nilL (lrowV 23 103 fCI 3 _) n 0 (lrowV_is fCI_len (by decide)) (set_get hg) (gd0 rfl) rfl rfl rfl rfl ?_
    refine K.fieldL Y (lrowV 23 103 fCI 3 _) n 0 2 (lrowV_is fCI_len (by decide)) (set_get hg) (gd0 rfl) rfl rfl t103 rfl rfl rfl rfl ?_
    refine K.storeL Y n 2 [_] ⟨v, c.gen, true⟩ fCI_len (by decide) (set_get hg) (gd0 rfl) rfl rfl rfl t4 rfl rfl rfl rfl rfl rfl ?_
    refine K.nil ?_
    refine At.next ?_
    refine G.seq ?_
    refine G.rg ?_
    refine K.move (.inl rfl) (gd0 rfl) rfl rfl ?_
    refine K.nilL (lrowV 23 103 fCI 3 _) n 0 (lrowV_is fCI_len (by decide)) (set_get (set_get hg)) (gd0 rfl) rfl rfl rfl rfl ?_
    refine K.fieldL Y (lrowV 23 103 fCI 3 _) n 0 1 (lrowV_is fCI_len (by decide)) (set_get (set_get hg)) (gd0 rfl) rfl rfl t103 rfl rfl rfl rfl ?_
    refine K.load1L Y (lrowV 23 103 fCI 3 _) n 1 (lrowV_is fCI_len (by decide)) (set_get (set_get hg)) (gd0 rfl) rfl rfl t3 rfl rfl ?_
    refine K.bin (gd0 rfl) rfl rfl (fun _ => rfl) rfl ?_
    refine K.nilL (lrowV 23 103 fCI 3 _) n 0 (lrowV_is fCI_len (by decide)) (set_get (set_get hg)) (gd0 rfl) rfl rfl rfl rfl ?_
    refine K.fieldL Y (lrowV 23 103 fCI 3 _) n 0 1 (lrowV_is fCI_len (by decide)) (set_get (set_get hg)) (gd0 rfl) rfl rfl t103 rfl rfl rfl rfl ?_
    refine K.storeL Y n 1 [_] ⟨v, IntKind.i64.wrap (c.gen + 1), true⟩ fCI_len (by decide) (set_get (set_get hg)) (gd0 rfl) rfl rfl rfl t3 rfl rfl rfl rfl rfl rfl ?_
    refine K.nil ?_
    refine At.next ?_
    refine G.seq ?_
    refine G.rg ?_
    refine K.move (.inl rfl) (gd0 rfl) rfl rfl ?_
    refine K.nilCheck (gd0 rfl) rfl rfl ?_
    refine K.fieldAddr Y (gd0 rfl) rfl t100 rfl rfl ?_
    refine K.load1 Y (gd0 rfl) rfl rfl t3 rfl rfl ?_
    refine K.bin (gd0 rfl) rfl rfl (fun _ => rfl) rfl ?_
    refine K.nilCheck (gd0 rfl) rfl rfl ?_
    refine K.fieldAddr Y (gd0 rfl) rfl t100 rfl rfl ?_
    refine K.store Y [_, _, _, _, _] (gd0 rfl) rfl rfl rfl t3 rfl rfl rfl rfl rfl ?_
    refine K.nil ?_
    refine At.next ?_
    refine G.seq ?_
    refine G.rg ?_
    refine K.move (.inl rfl) (gd0 rfl) rfl rfl ?_
    refine K.move (.inl rfl) (gd0 rfl) rfl rfl ?_
    refine K.nilL (lrowV 23 103 fCI 3 _) n 0 (lrowV_is fCI_len (by decide)) (set_get (set_get (set_get hg))) (gd0 rfl) rfl rfl rfl rfl ?_
    refine K.fieldL Y (lrowV 23 103 fCI 3 _) n 0 1 (lrowV_is fCI_len (by decide)) (set_get (set_get (set_get hg))) (gd0 rfl) rfl rfl t103 rfl rfl rfl rfl ?_
    refine K.load1L Y (lrowV 23 103 fCI 3 _) n 1 (lrowV_is fCI_len (by decide)) (set_get (set_get (set_get hg))) (gd0 rfl) rfl rfl t3 rfl rfl ?_
    refine K.build Y [(0, _), (1, _)] [_, _] [((.tmp 47), _), ((.tmp 51), _)] (gd0 rfl) (AllE.spec ⟨rfl, rfl, trivial⟩) rfl rfl t40 rfl rfl ?_
    refine K.store Y [_, _] (gd0 rfl) rfl rfl rfl t40 rfl rfl rfl rfl rfl ?_
    refine K.move (.inr rfl) (gd0 rfl) rfl rfl ?_
    refine K.nil ?_
    refine At.next ?_
    refine G.ret ?_
    refine At.ent [(0, _), (23, _), (24, _)] [(0, poolI 0 ⟨_, _, _, _, _⟩)] [] (pool_close _ _ _ _ _) ⟨rfl, rfl, rfl, trivial⟩ rfl rfl rfl rfl ?_
    refine At.done Y [(.cell 4 40, .agg [_, _]), (.tmp 5, .c _)] rfl ⟨.st rfl rfl t40 rfl rfl, .tmp rfl, trivial⟩ (to' := [(0, _)]) ⟨rfl, trivial⟩ ?_ ?_ rfl rfl rfl (.inl rfl)
    · simp [Pool.lay]
    · rw [hn]; rfl
theorem lenI (p : Pool Int) : SCon Try.prog 33 [SV.p 0 0] [(0, poolI 0 p)] (SV.i p.held) [(0, poolI 0 p)] [] := by
  obtain ⟨cells, free, cap, held, vis⟩ := p
  refine spec_of [(0, _)] [(0, _)] 7 Try.func33 rfl Try.ntmps33 rfl rfl rfl rfl (fun β W F => ?_)
  refine G.ent [(0, _)] [(0, _), (21, _), (22, _)] [21, 22] (pool_open (by decide) (by decide) (by decide)) ⟨rfl, trivial⟩ rfl rfl rfl rfl ?_
  refine G.seq ?_
  refine G.rg ?_
  refine K.move (.inr rfl) (gd0 rfl) rfl rfl ?_
  refine K.nil ?_
  refine At.next ?_
  refine G.seq ?_
  refine G.rg ?_
  refine K.move (.inl rfl) (gd0 rfl) rfl rfl ?_
  refine K.nilCheck (gd0 rfl) rfl rfl ?_
  refine K.fieldAddr Y (gd0 rfl) rfl t100 rfl rfl ?_
  refine K.load1 Y (gd0 rfl) rfl rfl t3 rfl rfl ?_
  refine K.move (.inr rfl) (gd0 rfl) rfl rfl ?_
  refine K.nil ?_
  refine At.next ?_
  refine G.ret ?_
  refine At.ent [(0, _), (21, _), (22, _)] [(0, poolI 0 ⟨_, _, _, _, _⟩)] [] (pool_close _ _ _ _ _) ⟨rfl, rfl, rfl, trivial⟩ rfl rfl rfl rfl ?_
  refine At.done Y [(.tmp 2, .c _)] rfl ⟨.tmp rfl, trivial⟩ (to' := [(0, _)]) ⟨rfl, trivial⟩ ?_ ?_ rfl rfl rfl (.inl rfl)
  · rfl
  · rfl
theorem capI (p : Pool Int) : SCon Try.prog 35 [SV.p 0 0] [(0, poolI 0 p)] (SV.i p.cap) [(0, poolI 0 p)] [] := by
  obtain ⟨cells, free, cap, held, vis⟩ := p
  refine spec_of [(0, _)] [(0, _)] 7 Try.func35 rfl Try.ntmps35 rfl rfl rfl rfl (fun β W F => ?_)
  refine G.ent [(0, _)] [(0, _), (21, _), (22, _)] [21, 22] (pool_open (by decide) (by decide) (by decide)) ⟨rfl, trivial⟩ rfl rfl rfl rfl ?_
  refine G.seq ?_
  refine G.rg ?_
  refine K.move (.inr rfl) (gd0 rfl) rfl rfl ?_
  refine K.nil ?_
  refine At.next ?_
  refine G.seq ?_
  refine G.rg ?_
  refine K.move (.inl rfl) (gd0 rfl) rfl rfl ?_
  refine K.nilCheck (gd0 rfl) rfl rfl ?_
  refine K.fieldAddr Y (gd0 rfl) rfl t100 rfl rfl ?_
  refine K.load1 Y (gd0 rfl) rfl rfl t3 rfl rfl ?_
  refine K.move (.inr rfl) (gd0 rfl) rfl rfl ?_
  refine K.nil ?_
  refine At.next ?_
  refine G.ret ?_
  refine At.ent [(0, _), (21, _), (22, _)] [(0, poolI 0 ⟨_, _, _, _, _⟩)] [] (pool_close _ _ _ _ _) ⟨rfl, rfl, rfl, trivial⟩ rfl rfl rfl rfl ?_
  refine At.done Y [(.tmp 2, .c _)] rfl ⟨.tmp rfl, trivial⟩ (to' := [(0, _)]) ⟨rfl, trivial⟩ ?_ ?_ rfl rfl rfl (.inl rfl)
  · rfl
  · rfl
theorem visitsI (p : Pool Int) : SCon Try.prog 36 [SV.p 0 0] [(0, poolI 0 p)] (SV.i p.vis) [(0, poolI 0 p)] [] := by
  obtain ⟨cells, free, cap, held, vis⟩ := p
  refine spec_of [(0, _)] [(0, _)] 7 Try.func36 rfl Try.ntmps36 rfl rfl rfl rfl (fun β W F => ?_)
  refine G.ent [(0, _)] [(0, _), (21, _), (22, _)] [21, 22] (pool_open (by decide) (by decide) (by decide)) ⟨rfl, trivial⟩ rfl rfl rfl rfl ?_
  refine G.seq ?_
  refine G.rg ?_
  refine K.move (.inr rfl) (gd0 rfl) rfl rfl ?_
  refine K.nil ?_
  refine At.next ?_
  refine G.seq ?_
  refine G.rg ?_
  refine K.move (.inl rfl) (gd0 rfl) rfl rfl ?_
  refine K.nilCheck (gd0 rfl) rfl rfl ?_
  refine K.fieldAddr Y (gd0 rfl) rfl t100 rfl rfl ?_
  refine K.load1 Y (gd0 rfl) rfl rfl t3 rfl rfl ?_
  refine K.move (.inr rfl) (gd0 rfl) rfl rfl ?_
  refine K.nil ?_
  refine At.next ?_
  refine G.ret ?_
  refine At.ent [(0, _), (21, _), (22, _)] [(0, poolI 0 ⟨_, _, _, _, _⟩)] [] (pool_close _ _ _ _ _) ⟨rfl, rfl, rfl, trivial⟩ rfl rfl rfl rfl ?_
  refine At.done Y [(.tmp 2, .c _)] rfl ⟨.tmp rfl, trivial⟩ (to' := [(0, _)]) ⟨rfl, trivial⟩ ?_ ?_ rfl rfl rfl (.inl rfl)
  · rfl
  · rfl
theorem newI_ (c : Int) : SCon Try.prog 23 [SV.i c] [] (SV.p 107 0) [(107, poolI 107 ⟨[], [], capOf c, 0, 0⟩)] [107] := by
  refine spec_of [(0, _)] [] 8 Try.func23 rfl Try.ntmps23 rfl rfl rfl rfl (fun β W F => ?_)
  refine G.seq ?_
  refine G.rg ?_
  refine K.move (.inr rfl) (gd0 rfl) rfl rfl ?_
  refine K.nil ?_
  refine At.next ?_
  refine G.seq ?_
  refine G.rg ?_
  refine K.move (.inl rfl) (gd0 rfl) rfl rfl ?_
  refine K.bi2 (gd0 rfl) rfl rfl (fun _ _ => rfl) rfl ?_
  refine K.bi2 (gd0 rfl) rfl rfl (fun _ _ => rfl) rfl ?_
  refine K.build Y [(2, _)] [_, _, _, _, _] [((.tmp 5), _)] (gd0 rfl) (AllE.spec ⟨rfl, trivial⟩) rfl rfl t100 rfl rfl ?_
  refine K.box Y 107 [_, _, _, _, _] (gd0 rfl) rfl rfl rfl rfl rfl rfl ?_
  refine K.move (.inr rfl) (gd0 rfl) rfl rfl ?_
  refine K.nil ?_
  refine At.next ?_
  refine G.ret ?_
  refine At.ent [(107, _)] [(107, poolI 107 ⟨_, _, _, _, _⟩)] [] (pool_nil _ _ _) ⟨rfl, trivial⟩ rfl rfl rfl rfl ?_
  refine At.done Y [(.tmp 2, .c _)] rfl ⟨.tmp rfl, trivial⟩ (to' := [(107, _)]) ⟨rfl, trivial⟩ ?_ ?_ rfl rfl rfl (.inl rfl)
  · rfl
  · rfl
theorem newI (c : Int) (k : Nat) : SCon Try.prog 23 [SV.i c] [] (SV.p k 0) [(k, poolI k ⟨[], [], capOf c, 0, 0⟩)] [k] :=
  SCon.ren (rn [(107, k)]) (newI_ c) trivial ⟨pool_ren rfl, trivial⟩ (by simp) (by intro j hj hn; simp [SV.ks, Av.ks, Cl.ks, pool] at hj hn; exact absurd hj hn)
theorem putI_ {N : Nat} (p : Pool Int) (v : Int) (h : PoolOk N p) (hN : N < 4294967296) : SCon Try.prog 24 [SV.p 0 0, .a (avI v)] [(0, poolI 0 p)] (.tup [.agg [.i (p.put 0 v).1.1.1, .i (p.put 0 v).1.1.2], .c (.b (p.put 0 v).1.2)]) [(0, poolI 0 (p.put 0 v).2)] [] := by
  by_cases hh : p.held = p.cap
  · have e : p.put 0 v = (((0, 0), false), p) := by unfold Pool.put; rw [if_pos hh]
    rw [e]; exact putFI p v hh
  · obtain ⟨h1, h2, c, hc⟩ := h.next (z := 0)
    have e : p.put 0 v = ((((p.next 0).1, IntKind.i64.wrap (c.gen + 1)), true), (p.next 0).2.lay (p.next 0).1.toNat c v) := by unfold Pool.put; rw [if_neg hh, hc]
    have h3 : (p.next 0).1 = ((p.next 0).1.toNat : Int) := by omega
    have := putTI p v hh (Nat.lt_of_le_of_lt h.cells hN) (Nat.lt_of_le_of_lt h.free hN) h3 hc
    rw [← h3] at this
    rw [e]; exact this

theorem putI {N : Nat} (p : Pool Int) (v : Int) (h : PoolOk N p) (hN : N < 4294967296) (k : Nat) : SCon Try.prog 24 [SV.p k 0, .a (avI v)] [(k, poolI k p)] (.tup [.agg [.i (p.put 0 v).1.1.1, .i (p.put 0 v).1.1.2], .c (.b (p.put 0 v).1.2)]) [(k, poolI k (p.put 0 v).2)] [] :=
  SCon.ren (rn [(0, k)]) (putI_ p v h hN) ⟨pool_ren rfl, trivial⟩ ⟨pool_ren rfl, trivial⟩ (by simp) (by simp)

theorem getI' {N : Nat} (p : Pool Int) (i g : Int) (h : PoolOk N p) (hN : N < 4294967296) (k : Nat) : SCon Try.prog 26 [SV.p k 0, SV.agg [.i i, .i g]] [(k, poolI k p)] (.tup [avI (p.get 0 i g).1.1, .c (.b (p.get 0 i g).1.2)]) [(k, poolI k (p.get 0 i g).2)] [] :=
  SCon.ren (rn [(0, k)]) (getI p i g (Nat.lt_of_le_of_lt h.cells hN) (Nat.lt_of_le_of_lt h.free hN)) ⟨pool_ren rfl, trivial⟩ ⟨pool_ren rfl, trivial⟩ (by simp) (by simp)

theorem setI' {N : Nat} (p : Pool Int) (i g : Int) (v : Int) (h : PoolOk N p) (hN : N < 4294967296) (k : Nat) : SCon Try.prog 27 [SV.p k 0, SV.agg [.i i, .i g], .a (avI v)] [(k, poolI k p)] (SV.b (p.set i g v).1) [(k, poolI k (p.set i g v).2)] [] :=
  SCon.ren (rn [(0, k)]) (setI p i g v (Nat.lt_of_le_of_lt h.cells hN) (Nat.lt_of_le_of_lt h.free hN)) ⟨pool_ren rfl, trivial⟩ ⟨pool_ren rfl, trivial⟩ (by simp) (by simp)

theorem dropI' {N : Nat} (p : Pool Int) (i g : Int) (h : PoolOk N p) (hN : N < 4294967296) (k : Nat) : SCon Try.prog 25 [SV.p k 0, SV.agg [.i i, .i g]] [(k, poolI k p)] (.tup [avI (p.drop 0 i g).1.1, .c (.b (p.drop 0 i g).1.2)]) [(k, poolI k (p.drop 0 i g).2)] [] :=
  SCon.ren (rn [(0, k)]) (dropI p i g (Nat.lt_of_le_of_lt h.cells hN) (Nat.lt_of_le_of_lt h.free hN)) ⟨pool_ren rfl, trivial⟩ ⟨pool_ren rfl, trivial⟩ (by simp) (by simp)

theorem lenI' (p : Pool Int) (k : Nat) : SCon Try.prog 33 [SV.p k 0] [(k, poolI k p)] (SV.i p.held) [(k, poolI k p)] [] :=
  SCon.ren (rn [(0, k)]) (lenI p) ⟨pool_ren rfl, trivial⟩ ⟨pool_ren rfl, trivial⟩ (by simp) (by simp)

theorem capI' (p : Pool Int) (k : Nat) : SCon Try.prog 35 [SV.p k 0] [(k, poolI k p)] (SV.i p.cap) [(k, poolI k p)] [] :=
  SCon.ren (rn [(0, k)]) (capI p) ⟨pool_ren rfl, trivial⟩ ⟨pool_ren rfl, trivial⟩ (by simp) (by simp)

theorem visitsI' (p : Pool Int) (k : Nat) : SCon Try.prog 36 [SV.p k 0] [(k, poolI k p)] (SV.i p.vis) [(k, poolI k p)] [] :=
  SCon.ren (rn [(0, k)]) (visitsI p) ⟨pool_ren rfl, trivial⟩ ⟨pool_ren rfl, trivial⟩ (by simp) (by simp)

end Go.Proofs.Ytgogiehpenfdpaa

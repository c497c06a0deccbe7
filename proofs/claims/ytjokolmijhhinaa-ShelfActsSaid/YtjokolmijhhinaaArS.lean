/- Contracts of a pool's functions. Printed by a program of mine. -/
import Derived.KernelRfl
import Derived.Test.YtjokolmijhhinaaMd
namespace Go.Proofs.Ytjokolmijhhinaa
open Go Go.Proofs.Ytjokolmijhhinaa.Sx
set_option linter.unusedVariables false
set_option linter.unusedSimpArgs false
abbrev fCS : Cell (TNode TSlot TSize) → List Value := cellE eTNode_TSlot_TSize
theorem fCS_len : ∀ c, (fCS c).length = 12 := cellE_len eTNode_TSlot_TSize_len
theorem fCS_one : ∀ c, (fCS c).all Value.oneCell' = true := cellE_one eTNode_TSlot_TSize_one
abbrev avS (x : (TNode TSlot TSize)) : Av := .agg ((eTNode_TSlot_TSize x).map .v)
abbrev poolS (k : Nat) (p : Pool (TNode TSlot TSize)) : Tok := pool k 158 161 3 12 fCS p

theorem nextS (p : Pool (TNode TSlot TSize)) (hc : p.cells.length < 4294967296) (hf : p.free.length < 4294967296) : SCon Try.prog 105 [SV.p 0 0] [(0, poolS 0 p)] (SV.i (p.next zNodeS).1) [(0, poolS 0 (p.next zNodeS).2)] [] := by
  obtain ⟨cells, free, cap, held, vis⟩ := p
  simp only at hc hf
  rcases List.eq_nil_or_concat free with h0 | ⟨l, x, h0⟩
  · subst h0
    refine spec_of [(0, _)] [(0, _)] 46 Try.func105 rfl Try.ntmps105 rfl rfl rfl rfl (fun β W F => ?_)
    refine G.ent [(0, _)] [(0, _), (21, _), (22, _)] [21, 22] (pool_open (by decide) (by decide) (by decide)) ⟨rfl, trivial⟩ rfl rfl rfl rfl ?_
    refine G.seq ?_
    refine G.rg ?_
    refine K.move (.inr rfl) (gd0 rfl) rfl rfl ?_
    refine K.nil ?_
    refine At.next ?_
    refine G.seq ?_
    refine G.seq ?_
    refine G.rg ?_
    refine K.move (.inl rfl) (gd0 rfl) rfl rfl ?_
    refine K.nilCheck (gd0 rfl) rfl rfl ?_
    refine K.fieldAddr Y (gd0 rfl) rfl t158 rfl rfl ?_
    refine K.load1 Y (gd0 rfl) rfl rfl t29 rfl rfl ?_
    refine K.lenL (lrowV 22 3 intE 1 _) (lrowV_is intE_len (by decide)) (gd0 rfl) rfl rfl Try.underlying29 rfl ?_
    refine K.bin (gd0 rfl) rfl rfl (fun _ => rfl) rfl ?_
    refine K.move (.inr rfl) (gd0 rfl) rfl rfl ?_
    refine K.nil ?_
    refine At.next ?_
    refine G.seq ?_
    refine G.rg ?_
    refine K.move (.inl rfl) (gd0 rfl) rfl rfl ?_
    refine K.bin (gd0 rfl) rfl rfl (fun _ => rfl) rfl ?_
    refine K.nil ?_
    refine At.next ?_
    refine G.cond rfl (fun h1 => ?_) (fun h1 => ?_)
    · exact absurd h1 (by simp [IntKind.wrap_i64] at * <;> omega)
    ·
      refine G.skip ?_
      refine At.next ?_
      refine G.seq ?_
      refine G.rg ?_
      refine K.move (.inl rfl) (gd0 rfl) rfl rfl ?_
      refine K.move (.inl rfl) (gd0 rfl) rfl rfl ?_
      refine K.nilCheck (gd0 rfl) rfl rfl ?_
      refine K.fieldAddr Y (gd0 rfl) rfl t158 rfl rfl ?_
      refine K.load1 Y (gd0 rfl) rfl rfl t156 rfl rfl ?_
      refine K.build Y [] [_, _, _, _, _, _, _, _, _, _, _, _] [] (gd0 rfl) (AllE.spec trivial) rfl rfl t161 rfl rfl ?_
      refine K.buildL Y 136 [(⟨zNodeS, 0, false⟩ : Cell (TNode TSlot TSize))] [(0, _)] [((.tmp 35), _)] fCS_len (gd0 rfl) (AllE.spec ⟨rfl, trivial⟩) rfl rfl Try.underlying156 t161 rfl rfl rfl rfl rfl rfl rfl rfl ?_
      refine K.appendL 137 (lrowV 136 161 fCS 12 _) _ el156 (lrowV_is fCS_len (by decide)) fCS_one (gd0 rfl) rfl rfl rfl rfl rfl (by simp only [List.length_cons, List.length_nil, maxLen]; omega) (by simp only [List.length_cons, List.length_nil, maxLen]; omega) rfl rfl rfl rfl rfl rfl ?_
      refine K.nilCheck (gd0 rfl) rfl rfl ?_
      refine K.fieldAddr Y (gd0 rfl) rfl t158 rfl rfl ?_
      refine K.store Y [_, _, _, _, _] (gd0 rfl) rfl rfl rfl t156 rfl rfl rfl rfl rfl ?_
      refine K.nil ?_
      refine At.next ?_
      refine G.seq ?_
      refine G.rg ?_
      refine K.move (.inl rfl) (gd0 rfl) rfl rfl ?_
      refine K.nilCheck (gd0 rfl) rfl rfl ?_
      refine K.fieldAddr Y (gd0 rfl) rfl t158 rfl rfl ?_
      refine K.load1 Y (gd0 rfl) rfl rfl t156 rfl rfl ?_
      refine K.lenL (lrowV 137 161 fCS 12 _) (lrowV_is fCS_len (by decide)) (gd0 rfl) rfl rfl Try.underlying156 rfl ?_
      refine K.bin (gd0 rfl) rfl rfl (fun _ => rfl) rfl ?_
      refine K.move (.inr rfl) (gd0 rfl) rfl rfl ?_
      refine K.nil ?_
      refine At.next ?_
      refine G.ret ?_
      refine At.ent [(0, _), (137, _), (22, _)] [(0, poolS 0 ⟨_, _, _, _, _⟩)] [] (pool_close _ _ _ _ _) ⟨rfl, rfl, rfl, trivial⟩ rfl rfl rfl rfl ?_
      refine At.done Y [(.tmp 2, .c _)] rfl ⟨.tmp rfl, trivial⟩ (to' := [(0, _)]) ⟨rfl, trivial⟩ ?_ ?_ rfl rfl rfl (.inl rfl)
      · simp [Pool.next, *]
      · exact ret_i (by simp [Pool.next, IntKind.wrap_i64]; omega)
  · rw [List.concat_eq_append] at h0; subst h0
    have hget : (l ++ [x])[l.length]? = some x := by simp
    refine spec_of [(0, _)] [(0, _)] 46 Try.func105 rfl Try.ntmps105 rfl rfl rfl rfl (fun β W F => ?_)
    refine G.ent [(0, _)] [(0, _), (21, _), (22, _)] [21, 22] (pool_open (by decide) (by decide) (by decide)) ⟨rfl, trivial⟩ rfl rfl rfl rfl ?_
    refine G.seq ?_
    refine G.rg ?_
    refine K.move (.inr rfl) (gd0 rfl) rfl rfl ?_
    refine K.nil ?_
    refine At.next ?_
    refine G.seq ?_
    refine G.seq ?_
    refine G.rg ?_
    refine K.move (.inl rfl) (gd0 rfl) rfl rfl ?_
    refine K.nilCheck (gd0 rfl) rfl rfl ?_
    refine K.fieldAddr Y (gd0 rfl) rfl t158 rfl rfl ?_
    refine K.load1 Y (gd0 rfl) rfl rfl t29 rfl rfl ?_
    refine K.lenL (lrowV 22 3 intE 1 _) (lrowV_is intE_len (by decide)) (gd0 rfl) rfl rfl Try.underlying29 rfl ?_
    refine K.bin (gd0 rfl) rfl rfl (fun _ => rfl) rfl ?_
    refine K.move (.inr rfl) (gd0 rfl) rfl rfl ?_
    refine K.nil ?_
    refine At.next ?_
    refine G.seq ?_
    refine G.rg ?_
    refine K.move (.inl rfl) (gd0 rfl) rfl rfl ?_
    refine K.bin (gd0 rfl) rfl rfl (fun _ => rfl) rfl ?_
    refine K.nil ?_
    refine At.next ?_
    refine G.cond rfl (fun h1 => ?_) (fun h1 => ?_)
    ·
      refine G.seq ?_
      refine G.rg ?_
      refine K.move (.inl rfl) (gd0 rfl) rfl rfl ?_
      refine K.nilCheck (gd0 rfl) rfl rfl ?_
      refine K.fieldAddr Y (gd0 rfl) rfl t158 rfl rfl ?_
      refine K.load1 Y (gd0 rfl) rfl rfl t29 rfl rfl ?_
      refine K.move (.inl rfl) (gd0 rfl) rfl rfl ?_
      refine K.idxL (lrowV 22 3 intE 1 _) l.length (lrowV_is intE_len (by decide)) hget (by simp [IntKind.wrap_i64] at * <;> omega) (gd0 rfl) rfl rfl rfl Try.underlying29 el29.size_run rfl ?_
      refine K.load1L Y (lrowV 22 3 intE 1 _) l.length 0 (lrowV_is intE_len (by decide)) hget (gd0 rfl) rfl rfl t3 rfl rfl ?_
      refine K.move (.inr rfl) (gd0 rfl) rfl rfl ?_
      refine K.nil ?_
      refine At.next ?_
      refine G.seq ?_
      refine G.rg ?_
      refine K.move (.inl rfl) (gd0 rfl) rfl rfl ?_
      refine K.move (.inl rfl) (gd0 rfl) rfl rfl ?_
      refine K.nilCheck (gd0 rfl) rfl rfl ?_
      refine K.fieldAddr Y (gd0 rfl) rfl t158 rfl rfl ?_
      refine K.load1 Y (gd0 rfl) rfl rfl t29 rfl rfl ?_
      refine K.move (.inl rfl) (gd0 rfl) rfl rfl ?_
      refine K.cutL 126 l.length intE_len (gd0 rfl) rfl (.at_ rfl (by simp [IntKind.wrap_i64] at * <;> omega) (by simp [IntKind.wrap_i64] at * <;> omega)) rfl Try.underlying29 el29.size_run (by simp) rfl rfl rfl rfl ?_
      refine K.nilCheck (gd0 rfl) rfl rfl ?_
      refine K.fieldAddr Y (gd0 rfl) rfl t158 rfl rfl ?_
      refine K.store Y [_, _, _, _, _] (gd0 rfl) rfl rfl rfl t29 rfl rfl rfl rfl rfl ?_
      refine K.nil ?_
      refine At.next ?_
      refine G.seq ?_
      refine G.rg ?_
      refine K.move (.inl rfl) (gd0 rfl) rfl rfl ?_
      refine K.move (.inr rfl) (gd0 rfl) rfl rfl ?_
      refine K.nil ?_
      refine At.next ?_
      refine G.ret ?_
      refine At.over_ret ?_
      refine At.ent [(0, _), (21, _), (126, _)] [(0, poolS 0 ⟨_, _, _, _, _⟩)] [] (pool_close _ _ _ _ _) ⟨rfl, rfl, rfl, trivial⟩ rfl rfl rfl rfl ?_
      refine At.done Y [(.tmp 2, .c _)] rfl ⟨.tmp rfl, trivial⟩ (to' := [(0, _)]) ⟨rfl, trivial⟩ ?_ ?_ rfl rfl rfl (.inl rfl)
      · simp [Pool.next, *]
      · exact ret_i (by simp [Pool.next])
    · exact absurd h1 (by simp [IntKind.wrap_i64] at * <;> omega)
theorem findSS {cells : List (Cell (TNode TSlot TSize))} {n : Nat} {c : Cell (TNode TSlot TSize)} (hg : cells[n]? = some c) (hl : c.live = true) (hlen : cells.length < 4294967296) (cap held vis : Int) : SCon Try.prog 107 [SV.p 0 0, SV.agg [.i (n : Int), .i c.gen]] [(0, blk 0 [.nv 1, .nv 2, .i cap, .i held, .i vis] 158), (1, lrow 1 161 fCS 12 cells)] (.a (.c (.rp 1 (n * 12)))) [(0, blk 0 [.nv 1, .nv 2, .i cap, .i held, .i (IntKind.i64.wrap (vis + 1))] 158), (1, lrow 1 161 fCS 12 cells)] [] := by
  have hlt := (List.getElem?_eq_some_iff.1 hg).1
  refine spec_of [(0, _), (1, _)] [(0, _), (1, _)] 48 Try.func107 rfl Try.ntmps107 rfl rfl rfl rfl (fun β W F => ?_)
  refine G.seq ?_
  refine G.rg ?_
  refine K.box Y 103 [_, _] (gd0 rfl) rfl rfl rfl rfl rfl rfl ?_
  refine K.move (.inr rfl) (gd0 rfl) rfl rfl ?_
  refine K.nil ?_
  refine At.next ?_
  refine G.seq ?_
  refine G.seq ?_
  have h1 : (decide ((n : Int) < 0)) = false := by simp [IntKind.wrap_i64] at * <;> omega
  refine G.rd mixed ?_
  refine K.fieldAddr Y (gd0 rfl) rfl t99 rfl rfl ?_
  refine K.load1 Y (gd0 rfl) rfl rfl t3 rfl rfl ?_
  refine K.bin (gd0 rfl) rfl rfl (fun _ => rfl) rfl ?_
  refine K.move (.inl rfl) (gd0 rfl) rfl rfl ?_
  refine K.fieldAddr Y (gd1 rfl rfl rfl (h1)) rfl t99 rfl rfl ?_
  refine K.load1 Y (gd1 rfl rfl rfl (h1)) rfl rfl t3 rfl rfl ?_
  refine K.move (.inl rfl) (gd1 rfl rfl rfl (h1)) rfl rfl ?_
  refine K.nilCheck (gd1 rfl rfl rfl (h1)) rfl rfl ?_
  refine K.fieldAddr Y (gd1 rfl rfl rfl (h1)) rfl t158 rfl rfl ?_
  refine K.load1 Y (gd1 rfl rfl rfl (h1)) rfl rfl t156 rfl rfl ?_
  refine K.lenL (lrowV 1 161 fCS 12 _) (lrowV_is fCS_len (by decide)) (gd1 rfl rfl rfl (h1)) rfl rfl Try.underlying156 rfl ?_
  refine K.bin (gd1 rfl rfl rfl (h1)) rfl rfl (fun _ => rfl) rfl ?_
  refine K.pickF (gd0 rfl) rfl (h1) rfl rfl ?_
  refine K.nil ?_
  refine ⟨by kernel_rfl, ?_⟩
  refine At.next ?_
  refine G.cond rfl (fun h2 => ?_) (fun h2 => ?_)
  · exact absurd h2 (by simp [IntKind.wrap_i64] at * <;> omega)
  ·
    refine G.skip ?_
    refine At.next ?_
    refine G.seq ?_
    refine G.rd mixed ?_
    refine K.move (.inl rfl) (gd0 rfl) rfl rfl ?_
    refine K.nilCheck (gd0 rfl) rfl rfl ?_
    refine K.fieldAddr Y (gd0 rfl) rfl t158 rfl rfl ?_
    refine K.load1 Y (gd0 rfl) rfl rfl t156 rfl rfl ?_
    refine K.fieldAddr Y (gd0 rfl) rfl t99 rfl rfl ?_
    refine K.load1 Y (gd0 rfl) rfl rfl t3 rfl rfl ?_
    refine K.idxL (lrowV 1 161 fCS 12 _) n (lrowV_is fCS_len (by decide)) hg rfl (gd0 rfl) rfl rfl rfl Try.underlying156 el156.size_run rfl ?_
    refine K.move (.inr rfl) (gd0 rfl) rfl rfl ?_
    refine K.nil ?_
    refine ⟨by kernel_rfl, ?_⟩
    refine At.next ?_
    refine G.seq ?_
    refine G.seq ?_
    have h3 : (!c.live) = false := by simp [hl]
    refine G.rd mixed ?_
    refine K.move (.inl rfl) (gd0 rfl) rfl rfl ?_
    refine K.nilL (lrowV 1 161 fCS 12 _) n 0 (lrowV_is fCS_len (by decide)) hg (gd0 rfl) rfl rfl rfl rfl ?_
    refine K.fieldL Y (lrowV 1 161 fCS 12 _) n 0 11 (lrowV_is fCS_len (by decide)) hg (gd0 rfl) rfl rfl t161 rfl rfl rfl rfl ?_
    refine K.load1L Y (lrowV 1 161 fCS 12 _) n 11 (lrowV_is fCS_len (by decide)) hg (gd0 rfl) rfl rfl t4 rfl rfl ?_
    refine K.un (gd0 rfl) rfl (fun _ => rfl) rfl ?_
    refine K.move (.inl rfl) (gd0 rfl) rfl rfl ?_
    refine K.move (.inl rfl) (gd1 rfl rfl rfl (h3)) rfl rfl ?_
    refine K.nilL (lrowV 1 161 fCS 12 _) n 0 (lrowV_is fCS_len (by decide)) hg (gd1 rfl rfl rfl (h3)) rfl rfl rfl rfl ?_
    refine K.fieldL Y (lrowV 1 161 fCS 12 _) n 0 10 (lrowV_is fCS_len (by decide)) hg (gd1 rfl rfl rfl (h3)) rfl rfl t161 rfl rfl rfl rfl ?_
    refine K.load1L Y (lrowV 1 161 fCS 12 _) n 10 (lrowV_is fCS_len (by decide)) hg (gd1 rfl rfl rfl (h3)) rfl rfl t3 rfl rfl ?_
    refine K.fieldAddr Y (gd1 rfl rfl rfl (h3)) rfl t99 rfl rfl ?_
    refine K.load1 Y (gd1 rfl rfl rfl (h3)) rfl rfl t3 rfl rfl ?_
    refine K.bin (gd1 rfl rfl rfl (h3)) rfl rfl (fun _ => rfl) rfl ?_
    refine K.pickF (gd0 rfl) rfl (h3) rfl rfl ?_
    refine K.nil ?_
    refine ⟨by kernel_rfl, ?_⟩
    refine At.next ?_
    refine G.cond rfl (fun h4 => ?_) (fun h4 => ?_)
    · exact absurd h4 (by simp)
    ·
      refine G.skip ?_
      refine At.next ?_
      refine G.seq ?_
      refine G.rg ?_
      refine K.move (.inl rfl) (gd0 rfl) rfl rfl ?_
      refine K.nilCheck (gd0 rfl) rfl rfl ?_
      refine K.fieldAddr Y (gd0 rfl) rfl t158 rfl rfl ?_
      refine K.load1 Y (gd0 rfl) rfl rfl t3 rfl rfl ?_
      refine K.bin (gd0 rfl) rfl rfl (fun _ => rfl) rfl ?_
      refine K.nilCheck (gd0 rfl) rfl rfl ?_
      refine K.fieldAddr Y (gd0 rfl) rfl t158 rfl rfl ?_
      refine K.store Y [_, _, _, _, _] (gd0 rfl) rfl rfl rfl t3 rfl rfl rfl rfl rfl ?_
      refine K.nil ?_
      refine At.next ?_
      refine G.seq ?_
      refine G.rg ?_
      refine K.move (.inl rfl) (gd0 rfl) rfl rfl ?_
      refine K.move (.inr rfl) (gd0 rfl) rfl rfl ?_
      refine K.nil ?_
      refine At.next ?_
      refine G.ret ?_
      refine At.done Y [(.tmp 4, .c _)] rfl ⟨.tmp rfl, trivial⟩ (to' := [(0, _), (1, _)]) ⟨rfl, rfl, trivial⟩ ?_ ?_ rfl rfl rfl (.inl rfl)
      · rfl
      · rfl
theorem findNS {cells : List (Cell (TNode TSlot TSize))} {i g : Int} (hn : lookC cells i g = none) (hlen : cells.length < 4294967296) (cap held vis : Int) : SCon Try.prog 107 [SV.p 0 0, SV.agg [.i i, .i g]] [(0, blk 0 [.nv 1, .nv 2, .i cap, .i held, .i vis] 158), (1, lrow 1 161 fCS 12 cells)] (SV.raw (.pointer none)) [(0, blk 0 [.nv 1, .nv 2, .i cap, .i held, .i vis] 158), (1, lrow 1 161 fCS 12 cells)] [] := by
  refine spec_of [(0, _), (1, _)] [(0, _), (1, _)] 48 Try.func107 rfl Try.ntmps107 rfl rfl rfl rfl (fun β W F => ?_)
  refine G.seq ?_
  refine G.rg ?_
  refine K.box Y 103 [_, _] (gd0 rfl) rfl rfl rfl rfl rfl rfl ?_
  refine K.move (.inr rfl) (gd0 rfl) rfl rfl ?_
  refine K.nil ?_
  refine At.next ?_
  refine G.seq ?_
  refine G.seq ?_
  rcases Bool.eq_false_or_eq_true (decide (i < 0)) with h1 | h1
  ·
    refine G.rd mixed ?_
    refine K.fieldAddr Y (gd0 rfl) rfl t99 rfl rfl ?_
    refine K.load1 Y (gd0 rfl) rfl rfl t3 rfl rfl ?_
    refine K.bin (gd0 rfl) rfl rfl (fun _ => rfl) rfl ?_
    refine K.move (.inl rfl) (gd0 rfl) rfl rfl ?_
    refine K.skip rfl rfl rfl rfl (h1) rfl ?_
    refine K.skip rfl rfl rfl rfl (h1) rfl ?_
    refine K.skip rfl rfl rfl rfl (h1) rfl ?_
    refine K.skip rfl rfl rfl rfl (h1) rfl ?_
    refine K.skip rfl rfl rfl rfl (h1) rfl ?_
    refine K.skip rfl rfl rfl rfl (h1) rfl ?_
    refine K.skip rfl rfl rfl rfl (h1) rfl ?_
    refine K.skip rfl rfl rfl rfl (h1) rfl ?_
    refine K.pickT (gd0 rfl) rfl (h1) rfl rfl ?_
    refine K.nil ?_
    refine ⟨by kernel_rfl, ?_⟩
    refine At.next ?_
    refine G.cond rfl (fun h2 => ?_) (fun h2 => ?_)
    ·
      refine G.seq ?_
      refine G.rg ?_
      refine K.move (.inr rfl) (gd0 rfl) rfl rfl ?_
      refine K.nil ?_
      refine At.next ?_
      refine G.ret ?_
      refine At.over_ret ?_
      refine At.done Y [(.tmp 4, .c _)] rfl ⟨.tmp rfl, trivial⟩ (to' := [(0, _), (1, _)]) ⟨rfl, rfl, trivial⟩ ?_ ?_ rfl rfl rfl (.inl rfl)
      · rfl
      · rfl
    · cases h2
  ·
    refine G.rd mixed ?_
    refine K.fieldAddr Y (gd0 rfl) rfl t99 rfl rfl ?_
    refine K.load1 Y (gd0 rfl) rfl rfl t3 rfl rfl ?_
    refine K.bin (gd0 rfl) rfl rfl (fun _ => rfl) rfl ?_
    refine K.move (.inl rfl) (gd0 rfl) rfl rfl ?_
    refine K.fieldAddr Y (gd1 rfl rfl rfl (h1)) rfl t99 rfl rfl ?_
    refine K.load1 Y (gd1 rfl rfl rfl (h1)) rfl rfl t3 rfl rfl ?_
    refine K.move (.inl rfl) (gd1 rfl rfl rfl (h1)) rfl rfl ?_
    refine K.nilCheck (gd1 rfl rfl rfl (h1)) rfl rfl ?_
    refine K.fieldAddr Y (gd1 rfl rfl rfl (h1)) rfl t158 rfl rfl ?_
    refine K.load1 Y (gd1 rfl rfl rfl (h1)) rfl rfl t156 rfl rfl ?_
    refine K.lenL (lrowV 1 161 fCS 12 _) (lrowV_is fCS_len (by decide)) (gd1 rfl rfl rfl (h1)) rfl rfl Try.underlying156 rfl ?_
    refine K.bin (gd1 rfl rfl rfl (h1)) rfl rfl (fun _ => rfl) rfl ?_
    refine K.pickF (gd0 rfl) rfl (h1) rfl rfl ?_
    refine K.nil ?_
    refine ⟨by kernel_rfl, ?_⟩
    refine At.next ?_
    refine G.cond rfl (fun h3 => ?_) (fun h3 => ?_)
    ·
      refine G.seq ?_
      refine G.rg ?_
      refine K.move (.inr rfl) (gd0 rfl) rfl rfl ?_
      refine K.nil ?_
      refine At.next ?_
      refine G.ret ?_
      refine At.over_ret ?_
      refine At.done Y [(.tmp 4, .c _)] rfl ⟨.tmp rfl, trivial⟩ (to' := [(0, _), (1, _)]) ⟨rfl, rfl, trivial⟩ ?_ ?_ rfl rfl rfl (.inl rfl)
      · rfl
      · rfl
    ·
      refine G.skip ?_
      refine At.next ?_
      refine G.seq ?_
      obtain ⟨c, hg⟩ : ∃ c, cells[i.toNat]? = some c := ⟨_, List.getElem?_eq_getElem (by simp [IntKind.wrap_i64] at * <;> omega)⟩
      refine G.rd mixed ?_
      refine K.move (.inl rfl) (gd0 rfl) rfl rfl ?_
      refine K.nilCheck (gd0 rfl) rfl rfl ?_
      refine K.fieldAddr Y (gd0 rfl) rfl t158 rfl rfl ?_
      refine K.load1 Y (gd0 rfl) rfl rfl t156 rfl rfl ?_
      refine K.fieldAddr Y (gd0 rfl) rfl t99 rfl rfl ?_
      refine K.load1 Y (gd0 rfl) rfl rfl t3 rfl rfl ?_
      refine K.idxL (lrowV 1 161 fCS 12 _) i.toNat (lrowV_is fCS_len (by decide)) hg (by simp [IntKind.wrap_i64] at * <;> omega) (gd0 rfl) rfl rfl rfl Try.underlying156 el156.size_run rfl ?_
      refine K.move (.inr rfl) (gd0 rfl) rfl rfl ?_
      refine K.nil ?_
      refine ⟨by kernel_rfl, ?_⟩
      refine At.next ?_
      refine G.seq ?_
      refine G.seq ?_
      rcases Bool.eq_false_or_eq_true (!c.live) with h4 | h4
      ·
        refine G.rd mixed ?_
        refine K.move (.inl rfl) (gd0 rfl) rfl rfl ?_
        refine K.nilL (lrowV 1 161 fCS 12 _) i.toNat 0 (lrowV_is fCS_len (by decide)) hg (gd0 rfl) rfl rfl rfl rfl ?_
        refine K.fieldL Y (lrowV 1 161 fCS 12 _) i.toNat 0 11 (lrowV_is fCS_len (by decide)) hg (gd0 rfl) rfl rfl t161 rfl rfl rfl rfl ?_
        refine K.load1L Y (lrowV 1 161 fCS 12 _) i.toNat 11 (lrowV_is fCS_len (by decide)) hg (gd0 rfl) rfl rfl t4 rfl rfl ?_
        refine K.un (gd0 rfl) rfl (fun _ => rfl) rfl ?_
        refine K.move (.inl rfl) (gd0 rfl) rfl rfl ?_
        refine K.skip rfl rfl rfl rfl (h4) rfl ?_
        refine K.skip rfl rfl rfl rfl (h4) rfl ?_
        refine K.skip rfl rfl rfl rfl (h4) rfl ?_
        refine K.skip rfl rfl rfl rfl (h4) rfl ?_
        refine K.skip rfl rfl rfl rfl (h4) rfl ?_
        refine K.skip rfl rfl rfl rfl (h4) rfl ?_
        refine K.skip rfl rfl rfl rfl (h4) rfl ?_
        refine K.pickT (gd0 rfl) rfl (h4) rfl rfl ?_
        refine K.nil ?_
        refine ⟨by kernel_rfl, ?_⟩
        refine At.next ?_
        refine G.cond rfl (fun h5 => ?_) (fun h5 => ?_)
        ·
          refine G.seq ?_
          refine G.rg ?_
          refine K.move (.inr rfl) (gd0 rfl) rfl rfl ?_
          refine K.nil ?_
          refine At.next ?_
          refine G.ret ?_
          refine At.over_ret ?_
          refine At.done Y [(.tmp 4, .c _)] rfl ⟨.tmp rfl, trivial⟩ (to' := [(0, _), (1, _)]) ⟨rfl, rfl, trivial⟩ ?_ ?_ rfl rfl rfl (.inl rfl)
          · rfl
          · rfl
        · cases h5
      ·
        refine G.rd mixed ?_
        refine K.move (.inl rfl) (gd0 rfl) rfl rfl ?_
        refine K.nilL (lrowV 1 161 fCS 12 _) i.toNat 0 (lrowV_is fCS_len (by decide)) hg (gd0 rfl) rfl rfl rfl rfl ?_
        refine K.fieldL Y (lrowV 1 161 fCS 12 _) i.toNat 0 11 (lrowV_is fCS_len (by decide)) hg (gd0 rfl) rfl rfl t161 rfl rfl rfl rfl ?_
        refine K.load1L Y (lrowV 1 161 fCS 12 _) i.toNat 11 (lrowV_is fCS_len (by decide)) hg (gd0 rfl) rfl rfl t4 rfl rfl ?_
        refine K.un (gd0 rfl) rfl (fun _ => rfl) rfl ?_
        refine K.move (.inl rfl) (gd0 rfl) rfl rfl ?_
        refine K.move (.inl rfl) (gd1 rfl rfl rfl (h4)) rfl rfl ?_
        refine K.nilL (lrowV 1 161 fCS 12 _) i.toNat 0 (lrowV_is fCS_len (by decide)) hg (gd1 rfl rfl rfl (h4)) rfl rfl rfl rfl ?_
        refine K.fieldL Y (lrowV 1 161 fCS 12 _) i.toNat 0 10 (lrowV_is fCS_len (by decide)) hg (gd1 rfl rfl rfl (h4)) rfl rfl t161 rfl rfl rfl rfl ?_
        refine K.load1L Y (lrowV 1 161 fCS 12 _) i.toNat 10 (lrowV_is fCS_len (by decide)) hg (gd1 rfl rfl rfl (h4)) rfl rfl t3 rfl rfl ?_
        refine K.fieldAddr Y (gd1 rfl rfl rfl (h4)) rfl t99 rfl rfl ?_
        refine K.load1 Y (gd1 rfl rfl rfl (h4)) rfl rfl t3 rfl rfl ?_
        refine K.bin (gd1 rfl rfl rfl (h4)) rfl rfl (fun _ => rfl) rfl ?_
        refine K.pickF (gd0 rfl) rfl (h4) rfl rfl ?_
        refine K.nil ?_
        refine ⟨by kernel_rfl, ?_⟩
        refine At.next ?_
        refine G.cond rfl (fun h6 => ?_) (fun h6 => ?_)
        ·
          refine G.seq ?_
          refine G.rg ?_
          refine K.move (.inr rfl) (gd0 rfl) rfl rfl ?_
          refine K.nil ?_
          refine At.next ?_
          refine G.ret ?_
          refine At.over_ret ?_
          refine At.done Y [(.tmp 4, .c _)] rfl ⟨.tmp rfl, trivial⟩ (to' := [(0, _), (1, _)]) ⟨rfl, rfl, trivial⟩ ?_ ?_ rfl rfl rfl (.inl rfl)
          · rfl
          · rfl
        · exact absurd h6 (by simp_all [lookC])
theorem findSS' {cells : List (Cell (TNode TSlot TSize))} {n : Nat} {c : Cell (TNode TSlot TSize)} (hg : cells[n]? = some c) (hl : c.live = true) (hlen : cells.length < 4294967296) (cap held vis : Int) (k0 k1 k2 : Nat) : SCon Try.prog 107 [SV.p k0 0, SV.agg [.i (n : Int), .i c.gen]]
    [(k0, blk k0 [.nv k1, .nv k2, .i cap, .i held, .i vis] 158), (k1, lrow k1 161 fCS 12 cells)] (.a (.c (.rp k1 (n * 12)))) [(k0, blk k0 [.nv k1, .nv k2, .i cap, .i held, .i (IntKind.i64.wrap (vis + 1))] 158), (k1, lrow k1 161 fCS 12 cells)] [] :=
  SCon.ren (rn [(0, k0), (1, k1), (2, k2)]) (findSS hg hl hlen cap held vis) ⟨blk_ren rfl rfl, lrow_ren rfl, trivial⟩ ⟨blk_ren rfl rfl, lrow_ren rfl, trivial⟩ (by simp) (by simp)
theorem findNS' {cells : List (Cell (TNode TSlot TSize))} {i g : Int} (hn : lookC cells i g = none) (hlen : cells.length < 4294967296) (cap held vis : Int) (k0 k1 k2 : Nat) : SCon Try.prog 107 [SV.p k0 0, SV.agg [.i i, .i g]]
    [(k0, blk k0 [.nv k1, .nv k2, .i cap, .i held, .i vis] 158), (k1, lrow k1 161 fCS 12 cells)] (SV.raw (.pointer none)) [(k0, blk k0 [.nv k1, .nv k2, .i cap, .i held, .i vis] 158), (k1, lrow k1 161 fCS 12 cells)] [] :=
  SCon.ren (rn [(0, k0), (1, k1), (2, k2)]) (findNS hn hlen cap held vis) ⟨blk_ren rfl rfl, lrow_ren rfl, trivial⟩ ⟨blk_ren rfl rfl, lrow_ren rfl, trivial⟩ (by simp) (by simp)

theorem getS (p : Pool (TNode TSlot TSize)) (i g : Int) (hlen : p.cells.length < 4294967296) (hfree : p.free.length < 4294967296) : SCon Try.prog 95 [SV.p 0 0, SV.agg [.i i, .i g]] [(0, poolS 0 p)] (.tup [avS (p.get zNodeS i g).1.1, .c (.b (p.get zNodeS i g).1.2)]) [(0, poolS 0 (p.get zNodeS i g).2)] [] := by
  obtain ⟨cells, free, cap, held, vis⟩ := p
  simp only at hlen hfree
  cases hlk : lookC cells i g with
  | none =>
    refine spec_of [(0, _), (1, _)] [(0, _)] 18 Try.func95 rfl Try.ntmps95 rfl rfl rfl rfl (fun β W F => ?_)
    refine G.ent [(0, _)] [(0, _), (21, _), (22, _)] [21, 22] (pool_open (by decide) (by decide) (by decide)) ⟨rfl, trivial⟩ rfl rfl rfl rfl ?_
    refine G.seq ?_
    refine G.rg ?_
    refine K.box Y 103 [_, _] (gd0 rfl) rfl rfl rfl rfl rfl rfl ?_
    refine K.alloc Y 104 [_, _, _, _, _, _, _, _, _, _] (gd0 rfl) t124 rfl rfl rfl rfl rfl ?_
    refine K.move (.inr rfl) (gd0 rfl) rfl rfl ?_
    refine K.nil ?_
    refine At.next ?_
    refine G.seq ?_
    refine G.rg ?_
    refine K.move (.inl rfl) (gd0 rfl) rfl rfl ?_
    refine K.loadS Y [_, _] (gd0 rfl) rfl rfl t99 rfl rfl rfl ?_
    refine K.call0 [(.func 107, _), ((.tmp 8), _), ((.tmp 9), _)] (findNS' hlk hlen _ _ _ 0 21 22) (toFn_func (cf 107 rfl) rfl) (gd0 rfl) ⟨rfl, rfl, rfl, trivial⟩ ⟨rfl, rfl, trivial⟩ rfl rfl rfl rfl rfl rfl ?_
    refine K.move (.inr rfl) (gd0 rfl) rfl rfl ?_
    refine K.nil ?_
    refine At.next ?_
    refine G.seq ?_
    refine G.seq ?_
    refine G.rg ?_
    refine K.move (.inl rfl) (gd0 rfl) rfl rfl ?_
    refine K.bin (gd0 rfl) rfl rfl (pn_eql_none Try.underlying159) rfl ?_
    refine K.nil ?_
    refine At.next ?_
    refine G.cond rfl (fun h1 => ?_) (fun h1 => ?_)
    ·
      refine G.seq ?_
      refine G.rg ?_
      refine K.alloc Y 107 [_, _, _, _, _, _, _, _, _, _] (gd0 rfl) t124 rfl rfl rfl rfl rfl ?_
      refine K.nil ?_
      refine At.next ?_
      refine G.seq ?_
      refine G.rg ?_
      refine K.loadS Y [_, _, _, _, _, _, _, _, _, _] (gd0 rfl) rfl rfl t124 rfl rfl rfl ?_
      refine K.store Y [_, _, _, _, _, _, _, _, _, _] (gd0 rfl) rfl rfl rfl t124 rfl rfl rfl rfl rfl ?_
      refine K.move (.inr rfl) (gd0 rfl) rfl rfl ?_
      refine K.nil ?_
      refine At.next ?_
      refine G.ret ?_
      refine At.over_ret ?_
      refine At.ent [(0, _), (21, _), (22, _)] [(0, poolS 0 ⟨_, _, _, _, _⟩)] [] (pool_close _ _ _ _ _) ⟨rfl, rfl, rfl, trivial⟩ rfl rfl rfl rfl ?_
      refine At.done Y [(.cell 4 124, .agg [_, _, _, _, _, _, _, _, _, _]), (.tmp 5, .c _)] rfl ⟨.st rfl rfl t124 rfl rfl, .tmp rfl, trivial⟩ (to' := [(0, _)]) ⟨rfl, trivial⟩ ?_ ?_ rfl rfl rfl (.inl rfl)
      · simp only [Pool.get, hlk]
      · simp only [Pool.get, hlk]; rfl
    · cases h1
  | some c =>
    obtain ⟨n, rfl, hg, hl, rfl⟩ := lookC_some hlk
    refine spec_of [(0, _), (1, _)] [(0, _)] 18 Try.func95 rfl Try.ntmps95 rfl rfl rfl rfl (fun β W F => ?_)
    refine G.ent [(0, _)] [(0, _), (21, _), (22, _)] [21, 22] (pool_open (by decide) (by decide) (by decide)) ⟨rfl, trivial⟩ rfl rfl rfl rfl ?_
    refine G.seq ?_
    refine G.rg ?_
    refine K.box Y 103 [_, _] (gd0 rfl) rfl rfl rfl rfl rfl rfl ?_
    refine K.alloc Y 104 [_, _, _, _, _, _, _, _, _, _] (gd0 rfl) t124 rfl rfl rfl rfl rfl ?_
    refine K.move (.inr rfl) (gd0 rfl) rfl rfl ?_
    refine K.nil ?_
    refine At.next ?_
    refine G.seq ?_
    refine G.rg ?_
    refine K.move (.inl rfl) (gd0 rfl) rfl rfl ?_
    refine K.loadS Y [_, _] (gd0 rfl) rfl rfl t99 rfl rfl rfl ?_
    refine K.call0 [(.func 107, _), ((.tmp 8), _), ((.tmp 9), _)] (findSS' hg hl hlen _ _ _ 0 21 22) (toFn_func (cf 107 rfl) rfl) (gd0 rfl) ⟨rfl, rfl, rfl, trivial⟩ ⟨rfl, rfl, trivial⟩ rfl rfl rfl rfl rfl rfl ?_
    refine K.move (.inr rfl) (gd0 rfl) rfl rfl ?_
    refine K.nil ?_
    refine At.next ?_
    refine G.seq ?_
    refine G.seq ?_
    refine G.rg ?_
    refine K.move (.inl rfl) (gd0 rfl) rfl rfl ?_
    refine K.eqnilL (lrowV 21 161 fCS 12 _) n 0 (B := false) (lrowV_is fCS_len (by decide)) hg (gd0 rfl) rfl rfl rfl rfl (pn_eql_some Try.underlying159) rfl ?_
    refine K.nil ?_
    refine At.next ?_
    refine G.cond rfl (fun h1 => ?_) (fun h1 => ?_)
    · cases h1
    ·
      refine G.skip ?_
      refine At.next ?_
      refine G.seq ?_
      refine G.rg ?_
      refine K.move (.inl rfl) (gd0 rfl) rfl rfl ?_
      refine K.nilL (lrowV 21 161 fCS 12 _) n 0 (lrowV_is fCS_len (by decide)) hg (gd0 rfl) rfl rfl rfl rfl ?_
      refine K.fieldL Y (lrowV 21 161 fCS 12 _) n 0 0 (lrowV_is fCS_len (by decide)) hg (gd0 rfl) rfl rfl t161 rfl rfl rfl rfl ?_
      refine K.loadSL Y (lrowV 21 161 fCS 12 _) n 0 [_, _, _, _, _, _, _, _, _, _] [_, _, _, _, _, _, _, _, _, _] (lrowV_is fCS_len (by decide)) hg (gd0 rfl) rfl rfl t124 rfl rfl rfl rfl rfl ?_
      refine K.store Y [_, _, _, _, _, _, _, _, _, _] (gd0 rfl) rfl rfl rfl t124 rfl rfl rfl rfl rfl ?_
      refine K.move (.inr rfl) (gd0 rfl) rfl rfl ?_
      refine K.nil ?_
      refine At.next ?_
      refine G.ret ?_
      refine At.ent [(0, _), (21, _), (22, _)] [(0, poolS 0 ⟨_, _, _, _, _⟩)] [] (pool_close _ _ _ _ _) ⟨rfl, rfl, rfl, trivial⟩ rfl rfl rfl rfl ?_
      refine At.done Y [(.cell 4 124, .agg [_, _, _, _, _, _, _, _, _, _]), (.tmp 5, .c _)] rfl ⟨.st rfl rfl t124 rfl rfl, .tmp rfl, trivial⟩ (to' := [(0, _)]) ⟨rfl, trivial⟩ ?_ ?_ rfl rfl rfl (.inl rfl)
      · simp [Pool.get, hlk, Pool.hit]
      · simp only [Pool.get, hlk]; rfl
theorem setS (p : Pool (TNode TSlot TSize)) (i g : Int) (v : (TNode TSlot TSize)) (hlen : p.cells.length < 4294967296) (hfree : p.free.length < 4294967296) : SCon Try.prog 93 [SV.p 0 0, SV.agg [.i i, .i g], .a (avS v)] [(0, poolS 0 p)] (SV.b (p.set i g v).1) [(0, poolS 0 (p.set i g v).2)] [] := by
  obtain ⟨cells, free, cap, held, vis⟩ := p
  simp only at hlen hfree
  cases hlk : lookC cells i g with
  | none =>
    refine spec_of [(0, _), (1, _), (2, _)] [(0, _)] 19 Try.func93 rfl Try.ntmps93 rfl rfl rfl rfl (fun β W F => ?_)
    refine G.ent [(0, _)] [(0, _), (21, _), (22, _)] [21, 22] (pool_open (by decide) (by decide) (by decide)) ⟨rfl, trivial⟩ rfl rfl rfl rfl ?_
    refine G.seq ?_
    refine G.rg ?_
    refine K.box Y 104 [_, _] (gd0 rfl) rfl rfl rfl rfl rfl rfl ?_
    refine K.box Y 105 [_, _, _, _, _, _, _, _, _, _] (gd0 rfl) rfl rfl rfl rfl rfl rfl ?_
    refine K.move (.inr rfl) (gd0 rfl) rfl rfl ?_
    refine K.nil ?_
    refine At.next ?_
    refine G.seq ?_
    refine G.rg ?_
    refine K.move (.inl rfl) (gd0 rfl) rfl rfl ?_
    refine K.loadS Y [_, _] (gd0 rfl) rfl rfl t99 rfl rfl rfl ?_
    refine K.call0 [(.func 107, _), ((.tmp 8), _), ((.tmp 9), _)] (findNS' hlk hlen _ _ _ 0 21 22) (toFn_func (cf 107 rfl) rfl) (gd0 rfl) ⟨rfl, rfl, rfl, trivial⟩ ⟨rfl, rfl, trivial⟩ rfl rfl rfl rfl rfl rfl ?_
    refine K.move (.inr rfl) (gd0 rfl) rfl rfl ?_
    refine K.nil ?_
    refine At.next ?_
    refine G.seq ?_
    refine G.seq ?_
    refine G.rg ?_
    refine K.move (.inl rfl) (gd0 rfl) rfl rfl ?_
    refine K.bin (gd0 rfl) rfl rfl (pn_neq_none Try.underlying159) rfl ?_
    refine K.nil ?_
    refine At.next ?_
    refine G.cond rfl (fun h1 => ?_) (fun h1 => ?_)
    · cases h1
    ·
      refine G.skip ?_
      refine At.next ?_
      refine G.seq ?_
      refine G.rg ?_
      refine K.move (.inl rfl) (gd0 rfl) rfl rfl ?_
      refine K.bin (gd0 rfl) rfl rfl (pn_neq_none Try.underlying159) rfl ?_
      refine K.move (.inr rfl) (gd0 rfl) rfl rfl ?_
      refine K.nil ?_
      refine At.next ?_
      refine G.ret ?_
      refine At.ent [(0, _), (21, _), (22, _)] [(0, poolS 0 ⟨_, _, _, _, _⟩)] [] (pool_close _ _ _ _ _) ⟨rfl, rfl, rfl, trivial⟩ rfl rfl rfl rfl ?_
      refine At.done Y [(.tmp 6, .c _)] rfl ⟨.tmp rfl, trivial⟩ (to' := [(0, _)]) ⟨rfl, trivial⟩ ?_ ?_ rfl rfl rfl (.inl rfl)
      · simp only [Pool.set, hlk]
      · simp only [Pool.set, hlk]; rfl
  | some c =>
    obtain ⟨n, rfl, hg, hl, rfl⟩ := lookC_some hlk
    refine spec_of [(0, _), (1, _), (2, _)] [(0, _)] 19 Try.func93 rfl Try.ntmps93 rfl rfl rfl rfl (fun β W F => ?_)
    refine G.ent [(0, _)] [(0, _), (21, _), (22, _)] [21, 22] (pool_open (by decide) (by decide) (by decide)) ⟨rfl, trivial⟩ rfl rfl rfl rfl ?_
    refine G.seq ?_
    refine G.rg ?_
    refine K.box Y 104 [_, _] (gd0 rfl) rfl rfl rfl rfl rfl rfl ?_
    refine K.box Y 105 [_, _, _, _, _, _, _, _, _, _] (gd0 rfl) rfl rfl rfl rfl rfl rfl ?_
    refine K.move (.inr rfl) (gd0 rfl) rfl rfl ?_
    refine K.nil ?_
    refine At.next ?_
    refine G.seq ?_
    refine G.rg ?_
    refine K.move (.inl rfl) (gd0 rfl) rfl rfl ?_
    refine K.loadS Y [_, _] (gd0 rfl) rfl rfl t99 rfl rfl rfl ?_
    refine K.call0 [(.func 107, _), ((.tmp 8), _), ((.tmp 9), _)] (findSS' hg hl hlen _ _ _ 0 21 22) (toFn_func (cf 107 rfl) rfl) (gd0 rfl) ⟨rfl, rfl, rfl, trivial⟩ ⟨rfl, rfl, trivial⟩ rfl rfl rfl rfl rfl rfl ?_
    refine K.move (.inr rfl) (gd0 rfl) rfl rfl ?_
    refine K.nil ?_
    refine At.next ?_
    refine G.seq ?_
    refine G.seq ?_
    refine G.rg ?_
    refine K.move (.inl rfl) (gd0 rfl) rfl rfl ?_
    refine K.eqnilL (lrowV 21 161 fCS 12 _) n 0 (B := true) (lrowV_is fCS_len (by decide)) hg (gd0 rfl) rfl rfl rfl rfl (pn_neq_some Try.underlying159) rfl ?_
    refine K.nil ?_
    refine At.next ?_
    refine G.cond rfl (fun h1 => ?_) (fun h1 => ?_)
    ·
      refine G.rg ?_
      refine K.move (.inl rfl) (gd0 rfl) rfl rfl ?_
      refine K.loadS Y [_, _, _, _, _, _, _, _, _, _] (gd0 rfl) rfl rfl t124 rfl rfl rfl ?_
      refine K.nilL (lrowV 21 161 fCS 12 _) n 0 (lrowV_is fCS_len (by decide)) hg (gd0 rfl) rfl rfl rfl rfl ?_
      refine K.fieldL Y (lrowV 21 161 fCS 12 _) n 0 0 (lrowV_is fCS_len (by decide)) hg (gd0 rfl) rfl rfl t161 rfl rfl rfl rfl ?_
      refine K.storeL Y n 0 [_, _, _, _, _, _, _, _, _, _] { c with v := v } fCS_len (by decide) hg (gd0 rfl) rfl rfl rfl t124 rfl rfl rfl rfl rfl rfl ?_
      refine K.nil ?_
      refine At.next ?_
      refine G.seq ?_
      refine G.rg ?_
      refine K.move (.inl rfl) (gd0 rfl) rfl rfl ?_
      refine K.eqnilL (lrowV 21 161 fCS 12 _) n 0 (B := true) (lrowV_is fCS_len (by decide)) (set_get hg) (gd0 rfl) rfl rfl rfl rfl (pn_neq_some Try.underlying159) rfl ?_
      refine K.move (.inr rfl) (gd0 rfl) rfl rfl ?_
      refine K.nil ?_
      refine At.next ?_
      refine G.ret ?_
      refine At.ent [(0, _), (21, _), (22, _)] [(0, poolS 0 ⟨_, _, _, _, _⟩)] [] (pool_close _ _ _ _ _) ⟨rfl, rfl, rfl, trivial⟩ rfl rfl rfl rfl ?_
      refine At.done Y [(.tmp 6, .c _)] rfl ⟨.tmp rfl, trivial⟩ (to' := [(0, _)]) ⟨rfl, trivial⟩ ?_ ?_ rfl rfl rfl (.inl rfl)
      · simp [Pool.set, hlk, Pool.hit]
      · simp only [Pool.set, hlk]; rfl
    · cases h1
theorem dropS (p : Pool (TNode TSlot TSize)) (i g : Int) (hlen : p.cells.length < 4294967296) (hfree : p.free.length < 4294967296) : SCon Try.prog 98 [SV.p 0 0, SV.agg [.i i, .i g]] [(0, poolS 0 p)] (.tup [avS (p.drop zNodeS i g).1.1, .c (.b (p.drop zNodeS i g).1.2)]) [(0, poolS 0 (p.drop zNodeS i g).2)] [] := by
  obtain ⟨cells, free, cap, held, vis⟩ := p
  simp only at hlen hfree
  cases hlk : lookC cells i g with
  | none =>
    refine spec_of [(0, _), (1, _)] [(0, _)] 50 Try.func98 rfl Try.ntmps98 rfl rfl rfl rfl (fun β W F => ?_)
    refine G.ent [(0, _)] [(0, _), (21, _), (22, _)] [21, 22] (pool_open (by decide) (by decide) (by decide)) ⟨rfl, trivial⟩ rfl rfl rfl rfl ?_
    refine G.seq ?_
    refine G.rg ?_
    refine K.box Y 103 [_, _] (gd0 rfl) rfl rfl rfl rfl rfl rfl ?_
    refine K.alloc Y 104 [_, _, _, _, _, _, _, _, _, _] (gd0 rfl) t124 rfl rfl rfl rfl rfl ?_
    refine K.move (.inr rfl) (gd0 rfl) rfl rfl ?_
    refine K.nil ?_
    refine At.next ?_
    refine G.seq ?_
    refine G.rg ?_
    refine K.move (.inl rfl) (gd0 rfl) rfl rfl ?_
    refine K.loadS Y [_, _] (gd0 rfl) rfl rfl t99 rfl rfl rfl ?_
    refine K.call0 [(.func 107, _), ((.tmp 9), _), ((.tmp 10), _)] (findNS' hlk hlen _ _ _ 0 21 22) (toFn_func (cf 107 rfl) rfl) (gd0 rfl) ⟨rfl, rfl, rfl, trivial⟩ ⟨rfl, rfl, trivial⟩ rfl rfl rfl rfl rfl rfl ?_
    refine K.move (.inr rfl) (gd0 rfl) rfl rfl ?_
    refine K.nil ?_
    refine At.next ?_
    refine G.seq ?_
    refine G.seq ?_
    refine G.rg ?_
    refine K.move (.inl rfl) (gd0 rfl) rfl rfl ?_
    refine K.bin (gd0 rfl) rfl rfl (pn_eql_none Try.underlying159) rfl ?_
    refine K.nil ?_
    refine At.next ?_
    refine G.cond rfl (fun h1 => ?_) (fun h1 => ?_)
    ·
      refine G.seq ?_
      refine G.rg ?_
      refine K.alloc Y 107 [_, _, _, _, _, _, _, _, _, _] (gd0 rfl) t124 rfl rfl rfl rfl rfl ?_
      refine K.nil ?_
      refine At.next ?_
      refine G.seq ?_
      refine G.rg ?_
      refine K.loadS Y [_, _, _, _, _, _, _, _, _, _] (gd0 rfl) rfl rfl t124 rfl rfl rfl ?_
      refine K.store Y [_, _, _, _, _, _, _, _, _, _] (gd0 rfl) rfl rfl rfl t124 rfl rfl rfl rfl rfl ?_
      refine K.move (.inr rfl) (gd0 rfl) rfl rfl ?_
      refine K.nil ?_
      refine At.next ?_
      refine G.ret ?_
      refine At.over_ret ?_
      refine At.ent [(0, _), (21, _), (22, _)] [(0, poolS 0 ⟨_, _, _, _, _⟩)] [] (pool_close _ _ _ _ _) ⟨rfl, rfl, rfl, trivial⟩ rfl rfl rfl rfl ?_
      refine At.done Y [(.cell 4 124, .agg [_, _, _, _, _, _, _, _, _, _]), (.tmp 5, .c _)] rfl ⟨.st rfl rfl t124 rfl rfl, .tmp rfl, trivial⟩ (to' := [(0, _)]) ⟨rfl, trivial⟩ ?_ ?_ rfl rfl rfl (.inl rfl)
      · simp only [Pool.drop, hlk]
      · simp only [Pool.drop, hlk]; rfl
    · cases h1
  | some c =>
    obtain ⟨n, rfl, hg, hl, rfl⟩ := lookC_some hlk
    refine spec_of [(0, _), (1, _)] [(0, _)] 50 Try.func98 rfl Try.ntmps98 rfl rfl rfl rfl (fun β W F => ?_)
    refine G.ent [(0, _)] [(0, _), (21, _), (22, _)] [21, 22] (pool_open (by decide) (by decide) (by decide)) ⟨rfl, trivial⟩ rfl rfl rfl rfl ?_
    refine G.seq ?_
    refine G.rg ?_
    refine K.box Y 103 [_, _] (gd0 rfl) rfl rfl rfl rfl rfl rfl ?_
    refine K.alloc Y 104 [_, _, _, _, _, _, _, _, _, _] (gd0 rfl) t124 rfl rfl rfl rfl rfl ?_
    refine K.move (.inr rfl) (gd0 rfl) rfl rfl ?_
    refine K.nil ?_
    refine At.next ?_
    refine G.seq ?_
    refine G.rg ?_
    refine K.move (.inl rfl) (gd0 rfl) rfl rfl ?_
    refine K.loadS Y [_, _] (gd0 rfl) rfl rfl t99 rfl rfl rfl ?_
    refine K.call0 [(.func 107, _), ((.tmp 9), _), ((.tmp 10), _)] (findSS' hg hl hlen _ _ _ 0 21 22) (toFn_func (cf 107 rfl) rfl) (gd0 rfl) ⟨rfl, rfl, rfl, trivial⟩ ⟨rfl, rfl, trivial⟩ rfl rfl rfl rfl rfl rfl ?_
    refine K.move (.inr rfl) (gd0 rfl) rfl rfl ?_
    refine K.nil ?_
    refine At.next ?_
    refine G.seq ?_
    refine G.seq ?_
    refine G.rg ?_
    refine K.move (.inl rfl) (gd0 rfl) rfl rfl ?_
    refine K.eqnilL (lrowV 21 161 fCS 12 _) n 0 (B := false) (lrowV_is fCS_len (by decide)) hg (gd0 rfl) rfl rfl rfl rfl (pn_eql_some Try.underlying159) rfl ?_
    refine K.nil ?_
    refine At.next ?_
    refine G.cond rfl (fun h1 => ?_) (fun h1 => ?_)
    · cases h1
    ·
      refine G.skip ?_
      refine At.next ?_
      refine G.seq ?_
      refine G.rg ?_
      refine K.move (.inl rfl) (gd0 rfl) rfl rfl ?_
      refine K.nilL (lrowV 21 161 fCS 12 _) n 0 (lrowV_is fCS_len (by decide)) hg (gd0 rfl) rfl rfl rfl rfl ?_
      refine K.fieldL Y (lrowV 21 161 fCS 12 _) n 0 0 (lrowV_is fCS_len (by decide)) hg (gd0 rfl) rfl rfl t161 rfl rfl rfl rfl ?_
      refine K.loadSL Y (lrowV 21 161 fCS 12 _) n 0 [_, _, _, _, _, _, _, _, _, _] [_, _, _, _, _, _, _, _, _, _] (lrowV_is fCS_len (by decide)) hg (gd0 rfl) rfl rfl t124 rfl rfl rfl rfl rfl ?_
      refine K.alloc Y 108 [_, _, _, _, _, _, _, _, _, _] (gd0 rfl) t124 rfl rfl rfl rfl rfl ?_
      refine K.store Y [_, _, _, _, _, _, _, _, _, _] (gd0 rfl) rfl rfl rfl t124 rfl rfl rfl rfl rfl ?_
      refine K.nil ?_
      refine At.next ?_
      refine G.seq ?_
      refine G.rg ?_
      refine K.move (.inl rfl) (gd0 rfl) rfl rfl ?_
      refine K.move (.inl rfl) (gd0 rfl) rfl rfl ?_
      refine K.nilL (lrowV 21 161 fCS 12 _) n 0 (lrowV_is fCS_len (by decide)) hg (gd0 rfl) rfl rfl rfl rfl ?_
      refine K.fieldL Y (lrowV 21 161 fCS 12 _) n 0 10 (lrowV_is fCS_len (by decide)) hg (gd0 rfl) rfl rfl t161 rfl rfl rfl rfl ?_
      refine K.load1L Y (lrowV 21 161 fCS 12 _) n 10 (lrowV_is fCS_len (by decide)) hg (gd0 rfl) rfl rfl t3 rfl rfl ?_
      refine K.build Y [(1, _)] [_, _, _, _, _, _, _, _, _, _, _, _] [((.tmp 23), _)] (gd0 rfl) (AllE.spec ⟨rfl, trivial⟩) rfl rfl t161 rfl rfl ?_
      refine K.nilL (lrowV 21 161 fCS 12 _) n 0 (lrowV_is fCS_len (by decide)) hg (gd0 rfl) rfl rfl rfl rfl ?_
      refine K.storeL Y n 0 [_, _, _, _, _, _, _, _, _, _, _, _] ⟨zNodeS, c.gen, false⟩ fCS_len (by decide) hg (gd0 rfl) rfl rfl rfl t161 rfl rfl rfl rfl rfl rfl ?_
      refine K.nil ?_
      refine At.next ?_
      refine G.seq ?_
      refine G.rg ?_
      refine K.move (.inl rfl) (gd0 rfl) rfl rfl ?_
      refine K.nilCheck (gd0 rfl) rfl rfl ?_
      refine K.fieldAddr Y (gd0 rfl) rfl t158 rfl rfl ?_
      refine K.load1 Y (gd0 rfl) rfl rfl t3 rfl rfl ?_
      refine K.bin (gd0 rfl) rfl rfl (fun _ => rfl) rfl ?_
      refine K.nilCheck (gd0 rfl) rfl rfl ?_
      refine K.fieldAddr Y (gd0 rfl) rfl t158 rfl rfl ?_
      refine K.store Y [_, _, _, _, _] (gd0 rfl) rfl rfl rfl t3 rfl rfl rfl rfl rfl ?_
      refine K.nil ?_
      refine At.next ?_
      refine G.seq ?_
      refine G.seq ?_
      refine G.rg ?_
      refine K.move (.inl rfl) (gd0 rfl) rfl rfl ?_
      refine K.nilL (lrowV 21 161 fCS 12 _) n 0 (lrowV_is fCS_len (by decide)) (set_get hg) (gd0 rfl) rfl rfl rfl rfl ?_
      refine K.fieldL Y (lrowV 21 161 fCS 12 _) n 0 10 (lrowV_is fCS_len (by decide)) (set_get hg) (gd0 rfl) rfl rfl t161 rfl rfl rfl rfl ?_
      refine K.load1L Y (lrowV 21 161 fCS 12 _) n 10 (lrowV_is fCS_len (by decide)) (set_get hg) (gd0 rfl) rfl rfl t3 rfl rfl ?_
      refine K.bin (gd0 rfl) rfl rfl (fun _ => rfl) rfl ?_
      refine K.nil ?_
      refine At.next ?_
      refine G.cond rfl (fun h2 => ?_) (fun h2 => ?_)
      ·
        refine G.rd mixed ?_
        refine K.move (.inl rfl) (gd0 rfl) rfl rfl ?_
        refine K.move (.inl rfl) (gd0 rfl) rfl rfl ?_
        refine K.nilCheck (gd0 rfl) rfl rfl ?_
        refine K.fieldAddr Y (gd0 rfl) rfl t158 rfl rfl ?_
        refine K.load1 Y (gd0 rfl) rfl rfl t29 rfl rfl ?_
        refine K.fieldAddr Y (gd0 rfl) rfl t99 rfl rfl ?_
        refine K.load1 Y (gd0 rfl) rfl rfl t3 rfl rfl ?_
        refine K.buildL Y 145 [(n : Int)] [(0, _)] [((.tmp 44), _)] intE_len (gd0 rfl) (AllE.spec ⟨rfl, trivial⟩) rfl rfl Try.underlying29 t3 rfl rfl rfl rfl rfl rfl rfl rfl ?_
        refine K.appendL 146 (lrowV 145 3 intE 1 _) _ el29 (lrowV_is intE_len (by decide)) intE_one (gd0 rfl) rfl rfl rfl rfl rfl (by simp only [List.length_cons, List.length_nil, maxLen]; omega) (by simp only [List.length_cons, List.length_nil, maxLen]; omega) rfl rfl rfl rfl rfl rfl ?_
        refine K.nilCheck (gd0 rfl) rfl rfl ?_
        refine K.fieldAddr Y (gd0 rfl) rfl t158 rfl rfl ?_
        refine K.store Y [_, _, _, _, _] (gd0 rfl) rfl rfl rfl t29 rfl rfl rfl rfl rfl ?_
        refine K.nil ?_
        refine ⟨by kernel_rfl, ?_⟩
        refine At.next ?_
        refine G.seq ?_
        refine G.rg ?_
        refine K.loadS Y [_, _, _, _, _, _, _, _, _, _] (gd0 rfl) rfl rfl t124 rfl rfl rfl ?_
        refine K.store Y [_, _, _, _, _, _, _, _, _, _] (gd0 rfl) rfl rfl rfl t124 rfl rfl rfl rfl rfl ?_
        refine K.move (.inr rfl) (gd0 rfl) rfl rfl ?_
        refine K.nil ?_
        refine At.next ?_
        refine G.ret ?_
        refine At.ent [(0, _), (21, _), (146, _)] [(0, poolS 0 ⟨_, _, _, _, _⟩)] [] (pool_close _ _ _ _ _) ⟨rfl, rfl, rfl, trivial⟩ rfl rfl rfl rfl ?_
        refine At.done Y [(.cell 4 124, .agg [_, _, _, _, _, _, _, _, _, _]), (.tmp 5, .c _)] rfl ⟨.st rfl rfl t124 rfl rfl, .tmp rfl, trivial⟩ (to' := [(0, _)]) ⟨rfl, trivial⟩ ?_ ?_ rfl rfl rfl (.inl rfl)
        · simp [Pool.drop, hlk, Pool.hit, h2]
        · simp only [Pool.drop, hlk]; rfl
      ·
        refine G.skip ?_
        refine At.next ?_
        refine G.seq ?_
        refine G.rg ?_
        refine K.loadS Y [_, _, _, _, _, _, _, _, _, _] (gd0 rfl) rfl rfl t124 rfl rfl rfl ?_
        refine K.store Y [_, _, _, _, _, _, _, _, _, _] (gd0 rfl) rfl rfl rfl t124 rfl rfl rfl rfl rfl ?_
        refine K.move (.inr rfl) (gd0 rfl) rfl rfl ?_
        refine K.nil ?_
        refine At.next ?_
        refine G.ret ?_
        refine At.ent [(0, _), (21, _), (22, _)] [(0, poolS 0 ⟨_, _, _, _, _⟩)] [] (pool_close _ _ _ _ _) ⟨rfl, rfl, rfl, trivial⟩ rfl rfl rfl rfl ?_
        refine At.done Y [(.cell 4 124, .agg [_, _, _, _, _, _, _, _, _, _]), (.tmp 5, .c _)] rfl ⟨.st rfl rfl t124 rfl rfl, .tmp rfl, trivial⟩ (to' := [(0, _)]) ⟨rfl, trivial⟩ ?_ ?_ rfl rfl rfl (.inl rfl)
        · simp [Pool.drop, hlk, Pool.hit, h2]
        · simp only [Pool.drop, hlk]; rfl
theorem putFS (p : Pool (TNode TSlot TSize)) (v : (TNode TSlot TSize)) (hh : p.held = p.cap) : SCon Try.prog 91 [SV.p 0 0, .a (avS v)] [(0, poolS 0 p)] (.tup [.agg [.i 0, .i 0], .c (.b false)]) [(0, poolS 0 p)] [] := by
  obtain ⟨cells, free, cap, held, vis⟩ := p
  simp only at hh
  refine spec_of [(0, _), (1, _)] [(0, _)] 53 Try.func91 rfl Try.ntmps91 rfl rfl rfl rfl (fun β W F => ?_)
  refine G.ent [(0, _)] [(0, _), (21, _), (22, _)] [21, 22] (pool_open (by decide) (by decide) (by decide)) ⟨rfl, trivial⟩ rfl rfl rfl rfl ?_
  refine G.seq ?_
  refine G.rg ?_
  refine K.box Y 103 [_, _, _, _, _, _, _, _, _, _] (gd0 rfl) rfl rfl rfl rfl rfl rfl ?_
  refine K.alloc Y 104 [_, _] (gd0 rfl) t99 rfl rfl rfl rfl rfl ?_
  refine K.move (.inr rfl) (gd0 rfl) rfl rfl ?_
  refine K.nil ?_
  refine At.next ?_
  refine G.seq ?_
  refine G.seq ?_
  refine G.rd mixed ?_
  refine K.move (.inl rfl) (gd0 rfl) rfl rfl ?_
  refine K.nilCheck (gd0 rfl) rfl rfl ?_
  refine K.fieldAddr Y (gd0 rfl) rfl t158 rfl rfl ?_
  refine K.load1 Y (gd0 rfl) rfl rfl t3 rfl rfl ?_
  refine K.move (.inl rfl) (gd0 rfl) rfl rfl ?_
  refine K.nilCheck (gd0 rfl) rfl rfl ?_
  refine K.fieldAddr Y (gd0 rfl) rfl t158 rfl rfl ?_
  refine K.load1 Y (gd0 rfl) rfl rfl t3 rfl rfl ?_
  refine K.bin (gd0 rfl) rfl rfl (fun _ => rfl) rfl ?_
  refine K.nil ?_
  refine ⟨by kernel_rfl, ?_⟩
  refine At.next ?_
  refine G.cond rfl (fun h1 => ?_) (fun h1 => ?_)
  ·
    refine G.seq ?_
    refine G.rg ?_
    refine K.build Y [] [_, _] [] (gd0 rfl) (AllE.spec trivial) rfl rfl t99 rfl rfl ?_
    refine K.store Y [_, _] (gd0 rfl) rfl rfl rfl t99 rfl rfl rfl rfl rfl ?_
    refine K.move (.inr rfl) (gd0 rfl) rfl rfl ?_
    refine K.nil ?_
    refine At.next ?_
    refine G.ret ?_
    refine At.over_ret ?_
    refine At.ent [(0, _), (21, _), (22, _)] [(0, poolS 0 ⟨_, _, _, _, _⟩)] [] (pool_close _ _ _ _ _) ⟨rfl, rfl, rfl, trivial⟩ rfl rfl rfl rfl ?_
    refine At.done Y [(.cell 4 99, .agg [_, _]), (.tmp 5, .c _)] rfl ⟨.st rfl rfl t99 rfl rfl, .tmp rfl, trivial⟩ (to' := [(0, _)]) ⟨rfl, trivial⟩ ?_ ?_ rfl rfl rfl (.inl rfl)
    · rfl
    · rfl
  · exact absurd h1 (by simp [hh])
theorem putTS (p : Pool (TNode TSlot TSize)) (v : (TNode TSlot TSize)) (hh : p.held ≠ p.cap) (hlen : p.cells.length < 4294967296) (hfree : p.free.length < 4294967296) {n : Nat} {c : Cell (TNode TSlot TSize)} (hn : (p.next zNodeS).1 = n) (hg : (p.next zNodeS).2.cells[n]? = some c) : SCon Try.prog 91 [SV.p 0 0, .a (avS v)] [(0, poolS 0 p)]
    (.tup [.agg [.i n, .i (IntKind.i64.wrap (c.gen + 1))], .c (.b true)]) [(0, poolS 0 ((p.next zNodeS).2.lay n c v))] [] := by
  obtain ⟨cells, free, cap, held, vis⟩ := p
  simp only at hh hlen hfree
  refine spec_of [(0, _), (1, _)] [(0, _)] 53 Try.func91 rfl Try.ntmps91 rfl rfl rfl rfl (fun β W F => ?_)
  refine G.ent [(0, _)] [(0, _), (21, _), (22, _)] [21, 22] (pool_open (by decide) (by decide) (by decide)) ⟨rfl, trivial⟩ rfl rfl rfl rfl ?_
  refine G.seq ?_
  refine G.rg ?_
  refine K.box Y 103 [_, _, _, _, _, _, _, _, _, _] (gd0 rfl) rfl rfl rfl rfl rfl rfl ?_
  refine K.alloc Y 104 [_, _] (gd0 rfl) t99 rfl rfl rfl rfl rfl ?_
  refine K.move (.inr rfl) (gd0 rfl) rfl rfl ?_
  refine K.nil ?_
  refine At.next ?_
  refine G.seq ?_
  refine G.seq ?_
  refine G.rd mixed ?_
  refine K.move (.inl rfl) (gd0 rfl) rfl rfl ?_
  refine K.nilCheck (gd0 rfl) rfl rfl ?_
  refine K.fieldAddr Y (gd0 rfl) rfl t158 rfl rfl ?_
  refine K.load1 Y (gd0 rfl) rfl rfl t3 rfl rfl ?_
  refine K.move (.inl rfl) (gd0 rfl) rfl rfl ?_
  refine K.nilCheck (gd0 rfl) rfl rfl ?_
  refine K.fieldAddr Y (gd0 rfl) rfl t158 rfl rfl ?_
  refine K.load1 Y (gd0 rfl) rfl rfl t3 rfl rfl ?_
  refine K.bin (gd0 rfl) rfl rfl (fun _ => rfl) rfl ?_
  refine K.nil ?_
  refine ⟨by kernel_rfl, ?_⟩
  refine At.next ?_
  refine G.cond rfl (fun h1 => ?_) (fun h1 => ?_)
  · exact absurd h1 (by simp [hh])
  ·
    refine G.skip ?_
    refine At.next ?_
    refine G.seq ?_
    refine G.ent [(0, _), (21, _), (22, _)] [(0, poolS 0 ⟨_, _, _, _, _⟩)] [] (pool_close _ _ _ _ _) ⟨rfl, rfl, rfl, trivial⟩ rfl rfl rfl rfl ?_
    refine G.rg ?_
    refine K.move (.inl rfl) (gd0 rfl) rfl rfl ?_
    refine K.call0 [(.func 105, _), ((.tmp 18), _)] (nextS _ hlen hfree) (toFn_func (cf 105 rfl) rfl) (gd0 rfl) ⟨rfl, rfl, trivial⟩ ⟨rfl, trivial⟩ rfl rfl rfl rfl rfl rfl ?_
    refine K.move (.inr rfl) (gd0 rfl) rfl rfl ?_
    refine K.nil ?_
    refine At.next ?_
    refine G.seq ?_
    refine G.ent [(0, _)] [(0, _), (23, _), (24, _)] [23, 24] (pool_open (by decide) (by decide) (by decide)) ⟨rfl, trivial⟩ rfl rfl rfl rfl ?_
    refine G.rg ?_
    refine K.move (.inl rfl) (gd0 rfl) rfl rfl ?_
    refine K.nilCheck (gd0 rfl) rfl rfl ?_
    refine K.fieldAddr Y (gd0 rfl) rfl t158 rfl rfl ?_
    refine K.load1 Y (gd0 rfl) rfl rfl t156 rfl rfl ?_
    refine K.move (.inl rfl) (gd0 rfl) rfl rfl ?_
    refine K.idxL (lrowV 23 161 fCS 12 _) n (lrowV_is fCS_len (by decide)) hg hn (gd0 rfl) rfl rfl rfl Try.underlying156 el156.size_run rfl ?_
    refine K.move (.inr rfl) (gd0 rfl) rfl rfl ?_
    refine K.nil ?_
    refine At.next ?_
    refine G.seq ?_
    refine G.rg ?_
    refine K.move (.inl rfl) (gd0 rfl) rfl rfl ?_
    refine K.move (.inl rfl) (gd0 rfl) rfl rfl ?_
    refine K.loadS Y [_, _, _, _, _, _, _, _, _, _] (gd0 rfl) rfl rfl t124 rfl rfl rfl ?_
    refine K.nilL (lrowV 23 161 fCS 12 _) n 0 (lrowV_is fCS_len (by decide)) hg (gd0 rfl) rfl rfl rfl rfl ?_
    refine K.fieldL Y (lrowV 23 161 fCS 12 _) n 0 0 (lrowV_is fCS_len (by decide)) hg (gd0 rfl) rfl rfl t161 rfl rfl rfl rfl ?_
    refine K.storeL Y n 0 [_, _, _, _, _, _, _, _, _, _] { c with v := v } fCS_len (by decide) hg (gd0 rfl) rfl rfl rfl t124 rfl rfl rfl rfl rfl rfl ?_
    refine K.nilL (lrowV 23 161 fCS 12 _) n 0 (lrowV_is fCS_len (by decide)) (set_get hg) (gd0 rfl) rfl rfl rfl rfl ?_
    refine K.fieldL Y (lrowV 23 161 fCS 12 _) n 0 11 (lrowV_is fCS_len (by decide)) (set_get hg) (gd0 rfl) rfl rfl t161 rfl rfl rfl rfl ?_
    refine K.storeL Y n 11 [_] ⟨v, c.gen, true⟩ fCS_len (by decide) (set_get hg) (gd0 rfl) rfl rfl rfl t4 rfl rfl rfl rfl rfl rfl ?_
    refine K.nil ?_
    refine At.next ?_
    refine G.seq ?_
    refine G.rg ?_
    refine K.move (.inl rfl) (gd0 rfl) rfl rfl ?_
    refine K.nilL (lrowV 23 161 fCS 12 _) n 0 (lrowV_is fCS_len (by decide)) (set_get (set_get hg)) (gd0 rfl) rfl rfl rfl rfl ?_
    refine K.fieldL Y (lrowV 23 161 fCS 12 _) n 0 10 (lrowV_is fCS_len (by decide)) (set_get (set_get hg)) (gd0 rfl) rfl rfl t161 rfl rfl rfl rfl ?_
    refine K.load1L Y (lrowV 23 161 fCS 12 _) n 10 (lrowV_is fCS_len (by decide)) (set_get (set_get hg)) (gd0 rfl) rfl rfl t3 rfl rfl ?_
    refine K.bin (gd0 rfl) rfl rfl (fun _ => rfl) rfl ?_
    refine K.nilL (lrowV 23 161 fCS 12 _) n 0 (lrowV_is fCS_len (by decide)) (set_get (set_get hg)) (gd0 rfl) rfl rfl rfl rfl ?_
    refine K.fieldL Y (lrowV 23 161 fCS 12 _) n 0 10 (lrowV_is fCS_len (by decide)) (set_get (set_get hg)) (gd0 rfl) rfl rfl t161 rfl rfl rfl rfl ?_
    refine K.storeL Y n 10 [_] ⟨v, IntKind.i64.wrap (c.gen + 1), true⟩ fCS_len (by decide) (set_get (set_get hg)) (gd0 rfl) rfl rfl rfl t3 rfl rfl rfl rfl rfl rfl ?_
    refine K.nil ?_
    refine At.next ?_
    refine G.seq ?_
    refine G.rg ?_
    refine K.move (.inl rfl) (gd0 rfl) rfl rfl ?_
    refine K.nilCheck (gd0 rfl) rfl rfl ?_
    refine K.fieldAddr Y (gd0 rfl) rfl t158 rfl rfl ?_
    refine K.load1 Y (gd0 rfl) rfl rfl t3 rfl rfl ?_
    refine K.bin (gd0 rfl) rfl rfl (fun _ => rfl) rfl ?_
    refine K.nilCheck (gd0 rfl) rfl rfl ?_
    refine K.fieldAddr Y (gd0 rfl) rfl t158 rfl rfl ?_
    refine K.store Y [_, _, _, _, _] (gd0 rfl) rfl rfl rfl t3 rfl rfl rfl rfl rfl ?_
    refine K.nil ?_
    refine At.next ?_
    refine G.seq ?_
    refine G.rg ?_
    refine K.move (.inl rfl) (gd0 rfl) rfl rfl ?_
    refine K.move (.inl rfl) (gd0 rfl) rfl rfl ?_
    refine K.nilL (lrowV 23 161 fCS 12 _) n 0 (lrowV_is fCS_len (by decide)) (set_get (set_get (set_get hg))) (gd0 rfl) rfl rfl rfl rfl ?_
    refine K.fieldL Y (lrowV 23 161 fCS 12 _) n 0 10 (lrowV_is fCS_len (by decide)) (set_get (set_get (set_get hg))) (gd0 rfl) rfl rfl t161 rfl rfl rfl rfl ?_
    refine K.load1L Y (lrowV 23 161 fCS 12 _) n 10 (lrowV_is fCS_len (by decide)) (set_get (set_get (set_get hg))) (gd0 rfl) rfl rfl t3 rfl rfl ?_
    refine K.build Y [(0, _), (1, _)] [_, _] [((.tmp 47), _), ((.tmp 51), _)] (gd0 rfl) (AllE.spec ⟨rfl, rfl, trivial⟩) rfl rfl t99 rfl rfl ?_
    refine K.store Y [_, _] (gd0 rfl) rfl rfl rfl t99 rfl rfl rfl rfl rfl ?_
    refine K.move (.inr rfl) (gd0 rfl) rfl rfl ?_
    refine K.nil ?_
    refine At.next ?_
    refine G.ret ?_
    refine At.ent [(0, _), (23, _), (24, _)] [(0, poolS 0 ⟨_, _, _, _, _⟩)] [] (pool_close _ _ _ _ _) ⟨rfl, rfl, rfl, trivial⟩ rfl rfl rfl rfl ?_
    refine At.done Y [(.cell 4 99, .agg [_, _]), (.tmp 5, .c _)] rfl ⟨.st rfl rfl t99 rfl rfl, .tmp rfl, trivial⟩ (to' := [(0, _)]) ⟨rfl, trivial⟩ ?_ ?_ rfl rfl rfl (.inl rfl)
    · simp [Pool.lay]
    · rw [hn]; rfl
theorem newS_ (c : Int) : SCon Try.prog 90 [SV.i c] [] (SV.p 107 0) [(107, poolS 107 ⟨[], [], capOf c, 0, 0⟩)] [107] := by
  refine spec_of [(0, _)] [] 8 Try.func90 rfl Try.ntmps90 rfl rfl rfl rfl (fun β W F => ?_)
  refine G.seq ?_
  refine G.rg ?_
  refine K.move (.inr rfl) (gd0 rfl) rfl rfl ?_
  refine K.nil ?_
  refine At.next ?_
  refine G.seq ?_
  refine G.rg ?_
  refine K.move (.inl rfl) (gd0 rfl) rfl rfl ?_
  refine K.bi2 (gd0 rfl) rfl rfl (fun _ _ => rfl) rfl ?_
  refine K.bi2 (gd0 rfl) rfl rfl (fun _ _ => rfl) rfl ?_
  refine K.build Y [(2, _)] [_, _, _, _, _] [((.tmp 5), _)] (gd0 rfl) (AllE.spec ⟨rfl, trivial⟩) rfl rfl t158 rfl rfl ?_
  refine K.box Y 107 [_, _, _, _, _] (gd0 rfl) rfl rfl rfl rfl rfl rfl ?_
  refine K.move (.inr rfl) (gd0 rfl) rfl rfl ?_
  refine K.nil ?_
  refine At.next ?_
  refine G.ret ?_
  refine At.ent [(107, _)] [(107, poolS 107 ⟨_, _, _, _, _⟩)] [] (pool_nil _ _ _) ⟨rfl, trivial⟩ rfl rfl rfl rfl ?_
  refine At.done Y [(.tmp 2, .c _)] rfl ⟨.tmp rfl, trivial⟩ (to' := [(107, _)]) ⟨rfl, trivial⟩ ?_ ?_ rfl rfl rfl (.inl rfl)
  · rfl
  · rfl
theorem newS (c : Int) (k : Nat) : SCon Try.prog 90 [SV.i c] [] (SV.p k 0) [(k, poolS k ⟨[], [], capOf c, 0, 0⟩)] [k] :=
  SCon.ren (rn [(107, k)]) (newS_ c) trivial ⟨pool_ren rfl, trivial⟩ (by simp) (by intro j hj hn; simp [SV.ks, Av.ks, Cl.ks, pool] at hj hn; exact absurd hj hn)
theorem putS_ {N : Nat} (p : Pool (TNode TSlot TSize)) (v : (TNode TSlot TSize)) (h : PoolOk N p) (hN : N < 4294967296) : SCon Try.prog 91 [SV.p 0 0, .a (avS v)] [(0, poolS 0 p)] (.tup [.agg [.i (p.put zNodeS v).1.1.1, .i (p.put zNodeS v).1.1.2], .c (.b (p.put zNodeS v).1.2)]) [(0, poolS 0 (p.put zNodeS v).2)] [] := by
  by_cases hh : p.held = p.cap
  · have e : p.put zNodeS v = (((0, 0), false), p) := by unfold Pool.put; rw [if_pos hh]
    rw [e]; exact putFS p v hh
  · obtain ⟨h1, h2, c, hc⟩ := h.next (z := zNodeS)
    have e : p.put zNodeS v = ((((p.next zNodeS).1, IntKind.i64.wrap (c.gen + 1)), true), (p.next zNodeS).2.lay (p.next zNodeS).1.toNat c v) := by unfold Pool.put; rw [if_neg hh, hc]
    have h3 : (p.next zNodeS).1 = ((p.next zNodeS).1.toNat : Int) := by omega
    have := putTS p v hh (Nat.lt_of_le_of_lt h.cells hN) (Nat.lt_of_le_of_lt h.free hN) h3 hc
    rw [← h3] at this
    rw [e]; exact this

theorem putS {N : Nat} (p : Pool (TNode TSlot TSize)) (v : (TNode TSlot TSize)) (h : PoolOk N p) (hN : N < 4294967296) (k : Nat) : SCon Try.prog 91 [SV.p k 0, .a (avS v)] [(k, poolS k p)] (.tup [.agg [.i (p.put zNodeS v).1.1.1, .i (p.put zNodeS v).1.1.2], .c (.b (p.put zNodeS v).1.2)]) [(k, poolS k (p.put zNodeS v).2)] [] :=
  SCon.ren (rn [(0, k)]) (putS_ p v h hN) ⟨pool_ren rfl, trivial⟩ ⟨pool_ren rfl, trivial⟩ (by simp) (by simp)

theorem getS' {N : Nat} (p : Pool (TNode TSlot TSize)) (i g : Int) (h : PoolOk N p) (hN : N < 4294967296) (k : Nat) : SCon Try.prog 95 [SV.p k 0, SV.agg [.i i, .i g]] [(k, poolS k p)] (.tup [avS (p.get zNodeS i g).1.1, .c (.b (p.get zNodeS i g).1.2)]) [(k, poolS k (p.get zNodeS i g).2)] [] :=
  SCon.ren (rn [(0, k)]) (getS p i g (Nat.lt_of_le_of_lt h.cells hN) (Nat.lt_of_le_of_lt h.free hN)) ⟨pool_ren rfl, trivial⟩ ⟨pool_ren rfl, trivial⟩ (by simp) (by simp)

theorem setS' {N : Nat} (p : Pool (TNode TSlot TSize)) (i g : Int) (v : (TNode TSlot TSize)) (h : PoolOk N p) (hN : N < 4294967296) (k : Nat) : SCon Try.prog 93 [SV.p k 0, SV.agg [.i i, .i g], .a (avS v)] [(k, poolS k p)] (SV.b (p.set i g v).1) [(k, poolS k (p.set i g v).2)] [] :=
  SCon.ren (rn [(0, k)]) (setS p i g v (Nat.lt_of_le_of_lt h.cells hN) (Nat.lt_of_le_of_lt h.free hN)) ⟨pool_ren rfl, trivial⟩ ⟨pool_ren rfl, trivial⟩ (by simp) (by simp)

theorem dropS' {N : Nat} (p : Pool (TNode TSlot TSize)) (i g : Int) (h : PoolOk N p) (hN : N < 4294967296) (k : Nat) : SCon Try.prog 98 [SV.p k 0, SV.agg [.i i, .i g]] [(k, poolS k p)] (.tup [avS (p.drop zNodeS i g).1.1, .c (.b (p.drop zNodeS i g).1.2)]) [(k, poolS k (p.drop zNodeS i g).2)] [] :=
  SCon.ren (rn [(0, k)]) (dropS p i g (Nat.lt_of_le_of_lt h.cells hN) (Nat.lt_of_le_of_lt h.free hN)) ⟨pool_ren rfl, trivial⟩ ⟨pool_ren rfl, trivial⟩ (by simp) (by simp)

end Go.Proofs.Ytjokolmijhhinaa

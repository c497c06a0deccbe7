/- Contracts of a pool's functions. Printed by a program of mine. -/
import Derived.KernelRfl
import Derived.Test.YthcehagablploaaMd
namespace Go.Proofs.Ythcehagablploaa
open Go Go.Proofs.Ythcehagablploaa.Sx
set_option linter.unusedVariables false
set_option linter.unusedSimpArgs false
abbrev fCM : Cell (TNode TMark TSwell) → List Value := cellE eTNode_TMark_TSwell
theorem fCM_len : ∀ c, (fCM c).length = 31 := cellE_len eTNode_TMark_TSwell_len
theorem fCM_one : ∀ c, (fCM c).all Value.oneCell' = true := cellE_one eTNode_TMark_TSwell_one
abbrev avM (x : (TNode TMark TSwell)) : Av := .agg ((eTNode_TMark_TSwell x).map .v)
abbrev poolM (k : Nat) (p : Pool (TNode TMark TSwell)) : Tok := pool k 93 104 3 31 fCM p

theorem nextM (p : Pool (TNode TMark TSwell)) (hc : p.cells.length < 4294967296) (hf : p.free.length < 4294967296) : SCon Try.prog 75 [SV.p 0 0] [(0, poolM 0 p)] (SV.i (p.next zNodeM).1) [(0, poolM 0 (p.next zNodeM).2)] [] := by
  obtain ⟨cells, free, cap, held, vis⟩ := p
  simp only at hc hf
  rcases List.eq_nil_or_concat free with h0 | ⟨l, x, h0⟩
  · subst h0
    refine spec_of [(0, _)] [(0, _)] 46 Try.func75 rfl Try.ntmps75 rfl rfl rfl rfl (fun β W F => ?_)
    refine G.ent [(0, _)] [(0, _), (21, _), (22, _)] [21, 22] (pool_open (by decide) (by decide) (by decide)) ⟨rfl, trivial⟩ rfl rfl rfl rfl ?_
    refine G.seq ?_
    refine G.rg ?_
    refine K.move (.inr rfl) (gd0 rfl) rfl rfl ?_
    refine K.nil ?_
    refine At.next ?_
    refine G.seq ?_
    refine G.seq ?_
    refine G.rg ?_
    refine K.move (.inl rfl) (gd0 rfl) rfl rfl ?_
    refine K.nilCheck (gd0 rfl) rfl rfl ?_
    refine K.fieldAddr Y (gd0 rfl) rfl t93 rfl rfl ?_
    refine K.load1 Y (gd0 rfl) rfl rfl t60 rfl rfl ?_
    refine K.lenL (lrowV 22 3 intE 1 _) (lrowV_is intE_len (by decide)) (gd0 rfl) rfl rfl Try.underlying60 rfl ?_
    refine K.bin (gd0 rfl) rfl rfl (fun _ => rfl) rfl ?_
    refine K.move (.inr rfl) (gd0 rfl) rfl rfl ?_
    refine K.nil ?_
    refine At.next ?_
    refine G.seq ?_
    refine G.rg ?_
    refine K.move (.inl rfl) (gd0 rfl) rfl rfl ?_
    refine K.bin (gd0 rfl) rfl rfl (fun _ => rfl) rfl ?_
    refine K.nil ?_
    refine At.next ?_
    refine G.cond rfl (fun h1 => ?_) (fun h1 => ?_)
    · exact absurd h1 (by simp [IntKind.wrap_i64] at * <;> omega)
    ·
      refine G.skip ?_
      refine At.next ?_
      refine G.seq ?_
      refine G.rg ?_
      refine K.move (.inl rfl) (gd0 rfl) rfl rfl ?_
      refine K.move (.inl rfl) (gd0 rfl) rfl rfl ?_
      refine K.nilCheck (gd0 rfl) rfl rfl ?_
      refine K.fieldAddr Y (gd0 rfl) rfl t93 rfl rfl ?_
      refine K.load1 Y (gd0 rfl) rfl rfl t91 rfl rfl ?_
      refine K.build Y [] [_, _, _, _, _, _, _, _, _, _, _, _, _, _, _, _, _, _, _, _, _, _, _, _, _, _, _, _, _, _, _] [] (gd0 rfl) (AllE.spec trivial) rfl rfl t104 rfl rfl ?_
      refine K.buildL Y 136 [(⟨zNodeM, 0, false⟩ : Cell (TNode TMark TSwell))] [(0, _)] [((.tmp 35), _)] fCM_len (gd0 rfl) (AllE.spec ⟨rfl, trivial⟩) rfl rfl Try.underlying91 t104 rfl rfl rfl rfl rfl rfl rfl rfl ?_
      refine K.appendL 137 (lrowV 136 104 fCM 31 _) _ el91 (lrowV_is fCM_len (by decide)) fCM_one (gd0 rfl) rfl rfl rfl rfl rfl (by simp only [List.length_cons, List.length_nil, maxLen]; omega) (by simp only [List.length_cons, List.length_nil, maxLen]; omega) rfl rfl rfl rfl rfl rfl ?_
      refine K.nilCheck (gd0 rfl) rfl rfl ?_
      refine K.fieldAddr Y (gd0 rfl) rfl t93 rfl rfl ?_
      refine K.store Y [_, _, _, _, _] (gd0 rfl) rfl rfl rfl t91 rfl rfl rfl rfl rfl ?_
      refine K.nil ?_
      refine At.next ?_
      refine G.seq ?_
      refine G.rg ?_
      refine K.move (.inl rfl) (gd0 rfl) rfl rfl ?_
      refine K.nilCheck (gd0 rfl) rfl rfl ?_
      refine K.fieldAddr Y (gd0 rfl) rfl t93 rfl rfl ?_
      refine K.load1 Y (gd0 rfl) rfl rfl t91 rfl rfl ?_
      refine K.lenL (lrowV 137 104 fCM 31 _) (lrowV_is fCM_len (by decide)) (gd0 rfl) rfl rfl Try.underlying91 rfl ?_
      refine K.bin (gd0 rfl) rfl rfl (fun _ => rfl) rfl ?_
      refine K.move (.inr rfl) (gd0 rfl) rfl rfl ?_
      refine K.nil ?_
      refine At.next ?_
      refine G.ret ?_
      refine At.ent [(0, _), (137, _), (22, _)] [(0, poolM 0 ⟨_, _, _, _, _⟩)] [] (pool_close _ _ _ _ _) ⟨rfl, rfl, rfl, trivial⟩ rfl rfl rfl rfl ?_
      refine At.done Y [(.tmp 2, .c _)] rfl ⟨.tmp rfl, trivial⟩ (to' := [(0, _)]) ⟨rfl, trivial⟩ ?_ ?_ rfl rfl rfl (.inl rfl)
      · simp [Pool.next, *]
      · exact ret_i (by simp [Pool.next, IntKind.wrap_i64]; omega)
  · rw [List.concat_eq_append] at h0; subst h0
    have hget : (l ++ [x])[l.length]? = some x := by simp
    refine spec_of [(0, _)] [(0, _)] 46 Try.func75 rfl Try.ntmps75 rfl rfl rfl rfl (fun β W F => ?_)
    refine G.ent [(0, _)] [(0, _), (21, _), (22, _)] [21, 22] (pool_open (by decide) (by decide) (by decide)) ⟨rfl, trivial⟩ rfl rfl rfl rfl ?_
    refine G.seq ?_
    refine G.rg ?_
    refine K.move (.inr rfl) (gd0 rfl) rfl rfl ?_
    refine K.nil ?_
    refine At.next ?_
    refine G.seq ?_
    refine G.seq ?_
    refine G.rg ?_
    refine K.move (.inl rfl) (gd0 rfl) rfl rfl ?_
    refine K.nilCheck (gd0 rfl) rfl rfl ?_
    refine K.fieldAddr Y (gd0 rfl) rfl t93 rfl rfl ?_
    refine K.load1 Y (gd0 rfl) rfl rfl t60 rfl rfl ?_
    refine K.lenL (lrowV 22 3 intE 1 _) (lrowV_is intE_len (by decide)) (gd0 rfl) rfl rfl Try.underlying60 rfl ?_
    refine K.bin (gd0 rfl) rfl rfl (fun _ => rfl) rfl ?_
    refine K.move (.inr rfl) (gd0 rfl) rfl rfl ?_
    refine K.nil ?_
    refine At.next ?_
    refine G.seq ?_
    refine G.rg ?_
    refine K.move (.inl rfl) (gd0 rfl) rfl rfl ?_
    refine K.bin (gd0 rfl) rfl rfl (fun _ => rfl) rfl ?_
    refine K.nil ?_
    refine At.next ?_
    refine G.cond rfl (fun h1 => ?_) (fun h1 => ?_)
    ·
      refine G.seq ?_
      refine G.rg ?_
      refine K.move (.inl rfl) (gd0 rfl) rfl rfl ?_
      refine K.nilCheck (gd0 rfl) rfl rfl ?_
      refine K.fieldAddr Y (gd0 rfl) rfl t93 rfl rfl ?_
      refine K.load1 Y (gd0 rfl) rfl rfl t60 rfl rfl ?_
      refine K.move (.inl rfl) (gd0 rfl) rfl rfl ?_
      refine K.idxL (lrowV 22 3 intE 1 _) l.length (lrowV_is intE_len (by decide)) hget (by simp [IntKind.wrap_i64] at * <;> omega) (gd0 rfl) rfl rfl rfl Try.underlying60 el60.size_run rfl ?_
      refine K.load1L Y (lrowV 22 3 intE 1 _) l.length 0 (lrowV_is intE_len (by decide)) hget (gd0 rfl) rfl rfl t3 rfl rfl ?_
      refine K.move (.inr rfl) (gd0 rfl) rfl rfl ?_
      refine K.nil ?_
      refine At.next ?_
      refine G.seq ?_
      refine G.rg ?_
      refine K.move (.inl rfl) (gd0 rfl) rfl rfl ?_
      refine K.move (.inl rfl) (gd0 rfl) rfl rfl ?_
      refine K.nilCheck (gd0 rfl) rfl rfl ?_
      refine K.fieldAddr Y (gd0 rfl) rfl t93 rfl rfl ?_
      refine K.load1 Y (gd0 rfl) rfl rfl t60 rfl rfl ?_
      refine K.move (.inl rfl) (gd0 rfl) rfl rfl ?_
      refine K.cutL 126 l.length intE_len (gd0 rfl) rfl (.at_ rfl (by simp [IntKind.wrap_i64] at * <;> omega) (by simp [IntKind.wrap_i64] at * <;> omega)) rfl Try.underlying60 el60.size_run (by simp) rfl rfl rfl rfl ?_
      refine K.nilCheck (gd0 rfl) rfl rfl ?_
      refine K.fieldAddr Y (gd0 rfl) rfl t93 rfl rfl ?_
      refine K.store Y [_, _, _, _, _] (gd0 rfl) rfl rfl rfl t60 rfl rfl rfl rfl rfl ?_
      refine K.nil ?_
      refine At.next ?_
      refine G.seq ?_
      refine G.rg ?_
      refine K.move (.inl rfl) (gd0 rfl) rfl rfl ?_
      refine K.move (.inr rfl) (gd0 rfl) rfl rfl ?_
      refine K.nil ?_
      refine At.next ?_
      refine G.ret ?_
      refine At.over_ret ?_
      refine At.ent [(0, _), (21, _), (126, _)] [(0, poolM 0 ⟨_, _, _, _, _⟩)] [] (pool_close _ _ _ _ _) ⟨rfl, rfl, rfl, trivial⟩ rfl rfl rfl rfl ?_
      refine At.done Y [(.tmp 2, .c _)] rfl ⟨.tmp rfl, trivial⟩ (to' := [(0, _)]) ⟨rfl, trivial⟩ ?_ ?_ rfl rfl rfl (.inl rfl)
      · simp [Pool.next, *]
      · exact ret_i (by simp [Pool.next])
    · exact absurd h1 (by simp [IntKind.wrap_i64] at * <;> omega)
theorem findSM {cells : List (Cell (TNode TMark TSwell))} {n : Nat} {c : Cell (TNode TMark TSwell)} (hg : cells[n]? = some c) (hl : c.live = true) (hlen : cells.length < 4294967296) (cap held vis : Int) : SCon Try.prog 73 [SV.p 0 0, SV.agg [.i (n : Int), .i c.gen]] [(0, blk 0 [.nv 1, .nv 2, .i cap, .i held, .i vis] 93), (1, lrow 1 104 fCM 31 cells)] (.a (.c (.rp 1 (n * 31)))) [(0, blk 0 [.nv 1, .nv 2, .i cap, .i held, .i (IntKind.i64.wrap (vis + 1))] 93), (1, lrow 1 104 fCM 31 cells)] [] := by
  have hlt := (List.getElem?_eq_some_iff.1 hg).1
  refine spec_of [(0, _), (1, _)] [(0, _), (1, _)] 48 Try.func73 rfl Try.ntmps73 rfl rfl rfl rfl (fun β W F => ?_)
  refine G.seq ?_
  refine G.rg ?_
  refine K.box Y 103 [_, _] (gd0 rfl) rfl rfl rfl rfl rfl rfl ?_
  refine K.move (.inr rfl) (gd0 rfl) rfl rfl ?_
  refine K.nil ?_
  refine At.next ?_
  refine G.seq ?_
  refine G.seq ?_
  have h1 : (decide ((n : Int) < 0)) = false := by simp [IntKind.wrap_i64] at * <;> omega
  refine G.rd mixed ?_
  refine K.fieldAddr Y (gd0 rfl) rfl t68 rfl rfl ?_
  refine K.load1 Y (gd0 rfl) rfl rfl t3 rfl rfl ?_
  refine K.bin (gd0 rfl) rfl rfl (fun _ => rfl) rfl ?_
  refine K.move (.inl rfl) (gd0 rfl) rfl rfl ?_
  refine K.fieldAddr Y (gd1 rfl rfl rfl (h1)) rfl t68 rfl rfl ?_
  refine K.load1 Y (gd1 rfl rfl rfl (h1)) rfl rfl t3 rfl rfl ?_
  refine K.move (.inl rfl) (gd1 rfl rfl rfl (h1)) rfl rfl ?_
  refine K.nilCheck (gd1 rfl rfl rfl (h1)) rfl rfl ?_
  refine K.fieldAddr Y (gd1 rfl rfl rfl (h1)) rfl t93 rfl rfl ?_
  refine K.load1 Y (gd1 rfl rfl rfl (h1)) rfl rfl t91 rfl rfl ?_
  refine K.lenL (lrowV 1 104 fCM 31 _) (lrowV_is fCM_len (by decide)) (gd1 rfl rfl rfl (h1)) rfl rfl Try.underlying91 rfl ?_
  refine K.bin (gd1 rfl rfl rfl (h1)) rfl rfl (fun _ => rfl) rfl ?_
  refine K.pickF (gd0 rfl) rfl (h1) rfl rfl ?_
  refine K.nil ?_
  refine ⟨by kernel_rfl, ?_⟩
  refine At.next ?_
  refine G.cond rfl (fun h2 => ?_) (fun h2 => ?_)
  · exact absurd h2 (by simp [IntKind.wrap_i64] at * <;> omega)
  ·
    refine G.skip ?_
    refine At.next ?_
    refine G.seq ?_
    refine G.rd mixed ?_
    refine K.move (.inl rfl) (gd0 rfl) rfl rfl ?_
    refine K.nilCheck (gd0 rfl) rfl rfl ?_
    refine K.fieldAddr Y (gd0 rfl) rfl t93 rfl rfl ?_
    refine K.load1 Y (gd0 rfl) rfl rfl t91 rfl rfl ?_
    refine K.fieldAddr Y (gd0 rfl) rfl t68 rfl rfl ?_
    refine K.load1 Y (gd0 rfl) rfl rfl t3 rfl rfl ?_
    refine K.idxL (lrowV 1 104 fCM 31 _) n (lrowV_is fCM_len (by decide)) hg rfl (gd0 rfl) rfl rfl rfl Try.underlying91 el91.size_run rfl ?_
    refine K.move (.inr rfl) (gd0 rfl) rfl rfl ?_
    refine K.nil ?_
    refine ⟨by kernel_rfl, ?_⟩
    refine At.next ?_
    refine G.seq ?_
    refine G.seq ?_
    have h3 : (!c.live) = false := by simp [hl]
    refine G.rd mixed ?_
    refine K.move (.inl rfl) (gd0 rfl) rfl rfl ?_
    refine K.nilL (lrowV 1 104 fCM 31 _) n 0 (lrowV_is fCM_len (by decide)) hg (gd0 rfl) rfl rfl rfl rfl ?_
    refine K.fieldL Y (lrowV 1 104 fCM 31 _) n 0 30 (lrowV_is fCM_len (by decide)) hg (gd0 rfl) rfl rfl t104 rfl rfl rfl rfl ?_
    refine K.load1L Y (lrowV 1 104 fCM 31 _) n 30 (lrowV_is fCM_len (by decide)) hg (gd0 rfl) rfl rfl t4 rfl rfl ?_
    refine K.un (gd0 rfl) rfl (fun _ => rfl) rfl ?_
    refine K.move (.inl rfl) (gd0 rfl) rfl rfl ?_
    refine K.move (.inl rfl) (gd1 rfl rfl rfl (h3)) rfl rfl ?_
    refine K.nilL (lrowV 1 104 fCM 31 _) n 0 (lrowV_is fCM_len (by decide)) hg (gd1 rfl rfl rfl (h3)) rfl rfl rfl rfl ?_
    refine K.fieldL Y (lrowV 1 104 fCM 31 _) n 0 29 (lrowV_is fCM_len (by decide)) hg (gd1 rfl rfl rfl (h3)) rfl rfl t104 rfl rfl rfl rfl ?_
    refine K.load1L Y (lrowV 1 104 fCM 31 _) n 29 (lrowV_is fCM_len (by decide)) hg (gd1 rfl rfl rfl (h3)) rfl rfl t3 rfl rfl ?_
    refine K.fieldAddr Y (gd1 rfl rfl rfl (h3)) rfl t68 rfl rfl ?_
    refine K.load1 Y (gd1 rfl rfl rfl (h3)) rfl rfl t3 rfl rfl ?_
    refine K.bin (gd1 rfl rfl rfl (h3)) rfl rfl (fun _ => rfl) rfl ?_
    refine K.pickF (gd0 rfl) rfl (h3) rfl rfl ?_
    refine K.nil ?_
    refine ⟨by kernel_rfl, ?_⟩
    refine At.next ?_
    refine G.cond rfl (fun h4 => ?_) (fun h4 => ?_)
    · exact absurd h4 (by simp)
    ·
      refine G.skip ?_
      refine At.next ?_
      refine G.seq ?_
      refine G.rg ?_
      refine K.move (.inl rfl) (gd0 rfl) rfl rfl ?_
      refine K.nilCheck (gd0 rfl) rfl rfl ?_
      refine K.fieldAddr Y (gd0 rfl) rfl t93 rfl rfl ?_
      refine K.load1 Y (gd0 rfl) rfl rfl t3 rfl rfl ?_
      refine K.bin (gd0 rfl) rfl rfl (fun _ => rfl) rfl ?_
      refine K.nilCheck (gd0 rfl) rfl rfl ?_
      refine K.fieldAddr Y (gd0 rfl) rfl t93 rfl rfl ?_
      refine K.store Y [_, _, _, _, _] (gd0 rfl) rfl rfl rfl t3 rfl rfl rfl rfl rfl ?_
      refine K.nil ?_
      refine At.next ?_
      refine G.seq ?_
      refine G.rg ?_
      refine K.move (.inl rfl) (gd0 rfl) rfl rfl ?_
      refine K.move (.inr rfl) (gd0 rfl) rfl rfl ?_
      refine K.nil ?_
      refine At.next ?_
      refine G.ret ?_
      refine At.done Y [(.tmp 4, .c _)] rfl ⟨.tmp rfl, trivial⟩ (to' := [(0, _), (1, _)]) ⟨rfl, rfl, trivial⟩ ?_ ?_ rfl rfl rfl (.inl rfl)
      · rfl
      · rfl
theorem findNM {cells : List (Cell (TNode TMark TSwell))} {i g : Int} (hn : lookC cells i g = none) (hlen : cells.length < 4294967296) (cap held vis : Int) : SCon Try.prog 73 [SV.p 0 0, SV.agg [.i i, .i g]] [(0, blk 0 [.nv 1, .nv 2, .i cap, .i held, .i vis] 93), (1, lrow 1 104 fCM 31 cells)] (SV.raw (.pointer none)) [(0, blk 0 [.nv 1, .nv 2, .i cap, .i held, .i vis] 93), (1, lrow 1 104 fCM 31 cells)] [] := by
  refine spec_of [(0, _), (1, _)] [(0, _), (1, _)] 48 Try.func73 rfl Try.ntmps73 rfl rfl rfl rfl (fun β W F => ?_)
  refine G.seq ?_
  refine G.rg ?_
  refine K.box Y 103 [_, _] (gd0 rfl) rfl rfl rfl rfl rfl rfl ?_
  refine K.move (.inr rfl) (gd0 rfl) rfl rfl ?_
  refine K.nil ?_
  refine At.next ?_
  refine G.seq ?_
  refine G.seq ?_
  rcases Bool.eq_false_or_eq_true (decide (i < 0)) with h1 | h1
  ·
    refine G.rd mixed ?_
    refine K.fieldAddr Y (gd0 rfl) rfl t68 rfl rfl ?_
    refine K.load1 Y (gd0 rfl) rfl rfl t3 rfl rfl ?_
    refine K.bin (gd0 rfl) rfl rfl (fun _ => rfl) rfl ?_
    refine K.move (.inl rfl) (gd0 rfl) rfl rfl ?_
    refine K.skip rfl rfl rfl rfl (h1) rfl ?_
    refine K.skip rfl rfl rfl rfl (h1) rfl ?_
    refine K.skip rfl rfl rfl rfl (h1) rfl ?_
    refine K.skip rfl rfl rfl rfl (h1) rfl ?_
    refine K.skip rfl rfl rfl rfl (h1) rfl ?_
    refine K.skip rfl rfl rfl rfl (h1) rfl ?_
    refine K.skip rfl rfl rfl rfl (h1) rfl ?_
    refine K.skip rfl rfl rfl rfl (h1) rfl ?_
    refine K.pickT (gd0 rfl) rfl (h1) rfl rfl ?_
    refine K.nil ?_
    refine ⟨by kernel_rfl, ?_⟩
    refine At.next ?_
    refine G.cond rfl (fun h2 => ?_) (fun h2 => ?_)
    ·
      refine G.seq ?_
      refine G.rg ?_
      refine K.move (.inr rfl) (gd0 rfl) rfl rfl ?_
      refine K.nil ?_
      refine At.next ?_
      refine G.ret ?_
      refine At.over_ret ?_
      refine At.done Y [(.tmp 4, .c _)] rfl ⟨.tmp rfl, trivial⟩ (to' := [(0, _), (1, _)]) ⟨rfl, rfl, trivial⟩ ?_ ?_ rfl rfl rfl (.inl rfl)
      · rfl
      · rfl
    · cases h2
  ·
    refine G.rd mixed ?_
    refine K.fieldAddr Y (gd0 rfl) rfl t68 rfl rfl ?_
    refine K.load1 Y (gd0 rfl) rfl rfl t3 rfl rfl ?_
    refine K.bin (gd0 rfl) rfl rfl (fun _ => rfl) rfl ?_
    refine K.move (.inl rfl) (gd0 rfl) rfl rfl ?_
    refine K.fieldAddr Y (gd1 rfl rfl rfl (h1)) rfl t68 rfl rfl ?_
    refine K.load1 Y (gd1 rfl rfl rfl (h1)) rfl rfl t3 rfl rfl ?_
    refine K.move (.inl rfl) (gd1 rfl rfl rfl (h1)) rfl rfl ?_
    refine K.nilCheck (gd1 rfl rfl rfl (h1)) rfl rfl ?_
    refine K.fieldAddr Y (gd1 rfl rfl rfl (h1)) rfl t93 rfl rfl ?_
    refine K.load1 Y (gd1 rfl rfl rfl (h1)) rfl rfl t91 rfl rfl ?_
    refine K.lenL (lrowV 1 104 fCM 31 _) (lrowV_is fCM_len (by decide)) (gd1 rfl rfl rfl (h1)) rfl rfl Try.underlying91 rfl ?_
    refine K.bin (gd1 rfl rfl rfl (h1)) rfl rfl (fun _ => rfl) rfl ?_
    refine K.pickF (gd0 rfl) rfl (h1) rfl rfl ?_
    refine K.nil ?_
    refine ⟨by kernel_rfl, ?_⟩
    refine At.next ?_
    refine G.cond rfl (fun h3 => ?_) (fun h3 => ?_)
    ·
      refine G.seq ?_
      refine G.rg ?_
      refine K.move (.inr rfl) (gd0 rfl) rfl rfl ?_
      refine K.nil ?_
      refine At.next ?_
      refine G.ret ?_
      refine At.over_ret ?_
      refine At.done Y [(.tmp 4, .c _)] rfl ⟨.tmp rfl, trivial⟩ (to' := [(0, _), (1, _)]) ⟨rfl, rfl, trivial⟩ ?_ ?_ rfl rfl rfl (.inl rfl)
      · rfl
      · rfl
    ·
      refine G.skip ?_
      refine At.next ?_
      refine G.seq ?_
      obtain ⟨c, hg⟩ : ∃ c, cells[i.toNat]? = some c := ⟨_, List.getElem?_eq_getElem (by simp [IntKind.wrap_i64] at * <;> omega)⟩
      refine G.rd mixed ?_
      refine K.move (.inl rfl) (gd0 rfl) rfl rfl ?_
      refine K.nilCheck (gd0 rfl) rfl rfl ?_
      refine K.fieldAddr Y (gd0 rfl) rfl t93 rfl rfl ?_
      refine K.load1 Y (gd0 rfl) rfl rfl t91 rfl rfl ?_
      refine K.fieldAddr Y (gd0 rfl) rfl t68 rfl rfl ?_
      refine K.load1 Y (gd0 rfl) rfl rfl t3 rfl rfl ?_
      refine K.idxL (lrowV 1 104 fCM 31 _) i.toNat (lrowV_is fCM_len (by decide)) hg (by simp [IntKind.wrap_i64] at * <;> omega) (gd0 rfl) rfl rfl rfl Try.underlying91 el91.size_run rfl ?_
      refine K.move (.inr rfl) (gd0 rfl) rfl rfl ?_
      refine K.nil ?_
      refine ⟨by kernel_rfl, ?_⟩
      refine At.next ?_
      refine G.seq ?_
      refine G.seq ?_
      rcases Bool.eq_false_or_eq_true (!c.live) with h4 | h4
      ·
        refine G.rd mixed ?_
        refine K.move (.inl rfl) (gd0 rfl) rfl rfl ?_
        refine K.nilL (lrowV 1 104 fCM 31 _) i.toNat 0 (lrowV_is fCM_len (by decide)) hg (gd0 rfl) rfl rfl rfl rfl ?_
        refine K.fieldL Y (lrowV 1 104 fCM 31 _) i.toNat 0 30 (lrowV_is fCM_len (by decide)) hg (gd0 rfl) rfl rfl t104 rfl rfl rfl rfl ?_
        refine K.load1L Y (lrowV 1 104 fCM 31 _) i.toNat 30 (lrowV_is fCM_len (by decide)) hg (gd0 rfl) rfl rfl t4 rfl rfl ?_
        refine K.un (gd0 rfl) rfl (fun _ => rfl) rfl ?_
        refine K.move (.inl rfl) (gd0 rfl) rfl rfl ?_
        refine K.skip rfl rfl rfl rfl (h4) rfl ?_
        refine K.skip rfl rfl rfl rfl (h4) rfl ?_
        refine K.skip rfl rfl rfl rfl (h4) rfl ?_
        refine K.skip rfl rfl rfl rfl (h4) rfl ?_
        refine K.skip rfl rfl rfl rfl (h4) rfl ?_
        refine K.skip rfl rfl rfl rfl (h4) rfl ?_
        refine K.skip rfl rfl rfl rfl (h4) rfl ?_
        refine K.pickT (gd0 rfl) rfl (h4) rfl rfl ?_
        refine K.nil ?_
        refine ⟨by kernel_rfl, ?_⟩
        refine At.next ?_
        refine G.cond rfl (fun h5 => ?_) (fun h5 => ?_)
        ·
          refine G.seq ?_
          refine G.rg ?_
          refine K.move (.inr rfl) (gd0 rfl) rfl rfl ?_
          refine K.nil ?_
          refine At.next ?_
          refine G.ret ?_
          refine At.over_ret ?_
          refine At.done Y [(.tmp 4, .c _)] rfl ⟨.tmp rfl, trivial⟩ (to' := [(0, _), (1, _)]) ⟨rfl, rfl, trivial⟩ ?_ ?_ rfl rfl rfl (.inl rfl)
          · rfl
          · rfl
        · cases h5
      ·
        refine G.rd mixed ?_
        refine K.move (.inl rfl) (gd0 rfl) rfl rfl ?_
        refine K.nilL (lrowV 1 104 fCM 31 _) i.toNat 0 (lrowV_is fCM_len (by decide)) hg (gd0 rfl) rfl rfl rfl rfl ?_
        refine K.fieldL Y (lrowV 1 104 fCM 31 _) i.toNat 0 30 (lrowV_is fCM_len (by decide)) hg (gd0 rfl) rfl rfl t104 rfl rfl rfl rfl ?_
        refine K.load1L Y (lrowV 1 104 fCM 31 _) i.toNat 30 (lrowV_is fCM_len (by decide)) hg (gd0 rfl) rfl rfl t4 rfl rfl ?_
        refine K.un (gd0 rfl) rfl (fun _ => rfl) rfl ?_
        refine K.move (.inl rfl) (gd0 rfl) rfl rfl ?_
        refine K.move (.inl rfl) (gd1 rfl rfl rfl (h4)) rfl rfl ?_
        refine K.nilL (lrowV 1 104 fCM 31 _) i.toNat 0 (lrowV_is fCM_len (by decide)) hg (gd1 rfl rfl rfl (h4)) rfl rfl rfl rfl ?_
        refine K.fieldL Y (lrowV 1 104 fCM 31 _) i.toNat 0 29 (lrowV_is fCM_len (by decide)) hg (gd1 rfl rfl rfl (h4)) rfl rfl t104 rfl rfl rfl rfl ?_
        refine K.load1L Y (lrowV 1 104 fCM 31 _) i.toNat 29 (lrowV_is fCM_len (by decide)) hg (gd1 rfl rfl rfl (h4)) rfl rfl t3 rfl rfl ?_
        refine K.fieldAddr Y (gd1 rfl rfl rfl (h4)) rfl t68 rfl rfl ?_
        refine K.load1 Y (gd1 rfl rfl rfl (h4)) rfl rfl t3 rfl rfl ?_
        refine K.bin (gd1 rfl rfl rfl (h4)) rfl rfl (fun _ => rfl) rfl ?_
        refine K.pickF (gd0 rfl) rfl (h4) rfl rfl ?_
        refine K.nil ?_
        refine ⟨by kernel_rfl, ?_⟩
        refine At.next ?_
        refine G.cond rfl (fun h6 => ?_) (fun h6 => ?_)
        ·
          refine G.seq ?_
          refine G.rg ?_
          refine K.move (.inr rfl) (gd0 rfl) rfl rfl ?_
          refine K.nil ?_
          refine At.next ?_
          refine G.ret ?_
          refine At.over_ret ?_
          refine At.done Y [(.tmp 4, .c _)] rfl ⟨.tmp rfl, trivial⟩ (to' := [(0, _), (1, _)]) ⟨rfl, rfl, trivial⟩ ?_ ?_ rfl rfl rfl (.inl rfl)
          · rfl
          · rfl
        · exact absurd h6 (by simp_all [lookC])
theorem findSM' {cells : List (Cell (TNode TMark TSwell))} {n : Nat} {c : Cell (TNode TMark TSwell)} (hg : cells[n]? = some c) (hl : c.live = true) (hlen : cells.length < 4294967296) (cap held vis : Int) (k0 k1 k2 : Nat) : SCon Try.prog 73 [SV.p k0 0, SV.agg [.i (n : Int), .i c.gen]]
    [(k0, blk k0 [.nv k1, .nv k2, .i cap, .i held, .i vis] 93), (k1, lrow k1 104 fCM 31 cells)] (.a (.c (.rp k1 (n * 31)))) [(k0, blk k0 [.nv k1, .nv k2, .i cap, .i held, .i (IntKind.i64.wrap (vis + 1))] 93), (k1, lrow k1 104 fCM 31 cells)] [] :=
  SCon.ren (rn [(0, k0), (1, k1), (2, k2)]) (findSM hg hl hlen cap held vis) ⟨blk_ren rfl rfl, lrow_ren rfl, trivial⟩ ⟨blk_ren rfl rfl, lrow_ren rfl, trivial⟩ (by simp) (by simp)
theorem findNM' {cells : List (Cell (TNode TMark TSwell))} {i g : Int} (hn : lookC cells i g = none) (hlen : cells.length < 4294967296) (cap held vis : Int) (k0 k1 k2 : Nat) : SCon Try.prog 73 [SV.p k0 0, SV.agg [.i i, .i g]]
    [(k0, blk k0 [.nv k1, .nv k2, .i cap, .i held, .i vis] 93), (k1, lrow k1 104 fCM 31 cells)] (SV.raw (.pointer none)) [(k0, blk k0 [.nv k1, .nv k2, .i cap, .i held, .i vis] 93), (k1, lrow k1 104 fCM 31 cells)] [] :=
  SCon.ren (rn [(0, k0), (1, k1), (2, k2)]) (findNM hn hlen cap held vis) ⟨blk_ren rfl rfl, lrow_ren rfl, trivial⟩ ⟨blk_ren rfl rfl, lrow_ren rfl, trivial⟩ (by simp) (by simp)

theorem getM (p : Pool (TNode TMark TSwell)) (i g : Int) (hlen : p.cells.length < 4294967296) (hfree : p.free.length < 4294967296) : SCon Try.prog 65 [SV.p 0 0, SV.agg [.i i, .i g]] [(0, poolM 0 p)] (.tup [avM (p.get zNodeM i g).1.1, .c (.b (p.get zNodeM i g).1.2)]) [(0, poolM 0 (p.get zNodeM i g).2)] [] := by
  obtain ⟨cells, free, cap, held, vis⟩ := p
  simp only at hlen hfree
  cases hlk : lookC cells i g with
  | none =>
    refine spec_of [(0, _), (1, _)] [(0, _)] 18 Try.func65 rfl Try.ntmps65 rfl rfl rfl rfl (fun β W F => ?_)
    refine G.ent [(0, _)] [(0, _), (21, _), (22, _)] [21, 22] (pool_open (by decide) (by decide) (by decide)) ⟨rfl, trivial⟩ rfl rfl rfl rfl ?_
    refine G.seq ?_
    refine G.rg ?_
    refine K.box Y 103 [_, _] (gd0 rfl) rfl rfl rfl rfl rfl rfl ?_
    refine K.alloc Y 104 [_, _, _, _, _, _, _, _, _, _, _, _, _, _, _, _, _, _, _, _, _, _, _, _, _, _, _, _, _] (gd0 rfl) t70 rfl rfl rfl rfl rfl ?_
    refine K.move (.inr rfl) (gd0 rfl) rfl rfl ?_
    refine K.nil ?_
    refine At.next ?_
    refine G.seq ?_
    refine G.rg ?_
    refine K.move (.inl rfl) (gd0 rfl) rfl rfl ?_
    refine K.loadS Y [_, _] (gd0 rfl) rfl rfl t68 rfl rfl rfl ?_
    refine K.call0 [(.func 73, _), ((.tmp 8), _), ((.tmp 9), _)] (findNM' hlk hlen _ _ _ 0 21 22) (toFn_func (cf 73 rfl) rfl) (gd0 rfl) ⟨rfl, rfl, rfl, trivial⟩ ⟨rfl, rfl, trivial⟩ rfl rfl rfl rfl rfl rfl ?_
    refine K.move (.inr rfl) (gd0 rfl) rfl rfl ?_
    refine K.nil ?_
    refine At.next ?_
    refine G.seq ?_
    refine G.seq ?_
    refine G.rg ?_
    refine K.move (.inl rfl) (gd0 rfl) rfl rfl ?_
    refine K.bin (gd0 rfl) rfl rfl (pn_eql_none Try.underlying101) rfl ?_
    refine K.nil ?_
    refine At.next ?_
    refine G.cond rfl (fun h1 => ?_) (fun h1 => ?_)
    ·
      refine G.seq ?_
      refine G.rg ?_
      refine K.alloc Y 107 [_, _, _, _, _, _, _, _, _, _, _, _, _, _, _, _, _, _, _, _, _, _, _, _, _, _, _, _, _] (gd0 rfl) t70 rfl rfl rfl rfl rfl ?_
      refine K.nil ?_
      refine At.next ?_
      refine G.seq ?_
      refine G.rg ?_
      refine K.loadS Y [_, _, _, _, _, _, _, _, _, _, _, _, _, _, _, _, _, _, _, _, _, _, _, _, _, _, _, _, _] (gd0 rfl) rfl rfl t70 rfl rfl rfl ?_
      refine K.store Y [_, _, _, _, _, _, _, _, _, _, _, _, _, _, _, _, _, _, _, _, _, _, _, _, _, _, _, _, _] (gd0 rfl) rfl rfl rfl t70 rfl rfl rfl rfl rfl ?_
      refine K.move (.inr rfl) (gd0 rfl) rfl rfl ?_
      refine K.nil ?_
      refine At.next ?_
      refine G.ret ?_
      refine At.over_ret ?_
      refine At.ent [(0, _), (21, _), (22, _)] [(0, poolM 0 ⟨_, _, _, _, _⟩)] [] (pool_close _ _ _ _ _) ⟨rfl, rfl, rfl, trivial⟩ rfl rfl rfl rfl ?_
      refine At.done Y [(.cell 4 70, .agg [_, _, _, _, _, _, _, _, _, _, _, _, _, _, _, _, _, _, _, _, _, _, _, _, _, _, _, _, _]), (.tmp 5, .c _)] rfl ⟨.st rfl rfl t70 rfl rfl, .tmp rfl, trivial⟩ (to' := [(0, _)]) ⟨rfl, trivial⟩ ?_ ?_ rfl rfl rfl (.inl rfl)
      · simp only [Pool.get, hlk]
      · simp only [Pool.get, hlk]; rfl
    · cases h1
  | some c =>
    obtain ⟨n, rfl, hg, hl, rfl⟩ := lookC_some hlk
    refine spec_of [(0, _), (1, _)] [(0, _)] 18 Try.func65 rfl Try.ntmps65 rfl rfl rfl rfl (fun β W F => ?_)
    refine G.ent [(0, _)] [(0, _), (21, _), (22, _)] [21, 22] (pool_open (by decide) (by decide) (by decide)) ⟨rfl, trivial⟩ rfl rfl rfl rfl ?_
    refine G.seq ?_
    refine G.rg ?_
    refine K.box Y 103 [_, _] (gd0 rfl) rfl rfl rfl rfl rfl rfl ?_
    refine K.alloc Y 104 [_, _, _, _, _, _, _, _, _, _, _, _, _, _, _, _, _, _, _, _, _, _, _, _, _, _, _, _, _] (gd0 rfl) t70 rfl rfl rfl rfl rfl ?_
    refine K.move (.inr rfl) (gd0 rfl) rfl rfl ?_
    refine K.nil ?_
    refine At.next ?_
    refine G.seq ?_
    refine G.rg ?_
    refine K.move (.inl rfl) (gd0 rfl) rfl rfl ?_
    refine K.loadS Y [_, _] (gd0 rfl) rfl rfl t68 rfl rfl rfl ?_
    refine K.call0 [(.func 73, _), ((.tmp 8), _), ((.tmp 9), _)] (findSM' hg hl hlen _ _ _ 0 21 22) (toFn_func (cf 73 rfl) rfl) (gd0 rfl) ⟨rfl, rfl, rfl, trivial⟩ ⟨rfl, rfl, trivial⟩ rfl rfl rfl rfl rfl rfl ?_
    refine K.move (.inr rfl) (gd0 rfl) rfl rfl ?_
    refine K.nil ?_
    refine At.next ?_
    refine G.seq ?_
    refine G.seq ?_
    refine G.rg ?_
    refine K.move (.inl rfl) (gd0 rfl) rfl rfl ?_
    refine K.eqnilL (lrowV 21 104 fCM 31 _) n 0 (B := false) (lrowV_is fCM_len (by decide)) hg (gd0 rfl) rfl rfl rfl rfl (pn_eql_some Try.underlying101) rfl ?_
    refine K.nil ?_
    refine At.next ?_
    refine G.cond rfl (fun h1 => ?_) (fun h1 => ?_)
    · cases h1
    ·
      refine G.skip ?_
      refine At.next ?_
      refine G.seq ?_
      refine G.rg ?_
      refine K.move (.inl rfl) (gd0 rfl) rfl rfl ?_
      refine K.nilL (lrowV 21 104 fCM 31 _) n 0 (lrowV_is fCM_len (by decide)) hg (gd0 rfl) rfl rfl rfl rfl ?_
      refine K.fieldL Y (lrowV 21 104 fCM 31 _) n 0 0 (lrowV_is fCM_len (by decide)) hg (gd0 rfl) rfl rfl t104 rfl rfl rfl rfl ?_
      refine K.loadSL Y (lrowV 21 104 fCM 31 _) n 0 [_, _, _, _, _, _, _, _, _, _, _, _, _, _, _, _, _, _, _, _, _, _, _, _, _, _, _, _, _] [_, _, _, _, _, _, _, _, _, _, _, _, _, _, _, _, _, _, _, _, _, _, _, _, _, _, _, _, _] (lrowV_is fCM_len (by decide)) hg (gd0 rfl) rfl rfl t70 rfl rfl rfl rfl rfl ?_
      refine K.store Y [_, _, _, _, _, _, _, _, _, _, _, _, _, _, _, _, _, _, _, _, _, _, _, _, _, _, _, _, _] (gd0 rfl) rfl rfl rfl t70 rfl rfl rfl rfl rfl ?_
      refine K.move (.inr rfl) (gd0 rfl) rfl rfl ?_
      refine K.nil ?_
      refine At.next ?_
      refine G.ret ?_
      refine At.ent [(0, _), (21, _), (22, _)] [(0, poolM 0 ⟨_, _, _, _, _⟩)] [] (pool_close _ _ _ _ _) ⟨rfl, rfl, rfl, trivial⟩ rfl rfl rfl rfl ?_
      refine At.done Y [(.cell 4 70, .agg [_, _, _, _, _, _, _, _, _, _, _, _, _, _, _, _, _, _, _, _, _, _, _, _, _, _, _, _, _]), (.tmp 5, .c _)] rfl ⟨.st rfl rfl t70 rfl rfl, .tmp rfl, trivial⟩ (to' := [(0, _)]) ⟨rfl, trivial⟩ ?_ ?_ rfl rfl rfl (.inl rfl)
      · simp [Pool.get, hlk, Pool.hit]
      · simp only [Pool.get, hlk]; rfl
theorem setM (p : Pool (TNode TMark TSwell)) (i g : Int) (v : (TNode TMark TSwell)) (hlen : p.cells.length < 4294967296) (hfree : p.free.length < 4294967296) : SCon Try.prog 71 [SV.p 0 0, SV.agg [.i i, .i g], .a (avM v)] [(0, poolM 0 p)] (SV.b (p.set i g v).1) [(0, poolM 0 (p.set i g v).2)] [] := by
  obtain ⟨cells, free, cap, held, vis⟩ := p
  simp only at hlen hfree
  cases hlk : lookC cells i g with
  | none =>
    refine spec_of [(0, _), (1, _), (2, _)] [(0, _)] 19 Try.func71 rfl Try.ntmps71 rfl rfl rfl rfl (fun β W F => ?_)
    refine G.ent [(0, _)] [(0, _), (21, _), (22, _)] [21, 22] (pool_open (by decide) (by decide) (by decide)) ⟨rfl, trivial⟩ rfl rfl rfl rfl ?_
    refine G.seq ?_
    refine G.rg ?_
    refine K.box Y 104 [_, _] (gd0 rfl) rfl rfl rfl rfl rfl rfl ?_
    refine K.box Y 105 [_, _, _, _, _, _, _, _, _, _, _, _, _, _, _, _, _, _, _, _, _, _, _, _, _, _, _, _, _] (gd0 rfl) rfl rfl rfl rfl rfl rfl ?_
    refine K.move (.inr rfl) (gd0 rfl) rfl rfl ?_
    refine K.nil ?_
    refine At.next ?_
    refine G.seq ?_
    refine G.rg ?_
    refine K.move (.inl rfl) (gd0 rfl) rfl rfl ?_
    refine K.loadS Y [_, _] (gd0 rfl) rfl rfl t68 rfl rfl rfl ?_
    refine K.call0 [(.func 73, _), ((.tmp 8), _), ((.tmp 9), _)] (findNM' hlk hlen _ _ _ 0 21 22) (toFn_func (cf 73 rfl) rfl) (gd0 rfl) ⟨rfl, rfl, rfl, trivial⟩ ⟨rfl, rfl, trivial⟩ rfl rfl rfl rfl rfl rfl ?_
    refine K.move (.inr rfl) (gd0 rfl) rfl rfl ?_
    refine K.nil ?_
    refine At.next ?_
    refine G.seq ?_
    refine G.seq ?_
    refine G.rg ?_
    refine K.move (.inl rfl) (gd0 rfl) rfl rfl ?_
    refine K.bin (gd0 rfl) rfl rfl (pn_neq_none Try.underlying101) rfl ?_
    refine K.nil ?_
    refine At.next ?_
    refine G.cond rfl (fun h1 => ?_) (fun h1 => ?_)
    · cases h1
    ·
      refine G.skip ?_
      refine At.next ?_
      refine G.seq ?_
      refine G.rg ?_
      refine K.move (.inl rfl) (gd0 rfl) rfl rfl ?_
      refine K.bin (gd0 rfl) rfl rfl (pn_neq_none Try.underlying101) rfl ?_
      refine K.move (.inr rfl) (gd0 rfl) rfl rfl ?_
      refine K.nil ?_
      refine At.next ?_
      refine G.ret ?_
      refine At.ent [(0, _), (21, _), (22, _)] [(0, poolM 0 ⟨_, _, _, _, _⟩)] [] (pool_close _ _ _ _ _) ⟨rfl, rfl, rfl, trivial⟩ rfl rfl rfl rfl ?_
      refine At.done Y [(.tmp 6, .c _)] rfl ⟨.tmp rfl, trivial⟩ (to' := [(0, _)]) ⟨rfl, trivial⟩ ?_ ?_ rfl rfl rfl (.inl rfl)
      · simp only [Pool.set, hlk]
      · simp only [Pool.set, hlk]; rfl
  | some c =>
    obtain ⟨n, rfl, hg, hl, rfl⟩ := lookC_some hlk
    refine spec_of [(0, _), (1, _), (2, _)] [(0, _)] 19 Try.func71 rfl Try.ntmps71 rfl rfl rfl rfl (fun β W F => ?_)
    refine G.ent [(0, _)] [(0, _), (21, _), (22, _)] [21, 22] (pool_open (by decide) (by decide) (by decide)) ⟨rfl, trivial⟩ rfl rfl rfl rfl ?_
    refine G.seq ?_
    refine G.rg ?_
    refine K.box Y 104 [_, _] (gd0 rfl) rfl rfl rfl rfl rfl rfl ?_
    refine K.box Y 105 [_, _, _, _, _, _, _, _, _, _, _, _, _, _, _, _, _, _, _, _, _, _, _, _, _, _, _, _, _] (gd0 rfl) rfl rfl rfl rfl rfl rfl ?_
    refine K.move (.inr rfl) (gd0 rfl) rfl rfl ?_
    refine K.nil ?_
    refine At.next ?_
    refine G.seq ?_
    refine G.rg ?_
    refine K.move (.inl rfl) (gd0 rfl) rfl rfl ?_
    refine K.loadS Y [_, _] (gd0 rfl) rfl rfl t68 rfl rfl rfl ?_
    refine K.call0 [(.func 73, _), ((.tmp 8), _), ((.tmp 9), _)] (findSM' hg hl hlen _ _ _ 0 21 22) (toFn_func (cf 73 rfl) rfl) (gd0 rfl) ⟨rfl, rfl, rfl, trivial⟩ ⟨rfl, rfl, trivial⟩ rfl rfl rfl rfl rfl rfl ?_
    refine K.move (.inr rfl) (gd0 rfl) rfl rfl ?_
    refine K.nil ?_
    refine At.next ?_
    refine G.seq ?_
    refine G.seq ?_
    refine G.rg ?_
    refine K.move (.inl rfl) (gd0 rfl) rfl rfl ?_
    refine K.eqnilL (lrowV 21 104 fCM 31 _) n 0 (B := true) (lrowV_is fCM_len (by decide)) hg (gd0 rfl) rfl rfl rfl rfl (pn_neq_some Try.underlying101) rfl ?_
    refine K.nil ?_
    refine At.next ?_
    refine G.cond rfl (fun h1 => ?_) (fun h1 => ?_)
    ·
      refine G.rg ?_
      refine K.move (.inl rfl) (gd0 rfl) rfl rfl ?_
      refine K.loadS Y [_, _, _, _, _, _, _, _, _, _, _, _, _, _, _, _, _, _, _, _, _, _, _, _, _, _, _, _, _] (gd0 rfl) rfl rfl t70 rfl rfl rfl ?_
      refine K.nilL (lrowV 21 104 fCM 31 _) n 0 (lrowV_is fCM_len (by decide)) hg (gd0 rfl) rfl rfl rfl rfl ?_
      refine K.fieldL Y (lrowV 21 104 fCM 31 _) n 0 0 (lrowV_is fCM_len (by decide)) hg (gd0 rfl) rfl rfl t104 rfl rfl rfl rfl ?_
      refine K.storeL Y n 0 [_, _, _, _, _, _, _, _, _, _, _, _, _, _, _, _, _, _, _, _, _, _, _, _, _, _, _, _, _] { c with v := v } fCM_len (by decide) hg (gd0 rfl) rfl rfl rfl t70 rfl rfl rfl rfl rfl rfl ?_
      refine K.nil ?_
      refine At.next ?_
      refine G.seq ?_
      refine G.rg ?_
      refine K.move (.inl rfl) (gd0 rfl) rfl rfl ?_
      refine K.eqnilL (lrowV 21 104 fCM 31 _) n 0 (B := true) (lrowV_is fCM_len (by decide)) (set_get hg) (gd0 rfl) rfl rfl rfl rfl (pn_neq_some Try.underlying101) rfl ?_
      refine K.move (.inr rfl) (gd0 rfl) rfl rfl ?_
      refine K.nil ?_
      refine At.next ?_
      refine G.ret ?_
      refine At.ent [(0, _), (21, _), (22, _)] [(0, poolM 0 ⟨_, _, _, _, _⟩)] [] (pool_close _ _ _ _ _) ⟨rfl, rfl, rfl, trivial⟩ rfl rfl rfl rfl ?_
      refine At.done Y [(.tmp 6, .c _)] rfl ⟨.tmp rfl, trivial⟩ (to' := [(0, _)]) ⟨rfl, trivial⟩ ?_ ?_ rfl rfl rfl (.inl rfl)
      · simp [Pool.set, hlk, Pool.hit]
      · simp only [Pool.set, hlk]; rfl
    · cases h1
theorem putFM (p : Pool (TNode TMark TSwell)) (v : (TNode TMark TSwell)) (hh : p.held = p.cap) : SCon Try.prog 69 [SV.p 0 0, .a (avM v)] [(0, poolM 0 p)] (.tup [.agg [.i 0, .i 0], .c (.b false)]) [(0, poolM 0 p)] [] := by
  obtain ⟨cells, free, cap, held, vis⟩ := p
  simp only at hh
  refine spec_of [(0, _), (1, _)] [(0, _)] 53 Try.func69 rfl Try.ntmps69 rfl rfl rfl rfl (fun β W F => ?_)
  refine G.ent [(0, _)] [(0, _), (21, _), (22, _)] [21, 22] (pool_open (by decide) (by decide) (by decide)) ⟨rfl, trivial⟩ rfl rfl rfl rfl ?_
  refine G.seq ?_
  refine G.rg ?_
  refine K.box Y 103 [_, _, _, _, _, _, _, _, _, _, _, _, _, _, _, _, _, _, _, _, _, _, _, _, _, _, _, _, _] (gd0 rfl) rfl rfl rfl rfl rfl rfl ?_
  refine K.alloc Y 104 [_, _] (gd0 rfl) t68 rfl rfl rfl rfl rfl ?_
  refine K.move (.inr rfl) (gd0 rfl) rfl rfl ?_
  refine K.nil ?_
  refine At.next ?_
  refine G.seq ?_
  refine G.seq ?_
  refine G.rd mixed ?_
  refine K.move (.inl rfl) (gd0 rfl) rfl rfl ?_
  refine K.nilCheck (gd0 rfl) rfl rfl ?_
  refine K.fieldAddr Y (gd0 rfl) rfl t93 rfl rfl ?_
  refine K.load1 Y (gd0 rfl) rfl rfl t3 rfl rfl ?_
  refine K.move (.inl rfl) (gd0 rfl) rfl rfl ?_
  refine K.nilCheck (gd0 rfl) rfl rfl ?_
  refine K.fieldAddr Y (gd0 rfl) rfl t93 rfl rfl ?_
  refine K.load1 Y (gd0 rfl) rfl rfl t3 rfl rfl ?_
  refine K.bin (gd0 rfl) rfl rfl (fun _ => rfl) rfl ?_
  refine K.nil ?_
  refine ⟨by kernel_rfl, ?_⟩
  refine At.next ?_
  refine G.cond rfl (fun h1 => ?_) (fun h1 => ?_)
  ·
    refine G.seq ?_
    refine G.rg ?_
    refine K.build Y [] [_, _] [] (gd0 rfl) (AllE.spec trivial) rfl rfl t68 rfl rfl ?_
    refine K.store Y [_, _] (gd0 rfl) rfl rfl rfl t68 rfl rfl rfl rfl rfl ?_
    refine K.move (.inr rfl) (gd0 rfl) rfl rfl ?_
    refine K.nil ?_
    refine At.next ?_
    refine G.ret ?_
    refine At.over_ret ?_
    refine At.ent [(0, _), (21, _), (22, _)] [(0, poolM 0 ⟨_, _, _, _, _⟩)] [] (pool_close _ _ _ _ _) ⟨rfl, rfl, rfl, trivial⟩ rfl rfl rfl rfl ?_
    refine At.done Y [(.cell 4 68, .agg [_, _]), (.tmp 5, .c _)] rfl ⟨.st rfl rfl t68 rfl rfl, .tmp rfl, trivial⟩ (to' := [(0, _)]) ⟨rfl, trivial⟩ ?_ ?_ rfl rfl rfl (.inl rfl)
    · rfl
    · rfl
  · exact absurd h1 (by simp [hh])
theorem putTM (p : Pool (TNode TMark TSwell)) (v : (TNode TMark TSwell)) (hh : p.held ≠ p.cap) (hlen : p.cells.length < 4294967296) (hfree : p.free.length < 4294967296) {n : Nat} {c : Cell (TNode TMark TSwell)} (hn : (p.next zNodeM).1 = n) (hg : (p.next zNodeM).2.cells[n]? = some c) : SCon Try.prog 69 [SV.p 0 0, .a (avM v)] [(0, poolM 0 p)]
    (.tup [.agg [.i n, .i (IntKind.i64.wrap (c.gen + 1))], .c (.b true)]) [(0, poolM 0 ((p.next zNodeM).2.lay n c v))] [] := by
  obtain ⟨cells, free, cap, held, vis⟩ := p
  simp only at hh hlen hfree
  refine spec_of [(0, _), (1, _)] [(0, _)] 53 Try.func69 rfl Try.ntmps69 rfl rfl rfl rfl (fun β W F => ?_)
  refine G.ent [(0, _)] [(0, _), (21, _), (22, _)] [21, 22] (pool_open (by decide) (by decide) (by decide)) ⟨rfl, trivial⟩ rfl rfl rfl rfl ?_
  refine G.seq ?_
  refine G.rg ?_
  refine K.box Y 103 [_, _, _, _, _, _, _, _, _, _, _, _, _, _, _, _, _, _, _, _, _, _, _, _, _, _, _, _, _] (gd0 rfl) rfl rfl rfl rfl rfl rfl ?_
  refine K.alloc Y 104 [_, _] (gd0 rfl) t68 rfl rfl rfl rfl rfl ?_
  refine K.move (.inr rfl) (gd0 rfl) rfl rfl ?_
  refine K.nil ?_
  refine At.next ?_
  refine G.seq ?_
  refine G.seq ?_
  refine G.rd mixed ?_
  refine K.move (.inl rfl) (gd0 rfl) rfl rfl ?_
  refine K.nilCheck (gd0 rfl) rfl rfl ?_
  refine K.fieldAddr Y (gd0 rfl) rfl t93 rfl rfl ?_
  refine K.load1 Y (gd0 rfl) rfl rfl t3 rfl rfl ?_
  refine K.move (.inl rfl) (gd0 rfl) rfl rfl ?_
  refine K.nilCheck (gd0 rfl) rfl rfl ?_
  refine K.fieldAddr Y (gd0 rfl) rfl t93 rfl rfl ?_
  refine K.load1 Y (gd0 rfl) rfl rfl t3 rfl rfl ?_
  refine K.bin (gd0 rfl) rfl rfl (fun _ => rfl) rfl ?_
  refine K.nil ?_
  refine ⟨by kernel_rfl, ?_⟩
  refine At.next ?_
  refine G.cond rfl (fun h1 => ?_) (fun h1 => ?_)
  · exact absurd h1 (by simp [hh])
  ·
    refine G.skip ?_
    refine At.next ?_
    refine G.seq ?_
    refine G.ent [(0, _), (21, _), (22, _)] [(0, poolM 0 ⟨_, _, _, _, _⟩)] [] (pool_close _ _ _ _ _) ⟨rfl, rfl, rfl, trivial⟩ rfl rfl rfl rfl ?_
    refine G.rg ?_
    refine K.move (.inl rfl) (gd0 rfl) rfl rfl ?_
    refine K.call0 [(.func 75, _), ((.tmp 18), _)] (nextM _ hlen hfree) (toFn_func (cf 75 rfl) rfl) (gd0 rfl) ⟨rfl, rfl, trivial⟩ ⟨rfl, trivial⟩ rfl rfl rfl rfl rfl rfl ?_
    refine K.move (.inr rfl) (gd0 rfl) rfl rfl ?_
    refine K.nil ?_
    refine At.next ?_
    refine G.seq ?_
    refine G.ent [(0, _)] [(0, _), (23, _), (24, _)] [23, 24] (pool_open (by decide) (by decide) (by decide)) ⟨rfl, trivial⟩ rfl rfl rfl rfl ?_
    refine G.rg ?_
    refine K.move (.inl rfl) (gd0 rfl) rfl rfl ?_
    refine K.nilCheck (gd0 rfl) rfl rfl ?_
    refine K.fieldAddr Y (gd0 rfl) rfl t93 rfl rfl ?_
    refine K.load1 Y (gd0 rfl) rfl rfl t91 rfl rfl ?_
    refine K.move (.inl rfl) (gd0 rfl) rfl rfl ?_
    refine K.idxL (lrowV 23 104 fCM 31 _) n (lrowV_is fCM_len (by decide)) hg hn (gd0 rfl) rfl rfl rfl Try.underlying91 el91.size_run rfl ?_
    refine K.move (.inr rfl) (gd0 rfl) rfl rfl ?_
    refine K.nil ?_
    refine At.next ?_
    refine G.seq ?_
    refine G.rg ?_
    refine K.move (.inl rfl) (gd0 rfl) rfl rfl ?_
    refine K.move (.inl rfl) (gd0 rfl) rfl rfl ?_
    refine K.loadS Y [_, _, _, _, _, _, _, _, _, _, _, _, _, _, _, _, _, _, _, _, _, _, _, _, _, _, _, _, _] (gd0 rfl) rfl rfl t70 rfl rfl rfl ?_
    refine K.nilL (lrowV 23 104 fCM 31 _) n 0 (lrowV_is fCM_len (by decide)) hg (gd0 rfl) rfl rfl rfl rfl ?_
    refine K.fieldL Y (lrowV 23 104 fCM 31 _) n 0 0 (lrowV_is fCM_len (by decide)) hg (gd0 rfl) rfl rfl t104 rfl rfl rfl rfl ?_
    refine K.storeL Y n 0 [_, _, _, _, _, _, _, _, _, _, _, _, _, _, _, _, _, _, _, _, _, _, _, _, _, _, _, _, _] { c with v := v } fCM_len (by decide) hg (gd0 rfl) rfl rfl rfl t70 rfl rfl rfl rfl rfl rfl ?_
    refine K.nilL (lrowV 23 104 fCM 31 _) n 0 (lrowV_is fCM_len (by decide)) (set_get hg) (gd0 rfl) rfl rfl rfl rfl ?_
    refine K.fieldL Y (lrowV 23 104 fCM 31 _) n 0 30 (lrowV_is fCM_len (by decide)) (set_get hg) (gd0 rfl) rfl rfl t104 rfl rfl rfl rfl ?_
    refine K.storeL Y n 30 [_] ⟨v, c.gen, true⟩ fCM_len (by decide) (set_get hg) (gd0 rfl) rfl rfl rfl t4 rfl rfl rfl rfl rfl rfl ?_
    refine K.nil ?_
    refine At.next ?_
    refine G.seq ?_
    refine G.rg ?_
    refine K.move (.inl rfl) (gd0 rfl) rfl rfl ?_
    refine K.nilL (lrowV 23 104 fCM 31 _) n 0 (lrowV_is fCM_len (by decide)) (set_get (set_get hg)) (gd0 rfl) rfl rfl rfl rfl ?_
    refine K.fieldL Y (lrowV 23 104 fCM 31 _) n 0 29 (lrowV_is fCM_len (by decide)) (set_get (set_get hg)) (gd0 rfl) rfl rfl t104 rfl rfl rfl rfl ?_
    refine K.load1L Y (lrowV 23 104 fCM 31 _) n 29 (lrowV_is fCM_len (by decide)) (set_get (set_get hg)) (gd0 rfl) rfl rfl t3 rfl rfl ?_
    refine K.bin (gd0 rfl) rfl rfl (fun _ => rfl) rfl ?_
    refine K.nilL (lrowV 23 104 fCM 31 _) n 0 (lrowV_is fCM_len (by decide)) (set_get (set_get hg)) (gd0 rfl) rfl rfl rfl rfl ?_
    refine K.fieldL Y (lrowV 23 104 fCM 31 _) n 0 29 (lrowV_is fCM_len (by decide)) (set_get (set_get hg)) (gd0 rfl) rfl rfl t104 rfl rfl rfl rfl ?_
    refine K.storeL Y n 29 [_] ⟨v, IntKind.i64.wrap (c.gen + 1), true⟩ fCM_len (by decide) (set_get (set_get hg)) (gd0 rfl) rfl rfl rfl t3 rfl rfl rfl rfl rfl rfl ?_
    refine K.nil ?_
    refine At.next ?_
    refine G.seq ?_
    refine G.rg ?_
    refine K.move (.inl rfl) (gd0 rfl) rfl rfl ?_
    refine K.nilCheck (gd0 rfl) rfl rfl ?_
    refine K.fieldAddr Y (gd0 rfl) rfl t93 rfl rfl ?_
    refine K.load1 Y (gd0 rfl) rfl rfl t3 rfl rfl ?_
    refine K.bin (gd0 rfl) rfl rfl (fun _ => rfl) rfl ?_
    refine K.nilCheck (gd0 rfl) rfl rfl ?_
    refine K.fieldAddr Y (gd0 rfl) rfl t93 rfl rfl ?_
    refine K.store Y [_, _, _, _, _] (gd0 rfl) rfl rfl rfl t3 rfl rfl rfl rfl rfl ?_
    refine K.nil ?_
    refine At.next ?_
    refine G.seq ?_
    refine G.rg ?_
    refine K.move (.inl rfl) (gd0 rfl) rfl rfl ?_
    refine K.move (.inl rfl) (gd0 rfl) rfl rfl ?_
    refine K.nilL (lrowV 23 104 fCM 31 _) n 0 (lrowV_is fCM_len (by decide)) (set_get (set_get (set_get hg))) (gd0 rfl) rfl rfl rfl rfl ?_
    refine K.fieldL Y (lrowV 23 104 fCM 31 _) n 0 29 (lrowV_is fCM_len (by decide)) (set_get (set_get (set_get hg))) (gd0 rfl) rfl rfl t104 rfl rfl rfl rfl ?_
    refine K.load1L Y (lrowV 23 104 fCM 31 _) n 29 (lrowV_is fCM_len (by decide)) (set_get (set_get (set_get hg))) (gd0 rfl) rfl rfl t3 rfl rfl ?_
    refine K.build Y [(0, _), (1, _)] [_, _] [((.tmp 47), _), ((.tmp 51), _)] (gd0 rfl) (AllE.spec ⟨rfl, rfl, trivial⟩) rfl rfl t68 rfl rfl ?_
    refine K.store Y [_, _] (gd0 rfl) rfl rfl rfl t68 rfl rfl rfl rfl rfl ?_
    refine K.move (.inr rfl) (gd0 rfl) rfl rfl ?_
    refine K.nil ?_
    refine At.next ?_
    refine G.ret ?_
    refine At.ent [(0, _), (23, _), (24, _)] [(0, poolM 0 ⟨_, _, _, _, _⟩)] [] (pool_close _ _ _ _ _) ⟨rfl, rfl, rfl, trivial⟩ rfl rfl rfl rfl ?_
    refine At.done Y [(.cell 4 68, .agg [_, _]), (.tmp 5, .c _)] rfl ⟨.st rfl rfl t68 rfl rfl, .tmp rfl, trivial⟩ (to' := [(0, _)]) ⟨rfl, trivial⟩ ?_ ?_ rfl rfl rfl (.inl rfl)
    · simp [Pool.lay]
    · rw [hn]; rfl
theorem visitsM (p : Pool (TNode TMark TSwell)) : SCon Try.prog 52 [SV.p 0 0] [(0, poolM 0 p)] (SV.i p.vis) [(0, poolM 0 p)] [] := by
  obtain ⟨cells, free, cap, held, vis⟩ := p
  refine spec_of [(0, _)] [(0, _)] 7 Try.func52 rfl Try.ntmps52 rfl rfl rfl rfl (fun β W F => ?_)
  refine G.ent [(0, _)] [(0, _), (21, _), (22, _)] [21, 22] (pool_open (by decide) (by decide) (by decide)) ⟨rfl, trivial⟩ rfl rfl rfl rfl ?_
  refine G.seq ?_
  refine G.rg ?_
  refine K.move (.inr rfl) (gd0 rfl) rfl rfl ?_
  refine K.nil ?_
  refine At.next ?_
  refine G.seq ?_
  refine G.rg ?_
  refine K.move (.inl rfl) (gd0 rfl) rfl rfl ?_
  refine K.nilCheck (gd0 rfl) rfl rfl ?_
  refine K.fieldAddr Y (gd0 rfl) rfl t93 rfl rfl ?_
  refine K.load1 Y (gd0 rfl) rfl rfl t3 rfl rfl ?_
  refine K.move (.inr rfl) (gd0 rfl) rfl rfl ?_
  refine K.nil ?_
  refine At.next ?_
  refine G.ret ?_
  refine At.ent [(0, _), (21, _), (22, _)] [(0, poolM 0 ⟨_, _, _, _, _⟩)] [] (pool_close _ _ _ _ _) ⟨rfl, rfl, rfl, trivial⟩ rfl rfl rfl rfl ?_
  refine At.done Y [(.tmp 2, .c _)] rfl ⟨.tmp rfl, trivial⟩ (to' := [(0, _)]) ⟨rfl, trivial⟩ ?_ ?_ rfl rfl rfl (.inl rfl)
  · rfl
  · rfl
theorem newM_ (c : Int) : SCon Try.prog 68 [SV.i c] [] (SV.p 107 0) [(107, poolM 107 ⟨[], [], capOf c, 0, 0⟩)] [107] := by
  refine spec_of [(0, _)] [] 8 Try.func68 rfl Try.ntmps68 rfl rfl rfl rfl (fun β W F => ?_)
  refine G.seq ?_
  refine G.rg ?_
  refine K.move (.inr rfl) (gd0 rfl) rfl rfl ?_
  refine K.nil ?_
  refine At.next ?_
  refine G.seq ?_
  refine G.rg ?_
  refine K.move (.inl rfl) (gd0 rfl) rfl rfl ?_
  refine K.bi2 (gd0 rfl) rfl rfl (fun _ _ => rfl) rfl ?_
  refine K.bi2 (gd0 rfl) rfl rfl (fun _ _ => rfl) rfl ?_
  refine K.build Y [(2, _)] [_, _, _, _, _] [((.tmp 5), _)] (gd0 rfl) (AllE.spec ⟨rfl, trivial⟩) rfl rfl t93 rfl rfl ?_
  refine K.box Y 107 [_, _, _, _, _] (gd0 rfl) rfl rfl rfl rfl rfl rfl ?_
  refine K.move (.inr rfl) (gd0 rfl) rfl rfl ?_
  refine K.nil ?_
  refine At.next ?_
  refine G.ret ?_
  refine At.ent [(107, _)] [(107, poolM 107 ⟨_, _, _, _, _⟩)] [] (pool_nil _ _ _) ⟨rfl, trivial⟩ rfl rfl rfl rfl ?_
  refine At.done Y [(.tmp 2, .c _)] rfl ⟨.tmp rfl, trivial⟩ (to' := [(107, _)]) ⟨rfl, trivial⟩ ?_ ?_ rfl rfl rfl (.inl rfl)
  · rfl
  · rfl
theorem newM (c : Int) (k : Nat) : SCon Try.prog 68 [SV.i c] [] (SV.p k 0) [(k, poolM k ⟨[], [], capOf c, 0, 0⟩)] [k] :=
  SCon.ren (rn [(107, k)]) (newM_ c) trivial ⟨pool_ren rfl, trivial⟩ (by simp) (by intro j hj hn; simp [SV.ks, Av.ks, Cl.ks, pool] at hj hn; exact absurd hj hn)
theorem putM_ {N : Nat} (p : Pool (TNode TMark TSwell)) (v : (TNode TMark TSwell)) (h : PoolOk N p) (hN : N < 4294967296) : SCon Try.prog 69 [SV.p 0 0, .a (avM v)] [(0, poolM 0 p)] (.tup [.agg [.i (p.put zNodeM v).1.1.1, .i (p.put zNodeM v).1.1.2], .c (.b (p.put zNodeM v).1.2)]) [(0, poolM 0 (p.put zNodeM v).2)] [] := by
  by_cases hh : p.held = p.cap
  · have e : p.put zNodeM v = (((0, 0), false), p) := by unfold Pool.put; rw [if_pos hh]
    rw [e]; exact putFM p v hh
  · obtain ⟨h1, h2, c, hc⟩ := h.next (z := zNodeM)
    have e : p.put zNodeM v = ((((p.next zNodeM).1, IntKind.i64.wrap (c.gen + 1)), true), (p.next zNodeM).2.lay (p.next zNodeM).1.toNat c v) := by unfold Pool.put; rw [if_neg hh, hc]
    have h3 : (p.next zNodeM).1 = ((p.next zNodeM).1.toNat : Int) := by omega
    have := putTM p v hh (Nat.lt_of_le_of_lt h.cells hN) (Nat.lt_of_le_of_lt h.free hN) h3 hc
    rw [← h3] at this
    rw [e]; exact this

theorem putM {N : Nat} (p : Pool (TNode TMark TSwell)) (v : (TNode TMark TSwell)) (h : PoolOk N p) (hN : N < 4294967296) (k : Nat) : SCon Try.prog 69 [SV.p k 0, .a (avM v)] [(k, poolM k p)] (.tup [.agg [.i (p.put zNodeM v).1.1.1, .i (p.put zNodeM v).1.1.2], .c (.b (p.put zNodeM v).1.2)]) [(k, poolM k (p.put zNodeM v).2)] [] :=
  SCon.ren (rn [(0, k)]) (putM_ p v h hN) ⟨pool_ren rfl, trivial⟩ ⟨pool_ren rfl, trivial⟩ (by simp) (by simp)

theorem getM' {N : Nat} (p : Pool (TNode TMark TSwell)) (i g : Int) (h : PoolOk N p) (hN : N < 4294967296) (k : Nat) : SCon Try.prog 65 [SV.p k 0, SV.agg [.i i, .i g]] [(k, poolM k p)] (.tup [avM (p.get zNodeM i g).1.1, .c (.b (p.get zNodeM i g).1.2)]) [(k, poolM k (p.get zNodeM i g).2)] [] :=
  SCon.ren (rn [(0, k)]) (getM p i g (Nat.lt_of_le_of_lt h.cells hN) (Nat.lt_of_le_of_lt h.free hN)) ⟨pool_ren rfl, trivial⟩ ⟨pool_ren rfl, trivial⟩ (by simp) (by simp)

theorem setM' {N : Nat} (p : Pool (TNode TMark TSwell)) (i g : Int) (v : (TNode TMark TSwell)) (h : PoolOk N p) (hN : N < 4294967296) (k : Nat) : SCon Try.prog 71 [SV.p k 0, SV.agg [.i i, .i g], .a (avM v)] [(k, poolM k p)] (SV.b (p.set i g v).1) [(k, poolM k (p.set i g v).2)] [] :=
  SCon.ren (rn [(0, k)]) (setM p i g v (Nat.lt_of_le_of_lt h.cells hN) (Nat.lt_of_le_of_lt h.free hN)) ⟨pool_ren rfl, trivial⟩ ⟨pool_ren rfl, trivial⟩ (by simp) (by simp)

theorem visitsM' (p : Pool (TNode TMark TSwell)) (k : Nat) : SCon Try.prog 52 [SV.p k 0] [(k, poolM k p)] (SV.i p.vis) [(k, poolM k p)] [] :=
  SCon.ren (rn [(0, k)]) (visitsM p) ⟨pool_ren rfl, trivial⟩ ⟨pool_ren rfl, trivial⟩ (by simp) (by simp)

end Go.Proofs.Ythcehagablploaa

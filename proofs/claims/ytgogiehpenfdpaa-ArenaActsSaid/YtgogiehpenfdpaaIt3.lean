/- ArenaItems, walked. Printed by a program of mine. -/
import Derived.KernelRfl
import Derived.Test.YtgogiehpenfdpaaLw3
import Derived.Test.YtgogiehpenfdpaaPi3
namespace Go.Proofs.Ytgogiehpenfdpaa
open Go Go.Proofs.Ytgogiehpenfdpaa.Sx
set_option linter.unusedVariables false
set_option linter.unusedSimpArgs false
theorem rest_con (a n : Int) (hn : 0 < n) (hb : n < 4611686018427387904) : SCon Try.prog 19 [SV.i a, SV.i n] [] (SV.i (a % n)) [] [] := by
  refine spec_of [(0, _), (1, _)] [] 12 Try.func19 rfl Try.ntmps19 rfl rfl rfl rfl (fun β W F => ?_)
  refine G.seq ?_
  refine G.rg ?_
  refine K.move (.inr rfl) (gd0 rfl) rfl rfl ?_
  refine K.nil ?_
  refine At.next ?_
  refine G.seq ?_
  refine G.rg ?_
  refine K.move (.inl rfl) (gd0 rfl) rfl rfl ?_
  refine K.move (.inl rfl) (gd0 rfl) rfl rfl ?_
  refine K.bin (gd0 rfl) rfl rfl (rem_run (by omega)) rfl ?_
  refine K.move (.inl rfl) (gd0 rfl) rfl rfl ?_
  refine K.bin (gd0 rfl) rfl rfl (fun _ => rfl) rfl ?_
  refine K.move (.inl rfl) (gd0 rfl) rfl rfl ?_
  refine K.bin (gd0 rfl) rfl rfl (rem_run (by omega)) rfl ?_
  refine K.move (.inr rfl) (gd0 rfl) rfl rfl ?_
  refine K.nil ?_
  refine At.next ?_
  refine G.ret ?_
  refine At.done Y [(.tmp 4, .c _)] rfl ⟨.tmp rfl, trivial⟩ (to' := []) trivial ?_ ?_ rfl rfl rfl (.inl rfl)
  · rfl
  · exact ret_i (rest_eq hn hb)
theorem items_con (n0 : Nat) (W0 : World) (s0 : Value) (b0 o0 : Nat) (l : List Itm) (at_ : Int) (hI : (hV 0 n0 W0 s0 b0 o0 l.length 2 (l.flatMap itemE)).Is itemE l) : SCon Try.prog 4 [SV.raw s0, SV.i at_] [(0, old n0 W0)] (SV.b true) [(0, old n0 W0)] [] := by
  refine spec_of [(0, _), (1, _)] [(0, _)] 151 Try.func4 rfl Try.ntmps4 rfl rfl rfl rfl (fun β W F => ?_)
  refine G.seq ?_
  refine G.rg ?_
  refine K.move (.inr rfl) (gd0 rfl) rfl rfl ?_
  refine K.nil ?_
  refine At.next ?_
  refine G.seq ?_
  refine G.seq ?_
  rcases Bool.eq_false_or_eq_true (decide ((l.length : Int) > 60)) with h2 | h2
  ·
    refine G.rg ?_
    refine K.call0 [(.func 11, _)] (awake03) (toFn_func (cf 11 rfl) rfl) (gd0 rfl) ⟨rfl, trivial⟩ trivial rfl rfl rfl rfl rfl rfl ?_
    refine K.un (gd0 rfl) rfl (fun _ => rfl) rfl ?_
    refine K.move (.inl rfl) (gd0 rfl) rfl rfl ?_
    refine K.move (.inl rfl) (gd1 rfl rfl rfl (rfl)) rfl rfl ?_
    refine K.lenL (hV 0 n0 W0 s0 b0 o0 l.length 2 (l.flatMap itemE)) hI (gd1 rfl rfl rfl (rfl)) rfl rfl Try.underlying33 rfl ?_
    refine K.bin (gd1 rfl rfl rfl (rfl)) rfl rfl (fun _ => rfl) rfl ?_
    refine K.pickF (gd0 rfl) rfl (rfl) rfl rfl ?_
    refine K.move (.inl rfl) (gd0 rfl) rfl rfl ?_
    refine K.skip rfl rfl rfl rfl (h2) rfl ?_
    refine K.skip rfl rfl rfl rfl (h2) rfl ?_
    refine K.skip rfl rfl rfl rfl (h2) rfl ?_
    refine K.pickT (gd0 rfl) rfl (h2) rfl rfl ?_
    refine K.nil ?_
    refine At.next ?_
    refine G.cond rfl (fun h3 => ?_) (fun h3 => ?_)
    ·
      refine G.seq ?_
      refine G.rg ?_
      refine K.call0 [(.func 11, _)] (awake03) (toFn_func (cf 11 rfl) rfl) (gd0 rfl) ⟨rfl, trivial⟩ trivial rfl rfl rfl rfl rfl rfl ?_
      refine K.move (.inr rfl) (gd0 rfl) rfl rfl ?_
      refine K.nil ?_
      refine At.next ?_
      refine G.ret ?_
      refine At.over_ret ?_
      refine At.done Y [(.tmp 4, .c _)] rfl ⟨.tmp rfl, trivial⟩ (to' := [(0, _)]) ⟨rfl, trivial⟩ ?_ ?_ rfl rfl rfl (.inl rfl)
      · rfl
      · first | rfl | exact ret_b (by simp [hfull, hdrop, hgone, hagain, hlast.1, hlast.2, hk])
    · cases h3
  ·
    refine G.rg ?_
    refine K.call0 [(.func 11, _)] (awake03) (toFn_func (cf 11 rfl) rfl) (gd0 rfl) ⟨rfl, trivial⟩ trivial rfl rfl rfl rfl rfl rfl ?_
    refine K.un (gd0 rfl) rfl (fun _ => rfl) rfl ?_
    refine K.move (.inl rfl) (gd0 rfl) rfl rfl ?_
    refine K.move (.inl rfl) (gd1 rfl rfl rfl (rfl)) rfl rfl ?_
    refine K.lenL (hV 0 n0 W0 s0 b0 o0 l.length 2 (l.flatMap itemE)) hI (gd1 rfl rfl rfl (rfl)) rfl rfl Try.underlying33 rfl ?_
    refine K.bin (gd1 rfl rfl rfl (rfl)) rfl rfl (fun _ => rfl) rfl ?_
    refine K.pickF (gd0 rfl) rfl (rfl) rfl rfl ?_
    refine K.move (.inl rfl) (gd0 rfl) rfl rfl ?_
    refine K.move (.inl rfl) (gd1 rfl rfl rfl (h2)) rfl rfl ?_
    refine K.lenL (hV 0 n0 W0 s0 b0 o0 l.length 2 (l.flatMap itemE)) hI (gd1 rfl rfl rfl (h2)) rfl rfl Try.underlying33 rfl ?_
    refine K.bin (gd1 rfl rfl rfl (h2)) rfl rfl (fun _ => rfl) rfl ?_
    refine K.pickF (gd0 rfl) rfl (h2) rfl rfl ?_
    refine K.nil ?_
    refine At.next ?_
    refine G.cond rfl (fun h4 => ?_) (fun h4 => ?_)
    ·
      refine G.seq ?_
      refine G.rg ?_
      refine K.call0 [(.func 11, _)] (awake03) (toFn_func (cf 11 rfl) rfl) (gd0 rfl) ⟨rfl, trivial⟩ trivial rfl rfl rfl rfl rfl rfl ?_
      refine K.move (.inr rfl) (gd0 rfl) rfl rfl ?_
      refine K.nil ?_
      refine At.next ?_
      refine G.ret ?_
      refine At.over_ret ?_
      refine At.done Y [(.tmp 4, .c _)] rfl ⟨.tmp rfl, trivial⟩ (to' := [(0, _)]) ⟨rfl, trivial⟩ ?_ ?_ rfl rfl rfl (.inl rfl)
      · rfl
      · first | rfl | exact ret_b (by simp [hfull, hdrop, hgone, hagain, hlast.1, hlast.2, hk])
    ·
      refine G.skip ?_
      refine At.next ?_
      refine G.seq ?_
      have h60 : l.length ≤ 60 := by simp [IntKind.wrap_i64] at * <;> omega
      have hpos : 0 < l.length := Nat.pos_of_ne_zero (fun h => by simp [h] at *)
      refine G.rg ?_
      refine K.move (.inl rfl) (gd0 rfl) rfl rfl ?_
      refine K.lenL (hV 0 n0 W0 s0 b0 o0 l.length 2 (l.flatMap itemE)) hI (gd0 rfl) rfl rfl Try.underlying33 rfl ?_
      refine K.call0 [(.func 17, _), ((.tmp 35), _)] (newT _ 136) (toFn_func (cf 17 rfl) rfl) (gd0 rfl) ⟨rfl, rfl, trivial⟩ trivial rfl rfl rfl rfl rfl rfl ?_
      refine K.move (.inr rfl) (gd0 rfl) rfl rfl ?_
      refine K.nil ?_
      refine At.next ?_
      refine G.seq ?_
      refine G.rg ?_
      refine K.nilRow 106 40 refE 2 (.inl rfl) (gd0 rfl) rfl rfl rfl ?_
      refine K.nil ?_
      refine At.next ?_
      refine G.seq ?_
      refine G.seq ?_
      refine G.rg ?_
      refine K.move (.inr rfl) (gd0 rfl) rfl rfl ?_
      refine K.nil ?_
      refine At.next ?_
      refine G.block ?_
      refine G.loop (σ := { i : Nat // i ≤ l.length }) (fun s => [(0, SV.raw s0), (1, SV.i at_), (5, SV.p 136 0), (6, .a (.c (.nv 50))), (7, SV.i s.1)]) (fun s => [(0, old n0 W0), (136, poolT 136 (itP l s.1)), (50, lrow 50 40 refE 2 (itR s.1))]) (fun s => l.length - s.1) ⟨0, Nat.zero_le _⟩ ?_ ?_
      · exact At.into [(50, 106)] [_, _, _] rfl ⟨rfl, rfl, rfl, rfl, rfl, trivial⟩ ⟨rfl, (fun _ => rfl), rfl, (by rw [itP_zero]; exact pool_ren rfl), rfl, (lrow_ren rfl), trivial⟩ rfl
      · intro s
        obtain ⟨i, hi⟩ := s
        simp only
        refine G.seq ?_
        refine G.seq ?_
        refine G.rg ?_
        refine K.move (.inl rfl) (gd0 rfl) rfl rfl ?_
        refine K.move (.inl rfl) (gd0 rfl) rfl rfl ?_
        refine K.lenL (hV 0 n0 W0 s0 b0 o0 l.length 2 (l.flatMap itemE)) hI (gd0 rfl) rfl rfl Try.underlying33 rfl ?_
        refine K.bin (gd0 rfl) rfl rfl (fun _ => rfl) rfl ?_
        refine K.nil ?_
        refine At.next ?_
        refine G.cond rfl (fun h5 => ?_) (fun h5 => ?_)
        ·
          refine G.skip ?_
          refine At.next ?_
          refine G.seq ?_
          refine G.block ?_
          refine G.seq ?_
          have hlt : i < l.length := by simp [IntKind.wrap_i64] at * <;> omega
          obtain ⟨x, hx⟩ : ∃ x, l[i]? = some x := ⟨_, List.getElem?_eq_getElem hlt⟩
          refine G.rg ?_
          refine K.move (.inl rfl) (gd0 rfl) rfl rfl ?_
          refine K.move (.inl rfl) (gd0 rfl) rfl rfl ?_
          refine K.move (.inl rfl) (gd0 rfl) rfl rfl ?_
          refine K.idxL (hV 0 n0 W0 s0 b0 o0 l.length 2 (l.flatMap itemE)) i hI hx rfl (gd0 rfl) rfl rfl rfl Try.underlying33 el33.size_run rfl ?_
          refine K.loadSL Y (hV 0 n0 W0 s0 b0 o0 l.length 2 (l.flatMap itemE)) i 0 [_, _] [_, _] hI hx (gd0 rfl) rfl rfl t37 rfl rfl rfl rfl rfl ?_
          refine K.call0 [(.func 18, _), ((.tmp 44), _), ((.tmp 48), _)] (putT _ _ (itP_ok l hi) (by omega) 136) (toFn_func (cf 18 rfl) rfl) (gd0 rfl) ⟨rfl, rfl, rfl, trivial⟩ ⟨rfl, trivial⟩ rfl rfl rfl rfl rfl rfl ?_
          refine K.move (.inl rfl) (gd0 rfl) rfl rfl ?_
          refine K.extract (gd0 rfl) rfl rfl rfl ?_
          refine K.extract (gd0 rfl) rfl rfl rfl ?_
          refine K.alloc Y 108 [_, _] (gd0 rfl) t40 rfl rfl rfl rfl rfl ?_
          refine K.store Y [_, _] (gd0 rfl) rfl rfl rfl t40 rfl rfl rfl rfl rfl ?_
          refine K.move (.inr rfl) (gd0 rfl) rfl rfl ?_
          refine K.nil ?_
          refine At.next ?_
          refine G.seq ?_
          refine G.seq ?_
          refine G.rg ?_
          refine K.move (.inl rfl) (gd0 rfl) rfl rfl ?_
          refine K.un (gd0 rfl) rfl (fun _ => rfl) rfl ?_
          refine K.move (.inl rfl) (gd0 rfl) rfl rfl ?_
          refine K.loadS Y [_, _] (gd1 rfl rfl rfl (by rw [itP_put l h60 hlt hx]; rfl)) rfl rfl t40 rfl rfl rfl ?_
          refine K.move (.inl rfl) (gd1 rfl rfl rfl (by rw [itP_put l h60 hlt hx]; rfl)) rfl rfl ?_
          refine K.build Y [(0, _), (1, _)] [_, _] [((.tmp 56), _), (_, _)] (gd1 rfl rfl rfl (by rw [itP_put l h60 hlt hx]; rfl)) (AllE.spec ⟨rfl, rfl, trivial⟩) rfl rfl t40 rfl rfl ?_
          refine K.eqS [_, _] [_, _] (gd1 rfl rfl rfl (by rw [itP_put l h60 hlt hx]; rfl)) rfl rfl cmp40 rfl (.inr rfl) _ rfl rfl ?_
          refine K.pickF (gd0 rfl) rfl (by rw [itP_put l h60 hlt hx]; rfl) rfl rfl ?_
          refine K.nil ?_
          refine At.next ?_
          refine G.cond rfl (fun h7 => ?_) (fun h7 => ?_)
          · exact absurd h7 (by simp [itP_put l h60 hlt hx])
          ·
            refine G.skip ?_
            refine At.next ?_
            refine G.rg ?_
            refine K.move (.inl rfl) (gd0 rfl) rfl rfl ?_
            refine K.loadS Y [_, _] (gd0 rfl) rfl rfl t40 rfl rfl rfl ?_
            refine K.buildL Y 162 [_] [(0, _)] [((.tmp 61), _)] refE_len (gd0 rfl) (AllE.spec ⟨rfl, trivial⟩) rfl rfl Try.underlying38 t40 rfl rfl rfl rfl rfl rfl rfl rfl ?_
            refine K.appendL 163 (lrowV 162 40 refE 2 _) _ el38 (lrowV_is refE_len (by decide)) refE_one (gd0 rfl) rfl rfl rfl rfl rfl (by simp [itR, maxLen]; omega) (by simp [itR]; omega) rfl rfl rfl rfl rfl rfl ?_
            refine K.move (.inr rfl) (gd0 rfl) rfl rfl ?_
            refine K.nil ?_
            refine At.block_normal ?_
            refine At.next ?_
            refine G.rg ?_
            refine K.move (.inl rfl) (gd0 rfl) rfl rfl ?_
            refine K.bin (gd0 rfl) rfl rfl (fun _ => rfl) rfl ?_
            refine K.move (.inr rfl) (gd0 rfl) rfl rfl ?_
            refine K.nil ?_
            exact At.again (σ := { i : Nat // i ≤ l.length }) (Fs := fun s => [(0, SV.raw s0), (1, SV.i at_), (5, SV.p 136 0), (6, .a (.c (.nv 50))), (7, SV.i s.1)]) (Tl := fun s => [(0, old n0 W0), (136, poolT 136 (itP l s.1)), (50, lrow 50 40 refE 2 (itR s.1))]) (μ := fun s => l.length - s.1) (s := ⟨i, hi⟩) ⟨i + 1, hlt⟩ [(50, 163)] [_, _, _] (by simp only; omega) rfl ⟨rfl, rfl, rfl, rfl, (congrArg (fun x => some (SV.i x)) (by simp [IntKind.wrap_i64] at * <;> omega)), trivial⟩ ⟨rfl, (fun _ => rfl), rfl, (by rw [itP_put l h60 hlt hx]; exact pool_ren rfl), rfl, (by rw [itR_succ, itP_put l h60 hlt hx]; exact lrow_ren rfl), trivial⟩ rfl
        ·
          refine G.exit ?_
          refine At.over_exit ?_
          refine At.over_exit ?_
          refine At.block_hit ?_
          refine At.next ?_
          refine G.seq ?_
          have hin : i = l.length := by simp [IntKind.wrap_i64] at * <;> omega
          subst hin
          obtain ⟨x0, hx0⟩ : ∃ x, l[0]? = some x := ⟨_, List.getElem?_eq_getElem hpos⟩
          refine G.rg ?_
          refine K.move (.inl rfl) (gd0 rfl) rfl rfl ?_
          refine K.move (.inl rfl) (gd0 rfl) rfl rfl ?_
          refine K.idxL (hV 0 n0 W0 s0 b0 o0 l.length 2 (l.flatMap itemE)) 0 hI hx0 rfl (gd0 rfl) rfl rfl rfl Try.underlying33 el33.size_run rfl ?_
          refine K.loadSL Y (hV 0 n0 W0 s0 b0 o0 l.length 2 (l.flatMap itemE)) 0 0 [_, _] [_, _] hI hx0 (gd0 rfl) rfl rfl t37 rfl rfl rfl rfl rfl ?_
          refine K.call0 [(.func 18, _), ((.tmp 65), _), ((.tmp 68), _)] (putT _ _ (itP_ok l hi) (by omega) 136) (toFn_func (cf 18 rfl) rfl) (gd0 rfl) ⟨rfl, rfl, rfl, trivial⟩ ⟨rfl, trivial⟩ rfl rfl rfl rfl rfl rfl ?_
          refine K.move (.inl rfl) (gd0 rfl) rfl rfl ?_
          refine K.extract (gd0 rfl) rfl rfl rfl ?_
          refine K.extract (gd0 rfl) rfl rfl rfl ?_
          refine K.alloc Y 110 [_, _] (gd0 rfl) t40 rfl rfl rfl rfl rfl ?_
          refine K.store Y [_, _] (gd0 rfl) rfl rfl rfl t40 rfl rfl rfl rfl rfl ?_
          refine K.move (.inr rfl) (gd0 rfl) rfl rfl ?_
          refine K.nil ?_
          refine At.next ?_
          refine G.seq ?_
          refine G.rg ?_
          refine K.move (.inl rfl) (gd0 rfl) rfl rfl ?_
          refine K.move (.inl rfl) (gd0 rfl) rfl rfl ?_
          refine K.lenL (hV 0 n0 W0 s0 b0 o0 l.length 2 (l.flatMap itemE)) hI (gd0 rfl) rfl rfl Try.underlying33 rfl ?_
          refine K.call0 [(.func 19, _), ((.tmp 72), _), ((.tmp 74), _)] (rest_con _ _ (by omega) (by omega)) (toFn_func (cf 19 rfl) rfl) (gd0 rfl) ⟨rfl, rfl, rfl, trivial⟩ trivial rfl rfl rfl rfl rfl rfl ?_
          refine K.move (.inr rfl) (gd0 rfl) rfl rfl ?_
          refine K.nil ?_
          refine At.next ?_
          refine G.seq ?_
          obtain ⟨k, hk⟩ : ∃ k : Nat, at_ % (l.length : Int) = k := ⟨(at_ % (l.length : Int)).toNat, by have := Int.emod_nonneg at_ (b := (l.length : Int)) (by omega); omega⟩
          have hkl : k < l.length := by have := Int.emod_lt_of_pos at_ (b := (l.length : Int)) (by omega); omega
          obtain ⟨xk, hxk⟩ : ∃ x, l[k]? = some x := ⟨_, List.getElem?_eq_getElem hkl⟩
          refine G.rg ?_
          refine K.move (.inl rfl) (gd0 rfl) rfl rfl ?_
          refine K.move (.inl rfl) (gd0 rfl) rfl rfl ?_
          refine K.move (.inl rfl) (gd0 rfl) rfl rfl ?_
          refine K.idxL (lrowV 50 40 refE 2 _) k (lrowV_is refE_len (by decide)) (itR_get hkl) hk (gd0 rfl) rfl rfl rfl Try.underlying38 el38.size_run rfl ?_
          refine K.loadSL Y (lrowV 50 40 refE 2 _) k 0 [_, _] [_, _] (lrowV_is refE_len (by decide)) (itR_get hkl) (gd0 rfl) rfl rfl t40 rfl rfl rfl rfl rfl ?_
          refine K.call0 [(.func 20, _), ((.tmp 77), _), ((.tmp 81), _)] (dropT' _ _ _ (PoolOk.put (itP_ok l hi)) (by omega) 136) (toFn_func (cf 20 rfl) rfl) (gd0 rfl) ⟨rfl, rfl, rfl, trivial⟩ ⟨rfl, trivial⟩ rfl rfl rfl rfl rfl rfl ?_
          refine K.move (.inl rfl) (gd0 rfl) rfl rfl ?_
          refine K.extract (gd0 rfl) rfl rfl rfl ?_
          refine K.extract (gd0 rfl) rfl rfl rfl ?_
          refine K.alloc Y 113 [_, _] (gd0 rfl) t37 rfl rfl rfl rfl rfl ?_
          refine K.store Y [_, _] (gd0 rfl) rfl rfl rfl t37 rfl rfl rfl rfl rfl ?_
          refine K.move (.inr rfl) (gd0 rfl) rfl rfl ?_
          refine K.nil ?_
          refine At.next ?_
          refine G.seq ?_
          refine G.rg ?_
          refine K.move (.inl rfl) (gd0 rfl) rfl rfl ?_
          refine K.move (.inl rfl) (gd0 rfl) rfl rfl ?_
          refine K.move (.inl rfl) (gd0 rfl) rfl rfl ?_
          refine K.idxL (lrowV 50 40 refE 2 _) k (lrowV_is refE_len (by decide)) (itR_get hkl) hk (gd0 rfl) rfl rfl rfl Try.underlying38 el38.size_run rfl ?_
          refine K.loadSL Y (lrowV 50 40 refE 2 _) k 0 [_, _] [_, _] (lrowV_is refE_len (by decide)) (itR_get hkl) (gd0 rfl) rfl rfl t40 rfl rfl rfl rfl rfl ?_
          refine K.call0 [(.func 21, _), ((.tmp 86), _), ((.tmp 90), _)] (getT' _ _ _ (PoolOk.drop (PoolOk.put (itP_ok l hi))) (by omega) 136) (toFn_func (cf 21 rfl) rfl) (gd0 rfl) ⟨rfl, rfl, rfl, trivial⟩ ⟨rfl, trivial⟩ rfl rfl rfl rfl rfl rfl ?_
          refine K.move (.inl rfl) (gd0 rfl) rfl rfl ?_
          refine K.extract (gd0 rfl) rfl rfl rfl ?_
          refine K.extract (gd0 rfl) rfl rfl rfl ?_
          refine K.alloc Y 115 [_, _] (gd0 rfl) t37 rfl rfl rfl rfl rfl ?_
          refine K.store Y [_, _] (gd0 rfl) rfl rfl rfl t37 rfl rfl rfl rfl rfl ?_
          refine K.move (.inr rfl) (gd0 rfl) rfl rfl ?_
          refine K.nil ?_
          refine At.next ?_
          refine G.seq ?_
          refine G.rg ?_
          refine K.move (.inl rfl) (gd0 rfl) rfl rfl ?_
          refine K.move (.inl rfl) (gd0 rfl) rfl rfl ?_
          refine K.idxL (hV 0 n0 W0 s0 b0 o0 l.length 2 (l.flatMap itemE)) 0 hI hx0 rfl (gd0 rfl) rfl rfl rfl Try.underlying33 el33.size_run rfl ?_
          refine K.loadSL Y (hV 0 n0 W0 s0 b0 o0 l.length 2 (l.flatMap itemE)) 0 0 [_, _] [_, _] hI hx0 (gd0 rfl) rfl rfl t37 rfl rfl rfl rfl rfl ?_
          refine K.call0 [(.func 18, _), ((.tmp 95), _), ((.tmp 98), _)] (putT _ _ (PoolOk.get (PoolOk.drop (PoolOk.put (itP_ok l hi)))) (by omega) 136) (toFn_func (cf 18 rfl) rfl) (gd0 rfl) ⟨rfl, rfl, rfl, trivial⟩ ⟨rfl, trivial⟩ rfl rfl rfl rfl rfl rfl ?_
          refine K.move (.inl rfl) (gd0 rfl) rfl rfl ?_
          refine K.extract (gd0 rfl) rfl rfl rfl ?_
          refine K.extract (gd0 rfl) rfl rfl rfl ?_
          refine K.alloc Y 117 [_, _] (gd0 rfl) t40 rfl rfl rfl rfl rfl ?_
          refine K.store Y [_, _] (gd0 rfl) rfl rfl rfl t40 rfl rfl rfl rfl rfl ?_
          refine K.move (.inr rfl) (gd0 rfl) rfl rfl ?_
          refine K.nil ?_
          refine At.next ?_
          refine G.seq ?_
          refine G.rg ?_
          refine K.move (.inl rfl) (gd0 rfl) rfl rfl ?_
          refine K.loadS Y [_, _] (gd0 rfl) rfl rfl t40 rfl rfl rfl ?_
          refine K.call0 [(.func 21, _), ((.tmp 103), _), ((.tmp 104), _)] (getT' _ _ _ (PoolOk.put (PoolOk.get (PoolOk.drop (PoolOk.put (itP_ok l hi))))) (by omega) 136) (toFn_func (cf 21 rfl) rfl) (gd0 rfl) ⟨rfl, rfl, rfl, trivial⟩ ⟨rfl, trivial⟩ rfl rfl rfl rfl rfl rfl ?_
          refine K.move (.inl rfl) (gd0 rfl) rfl rfl ?_
          refine K.extract (gd0 rfl) rfl rfl rfl ?_
          refine K.extract (gd0 rfl) rfl rfl rfl ?_
          refine K.alloc Y 119 [_, _] (gd0 rfl) t37 rfl rfl rfl rfl rfl ?_
          refine K.store Y [_, _] (gd0 rfl) rfl rfl rfl t37 rfl rfl rfl rfl rfl ?_
          refine K.move (.inr rfl) (gd0 rfl) rfl rfl ?_
          refine K.nil ?_
          refine At.next ?_
          refine G.seq ?_
          have hfull := it_full l x0 h60
          have hdrop := it_drop l h60 hxk
          have hgone := it_get l hkl
          have hagain := it_put l x0 h60 hkl
          have hlast := it_last l x0 hkl
          refine G.rd mixed ?_
          refine K.move (.inl rfl) (gd0 rfl) rfl rfl ?_
          refine K.un (gd0 rfl) rfl (fun _ => rfl) rfl ?_
          refine K.move (.inl rfl) (gd0 rfl) rfl rfl ?_
          refine K.move (.inl rfl) (gd1 rfl rfl rfl (by simp [hfull, hdrop, hgone, hagain, hlast.1, hlast.2, hk])) rfl rfl ?_
          refine K.pickT (gd0 rfl) rfl (by simp [hfull, hdrop, hgone, hagain, hlast.1, hlast.2, hk]) rfl rfl ?_
          refine K.move (.inl rfl) (gd0 rfl) rfl rfl ?_
          refine K.loadS Y [_, _] (gd1 rfl rfl rfl (by simp [hfull, hdrop, hgone, hagain, hlast.1, hlast.2, hk])) rfl rfl t37 rfl rfl rfl ?_
          refine K.move (.inl rfl) (gd1 rfl rfl rfl (by simp [hfull, hdrop, hgone, hagain, hlast.1, hlast.2, hk])) rfl rfl ?_
          refine K.move (.inl rfl) (gd1 rfl rfl rfl (by simp [hfull, hdrop, hgone, hagain, hlast.1, hlast.2, hk])) rfl rfl ?_
          refine K.idxL (hV 0 n0 W0 s0 b0 o0 l.length 2 (l.flatMap itemE)) k hI hxk hk (gd1 rfl rfl rfl (by simp [hfull, hdrop, hgone, hagain, hlast.1, hlast.2, hk])) rfl rfl rfl Try.underlying33 el33.size_run rfl ?_
          refine K.loadSL Y (hV 0 n0 W0 s0 b0 o0 l.length 2 (l.flatMap itemE)) k 0 [_, _] [_, _] hI hxk (gd1 rfl rfl rfl (by simp [hfull, hdrop, hgone, hagain, hlast.1, hlast.2, hk])) rfl rfl t37 rfl rfl rfl rfl rfl ?_
          refine K.eqS [_, _] [_, _] (gd1 rfl rfl rfl (by simp [hfull, hdrop, hgone, hagain, hlast.1, hlast.2, hk])) rfl rfl cmp37 rfl (.inl rfl) _ rfl rfl ?_
          refine K.pickT (gd0 rfl) rfl (by simp [hfull, hdrop, hgone, hagain, hlast.1, hlast.2, hk]) rfl rfl ?_
          refine K.move (.inl rfl) (gd0 rfl) rfl rfl ?_
          refine K.move (.inl rfl) (gd1 rfl rfl rfl (by simp [hfull, hdrop, hgone, hagain, hlast.1, hlast.2, hk])) rfl rfl ?_
          refine K.un (gd1 rfl rfl rfl (by simp [hfull, hdrop, hgone, hagain, hlast.1, hlast.2, hk])) rfl (fun _ => rfl) rfl ?_
          refine K.pickT (gd0 rfl) rfl (by simp [hfull, hdrop, hgone, hagain, hlast.1, hlast.2, hk]) rfl rfl ?_
          refine K.move (.inl rfl) (gd0 rfl) rfl rfl ?_
          refine K.move (.inl rfl) (gd1 rfl rfl rfl (by simp [hfull, hdrop, hgone, hagain, hlast.1, hlast.2, hk])) rfl rfl ?_
          refine K.pickT (gd0 rfl) rfl (by simp [hfull, hdrop, hgone, hagain, hlast.1, hlast.2, hk]) rfl rfl ?_
          refine K.move (.inl rfl) (gd0 rfl) rfl rfl ?_
          refine K.loadS Y [_, _] (gd1 rfl rfl rfl (by simp [hfull, hdrop, hgone, hagain, hlast.1, hlast.2, hk])) rfl rfl t40 rfl rfl rfl ?_
          refine K.move (.inl rfl) (gd1 rfl rfl rfl (by simp [hfull, hdrop, hgone, hagain, hlast.1, hlast.2, hk])) rfl rfl ?_
          refine K.build Y [(0, _), (1, _)] [_, _] [((.tmp 130), _), (_, _)] (gd1 rfl rfl rfl (by simp [hfull, hdrop, hgone, hagain, hlast.1, hlast.2, hk])) (AllE.spec ⟨rfl, rfl, trivial⟩) rfl rfl t40 rfl rfl ?_
          refine K.eqS [_, _] [_, _] (gd1 rfl rfl rfl (by simp [hfull, hdrop, hgone, hagain, hlast.1, hlast.2, hk])) rfl rfl cmp40 rfl (.inl rfl) _ rfl rfl ?_
          refine K.pickT (gd0 rfl) rfl (by simp [hfull, hdrop, hgone, hagain, hlast.1, hlast.2, hk]) rfl rfl ?_
          refine K.move (.inl rfl) (gd0 rfl) rfl rfl ?_
          refine K.move (.inl rfl) (gd1 rfl rfl rfl (by simp [hfull, hdrop, hgone, hagain, hlast.1, hlast.2, hk])) rfl rfl ?_
          refine K.pickT (gd0 rfl) rfl (by simp [hfull, hdrop, hgone, hagain, hlast.1, hlast.2, hk]) rfl rfl ?_
          refine K.move (.inl rfl) (gd0 rfl) rfl rfl ?_
          refine K.loadS Y [_, _] (gd1 rfl rfl rfl (by simp [hfull, hdrop, hgone, hagain, hlast.1, hlast.2, hk])) rfl rfl t37 rfl rfl rfl ?_
          refine K.move (.inl rfl) (gd1 rfl rfl rfl (by simp [hfull, hdrop, hgone, hagain, hlast.1, hlast.2, hk])) rfl rfl ?_
          refine K.idxL (hV 0 n0 W0 s0 b0 o0 l.length 2 (l.flatMap itemE)) 0 hI hx0 rfl (gd1 rfl rfl rfl (by simp [hfull, hdrop, hgone, hagain, hlast.1, hlast.2, hk])) rfl rfl rfl Try.underlying33 el33.size_run rfl ?_
          refine K.loadSL Y (hV 0 n0 W0 s0 b0 o0 l.length 2 (l.flatMap itemE)) 0 0 [_, _] [_, _] hI hx0 (gd1 rfl rfl rfl (by simp [hfull, hdrop, hgone, hagain, hlast.1, hlast.2, hk])) rfl rfl t37 rfl rfl rfl rfl rfl ?_
          refine K.eqS [_, _] [_, _] (gd1 rfl rfl rfl (by simp [hfull, hdrop, hgone, hagain, hlast.1, hlast.2, hk])) rfl rfl cmp37 rfl (.inl rfl) _ rfl rfl ?_
          refine K.pickT (gd0 rfl) rfl (by simp [hfull, hdrop, hgone, hagain, hlast.1, hlast.2, hk]) rfl rfl ?_
          refine K.move (.inl rfl) (gd0 rfl) rfl rfl ?_
          refine K.move (.inl rfl) (gd1 rfl rfl rfl (by simp [hfull, hdrop, hgone, hagain, hlast.1, hlast.2, hk])) rfl rfl ?_
          refine K.callR [(.func 22, _), ((.tmp 145), _)] (lenT' _ 136) (toFn_func (cf 22 rfl) rfl) (gd1 rfl rfl rfl (by simp [hfull, hdrop, hgone, hagain, hlast.1, hlast.2, hk])) ⟨rfl, rfl, trivial⟩ ⟨rfl, trivial⟩ rfl rfl rfl ?_
          refine K.move (.inl rfl) (gd1 rfl rfl rfl (by simp [hfull, hdrop, hgone, hagain, hlast.1, hlast.2, hk])) rfl rfl ?_
          refine K.lenL (hV 0 n0 W0 s0 b0 o0 l.length 2 (l.flatMap itemE)) hI (gd1 rfl rfl rfl (by simp [hfull, hdrop, hgone, hagain, hlast.1, hlast.2, hk])) rfl rfl Try.underlying33 rfl ?_
          refine K.bin (gd1 rfl rfl rfl (by simp [hfull, hdrop, hgone, hagain, hlast.1, hlast.2, hk])) rfl rfl (fun _ => rfl) rfl ?_
          refine K.pickT (gd0 rfl) rfl (by simp [hfull, hdrop, hgone, hagain, hlast.1, hlast.2, hk]) rfl rfl ?_
          refine K.move (.inr rfl) (gd0 rfl) rfl rfl ?_
          refine K.nil ?_
          refine ⟨by kernel_rfl, ?_⟩
          refine At.next ?_
          refine G.ret ?_
          refine At.done Y [(.tmp 4, .c _)] rfl ⟨.tmp rfl, trivial⟩ (to' := [(0, _)]) ⟨rfl, trivial⟩ ?_ ?_ rfl rfl rfl (.inl rfl)
          · rfl
          · first | rfl | exact ret_b (by simp [hfull, hdrop, hgone, hagain, hlast.1, hlast.2, hk])
end Go.Proofs.Ytgogiehpenfdpaa

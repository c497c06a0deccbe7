/- ArenaStale, walked. Printed by a program of mine. -/
import Derived.KernelRfl
import Derived.Test.YtgogiehpenfdpaaLw3
import Derived.Test.YtgogiehpenfdpaaPs3
namespace Go.Proofs.Ytgogiehpenfdpaa
open Go Go.Proofs.Ytgogiehpenfdpaa.Sx
set_option linter.unusedVariables false
set_option linter.unusedSimpArgs false
structure StS (l : List Int) where
  i : Nat
  p : Pool Int
  live : List Rf
  gone : List Rf
  hi : i ≤ l.length
  hv : StInv i p live gone
structure StJ (i : Nat) where
  p : Pool Int
  live : List Rf
  gone : List Rf
  hv : StInv (i + 1) p live gone
theorem stale_con (n0 : Nat) (W0 : World) (s0 : Value) (b0 o0 : Nat) (l : List Int) (hI : (hV 0 n0 W0 s0 b0 o0 l.length 1 (l.flatMap u8E)).Is u8E l) : SCon Try.prog 5 [SV.raw s0] [(0, old n0 W0)] (SV.b true) [(0, old n0 W0)] [] := by
  refine spec_of [(0, _)] [(0, _)] 152 Try.func5 rfl Try.ntmps5 rfl rfl rfl rfl (fun β W F => ?_)
  refine G.seq ?_
  refine G.rg ?_
  refine K.move (.inr rfl) (gd0 rfl) rfl rfl ?_
  refine K.nil ?_
  refine At.next ?_
  refine G.seq ?_
  refine G.seq ?_
  refine G.rg ?_
  refine K.call0 [(.func 11, _)] (awake03) (toFn_func (cf 11 rfl) rfl) (gd0 rfl) ⟨rfl, trivial⟩ trivial rfl rfl rfl rfl rfl rfl ?_
  refine K.un (gd0 rfl) rfl (fun _ => rfl) rfl ?_
  refine K.move (.inl rfl) (gd0 rfl) rfl rfl ?_
  refine K.move (.inl rfl) (gd1 rfl rfl rfl (rfl)) rfl rfl ?_
  refine K.lenL (hV 0 n0 W0 s0 b0 o0 l.length 1 (l.flatMap u8E)) hI (gd1 rfl rfl rfl (rfl)) rfl rfl Try.underlying47 rfl ?_
  refine K.bin (gd1 rfl rfl rfl (rfl)) rfl rfl (fun _ => rfl) rfl ?_
  refine K.pickF (gd0 rfl) rfl (rfl) rfl rfl ?_
  refine K.nil ?_
  refine At.next ?_
  refine G.cond rfl (fun h2 => ?_) (fun h2 => ?_)
  ·
    refine G.seq ?_
    refine G.rg ?_
    refine K.call0 [(.func 11, _)] (awake03) (toFn_func (cf 11 rfl) rfl) (gd0 rfl) ⟨rfl, trivial⟩ trivial rfl rfl rfl rfl rfl rfl ?_
    refine K.move (.inr rfl) (gd0 rfl) rfl rfl ?_
    refine K.nil ?_
    refine At.next ?_
    refine G.ret ?_
    refine At.over_ret ?_
    refine At.done Y [(.tmp 2, .c _)] rfl ⟨.tmp rfl, trivial⟩ (to' := [(0, _)]) ⟨rfl, trivial⟩ ?_ ?_ rfl rfl rfl (.inl rfl)
    · rfl
    · rfl
  ·
    refine G.skip ?_
    refine At.next ?_
    refine G.seq ?_
    have h60 : l.length ≤ 60 := by simp [IntKind.wrap_i64] at * <;> omega
    refine G.rg ?_
    refine K.call0 [(.func 23, _), (_, _)] (newI _ 129) (toFn_func (cf 23 rfl) rfl) (gd0 rfl) ⟨rfl, rfl, trivial⟩ trivial rfl rfl rfl rfl rfl rfl ?_
    refine K.move (.inr rfl) (gd0 rfl) rfl rfl ?_
    refine K.nil ?_
    refine At.next ?_
    refine G.seq ?_
    refine G.rg ?_
    refine K.nilRow 104 40 refE 2 (.inl rfl) (gd0 rfl) rfl rfl rfl ?_
    refine K.nilRow 105 40 refE 2 (.inl rfl) (gd0 rfl) rfl rfl rfl ?_
    refine K.nil ?_
    refine At.next ?_
    refine G.seq ?_
    refine G.seq ?_
    refine G.rg ?_
    refine K.move (.inr rfl) (gd0 rfl) rfl rfl ?_
    refine K.nil ?_
    refine At.next ?_
    refine G.block ?_
    refine G.loop (σ := StS l) (fun s => [(0, SV.raw s0), (3, SV.p 129 0), (4, .a (.c (.nv 50))), (5, .a (.c (.nv 51))), (6, SV.i s.i)]) (fun s => [(0, old n0 W0), (129, poolI 129 s.p), (50, lrow 50 40 refE 2 s.live), (51, lrow 51 40 refE 2 s.gone)]) (fun s => l.length - s.i) ⟨0, ⟨[], [], 4, 0, 0⟩, [], [], Nat.zero_le _, StInv.start⟩ ?_ ?_
    · exact At.into [(50, 104), (51, 105)] [_, _, _, _] rfl ⟨rfl, rfl, rfl, rfl, rfl, trivial⟩ ⟨rfl, (fun _ => rfl), rfl, (pool_ren rfl), rfl, (lrow_ren rfl), rfl, (lrow_ren rfl), trivial⟩ rfl
    · intro s
      obtain ⟨i, p, live, gone, hi, hv⟩ := s
      simp only
      refine G.seq ?_
      refine G.seq ?_
      refine G.rg ?_
      refine K.move (.inl rfl) (gd0 rfl) rfl rfl ?_
      refine K.move (.inl rfl) (gd0 rfl) rfl rfl ?_
      refine K.lenL (hV 0 n0 W0 s0 b0 o0 l.length 1 (l.flatMap u8E)) hI (gd0 rfl) rfl rfl Try.underlying47 rfl ?_
      refine K.bin (gd0 rfl) rfl rfl (fun _ => rfl) rfl ?_
      refine K.nil ?_
      refine At.next ?_
      refine G.cond rfl (fun h3 => ?_) (fun h3 => ?_)
      ·
        refine G.skip ?_
        refine At.next ?_
        refine G.seq ?_
        refine G.block ?_
        refine G.seqJ (σ := StJ i) (fun s => [(0, SV.raw s0), (3, SV.p 129 0), (4, .a (.c (.nv 60))), (5, .a (.c (.nv 61))), (6, SV.i i)]) (fun s => [(0, old n0 W0), (129, poolI 129 s.p), (60, lrow 60 40 refE 2 s.live), (61, lrow 61 40 refE 2 s.gone)]) ?_ ?_
        ·
          refine G.seq ?_
          have hlt : i < l.length := by simp [IntKind.wrap_i64] at * <;> omega
          obtain ⟨x, hx⟩ : ∃ x, l[i]? = some x := ⟨_, List.getElem?_eq_getElem hlt⟩
          refine G.rg ?_
          refine K.move (.inl rfl) (gd0 rfl) rfl rfl ?_
          refine K.move (.inl rfl) (gd0 rfl) rfl rfl ?_
          refine K.idxL (hV 0 n0 W0 s0 b0 o0 l.length 1 (l.flatMap u8E)) i hI hx rfl (gd0 rfl) rfl rfl rfl Try.underlying47 el47.size_run rfl ?_
          refine K.load1L Y (hV 0 n0 W0 s0 b0 o0 l.length 1 (l.flatMap u8E)) i 0 hI hx (gd0 rfl) rfl rfl t5 rfl rfl ?_
          refine K.bin (gd0 rfl) rfl rfl (rem_run (by omega)) rfl ?_
          refine K.bin (gd0 rfl) rfl rfl (fun _ => rfl) rfl ?_
          refine K.nil ?_
          refine At.next ?_
          refine G.cond rfl (fun h4 => ?_) (fun h4 => ?_)
          ·
            refine G.seq ?_
            refine G.rg ?_
            refine K.move (.inl rfl) (gd0 rfl) rfl rfl ?_
            refine K.move (.inl rfl) (gd0 rfl) rfl rfl ?_
            refine K.call0 [(.func 24, _), ((.tmp 43), _), ((.tmp 44), _)] (putI _ _ hv.ok (by omega) 129) (toFn_func (cf 24 rfl) rfl) (gd0 rfl) ⟨rfl, rfl, rfl, trivial⟩ ⟨rfl, trivial⟩ rfl rfl rfl rfl rfl rfl ?_
            refine K.move (.inl rfl) (gd0 rfl) rfl rfl ?_
            refine K.extract (gd0 rfl) rfl rfl rfl ?_
            refine K.extract (gd0 rfl) rfl rfl rfl ?_
            refine K.alloc Y 107 [_, _] (gd0 rfl) t40 rfl rfl rfl rfl rfl ?_
            refine K.store Y [_, _] (gd0 rfl) rfl rfl rfl t40 rfl rfl rfl rfl rfl ?_
            refine K.move (.inr rfl) (gd0 rfl) rfl rfl ?_
            refine K.nil ?_
            refine At.next ?_
            refine G.seq ?_
            refine G.seq ?_
            refine G.rg ?_
            refine K.move (.inl rfl) (gd0 rfl) rfl rfl ?_
            refine K.move (.inl rfl) (gd0 rfl) rfl rfl ?_
            refine K.lenL (lrowV 50 40 refE 2 _) (lrowV_is refE_len (by decide)) (gd0 rfl) rfl rfl Try.underlying38 rfl ?_
            refine K.bin (gd0 rfl) rfl rfl (fun _ => rfl) rfl ?_
            refine K.bin (gd0 rfl) rfl rfl (bq_neq Try.underlying4 _ _) rfl ?_
            refine K.nil ?_
            refine At.next ?_
            refine G.cond rfl (fun h5 => ?_) (fun h5 => ?_)
            · exact absurd h5 (by simp [stale_ok hv (i : Int) (by omega)])
            ·
              refine G.skip ?_
              refine At.next ?_
              refine G.seq ?_
              refine G.rg ?_
              refine K.move (.inl rfl) (gd0 rfl) rfl rfl ?_
              refine K.nil ?_
              refine At.next ?_
              refine G.cond rfl (fun h6 => ?_) (fun h6 => ?_)
              ·
                refine G.seq ?_
                refine G.seq ?_
                obtain ⟨n, gn, hp, hdiff, hv'⟩ := hv.put (i : Int) (by omega) (stale_room hv (i : Int) (by omega) h6)
                refine G.rg ?_
                refine K.move (.inr rfl) (gd0 rfl) rfl rfl ?_
                refine K.nil ?_
                refine At.next ?_
                refine G.block ?_
                refine G.loop (σ := { k : Nat // k ≤ live.length }) (fun s => [(0, SV.raw s0), (3, SV.p 129 0), (4, .a (.c (.nv 50))), (5, .a (.c (.nv 51))), (6, SV.i i), (7, SV.p 107 0), (9, SV.i s.1)]) (fun s => [(0, old n0 W0), (129, poolI 129 (p.put 0 (i : Int)).2), (50, lrow 50 40 refE 2 live), (51, lrow 51 40 refE 2 gone), (107, blk 107 [.i (p.put 0 (i : Int)).1.1.1, .i (p.put 0 (i : Int)).1.1.2] 40)]) (fun s => live.length - s.1) ⟨0, Nat.zero_le _⟩ ?_ ?_
                · exact At.into [] [_, _, _, _, _] rfl ⟨rfl, rfl, rfl, rfl, rfl, rfl, rfl, trivial⟩ ⟨rfl, (fun _ => rfl), rfl, (pool_ren rfl), rfl, (lrow_ren rfl), rfl, (lrow_ren rfl), rfl, (blk_ren rfl rfl), trivial⟩ rfl
                · intro s
                  obtain ⟨k, hk⟩ := s
                  simp only
                  have hll := hv.llen
                  refine G.seq ?_
                  refine G.seq ?_
                  refine G.rg ?_
                  refine K.move (.inl rfl) (gd0 rfl) rfl rfl ?_
                  refine K.move (.inl rfl) (gd0 rfl) rfl rfl ?_
                  refine K.lenL (lrowV 50 40 refE 2 _) (lrowV_is refE_len (by decide)) (gd0 rfl) rfl rfl Try.underlying38 rfl ?_
                  refine K.bin (gd0 rfl) rfl rfl (fun _ => rfl) rfl ?_
                  refine K.nil ?_
                  refine At.next ?_
                  refine G.cond rfl (fun h7 => ?_) (fun h7 => ?_)
                  ·
                    refine G.skip ?_
                    refine At.next ?_
                    refine G.seq ?_
                    refine G.block ?_
                    refine G.seq ?_
                    have hkl : k < live.length := by simp [IntKind.wrap_i64] at * <;> omega
                    obtain ⟨r, hr⟩ : ∃ r, live[k]? = some r := ⟨_, List.getElem?_eq_getElem hkl⟩
                    refine G.rd mixed ?_
                    refine K.move (.inl rfl) (gd0 rfl) rfl rfl ?_
                    refine K.move (.inl rfl) (gd0 rfl) rfl rfl ?_
                    refine K.idxL (lrowV 50 40 refE 2 _) k (lrowV_is refE_len (by decide)) hr rfl (gd0 rfl) rfl rfl rfl Try.underlying38 el38.size_run rfl ?_
                    refine K.fieldL Y (lrowV 50 40 refE 2 _) k 0 0 (lrowV_is refE_len (by decide)) hr (gd0 rfl) rfl rfl t40 rfl rfl rfl rfl ?_
                    refine K.load1L Y (lrowV 50 40 refE 2 _) k 0 (lrowV_is refE_len (by decide)) hr (gd0 rfl) rfl rfl t3 rfl rfl ?_
                    refine K.fieldAddr Y (gd0 rfl) rfl t40 rfl rfl ?_
                    refine K.load1 Y (gd0 rfl) rfl rfl t3 rfl rfl ?_
                    refine K.bin (gd0 rfl) rfl rfl (fun _ => rfl) rfl ?_
                    refine K.nil ?_
                    refine ⟨by kernel_rfl, ?_⟩
                    refine At.next ?_
                    refine G.cond rfl (fun h8 => ?_) (fun h8 => ?_)
                    · exact absurd h8 (by simp [hp]; exact hdiff _ (List.mem_of_getElem? hr))
                    ·
                      refine G.skip ?_
                      refine At.block_normal ?_
                      refine At.next ?_
                      refine G.rg ?_
                      refine K.move (.inl rfl) (gd0 rfl) rfl rfl ?_
                      refine K.bin (gd0 rfl) rfl rfl (fun _ => rfl) rfl ?_
                      refine K.move (.inr rfl) (gd0 rfl) rfl rfl ?_
                      refine K.nil ?_
                      exact At.again (σ := { k : Nat // k ≤ live.length }) (Fs := fun s => [(0, SV.raw s0), (3, SV.p 129 0), (4, .a (.c (.nv 50))), (5, .a (.c (.nv 51))), (6, SV.i i), (7, SV.p 107 0), (9, SV.i s.1)]) (Tl := fun s => [(0, old n0 W0), (129, poolI 129 (p.put 0 (i : Int)).2), (50, lrow 50 40 refE 2 live), (51, lrow 51 40 refE 2 gone), (107, blk 107 [.i (p.put 0 (i : Int)).1.1.1, .i (p.put 0 (i : Int)).1.1.2] 40)]) (μ := fun s => live.length - s.1) (s := ⟨k, hk⟩) ⟨k + 1, hkl⟩ [] [_, _, _, _, _] (by simp only; omega) rfl ⟨rfl, rfl, rfl, rfl, rfl, rfl, (congrArg (fun x => some (SV.i x)) (by simp [IntKind.wrap_i64] at * <;> omega)), trivial⟩ ⟨rfl, (fun _ => rfl), rfl, (pool_ren rfl), rfl, (lrow_ren rfl), rfl, (lrow_ren rfl), rfl, (blk_ren rfl rfl), trivial⟩ rfl
                  ·
                    refine G.exit ?_
                    refine At.over_exit ?_
                    refine At.over_exit ?_
                    refine At.block_hit ?_
                    refine At.next ?_
                    refine G.rg ?_
                    refine K.move (.inl rfl) (gd0 rfl) rfl rfl ?_
                    refine K.loadS Y [_, _] (gd0 rfl) rfl rfl t40 rfl rfl rfl ?_
                    refine K.buildL Y 170 [_] [(0, _)] [((.tmp 69), _)] refE_len (gd0 rfl) (AllE.spec ⟨rfl, trivial⟩) rfl rfl Try.underlying38 t40 rfl rfl rfl rfl rfl rfl rfl rfl ?_
                    refine K.appendL 171 (lrowV 170 40 refE 2 _) _ el38 (lrowV_is refE_len (by decide)) refE_one (gd0 rfl) rfl rfl rfl rfl rfl (by simp [maxLen]; have := hv.llen; have := hv.glen; omega) (by simp; have := hv.llen; have := hv.glen; omega) rfl rfl rfl rfl rfl rfl ?_
                    refine K.move (.inr rfl) (gd0 rfl) rfl rfl ?_
                    refine K.nil ?_
                    exact At.joined (σ := StJ i) (Fs := fun s => [(0, SV.raw s0), (3, SV.p 129 0), (4, .a (.c (.nv 60))), (5, .a (.c (.nv 61))), (6, SV.i i)]) (Tl := fun s => [(0, old n0 W0), (129, poolI 129 s.p), (60, lrow 60 40 refE 2 s.live), (61, lrow 61 40 refE 2 s.gone)]) ⟨_, _, _, hv'⟩ [(60, 171), (61, 51)] [_, _, _, _] rfl ⟨rfl, rfl, rfl, rfl, rfl, trivial⟩ ⟨rfl, (fun _ => rfl), rfl, (pool_ren rfl), rfl, (by rw [hp]; exact lrow_ren rfl), rfl, (lrow_ren rfl), trivial⟩ rfl
              ·
                refine G.skip ?_
                have hp := stale_full hv (i : Int) (by omega) h6
                exact At.joined (σ := StJ i) (Fs := fun s => [(0, SV.raw s0), (3, SV.p 129 0), (4, .a (.c (.nv 60))), (5, .a (.c (.nv 61))), (6, SV.i i)]) (Tl := fun s => [(0, old n0 W0), (129, poolI 129 s.p), (60, lrow 60 40 refE 2 s.live), (61, lrow 61 40 refE 2 s.gone)]) ⟨_, _, _, hv.mono⟩ [(60, 50), (61, 51)] [_, _, _, _] rfl ⟨rfl, rfl, rfl, rfl, rfl, trivial⟩ ⟨rfl, (fun _ => rfl), rfl, (by rw [hp]; exact pool_ren rfl), rfl, (lrow_ren rfl), rfl, (lrow_ren rfl), trivial⟩ rfl
          ·
            refine G.seq ?_
            refine G.rg ?_
            refine K.move (.inl rfl) (gd0 rfl) rfl rfl ?_
            refine K.lenL (lrowV 50 40 refE 2 _) (lrowV_is refE_len (by decide)) (gd0 rfl) rfl rfl Try.underlying38 rfl ?_
            refine K.bin (gd0 rfl) rfl rfl (fun _ => rfl) rfl ?_
            refine K.nil ?_
            refine At.next ?_
            refine G.cond rfl (fun h9 => ?_) (fun h9 => ?_)
            ·
              refine G.seq ?_
              have hll := hv.llen
              obtain ⟨k, hk, hkl⟩ := stale_ix x (n := live.length) (by have hh := h9; simp only [decide_eq_true_eq] at hh; omega)
              obtain ⟨r, hr⟩ : ∃ r, live[k]? = some r := ⟨_, List.getElem?_eq_getElem hkl⟩
              refine G.rg ?_
              refine K.move (.inl rfl) (gd0 rfl) rfl rfl ?_
              refine K.move (.inl rfl) (gd0 rfl) rfl rfl ?_
              refine K.idxL (hV 0 n0 W0 s0 b0 o0 l.length 1 (l.flatMap u8E)) i hI hx rfl (gd0 rfl) rfl rfl rfl Try.underlying47 el47.size_run rfl ?_
              refine K.load1L Y (hV 0 n0 W0 s0 b0 o0 l.length 1 (l.flatMap u8E)) i 0 hI hx (gd0 rfl) rfl rfl t5 rfl rfl ?_
              refine K.bin (gd0 rfl) rfl rfl (quo_run (by omega)) rfl ?_
              refine K.conv (gd0 rfl) rfl (cv_int (by rw [Try.underlying5]; rfl) Try.underlying3) rfl ?_
              refine K.move (.inl rfl) (gd0 rfl) rfl rfl ?_
              refine K.lenL (lrowV 50 40 refE 2 _) (lrowV_is refE_len (by decide)) (gd0 rfl) rfl rfl Try.underlying38 rfl ?_
              refine K.bin (gd0 rfl) rfl rfl (rem_run (by omega)) rfl ?_
              refine K.move (.inr rfl) (gd0 rfl) rfl rfl ?_
              refine K.nil ?_
              refine At.next ?_
              refine G.seq ?_
              refine G.rg ?_
              refine K.move (.inl rfl) (gd0 rfl) rfl rfl ?_
              refine K.move (.inl rfl) (gd0 rfl) rfl rfl ?_
              refine K.idxL (lrowV 50 40 refE 2 _) k (lrowV_is refE_len (by decide)) hr hk (gd0 rfl) rfl rfl rfl Try.underlying38 el38.size_run rfl ?_
              refine K.loadSL Y (lrowV 50 40 refE 2 _) k 0 [_, _] [_, _] (lrowV_is refE_len (by decide)) hr (gd0 rfl) rfl rfl t40 rfl rfl rfl rfl rfl ?_
              refine K.alloc Y 111 [_, _] (gd0 rfl) t40 rfl rfl rfl rfl rfl ?_
              refine K.store Y [_, _] (gd0 rfl) rfl rfl rfl t40 rfl rfl rfl rfl rfl ?_
              refine K.nil ?_
              refine At.next ?_
              refine G.seq ?_
              refine G.seq ?_
              refine G.rg ?_
              refine K.move (.inl rfl) (gd0 rfl) rfl rfl ?_
              refine K.loadS Y [_, _] (gd0 rfl) rfl rfl t40 rfl rfl rfl ?_
              refine K.call0 [(.func 25, _), ((.tmp 89), _), ((.tmp 90), _)] (dropI' _ _ _ hv.ok (by omega) 129) (toFn_func (cf 25 rfl) rfl) (gd0 rfl) ⟨rfl, rfl, rfl, trivial⟩ ⟨rfl, trivial⟩ rfl rfl rfl rfl rfl rfl ?_
              refine K.move (.inl rfl) (gd0 rfl) rfl rfl ?_
              refine K.extract (gd0 rfl) rfl rfl rfl ?_
              refine K.extract (gd0 rfl) rfl rfl rfl ?_
              refine K.move (.inr rfl) (gd0 rfl) rfl rfl ?_
              refine K.move (.inr rfl) (gd0 rfl) rfl rfl ?_
              refine K.nil ?_
              refine At.next ?_
              refine G.seq ?_
              refine G.rg ?_
              refine K.move (.inl rfl) (gd0 rfl) rfl rfl ?_
              refine K.un (gd0 rfl) rfl (fun _ => rfl) rfl ?_
              refine K.nil ?_
              refine At.next ?_
              refine G.cond rfl (fun h10 => ?_) (fun h10 => ?_)
              · exact absurd h10 (by simp [(hv.drop (by omega) hr).1])
              ·
                refine G.skip ?_
                refine At.next ?_
                refine G.seq ?_
                refine G.rg ?_
                refine K.move (.inl rfl) (gd0 rfl) rfl rfl ?_
                refine K.loadS Y [_, _] (gd0 rfl) rfl rfl t40 rfl rfl rfl ?_
                refine K.buildL Y 198 [_] [(0, _)] [((.tmp 97), _)] refE_len (gd0 rfl) (AllE.spec ⟨rfl, trivial⟩) rfl rfl Try.underlying38 t40 rfl rfl rfl rfl rfl rfl rfl rfl ?_
                refine K.appendL 199 (lrowV 198 40 refE 2 _) _ el38 (lrowV_is refE_len (by decide)) refE_one (gd0 rfl) rfl rfl rfl rfl rfl (by simp [maxLen]; have := hv.llen; have := hv.glen; omega) (by simp; have := hv.llen; have := hv.glen; omega) rfl rfl rfl rfl rfl rfl ?_
                refine K.move (.inr rfl) (gd0 rfl) rfl rfl ?_
                refine K.nil ?_
                refine At.next ?_
                refine G.seq ?_
                refine G.rg ?_
                refine K.nilRow 114 40 refE 2 (.inl rfl) (gd0 rfl) rfl rfl rfl ?_
                refine K.nil ?_
                refine At.next ?_
                refine G.seq ?_
                refine G.rg ?_
                refine K.move (.inl rfl) (gd0 rfl) rfl rfl ?_
                refine K.move (.inl rfl) (gd0 rfl) rfl rfl ?_
                refine K.move (.inl rfl) (gd0 rfl) rfl rfl ?_
                refine K.partL 0 k (gd0 rfl) rfl .no (.at_ rfl (by rw [hk]; omega) (by rw [hk]; rfl)) rfl Try.underlying38 el38.size_run (Nat.zero_le _) (Nat.le_of_lt hkl) rfl ?_
                refine K.appendL 204 (lsubV 50 40 refE 2 _ 0 k) _ el38 (lsubV_is refE_len (by decide) (Nat.zero_le _) (Nat.le_of_lt hkl)) refE_one (gd0 rfl) rfl rfl rfl rfl rfl (by simp [maxLen]; have := hv.llen; have := hv.glen; omega) (by simp; have := hv.llen; have := hv.glen; omega) rfl rfl rfl rfl rfl rfl ?_
                refine K.move (.inr rfl) (gd0 rfl) rfl rfl ?_
                refine K.nil ?_
                refine At.next ?_
                refine G.rg ?_
                refine K.move (.inl rfl) (gd0 rfl) rfl rfl ?_
                refine K.move (.inl rfl) (gd0 rfl) rfl rfl ?_
                refine K.move (.inl rfl) (gd0 rfl) rfl rfl ?_
                refine K.bin (gd0 rfl) rfl rfl (fun _ => rfl) rfl ?_
                refine K.partL (k + 1) live.length (gd0 rfl) rfl (.at_ rfl (by rw [hk, IntKind.wrap_i64]; omega) (by rw [hk, IntKind.wrap_i64]; omega)) .no rfl Try.underlying38 el38.size_run hkl (Nat.le_refl _) rfl ?_
                refine K.appendL 210 (lsubV 50 40 refE 2 _ (k + 1) live.length) _ el38 (lsubV_is refE_len (by decide) hkl (Nat.le_refl _)) refE_one (gd0 rfl) rfl rfl rfl rfl rfl (by simp [maxLen]; have := hv.llen; have := hv.glen; omega) (by simp; have := hv.llen; have := hv.glen; omega) rfl rfl rfl rfl rfl rfl ?_
                refine K.move (.inr rfl) (gd0 rfl) rfl rfl ?_
                refine K.nil ?_
                exact At.joined (σ := StJ i) (Fs := fun s => [(0, SV.raw s0), (3, SV.p 129 0), (4, .a (.c (.nv 60))), (5, .a (.c (.nv 61))), (6, SV.i i)]) (Tl := fun s => [(0, old n0 W0), (129, poolI 129 s.p), (60, lrow 60 40 refE 2 s.live), (61, lrow 61 40 refE 2 s.gone)]) ⟨_, _, _, (hv.drop (by omega) hr).2⟩ [(60, 210), (61, 199)] [_, _, _, _] rfl ⟨rfl, rfl, rfl, rfl, rfl, trivial⟩ ⟨rfl, (fun _ => rfl), rfl, (pool_ren rfl), rfl, (by rw [part_eq hkl]; exact lrow_ren rfl), rfl, (lrow_ren rfl), trivial⟩ rfl
            ·
              refine G.skip ?_
              exact At.joined (σ := StJ i) (Fs := fun s => [(0, SV.raw s0), (3, SV.p 129 0), (4, .a (.c (.nv 60))), (5, .a (.c (.nv 61))), (6, SV.i i)]) (Tl := fun s => [(0, old n0 W0), (129, poolI 129 s.p), (60, lrow 60 40 refE 2 s.live), (61, lrow 61 40 refE 2 s.gone)]) ⟨_, _, _, hv.mono⟩ [(60, 50), (61, 51)] [_, _, _, _] rfl ⟨rfl, rfl, rfl, rfl, rfl, trivial⟩ ⟨rfl, (fun _ => rfl), rfl, (pool_ren rfl), rfl, (lrow_ren rfl), rfl, (lrow_ren rfl), trivial⟩ rfl
        · intro s
          obtain ⟨p2, live2, gone2, hv2⟩ := s
          simp only
          have hlt : i < l.length := by simp [IntKind.wrap_i64] at * <;> omega
          refine G.seq ?_
          refine G.seq ?_
          refine G.rg ?_
          refine K.move (.inr rfl) (gd0 rfl) rfl rfl ?_
          refine K.nil ?_
          refine At.next ?_
          refine G.block ?_
          refine G.loop (σ := { k : Nat // k ≤ gone2.length }) (fun s => [(0, SV.raw s0), (3, SV.p 129 0), (4, .a (.c (.nv 60))), (5, .a (.c (.nv 61))), (6, SV.i i), (15, SV.i s.1)]) (fun s => [(0, old n0 W0), (129, poolI 129 p2), (60, lrow 60 40 refE 2 live2), (61, lrow 61 40 refE 2 gone2)]) (fun s => gone2.length - s.1) ⟨0, Nat.zero_le _⟩ ?_ ?_
          · exact At.into [] [_, _, _, _] rfl ⟨rfl, rfl, rfl, rfl, rfl, rfl, trivial⟩ ⟨rfl, (fun _ => rfl), rfl, (pool_ren rfl), rfl, (lrow_ren rfl), rfl, (lrow_ren rfl), trivial⟩ rfl
          · intro s
            obtain ⟨k, hk⟩ := s
            simp only
            have hll := hv2.glen
            refine G.seq ?_
            refine G.seq ?_
            refine G.rg ?_
            refine K.move (.inl rfl) (gd0 rfl) rfl rfl ?_
            refine K.move (.inl rfl) (gd0 rfl) rfl rfl ?_
            refine K.lenL (lrowV 61 40 refE 2 _) (lrowV_is refE_len (by decide)) (gd0 rfl) rfl rfl Try.underlying38 rfl ?_
            refine K.bin (gd0 rfl) rfl rfl (fun _ => rfl) rfl ?_
            refine K.nil ?_
            refine At.next ?_
            refine G.cond rfl (fun h11 => ?_) (fun h11 => ?_)
            ·
              refine G.skip ?_
              refine At.next ?_
              refine G.seq ?_
              refine G.block ?_
              refine G.seq ?_
              have hkl : k < gone2.length := by simp [IntKind.wrap_i64] at * <;> omega
              obtain ⟨r, hr⟩ : ∃ r, gone2[k]? = some r := ⟨_, List.getElem?_eq_getElem hkl⟩
              have hdead := hv2.dead (List.mem_of_getElem? hr)
              have hget : p2.get 0 r.1 r.2 = ((0, false), p2) := by unfold Pool.get; rw [hdead]
              have hset : p2.set r.1 r.2 1 = (false, p2) := by unfold Pool.set; rw [hdead]
              refine G.rg ?_
              refine K.move (.inl rfl) (gd0 rfl) rfl rfl ?_
              refine K.move (.inl rfl) (gd0 rfl) rfl rfl ?_
              refine K.move (.inl rfl) (gd0 rfl) rfl rfl ?_
              refine K.idxL (lrowV 61 40 refE 2 _) k (lrowV_is refE_len (by decide)) hr rfl (gd0 rfl) rfl rfl rfl Try.underlying38 el38.size_run rfl ?_
              refine K.loadSL Y (lrowV 61 40 refE 2 _) k 0 [_, _] [_, _] (lrowV_is refE_len (by decide)) hr (gd0 rfl) rfl rfl t40 rfl rfl rfl rfl rfl ?_
              refine K.call0 [(.func 26, _), ((.tmp 118), _), ((.tmp 122), _)] (getI' _ _ _ hv2.ok (by omega) 129) (toFn_func (cf 26 rfl) rfl) (gd0 rfl) ⟨rfl, rfl, rfl, trivial⟩ ⟨rfl, trivial⟩ rfl rfl rfl rfl rfl rfl ?_
              refine K.move (.inl rfl) (gd0 rfl) rfl rfl ?_
              refine K.extract (gd0 rfl) rfl rfl rfl ?_
              refine K.extract (gd0 rfl) rfl rfl rfl ?_
              refine K.move (.inr rfl) (gd0 rfl) rfl rfl ?_
              refine K.move (.inr rfl) (gd0 rfl) rfl rfl ?_
              refine K.nil ?_
              refine At.next ?_
              refine G.seq ?_
              refine G.rg ?_
              refine K.move (.inl rfl) (gd0 rfl) rfl rfl ?_
              refine K.move (.inl rfl) (gd0 rfl) rfl rfl ?_
              refine K.move (.inl rfl) (gd1 rfl rfl rfl (by simp [hget])) rfl rfl ?_
              refine K.move (.inl rfl) (gd1 rfl rfl rfl (by simp [hget])) rfl rfl ?_
              refine K.move (.inl rfl) (gd1 rfl rfl rfl (by simp [hget])) rfl rfl ?_
              refine K.idxL (lrowV 61 40 refE 2 _) k (lrowV_is refE_len (by decide)) hr rfl (gd1 rfl rfl rfl (by simp [hget])) rfl rfl rfl Try.underlying38 el38.size_run rfl ?_
              refine K.loadSL Y (lrowV 61 40 refE 2 _) k 0 [_, _] [_, _] (lrowV_is refE_len (by decide)) hr (gd1 rfl rfl rfl (by simp [hget])) rfl rfl t40 rfl rfl rfl rfl rfl ?_
              refine K.call0 [(.func 27, _), ((.tmp 128), _), ((.tmp 132), _), (_, _)] (setI' _ _ _ _ (PoolOk.get hv2.ok) (by omega) 129) (toFn_func (cf 27 rfl) rfl) (gd1 rfl rfl rfl (by simp [hget])) ⟨rfl, rfl, rfl, rfl, trivial⟩ ⟨rfl, trivial⟩ rfl rfl rfl rfl rfl rfl ?_
              refine K.pickF (gd0 rfl) rfl (by simp [hget]) rfl rfl ?_
              refine K.nil ?_
              refine At.next ?_
              refine G.cond rfl (fun h13 => ?_) (fun h13 => ?_)
              · exact absurd h13 (by simp [hget, hset])
              ·
                refine G.skip ?_
                refine At.block_normal ?_
                refine At.next ?_
                refine G.rg ?_
                refine K.move (.inl rfl) (gd0 rfl) rfl rfl ?_
                refine K.bin (gd0 rfl) rfl rfl (fun _ => rfl) rfl ?_
                refine K.move (.inr rfl) (gd0 rfl) rfl rfl ?_
                refine K.nil ?_
                exact At.again (σ := { k : Nat // k ≤ gone2.length }) (Fs := fun s => [(0, SV.raw s0), (3, SV.p 129 0), (4, .a (.c (.nv 60))), (5, .a (.c (.nv 61))), (6, SV.i i), (15, SV.i s.1)]) (Tl := fun s => [(0, old n0 W0), (129, poolI 129 p2), (60, lrow 60 40 refE 2 live2), (61, lrow 61 40 refE 2 gone2)]) (μ := fun s => gone2.length - s.1) (s := ⟨k, hk⟩) ⟨k + 1, hkl⟩ [] [_, _, _, _] (by simp only; omega) rfl ⟨rfl, rfl, rfl, rfl, rfl, (congrArg (fun x => some (SV.i x)) (by simp [IntKind.wrap_i64] at * <;> omega)), trivial⟩ ⟨rfl, (fun _ => rfl), rfl, (by rw [hget, hset]; exact pool_ren rfl), rfl, (lrow_ren rfl), rfl, (lrow_ren rfl), trivial⟩ rfl
            ·
              refine G.exit ?_
              refine At.over_exit ?_
              refine At.over_exit ?_
              refine At.block_hit ?_
              refine At.next ?_
              refine G.seq ?_
              refine G.rg ?_
              refine K.move (.inr rfl) (gd0 rfl) rfl rfl ?_
              refine K.nil ?_
              refine At.next ?_
              refine G.block ?_
              refine G.loop (σ := { k : Nat × Int // k.1 ≤ live2.length }) (fun s => [(0, SV.raw s0), (3, SV.p 129 0), (4, .a (.c (.nv 60))), (5, .a (.c (.nv 61))), (6, SV.i i), (18, SV.i s.1.1)]) (fun s => [(0, old n0 W0), (129, poolI 129 (p2.at s.1.2)), (60, lrow 60 40 refE 2 live2), (61, lrow 61 40 refE 2 gone2)]) (fun s => live2.length - s.1.1) ⟨(0, p2.vis), Nat.zero_le _⟩ ?_ ?_
              · exact At.into [] [_, _, _, _] rfl ⟨rfl, rfl, rfl, rfl, rfl, rfl, trivial⟩ ⟨rfl, (fun _ => rfl), rfl, (pool_ren rfl), rfl, (lrow_ren rfl), rfl, (lrow_ren rfl), trivial⟩ rfl
              · intro s
                obtain ⟨⟨k, vs⟩, hk⟩ := s
                simp only
                have hll := hv2.llen
                refine G.seq ?_
                refine G.seq ?_
                refine G.rg ?_
                refine K.move (.inl rfl) (gd0 rfl) rfl rfl ?_
                refine K.move (.inl rfl) (gd0 rfl) rfl rfl ?_
                refine K.lenL (lrowV 60 40 refE 2 _) (lrowV_is refE_len (by decide)) (gd0 rfl) rfl rfl Try.underlying38 rfl ?_
                refine K.bin (gd0 rfl) rfl rfl (fun _ => rfl) rfl ?_
                refine K.nil ?_
                refine At.next ?_
                refine G.cond rfl (fun h14 => ?_) (fun h14 => ?_)
                ·
                  refine G.skip ?_
                  refine At.next ?_
                  refine G.seq ?_
                  refine G.block ?_
                  refine G.seq ?_
                  have hkl : k < live2.length := by simp [IntKind.wrap_i64] at * <;> omega
                  obtain ⟨r, hr⟩ : ∃ r, live2[k]? = some r := ⟨_, List.getElem?_eq_getElem hkl⟩
                  obtain ⟨c, hc⟩ := (hv2.at vs).alive (List.mem_of_getElem? hr)
                  have hget : (p2.at vs).get 0 r.1 r.2 = ((c.v, true), p2.at (IntKind.i64.wrap (vs + 1))) := by unfold Pool.get; rw [hc]; rfl
                  refine G.rg ?_
                  refine K.move (.inl rfl) (gd0 rfl) rfl rfl ?_
                  refine K.move (.inl rfl) (gd0 rfl) rfl rfl ?_
                  refine K.move (.inl rfl) (gd0 rfl) rfl rfl ?_
                  refine K.idxL (lrowV 60 40 refE 2 _) k (lrowV_is refE_len (by decide)) hr rfl (gd0 rfl) rfl rfl rfl Try.underlying38 el38.size_run rfl ?_
                  refine K.loadSL Y (lrowV 60 40 refE 2 _) k 0 [_, _] [_, _] (lrowV_is refE_len (by decide)) hr (gd0 rfl) rfl rfl t40 rfl rfl rfl rfl rfl ?_
                  refine K.call0 [(.func 26, _), ((.tmp 142), _), ((.tmp 146), _)] (getI' _ _ _ (hv2.at vs).ok (by omega) 129) (toFn_func (cf 26 rfl) rfl) (gd0 rfl) ⟨rfl, rfl, rfl, trivial⟩ ⟨rfl, trivial⟩ rfl rfl rfl rfl rfl rfl ?_
                  refine K.move (.inl rfl) (gd0 rfl) rfl rfl ?_
                  refine K.extract (gd0 rfl) rfl rfl rfl ?_
                  refine K.extract (gd0 rfl) rfl rfl rfl ?_
                  refine K.move (.inr rfl) (gd0 rfl) rfl rfl ?_
                  refine K.move (.inr rfl) (gd0 rfl) rfl rfl ?_
                  refine K.nil ?_
                  refine At.next ?_
                  refine G.seq ?_
                  refine G.rg ?_
                  refine K.move (.inl rfl) (gd0 rfl) rfl rfl ?_
                  refine K.un (gd0 rfl) rfl (fun _ => rfl) rfl ?_
                  refine K.nil ?_
                  refine At.next ?_
                  refine G.cond rfl (fun h15 => ?_) (fun h15 => ?_)
                  · exact absurd h15 (by simp [hget])
                  ·
                    refine G.skip ?_
                    refine At.block_normal ?_
                    refine At.next ?_
                    refine G.rg ?_
                    refine K.move (.inl rfl) (gd0 rfl) rfl rfl ?_
                    refine K.bin (gd0 rfl) rfl rfl (fun _ => rfl) rfl ?_
                    refine K.move (.inr rfl) (gd0 rfl) rfl rfl ?_
                    refine K.nil ?_
                    exact At.again (σ := { k : Nat × Int // k.1 ≤ live2.length }) (Fs := fun s => [(0, SV.raw s0), (3, SV.p 129 0), (4, .a (.c (.nv 60))), (5, .a (.c (.nv 61))), (6, SV.i i), (18, SV.i s.1.1)]) (Tl := fun s => [(0, old n0 W0), (129, poolI 129 (p2.at s.1.2)), (60, lrow 60 40 refE 2 live2), (61, lrow 61 40 refE 2 gone2)]) (μ := fun s => live2.length - s.1.1) (s := ⟨(k, vs), hk⟩) ⟨(k + 1, IntKind.i64.wrap (vs + 1)), hkl⟩ [] [_, _, _, _] (by simp only; omega) rfl ⟨rfl, rfl, rfl, rfl, rfl, (congrArg (fun x => some (SV.i x)) (by simp [IntKind.wrap_i64] at * <;> omega)), trivial⟩ ⟨rfl, (fun _ => rfl), rfl, (by rw [hget]; exact pool_ren rfl), rfl, (lrow_ren rfl), rfl, (lrow_ren rfl), trivial⟩ rfl
                ·
                  refine G.exit ?_
                  refine At.over_exit ?_
                  refine At.over_exit ?_
                  refine At.block_hit ?_
                  refine At.block_normal ?_
                  refine At.next ?_
                  refine G.rg ?_
                  refine K.move (.inl rfl) (gd0 rfl) rfl rfl ?_
                  refine K.bin (gd0 rfl) rfl rfl (fun _ => rfl) rfl ?_
                  refine K.move (.inr rfl) (gd0 rfl) rfl rfl ?_
                  refine K.nil ?_
                  exact At.again (σ := StS l) (Fs := fun s => [(0, SV.raw s0), (3, SV.p 129 0), (4, .a (.c (.nv 50))), (5, .a (.c (.nv 51))), (6, SV.i s.i)]) (Tl := fun s => [(0, old n0 W0), (129, poolI 129 s.p), (50, lrow 50 40 refE 2 s.live), (51, lrow 51 40 refE 2 s.gone)]) (μ := fun s => l.length - s.i) (s := ⟨i, p, live, gone, hi, hv⟩) ⟨i + 1, _, live2, gone2, hlt, hv2.at vs⟩ [(50, 60), (51, 61)] [_, _, _, _] (by simp only; omega) rfl ⟨rfl, rfl, rfl, rfl, (congrArg (fun x => some (SV.i x)) (by simp [IntKind.wrap_i64] at * <;> omega)), trivial⟩ ⟨rfl, (fun _ => rfl), rfl, (pool_ren rfl), rfl, (lrow_ren rfl), rfl, (lrow_ren rfl), trivial⟩ rfl
      ·
        refine G.exit ?_
        refine At.over_exit ?_
        refine At.over_exit ?_
        refine At.block_hit ?_
        refine At.next ?_
        refine G.seq ?_
        refine G.rg ?_
        refine K.move (.inr rfl) (gd0 rfl) rfl rfl ?_
        refine K.nil ?_
        refine At.next ?_
        refine G.ret ?_
        refine At.done Y [(.tmp 2, .c _)] rfl ⟨.tmp rfl, trivial⟩ (to' := [(0, _)]) ⟨rfl, trivial⟩ ?_ ?_ rfl rfl rfl (.inl rfl)
        · rfl
        · rfl
end Go.Proofs.Ytgogiehpenfdpaa

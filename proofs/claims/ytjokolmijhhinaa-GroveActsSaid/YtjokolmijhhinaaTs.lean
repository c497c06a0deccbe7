/- The law of acts on groves. -/
import Derived.Test.YtjokolmijhhinaaTe
import Derived.Test.YtjokolmijhhinaaTr
namespace Go.Proofs.Ytjokolmijhhinaa
open Go Go.Proofs.Ytjokolmijhhinaa.Sx
set_option linter.unusedVariables false
set_option linter.unusedSimpArgs false

theorem MadeL.step {p : PN TL07Elem TTide} {r : TRef} {l : List TL07Elem} {c : Int} {B : Nat} {i : Nat} (h : MadeL p r l c i i) (hi : i < 1000000) : MadeL p r l c (i + 1) (i + 1) := by
  obtain ⟨t, hP, hr, ht⟩ := h.gr.ex
  exact ⟨⟨⟨t, hP.mono (by omega) (by omega), hr, ht⟩, h.gr.sorted, h.gr.good, h.gr.cap⟩, h.cap, by have := h.len; omega⟩
theorem acts_loop (acts : List TL07Act) (hs : SmallActs acts) (hK : ∀ x ∈ acts, x.k < 9223372036854775808) (c : Int) (hc : c ≤ 16777216) : ∀ (d i n : Nat) {p : PN TL07Elem TTide} {r : TRef} {l : List TL07Elem}, i + d = acts.length → d < n → MadeL p r l c i i →
    Lw07_GroveActs.l0 K1 acts n (c, p, r.index, r.gen, rl l, (i : Int)) = some (Sum.inr ())
  | d, i, 0, _, _, _, _, h, _ => by omega
  | 0, i, n + 1, p, r, l, hi, _, h => by
    simp only [Lw07_GroveActs.l0]
    rw [dec_nlt (by omega)]; rfl
  | d + 1, i, n + 1, p, r, l, hi, hn, h => by
    have h60 := hs.2
    obtain ⟨x, hx, _⟩ := drop_cons (l := acts) (i := i) (by omega)
    have hxw := hs.1 x (List.mem_of_getElem? hx)
    have hxk := hK x (List.mem_of_getElem? hx)
    have hll := h.len
    have hl : l.length < 1000000 := by omega
    have hr0 : (TRef.mk r.index r.gen) = r := rfl
    have ih := fun {p : PN TL07Elem TTide} {r : TRef} {l : List TL07Elem} => acts_loop acts hs hK c hc d (i + 1) n (p := p) (r := r) (l := l) (by omega) (by omega)
    have hal : Lw07_alike.f K1 p (TRef.mk r.index r.gen) (rl l) = some true := alike_ok h.gr hl
    have hst := ih (h.step (B := 0) (by omega))
    simp only [Lw07_GroveActs.l0]
    rw [dec_lt (by omega)]
    simp only [cond_true, atL_nat hx, Option.bind_some, Rest_eq K1 (show (0 : Int) < 5 by decide) (by decide), w64_succ (i := i) (by omega)]
    have m0 := Int.emod_nonneg x.kind (show (5 : Int) ≠ 0 by decide)
    have m1 := Int.emod_lt_of_pos x.kind (show (0 : Int) < 5 by decide)
    generalize x.kind % 5 = y at *
    by_cases y0 : y = 0
    · subst y0
      obtain ⟨f, r', p', l', q1, q2, q3, q4, q5⟩ := grPut h.gr hc h.cap ⟨x.k, x.w⟩ hxw (by omega) (by omega)
      have q1' : Tree_Put.f opsE K1 p ⟨r.index, r.gen⟩ ⟨x.k, x.w⟩ = some (f, r', p') := q1
      have ha : Lw07_alike.f K1 p' r' (rl l') = some true := alike_ok q3 (by omega)
      simp only [beq_self_eq_true, cond_true, q1', q2, Option.bind_some, Bool.not_true, cond_false, ha]
      exact ih ⟨q3, q4, by omega⟩
    · have e0 : (y == 0) = false := by simpa using y0
      simp only [e0, cond_false]
      by_cases y1 : y = 1
      · subst y1
        obtain ⟨z, f, r', p', l', q1, q2, q3, q4⟩ := grDrop h.gr ⟨x.k, 0⟩ (by omega)
        have q1' : Tree_Drop.f opsE K1 p ⟨r.index, r.gen⟩ ⟨x.k, 0⟩ = some (z, f, r', p') := q1
        have q2' : R07_Drop.f K1 (rl l) x.k = some (rl l', toR z, f) := q2
        have ha : Lw07_alike.f K1 p' r' (rl l') = some true := alike_ok q3 (by omega)
        have b1 : (z.k != (toR z).k) = false := by simp [toR]
        have b2 : (z.w != (toR z).w) = false := by simp [toR]
        have hcap := h.cap
        simp only [beq_self_eq_true, cond_true, q1', q2', Option.bind_some, Bool.not_true, cond_false, ha, b1, b2]
        have hg : GrE p' r' l' (capOf c) (i + 1) := by
          obtain ⟨t, hP, hr, ht⟩ := q3.ex
          exact ⟨⟨t, hP.mono (by omega) (by omega), hr, ht⟩, q3.sorted, q3.good, q3.cap⟩
        exact ih ⟨hg, by omega, by omega⟩
      · have e1 : (y == 1) = false := by simpa using y1
        simp only [e1, cond_false]
        by_cases y2 : y = 2
        · subst y2
          obtain ⟨a, m, b, hcut, q1⟩ := h.gr.find okE (by decide) ⟨x.k, 0⟩ hl
          have q1' : Tree_Find.f opsE K1 p ⟨r.index, r.gen⟩ ⟨x.k, 0⟩ = _ := q1
          have q2 : R07_Drop.f K1 (rl l) x.k = _ := refDrop hcut hl
          cases m with
          | nil =>
            have b1 : ((zTL07Elem : TL07Elem).k != (zTR07Elem : TR07Elem).k) = false := rfl
            have b2 : ((zTL07Elem : TL07Elem).w != (zTR07Elem : TR07Elem).w) = false := rfl
            simp only [beq_self_eq_true, cond_true, q1', q2, Option.bind_some, Bool.not_true, cond_false, b1, b2, hal]
            exact hst
          | cons z ms =>
            have b1 : (z.k != (toR z).k) = false := by simp [toR]
            have b2 : (z.w != (toR z).w) = false := by simp [toR]
            simp only [beq_self_eq_true, cond_true, q1', q2, Option.bind_some, Bool.not_true, cond_false, b1, b2, hal]
            exact hst
        · have e2 : (y == 2) = false := by simpa using y2
          simp only [e2, cond_false]
          by_cases y3 : y = 3
          · subst y3
            obtain ⟨a, m, b, hcut, q1⟩ := h.gr.rank okE (by decide) ⟨x.k, 0⟩ hl
            have q1' : Tree_Rank.f opsE K1 p ⟨r.index, r.gen⟩ ⟨x.k, 0⟩ = _ := q1
            have q2 : R07_Rank.f K1 (rl l) x.k = _ := refRank hcut hl
            have b1 : ((a.length : Int) != (a.length : Int)) = false := by simp
            simp only [beq_self_eq_true, cond_true, q1', q2, Option.bind_some, Bool.not_true, cond_false, b1, hal]
            exact hst
          · have y4 : y = 4 := by omega
            subst y4
            have e3 : ((4 : Int) == 3) = false := rfl
            have q1 : Tree_At.f opsE K1 p ⟨r.index, r.gen⟩ x.k = _ := h.gr.at okE (by decide) x.k hxk hl
            simp only [e3, cond_false, beq_self_eq_true, cond_true, q1, Option.bind_some]
            by_cases k0 : x.k < 0
            · have k1 : ¬ x.k ≥ 0 := by omega
              simp only [k0, k1, if_true, decide_false, cond_false, beq_self_eq_true, Bool.not_true, Bool.and_self, Bool.not_false, cond_true, hal, Option.bind_some]
              exact hst
            · have k1 : x.k ≥ 0 := by omega
              simp only [k0, k1, if_false, decide_true, cond_true]
              obtain ⟨j, hj⟩ : ∃ j : Nat, x.k = j := ⟨x.k.toNat, by omega⟩
              rw [hj, Int.toNat_natCast]
              by_cases k2 : j < l.length
              · obtain ⟨z, hz, _⟩ := drop_cons k2
                have hz' : (rl l)[j]? = some (toR z) := by rw [List.getElem?_map, hz]; rfl
                have b1 : (z.k != (toR z).k) = false := by simp [toR]
                have b2 : (z.w != (toR z).w) = false := by simp [toR]
                simp only [hz, List.length_map]
                rw [dec_lt k2]
                simp only [beq_self_eq_true, Bool.not_true, cond_false, cond_true, atL_nat hz', Option.bind_some, b1, b2, hal]
                exact hst
              · have hz : l[j]? = none := List.getElem?_eq_none (by omega)
                simp only [hz, List.length_map]
                rw [dec_nlt (by omega)]
                simp only [beq_self_eq_true, Bool.not_true, cond_false, Bool.and_self, Bool.not_false, cond_true, hal, Option.bind_some]
                exact hst
theorem kwf_lt {n : Int} (h : kwf .i64 n) : n < 9223372036854775808 := by
  unfold kwf Lit.wf at h
  have h2 := of_decide_eq_true ((Bool.and_eq_true _ _).mp h).2
  have h3 : IntKind.i64.max = 9223372036854775807 := by decide
  omega
theorem GroveActs_pure (most : Int) (acts : List TL07Act) (hK : ∀ x ∈ acts, x.k < 9223372036854775808) : Lw07_GroveActs.f K1 most acts = some true := by
  unfold Lw07_GroveActs.f
  simp only [awake07, Option.bind_some, Bool.not_true, cond_false]
  rcases small07 acts with h | ⟨h, hs⟩
  · simp only [h, Option.bind_some, Bool.not_false, cond_true, Sum.elim_inl]
  · have hc : (w64 most).tmod 50 ≤ 16777216 := by
      have := Int.tmod_lt_of_pos (w64 most) (show (0 : Int) < 50 by decide); omega
    have h60 := hs.2
    generalize (w64 most).tmod 50 = c at *
    have h0 : MadeL (⟨[], [], capOf c, 0, 0⟩ : PN TL07Elem TTide) zTRef [] c 0 0 := ⟨Gr.new _ _ (by decide), by simp only [List.length_nil]; unfold capOf; split <;> split <;> omega, Nat.le_refl _⟩
    have hlt : acts.length < K1 := by unfold K1; omega
    have e := acts_loop acts hs hK c hc acts.length 0 K1 (Nat.zero_add _) hlt h0
    replace e : Lw07_GroveActs.l0 K1 acts K1 (c, (⟨[], [], capOf c, 0, 0⟩ : PN TL07Elem TTide), zTRef.index, zTRef.gen, ([] : List TR07Elem), 0) = some (Sum.inr ()) := e
    simp only [h, Option.bind_some, Bool.not_true, cond_false, Sum.elim_inr, Tree_New.f, e]
end Go.Proofs.Ytjokolmijhhinaa

/- Tokens opened and closed; names changed; loops; the old world; parts of slices. -/
import Derived.Test.YtheopcgjdfckmaaSxg
import Derived.Deep.LoopGhost
namespace Go.Proofs.Ytheopcgjdfckmaa.Sx
open Go
set_option linter.unusedVariables false
set_option linter.unusedSimpArgs false

/-! ### 14. One set of tokens for another -/
/-- Where those of ti hold, those of to hold, under names some of which are new; no block comes to it. -/
def Ent (ti to : List (Nat × Tok)) (fr : List Nat) : Prop :=
  ∀ (β : Env) (w : World) (F : Foot), Star (ti.map fun p => p.2.r β) w F → ∃ β' : Env, (∀ k, k ∉ fr → β' k = β k) ∧ ∃ F' : Foot, (∀ b, F' b → F b) ∧ Star (to.map fun p => p.2.r β') w F'

theorem Ent.holds {C : Ctx} {fs : FL} {L : TL} {ti to : List (Nat × Tok)} {fr : List Nat} {a : Act} {w : World} (he : Ent ti to fr) (htk : AllT L ti) (hnd : ndB (ti.map (·.1)) = true) (hnd' : ndB (to.map (·.1)) = true)
    (hout : to.all (fun p => (ti.map (·.1)).contains p.1 || (lkT L p.1).isNone) = true) (hfr : frB fr fs (ti.map (fun p => (p.1, none)) ++ L) = true) (h : Holds C (lk fs) (lkT L) a w) :
    Holds C (lk fs) (lkT (to.map (fun p => (p.1, some p.2)) ++ (ti.map (fun p => (p.1, none)) ++ L))) a w := by
  obtain ⟨f1, f2, f3⟩ := frB_spec hfr
  obtain ⟨β, F, hβ, hfs, hlt, hn, hd, hs, hF, hM⟩ := h
  obtain ⟨F1, F2, e, dj, h1, h2⟩ := hs.takes htk.spec (ndB_spec hnd)
  obtain ⟨β', hb, F1', hsub, h3⟩ := he β w F1 h1
  have e1 : ∀ (l : List (Nat × Tok)) (L : TL), lkT (l.map (fun p => (p.1, none)) ++ L) = takes (lkT L) (l.map (·.1)) := by
    intro l
    induction l with
    | nil => intro L; rfl
    | cons p l ih =>
      intro L
      rw [List.map_cons, List.cons_append, lkT_cons, ih, List.map_cons, takes]
      funext k
      rw [takes_eq]
      by_cases hk : k = p.1
      · subst hk; simp [upd, takes_eq]
      · simp [upd, takes_eq, hk]
  have e2 : ∀ (l : List (Nat × Tok)) (L : TL), lkT (l.map (fun p => (p.1, some p.2)) ++ L) = puts (lkT L) l := by
    intro l
    induction l with
    | nil => intro L; rfl
    | cons p l ih =>
      intro L
      rw [List.map_cons, List.cons_append, lkT_cons, ih, puts]
  refine ⟨β', fun b => F1' b ∨ F2 b, fun k hk => ?_, fun t x hx => ?_, hlt, hn, hd, ?_, ?_, hM⟩
  · rw [hb k (fun hm => Nat.lt_irrefl _ (Nat.lt_of_lt_of_le hk (f1 k hm))), hβ k hk]
  · rw [hfs t x hx]
    exact SV.den_congr x (fun k hk => (hb k (f2 t x hx k hk)).symm)
  · rw [e2, e1]
    have h4 : StarM (takes (lkT L) (ti.map (·.1))) β' w F2 := h2.env (fun k t hk j hj => (hb j (f3 k t (by rw [e1]; exact hk) j hj)).symm)
    refine StarM.puts h4 (fun p hp => ?_) (ndB_spec hnd') h3 (fun b hb hb2 => dj b (hsub b hb) hb2) (fun b => Iff.rfl)
    have := List.all_eq_true.1 hout p hp
    rw [Bool.or_eq_true] at this
    rcases this with h | h
    · exact takes_mem _ _ (by simpa using h)
    · exact takes_none _ _ (by simpa using h)
  · rintro b (hb' | hb')
    · exact hF b ((e b).2 (.inl (hsub b hb')))
    · exact hF b ((e b).2 (.inr hb'))

section
variable {C : Ctx} {P : Program} {fs fs' : FL} {L L' : TL} {Q : Exit → Act → World → Prop}
theorem G.ent (ti to : List (Nat × Tok)) (fr : List Nat) {c : Code} (he : Ent ti to fr) (htk : AllT L ti) (hnd : ndB (ti.map (·.1)) = true) (hnd' : ndB (to.map (·.1)) = true)
    (hout : to.all (fun p => (ti.map (·.1)).contains p.1 || (lkT L p.1).isNone) = true) (hfr : frB fr fs (ti.map (fun p => (p.1, none)) ++ L) = true)
    (h : G C P fs (to.map (fun p => (p.1, some p.2)) ++ (ti.map (fun p => (p.1, none)) ++ L)) c Q) : G C P fs L c Q := fun a w hh => h a w (he.holds htk hnd hnd' hout hfr hh)
theorem At.ent (ti to : List (Nat × Tok)) (fr : List Nat) {R : Act → World → Prop} (he : Ent ti to fr) (htk : AllT L ti) (hnd : ndB (ti.map (·.1)) = true) (hnd' : ndB (to.map (·.1)) = true)
    (hout : to.all (fun p => (ti.map (·.1)).contains p.1 || (lkT L p.1).isNone) = true) (hfr : frB fr fs (ti.map (fun p => (p.1, none)) ++ L) = true)
    (h : At C fs (to.map (fun p => (p.1, some p.2)) ++ (ti.map (fun p => (p.1, none)) ++ L)) R) : At C fs L R := fun a w hh => h a w (he.holds htk hnd hnd' hout hfr hh)
end

/-! ### 15. Names changed -/
/-- New name to old name. -/
def rn (ρ : List (Nat × Nat)) (k : Nat) : Nat := match lk ρ k with
  | some j => j
  | none => k
def Cl.ren (f : Nat → Nat) : Cl → Cl
  | .v x => .v x
  | .p k off => .p (f k) off
  | .sl k off len cap => .sl (f k) off len cap
  | .fn g ks => .fn g (ks.map f)
  | .nv k => .nv (f k)
  | .rp k off => .rp (f k) off
  | .rs k l h s => .rs (f k) l h s
def Av.ren (f : Nat → Nat) : Av → Av
  | .c x => .c (x.ren f)
  | .agg l => .agg (l.map (Cl.ren f))
def SV.ren (f : Nat → Nat) : SV → SV
  | .a x => .a (x.ren f)
  | .tup l => .tup (l.map (Av.ren f))
  | .ifc t x => .ifc t (x.ren f)
theorem Cl.den_ren (f : Nat → Nat) (β : Env) : ∀ x : Cl, (x.ren f).den β = x.den (fun k => β (f k))
  | .v _ => rfl
  | .p _ _ => rfl
  | .sl _ _ _ _ => rfl
  | .fn g ks => by simp [Cl.ren, Cl.den, Function.comp_def]
  | .nv _ => rfl
  | .rp _ _ => rfl
  | .rs _ _ _ _ => rfl
theorem Av.den_ren (f : Nat → Nat) (β : Env) : ∀ x : Av, (x.ren f).den β = x.den (fun k => β (f k))
  | .c x => Cl.den_ren f β x
  | .agg l => by simp [Av.ren, Av.den, Function.comp_def, Cl.den_ren]
theorem SV.den_ren (f : Nat → Nat) (β : Env) : ∀ x : SV, (x.ren f).den β = x.den (fun k => β (f k))
  | .a x => Av.den_ren f β x
  | .tup l => by simp [SV.ren, SV.den, Function.comp_def, Av.den_ren]
  | .ifc t x => by simp [SV.ren, SV.den, Av.den_ren]
/-- t' under the new names is t under the old ones. -/
def RenT (f : Nat → Nat) (t' t : Tok) : Prop := ∀ β : Env, t'.r (fun k => β (f k)) = t.r β
theorem blk_ren {f : Nat → Nat} {k k' : Nat} {cs cs' : List Cl} {T : TypeId} (hk : f k' = k) (hc : cs'.map (Cl.ren f) = cs) : RenT f (blk k' cs' T) (blk k cs T) := by
  intro β
  subst hk hc
  simp [blk, Function.comp_def, Cl.den_ren]
theorem row_ren {f : Nat → Nat} {k k' : Nat} {T size n : Nat} {xs : List Value} (hk : f k' = k) : RenT f (row k' T size n xs) (row k T size n xs) := by
  intro β; subst hk; rfl

/-- Slots of the new state: as they stood. -/
def RenF (f : Nat → Nat) (fs : FL) : FL → Prop
  | [] => True
  | p :: l => lk fs p.1 = some (p.2.ren f) ∧ RenF f fs l
/-- Tokens of the new state: as they stood. -/
def RenL (f : Nat → Nat) (L : TL) : List (Nat × Tok) → List Tok → Prop
  | [], [] => True
  | p :: l, t :: ts => lkT L (f p.1) = some t ∧ RenT f p.2 t ∧ RenL f L l ts
  | _, _ => False
theorem RenF.spec {f : Nat → Nat} {fs : FL} : ∀ {l : FL}, RenF f fs l → ∀ t x, lk l t = some x → lk fs t = some (x.ren f)
  | p :: l, h, t, x, hx => by
    have hm := lk_mem hx
    clear hx
    have key : ∀ {l : FL}, RenF f fs l → (t, x) ∈ l → lk fs t = some (x.ren f) := by
      intro l
      induction l with
      | nil => intro _ h; cases h
      | cons q l ih =>
        intro h hm
        rcases List.mem_cons.1 hm with rfl | hm
        · exact h.1
        · exact ih h.2 hm
    exact key h hm
theorem RenL.spec {f : Nat → Nat} {L : TL} : ∀ {l : List (Nat × Tok)} {ts : List Tok}, RenL f L l ts → ∀ k t', (k, t') ∈ l → ∃ t, lkT L (f k) = some t ∧ RenT f t' t
  | p :: l, t :: ts, h, k, t', hm => by
    rcases List.mem_cons.1 hm with rfl | hm
    · exact ⟨t, h.1, h.2.1⟩
    · exact RenL.spec h.2.2 k t' hm
  | [], _, _, _, _, hm => by cases hm
  | _ :: _, [], h, _, _, _ => h.elim

theorem inj_of_nodup {f : Nat → Nat} : ∀ {l : List Nat}, (l.map f).Nodup → ∀ {j k : Nat}, j ∈ l → k ∈ l → f j = f k → j = k
  | x :: l, h, j, k, hj, hk, e => by
    simp only [List.map_cons, List.nodup_cons] at h
    rcases List.mem_cons.1 hj with hj1 | hj1 <;> rcases List.mem_cons.1 hk with hk1 | hk1
    · rw [hj1, hk1]
    · exact absurd (by rw [← hj1, e]; exact List.mem_map_of_mem hk1) h.1
    · exact absurd (by rw [← hk1, ← e]; exact List.mem_map_of_mem hj1) h.1
    · exact inj_of_nodup h.2 hj1 hk1 e
/-- A state under new names, some slots and tokens let go. -/
theorem Holds.ren {C : Ctx} {fs fs' : FL} {L : TL} {tl : List (Nat × Tok)} {ts : List Tok} (ρ : List (Nat × Nat)) {a : Act} {w : World} (hρ : ρ.all (fun p => Nat.ble 20 p.1) = true) (hf : RenF (rn ρ) fs fs') (hl : RenL (rn ρ) L tl ts) (hnd : ndB ((tl.map (·.1)).map (rn ρ)) = true)
    (h : Holds C (lk fs) (lkT L) a w) : Holds C (lk fs') (lkT (tl.map fun p => (p.1, some p.2))) a w := by
  obtain ⟨β, F, hβ, hfs, hlt, hn, hd, hs, hF, hM⟩ := h
  have hk20 : ∀ k, k < 20 → rn ρ k = k := by
    intro k hk
    unfold rn
    cases hl : lk ρ k with
    | none => rfl
    | some j =>
      have := List.all_eq_true.1 hρ _ (lk_mem hl)
      have := Nat.le_of_ble_eq_true this
      simp at this; omega
  have hndl := ndB_spec hnd
  have hnd0 : (tl.map (·.1)).Nodup := List.Pairwise.of_map _ (fun a b h e => h (by rw [e])) hndl
  have hmem : ∀ k t', lkT (tl.map fun p => (p.1, some p.2)) k = some t' → (k, t') ∈ tl := by
    intro k t' h
    have := lkT_mem h
    simp only [List.mem_map, Prod.mk.injEq, Option.some.injEq] at this
    obtain ⟨⟨a, b⟩, hm, h1, h2⟩ := this
    subst h1 h2; exact hm
  have hinj : ∀ j k, (∃ t, lkT (tl.map fun p => (p.1, some p.2)) j = some t) → (∃ t, lkT (tl.map fun p => (p.1, some p.2)) k = some t) → rn ρ j = rn ρ k → j = k := by
    rintro j k ⟨tj, hj⟩ ⟨tk, hk⟩ he
    have hj' := List.mem_map_of_mem (f := (·.1)) (hmem j tj hj)
    have hk' := List.mem_map_of_mem (f := (·.1)) (hmem k tk hk)
    exact inj_of_nodup hndl hj' hk' he
  obtain ⟨φ, h1, h2, h3, h4⟩ := hs
  refine ⟨fun k => β (rn ρ k), fun b => ∃ k, (lkT (tl.map fun p => (p.1, some p.2)) k).isSome ∧ φ (rn ρ k) b, fun k hk => ?_, fun t x hx => ?_, fun t ht => ?_, hn, hd, ⟨fun k b => (lkT (tl.map fun p => (p.1, some p.2)) k).isSome ∧ φ (rn ρ k) b, ?_, ?_, ?_, fun b => Iff.rfl⟩, ?_, hM⟩
  · show β (rn ρ k) = _
    rw [hk20 k hk, hβ k hk]
  · rw [hfs t _ (hf.spec t x hx), SV.den_ren]
  · obtain ⟨x, hx⟩ := Option.isSome_iff_exists.1 ht
    exact hlt t (by rw [hf.spec t x hx]; rfl)
  · intro k t' hk
    obtain ⟨t, hL, hR⟩ := hl.spec k t' (hmem k t' hk)
    have := h1 (rn ρ k) t hL
    rw [← hR β] at this
    have e : (fun b => (lkT (tl.map fun p => (p.1, some p.2)) k).isSome ∧ φ (rn ρ k) b) = φ (rn ρ k) := by funext b; simp [hk]
    show (t'.r fun k => β (rn ρ k)).holds w (fun b => (lkT (tl.map fun p => (p.1, some p.2)) k).isSome ∧ φ (rn ρ k) b)
    rw [e]; exact this
  · intro k hk b hb; rw [hk] at hb; simp at hb
  · intro j k hjk b hj hk
    refine h3 (rn ρ j) (rn ρ k) (fun e => hjk (hinj j k (Option.isSome_iff_exists.1 hj.1) (Option.isSome_iff_exists.1 hk.1) e)) b hj.2 hk.2
  · rintro b ⟨k, _, hk⟩
    exact hF b ((h4 b).2 ⟨_, hk⟩)

/-! ### 16. Loops -/
section
variable {C : Ctx} {P : Program} {fs : FL} {L : TL} {Q : Exit → Act → World → Prop}
/-- A loop: a family of states, and a number that falls. -/
theorem G.loop {σ : Type} (Fs : σ → FL) (Tl : σ → List (Nat × Tok)) (μ : σ → Nat) (s0 : σ) {c : Code}
    (h0 : At C fs L (fun a w => Holds C (lk (Fs s0)) (lkT ((Tl s0).map fun p => (p.1, some p.2))) a w))
    (hr : ∀ s : σ, G C P (Fs s) ((Tl s).map fun p => (p.1, some p.2)) c (Exit.then (fun a w => ∃ s', μ s' < μ s ∧ Holds C (lk (Fs s')) (lkT ((Tl s').map fun p => (p.1, some p.2))) a w) Q)) : G C P fs L (.loop c) Q := by
  intro a w hh
  refine wp_loop_ghost (fun n a w => ∃ s, μ s = n ∧ Holds C (lk (Fs s)) (lkT ((Tl s).map fun p => (p.1, some p.2))) a w) (μ s0) ⟨s0, rfl, h0 a w hh⟩ ?_
  rintro n a w ⟨s, rfl, hs⟩
  refine wp_mono (hr s a w hs) (fun e a' w' h => ?_)
  cases e with
  | normal =>
    obtain ⟨s', h1, h2⟩ := h
    exact ⟨_, h1, s', rfl, h2⟩
  | _ => exact h
/-- Where several ways meet: a family of states. -/
theorem G.seqJ {σ : Type} (Fs : σ → FL) (Tl : σ → List (Nat × Tok)) {x y : Code}
    (h : G C P fs L x (Exit.then (fun a w => ∃ s', Holds C (lk (Fs s')) (lkT ((Tl s').map fun p => (p.1, some p.2))) a w) Q)) (hy : ∀ s : σ, G C P (Fs s) ((Tl s).map fun p => (p.1, some p.2)) y Q) : G C P fs L (.seq x y) Q := by
  intro a w hh
  refine wp_seq (wp_mono (h a w hh) (fun e a' w' he => ?_))
  cases e with
  | normal =>
    obtain ⟨s', hs⟩ := he
    exact hy s' a' w' hs
  | _ => exact he
theorem At.joined {σ : Type} {Fs : σ → FL} {Tl : σ → List (Nat × Tok)} (s' : σ) (ρ : List (Nat × Nat)) (ts : List Tok) (hρ : ρ.all (fun p => Nat.ble 20 p.1) = true) (hf : RenF (rn ρ) fs (Fs s')) (hl : RenL (rn ρ) L (Tl s') ts) (hnd : ndB (((Tl s').map (·.1)).map (rn ρ)) = true) :
    At C fs L (Exit.then (fun a w => ∃ s', Holds C (lk (Fs s')) (lkT ((Tl s').map fun p => (p.1, some p.2))) a w) Q .normal) := fun a w hh => ⟨s', hh.ren ρ hρ hf hl hnd⟩
/-- Into the loop; and round again. -/
theorem At.into {fs' : FL} {tl : List (Nat × Tok)} (ρ : List (Nat × Nat)) (ts : List Tok) (hρ : ρ.all (fun p => Nat.ble 20 p.1) = true) (hf : RenF (rn ρ) fs fs') (hl : RenL (rn ρ) L tl ts) (hnd : ndB ((tl.map (·.1)).map (rn ρ)) = true) :
    At C fs L (fun a w => Holds C (lk fs') (lkT (tl.map fun p => (p.1, some p.2))) a w) := fun a w hh => hh.ren ρ hρ hf hl hnd
theorem At.again {σ : Type} {Fs : σ → FL} {Tl : σ → List (Nat × Tok)} {μ : σ → Nat} {s : σ} (s' : σ) (ρ : List (Nat × Nat)) (ts : List Tok) (hμ : μ s' < μ s) (hρ : ρ.all (fun p => Nat.ble 20 p.1) = true) (hf : RenF (rn ρ) fs (Fs s')) (hl : RenL (rn ρ) L (Tl s') ts) (hnd : ndB (((Tl s').map (·.1)).map (rn ρ)) = true) :
    At C fs L (Exit.then (fun a w => ∃ s', μ s' < μ s ∧ Holds C (lk (Fs s')) (lkT ((Tl s').map fun p => (p.1, some p.2))) a w) Q .normal) := fun a w hh => ⟨s', hμ, hh.ren ρ hρ hf hl hnd⟩
/-- Slots and tokens let go, names changed. -/
theorem At.ren {fs' : FL} {tl : List (Nat × Tok)} {R : Act → World → Prop} (ρ : List (Nat × Nat)) (ts : List Tok) (hρ : ρ.all (fun p => Nat.ble 20 p.1) = true) (hf : RenF (rn ρ) fs fs') (hl : RenL (rn ρ) L tl ts) (hnd : ndB ((tl.map (·.1)).map (rn ρ)) = true)
    (h : At C fs' (tl.map fun p => (p.1, some p.2)) R) : At C fs L R := fun a w hh => h a w (hh.ren ρ hρ hf hl hnd)
end
end Go.Proofs.Ytheopcgjdfckmaa.Sx

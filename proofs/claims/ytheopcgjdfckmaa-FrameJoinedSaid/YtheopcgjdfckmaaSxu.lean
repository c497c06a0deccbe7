/- Functions as values; rows that are handed over; slots renamed. -/
import Derived.Test.YtheopcgjdfckmaaSxs
namespace Go.Proofs.Ytheopcgjdfckmaa.Sx
open Go
set_option linter.unusedVariables false

/-! ### 27. Functions as values -/
/-- A block of values, whatever they are. -/
def vblk (k : Nat) (vs : List Value) (T : TypeId) : Tok where
  ks := [k]
  r β := blkRes (β k).b vs T
  sup h := by rename_i β β'; rw [h k (by simp)]
theorem vblk_ren {f : Nat → Nat} {k k' : Nat} {vs : List Value} {T : TypeId} (hk : f k' = k) : RenT f (vblk k' vs T) (vblk k vs T) := by
  intro β; subst hk; rfl
theorem toFn_raw {P : Program} {f : FuncId} {x : Operand} {az : Array Operand} {ats : Array TypeId} {ty : TypeId} {l : List (Operand × SV)} (hf : fnB P f = true) (has : az.toList = l.map (·.1)) :
    ToFn P ⟨.value x, az, ats⟩ ty ((x, SV.raw (.func (.func f) #[] #[])) :: l) f (l.map (·.2)) := by
  intro β ρ w hρ
  have h1 : ρ x = .func (.func f) #[] #[] := hρ (x, SV.raw (.func (.func f) #[] #[])) (by simp)
  have h2 := args_map (ρ := ρ) (β := β) has (fun p hp => hρ p (by simp [hp]))
  simp only [resolve, h1, Deferred.ofValue, Sem.run_bind, Sem.run_pure, Result.andThen_ok, invoke, h2]
  rw [callFunc_run hf]
  simp
section
variable {P : Program} {n : Nat} {ops : Array Oper} {rest : List Oper} {fs fs' : FL} {L L' : TL} {ss : List Step}
theorem Run.mkFn1 {d f : Nat} {x : Operand} {ty : TypeId} {pos : String} {after : Array Edge} {g : Option (Nat × Bool)} {gr : FL} {k : Nat} (hg : Gd ops ⟨some d, .makeFunc (.func f) #[] #[x], ty, pos, after, g⟩ fs gr)
    (hx : ev fs x = some (SV.p k 0)) (hn : Nat.blt d n = true)
    (h : Run P n ops rest ((d, .a (.c (.fn (.func f) [k]))) :: fs) L ss fs' L') : Run P n ops (⟨some d, .makeFunc (.func f) #[] #[x], ty, pos, after, g⟩ :: rest) fs L (⟨gr ++ opds [(x, SV.p k 0)], some d, .a (.c (.fn (.func f) [k])), [], [], [], []⟩ :: ss) fs' L' :=
  Run.pure [(x, SV.p k 0)] (.a (.c (.fn (.func f) [k]))) rfl hg (fun p hp => by simp at hp; subst hp; exact hx) hn (fun β ρ w hρ => by
    have h1 : ρ x = .pointer (some ⟨(β k).b, 0, none⟩) := hρ (x, SV.p k 0) (by simp)
    simp only [execOp, List.map_toArray, List.map_cons, List.map_nil, h1]; rfl) h
theorem K.mkFn1 {K : List Step → FL → TL → Prop} {d f : Nat} {x : Operand} {ty : TypeId} {pos : String} {after : Array Edge} {g : Option (Nat × Bool)} {gr : FL} {k : Nat} (hg : Gd ops ⟨some d, .makeFunc (.func f) #[] #[x], ty, pos, after, g⟩ fs gr)
    (hx : ev fs x = some (SV.p k 0)) (hn : Nat.blt d n = true)
    (h : RunK P n ops rest ((d, .a (.c (.fn (.func f) [k]))) :: fs) L (fun ss fs' L' => K (⟨gr ++ opds [(x, SV.p k 0)], some d, .a (.c (.fn (.func f) [k])), [], [], [], []⟩ :: ss) fs' L')) : RunK P n ops (⟨some d, .makeFunc (.func f) #[] #[x], ty, pos, after, g⟩ :: rest) fs L K :=
  RunK.of (fun _ _ _ h => Run.mkFn1 hg hx hn h) h
/-- A nil slice laid in a variable out of any operand: a row without elements. -/
theorem Run.nilRowS {α : Type} (k : Nat) (T : TypeId) (f : α → List Value) (s : Nat) {d : Nat} {op : Op} {x : Operand} {ty : TypeId} {pos : String} {after : Array Edge} {g : Option (Nat × Bool)} {gr : FL} (hop : op = .assign x ∨ op = .move x) (hg : Gd ops ⟨some d, op, ty, pos, after, g⟩ fs gr) (hx : ev fs x = some (SV.raw (.slice none 0 0)))
    (hl : lkT L k = none) (hfr : frB [k] fs L = true) (hn : Nat.blt d n = true)
    (h : Run P n ops rest ((d, .a (.c (.nv k))) :: fs) ((k, some (lrow k T f s ([] : List α))) :: L) ss fs' L') : Run P n ops (⟨some d, op, ty, pos, after, g⟩ :: rest) fs L (⟨gr ++ opds [(x, SV.raw (.slice none 0 0))], some d, .a (.c (.nv k)), [], [], [(k, lrow k T f s ([] : List α))], [k]⟩ :: ss) fs' L' := by
  obtain ⟨f1, f2, f3⟩ := frB_spec hfr
  have hev : ∀ p ∈ [(x, SV.raw (.slice none 0 0))], ev fs p.1 = some p.2 := fun p hp => by simp at hp; subst hp; exact hx
  refine Run.cons ?_ ?_ ?_ (fun j => ?_) h
  · intro β a w G K Q hrs hsz hst hK
    have hw := hg.wanted hrs hsz
    have e1 : a.eval x = .slice none 0 0 := opds_eval hg hev hrs (x, SV.raw (.slice none 0 0)) (by simp)
    unfold opW Oper.wp
    rw [if_pos hw]
    have hrun : (execOp a.eval ⟨some d, op, ty, pos, after, g⟩).run P w = .ok (.value (.slice none 0 0)) w := by
      rcases hop with rfl | rfl <;> (simp only [execOp, e1]; rfl)
    rw [hrun]
    have hG : ∀ b, ¬ G b := hst
    have hks : ∀ j, j ∉ [k] → upd β k ⟨0, .slice none 0 0⟩ j = β j := fun j hj => upd_ne _ _ (by simpa using hj)
    have := hK (upd β k ⟨0, .slice none 0 0⟩) w (fun _ => False) hks (Star_one.2 ⟨fun x => by simp [one1, Value.oneCell', Value.ownBlock], by simp, .inl ⟨by simp [one1, Value.oneCell'], by simp⟩⟩) (fun b hb => hb.elim) (Mod.refl _ _)
    have e : (SV.a (.c (.nv k))).den (upd β k ⟨0, .slice none 0 0⟩) = .slice none 0 0 := by simp [SV.den, Av.den, Cl.den, one1, Value.oneCell']
    rw [e] at this
    rw [Oper.upon_value]; exact this
  · refine ⟨fun t y hy => ?_, fun d' hd' => ?_, fun p hp => by simp at hp, by simp, by simp, fun p hp => by simp at hp; subst hp; exact .inr hl, f1, f2, fun j t hj _ => f3 j t hj⟩
    · rw [lk_append] at hy
      cases hx' : lk gr t with
      | some z => rw [hx'] at hy; simp at hy; subst hy; exact hg.fs hx'
      | none => rw [hx'] at hy; simp at hy; exact opds_fs hev hy
    · simp at hd'; subst hd'
      rw [Nat.blt_eq] at hn
      exact hn
  · simp only [Step.outF, lk_cons]
  · rw [lkT_cons, Step.outM_eq]
    by_cases e : j = k
    · subst e; simp [lkP]
    · simp [lkP, e, upd]
theorem K.nilRowS {K : List Step → FL → TL → Prop} {α : Type} (k : Nat) (T : TypeId) (f : α → List Value) (s : Nat) {d : Nat} {op : Op} {x : Operand} {ty : TypeId} {pos : String} {after : Array Edge} {g : Option (Nat × Bool)} {gr : FL} (hop : op = .assign x ∨ op = .move x) (hg : Gd ops ⟨some d, op, ty, pos, after, g⟩ fs gr) (hx : ev fs x = some (SV.raw (.slice none 0 0)))
    (hl : lkT L k = none) (hfr : frB [k] fs L = true) (hn : Nat.blt d n = true)
    (h : RunK P n ops rest ((d, .a (.c (.nv k))) :: fs) ((k, some (lrow k T f s ([] : List α))) :: L) (fun ss fs' L' => K (⟨gr ++ opds [(x, SV.raw (.slice none 0 0))], some d, .a (.c (.nv k)), [], [], [(k, lrow k T f s ([] : List α))], [k]⟩ :: ss) fs' L')) : RunK P n ops (⟨some d, op, ty, pos, after, g⟩ :: rest) fs L K :=
  RunK.of (fun _ _ _ h => Run.nilRowS k T f s hop hg hx hl hfr hn h) h

theorem hd_ (l : List Nat) (h : ndB l = true) : ndB l = true := h
/-! ### 28. Tokens handed over for good -/
theorem lkT_none : ∀ (ti : List (Nat × Tok)) (L : TL) (j : Nat), lkT (ti.map (fun p => (p.1, none)) ++ L) j = if j ∈ ti.map (·.1) then none else lkT L j
  | [], L, j => by simp
  | p :: ti, L, j => by
    rw [List.map_cons, List.cons_append, lkT_cons]
    simp only [upd, lkT_none ti L j, List.map_cons, List.mem_cons]
    by_cases h : j = p.1
    · rw [if_pos h, if_pos (.inl h)]
    · rw [if_neg h]; simp only [h, false_or]
theorem Run.callC {d : Nat} {c : Call} {ty : TypeId} {pos : String} {after : Array Edge} {g : Option (Nat × Bool)} {gr : FL} {f : FuncId} {args : List SV} {ret : SV} {fr : List Nat} (l : List (Operand × SV)) (tr ti to : List (Nat × Tok)) (args' : Env → List SV)
    (ha : ∀ β, (args' β).map (SV.den β) = args.map (SV.den β))
    (hs : ∀ (β : Env) (w : World) (S : Foot), Star (tr.map fun p => p.2.r β) w S → SCon P f (args' β) ((0, rd S w) :: ti) ret ((0, rd S w) :: to) fr)
    (hc : ToFn P c ty l f args) (hg : Gd ops ⟨some d, .call c, ty, pos, after, g⟩ fs gr) (hev : ∀ p ∈ l, ev fs p.1 = some p.2)
    (htk : ∀ p ∈ tr ++ ti, lkT L p.1 = some p.2) (hnd : ((tr ++ ti).map (·.1)).Nodup) (hnd' : ((tr ++ to).map (·.1)).Nodup) (hout : ∀ p ∈ to, p.1 ∈ ti.map (·.1) ∨ lkT L p.1 = none)
    (hfr : frB fr fs (ti.map (fun p => (p.1, none)) ++ L) = true) (hfr2 : ∀ k ∈ tr.flatMap (·.2.ks), k ∉ fr) (hn : Nat.blt d n = true)
    (h : Run P n ops rest ((d, ret) :: fs) (to.map (fun p => (p.1, some p.2)) ++ (ti.map (fun p => (p.1, none)) ++ L)) ss fs' L') : Run P n ops (⟨some d, .call c, ty, pos, after, g⟩ :: rest) fs L (⟨gr ++ opds l, some d, ret, tr, ti, to, fr⟩ :: ss) fs' L' := by
  obtain ⟨f1, f2, f3⟩ := frB_spec hfr
  refine Run.cons ?_ ?_ ?_ (fun j => ?_) h
  · intro β a w G K Q hrs hsz hst hK
    have hw := hg.wanted hrs hsz
    unfold opW Oper.wp
    rw [if_pos hw]
    have h1 := hc β a.eval w (opds_eval hg hev hrs)
    simp only [execOp]
    rw [h1, Oper.upon_enter]
    rw [List.map_append] at hst
    obtain ⟨S, F2, e, dj, hS, hT⟩ := Star_append.1 hst
    have hin : Star (((0, rd S w) :: ti).map fun p => p.2.r β) w G := ⟨S, F2, e, dj, ⟨fun b => Iff.rfl, fun b hb => ⟨hS.lt hb, rfl⟩⟩, hT⟩
    have hcall := hs β w S hS β w G hin
    rw [ha] at hcall
    refine hcall.mono (fun e' w' he => ?_)
    obtain ⟨β', hb, rfl, F', h2, h3, h4⟩ := he
    obtain ⟨S', F3, eF, dF, hS', hT'⟩ := h2
    have hS2 : Star (tr.map fun p => p.2.r β') w' S := by
      have : (tr.map fun p => p.2.r β') = tr.map fun p => p.2.r β := List.map_congr_left (fun p hp => (p.2.sup (fun k hk => hb k (hfr2 k (List.mem_flatMap.2 ⟨p, hp, hk⟩)))))
      rw [this]
      exact hS.loc (fun b hb => (hS'.2 b hb).2)
    refine hK β' w' F' hb ?_ h3 h4
    rw [List.map_append]
    have eS : ∀ b, S' b ↔ S b := hS'.1
    exact Star_append.2 ⟨S, F3, fun b => by rw [eF b, eS b], fun b h1 h2 => dF b ((eS b).2 h1) h2, hS2, hT'⟩
  · refine ⟨fun t z hz => ?_, fun d' hd' => ?_, htk, hnd, hnd', hout, f1, f2, fun j t hj hp => ?_⟩
    · rw [lk_append] at hz
      cases hx' : lk gr t with
      | some z' => rw [hx'] at hz; simp at hz; subst hz; exact hg.fs hx'
      | none => rw [hx'] at hz; simp at hz; exact opds_fs hev hz
    · simp at hd'; subst hd'
      rw [Nat.blt_eq] at hn
      exact hn
    · refine f3 j t ?_
      rw [lkT_none, if_neg]
      · exact hj
      · intro hm
        obtain ⟨p, hp', e⟩ := List.mem_map.1 hm
        exact hp p hp' e
  · simp only [Step.outF, lk_cons]
  · rw [Step.outM_eq]
    have e1 : ∀ (to : List (Nat × Tok)) (L : TL), lkT (to.map (fun p => (p.1, some p.2)) ++ L) j = (lkP to j).or (lkT L j) := by
      intro to L
      induction to with
      | nil => simp [lkP]
      | cons p to ih =>
        rw [List.map_cons, List.cons_append, lkT_cons]
        simp only [upd, lkP]
        split <;> simp [ih]
    rw [e1, lkT_none]
theorem K.callC {K : List Step → FL → TL → Prop} {d : Nat} {c : Call} {ty : TypeId} {pos : String} {after : Array Edge} {g : Option (Nat × Bool)} {gr : FL} {f : FuncId} {args : List SV} {ret : SV} {fr : List Nat} (l : List (Operand × SV)) (tr ti to : List (Nat × Tok)) (args' : Env → List SV)
    (hs : ∀ (β : Env) (w : World) (S : Foot), Star (tr.map fun p => p.2.r β) w S → SCon P f (args' β) ((0, rd S w) :: ti) ret ((0, rd S w) :: to) fr)
    (hc : ToFn P c ty l f args) (hg : Gd ops ⟨some d, .call c, ty, pos, after, g⟩ fs gr) (hev : AllE fs l) (ha : ∀ β, (args' β).map (SV.den β) = args.map (SV.den β))
    (htk : AllT L (tr ++ ti)) (hnd : ndB ((tr ++ ti).map (·.1)) = true) (hnd' : ndB ((tr ++ to).map (·.1)) = true) (hout : to.all (fun p => (ti.map (·.1)).contains p.1 || (lkT L p.1).isNone) = true)
    (hfr : frB fr fs (ti.map (fun p => (p.1, none)) ++ L) = true) (hfr2 : (tr.flatMap (·.2.ks)).all (fun k => !fr.contains k) = true) (hn : Nat.blt d n = true)
    (h : RunK P n ops rest ((d, ret) :: fs) (to.map (fun p => (p.1, some p.2)) ++ (ti.map (fun p => (p.1, none)) ++ L)) (fun ss fs' L' => K (⟨gr ++ opds l, some d, ret, tr, ti, to, fr⟩ :: ss) fs' L')) : RunK P n ops (⟨some d, .call c, ty, pos, after, g⟩ :: rest) fs L K :=
  RunK.of (fun _ _ _ h => Run.callC l tr ti to args' ha hs hc hg hev.spec htk.spec (ndB_spec hnd) (ndB_spec hnd') (fun p hp => by
    have := List.all_eq_true.1 hout p hp
    rw [Bool.or_eq_true] at this
    rcases this with h | h
    · exact .inl (by simpa using h)
    · exact .inr (by simpa using h)) hfr (fun k hk hf => by
    have := List.all_eq_true.1 hfr2 k hk
    simp at this; exact this hf) hn h) h
/-- A contract that reads nothing, as one that reads. -/
theorem SCon.rd0 {P : Program} {f : FuncId} {args : List SV} {ti to : List (Nat × Tok)} {ret : SV} {fr : List Nat} (h : SCon P f args ti ret to fr) (S : Foot) (w0 : World) (hS : ∀ b, ¬ S b) : SCon P f args ((0, rd S w0) :: ti) ret ((0, rd S w0) :: to) fr := by
  intro β w F hs
  obtain ⟨F1, F2, e, d, h1, h2⟩ := hs
  have hF1 : ∀ b, ¬ F1 b := fun b hb => hS b ((h1.1 b).1 hb)
  refine (h β w F2 h2).mono fun e' w' => ?_
  rintro ⟨β', hb, he, F', h3, h4, h5⟩
  refine ⟨β', hb, he, F', ⟨fun _ => False, F', fun b => by simp, fun b h => h.elim, ⟨fun b => ⟨fun h => h.elim, fun h => hS b h⟩, fun b hb => absurd hb (hS b)⟩, h3⟩, fun b hb => ?_, h5.weaken (fun b _ hb => (e b).2 (.inr hb))⟩
  rcases h4 b hb with h | h
  · exact .inl ((e b).2 (.inr h))
  · exact .inr h
/-- A value in a slot, under a name. -/
theorem At.named {C : Ctx} {fs : FL} {L : TL} {R : Act → World → Prop} {t : Nat} {v : Value} (k : Nat) (hl : lk fs t = some (SV.raw v)) (h1 : one1 v = v) (hfr : frB [k] fs L = true) (h : At C ((t, .a (.c (.nv k))) :: fs) L R) : At C fs L R := by
  obtain ⟨f1, f2, f3⟩ := frB_spec hfr
  rintro a w ⟨β, F, hβ, hfs, hlt, hn, hd, hs, hF, hM⟩
  have hb : ∀ j, j ∉ [k] → upd β k ⟨0, v⟩ j = β j := fun j hj => upd_ne _ _ (by simpa using hj)
  refine h a w ⟨upd β k ⟨0, v⟩, F, fun j hj => ?_, fun t' x hx => ?_, fun t' ht => ?_, hn, hd, hs.env (fun j tk hj i hi => (hb i (f3 j tk hj i hi)).symm), hF, hM⟩
  · rw [hb j (fun hm => by simp at hm; subst hm; exact Nat.lt_irrefl _ (Nat.lt_of_lt_of_le hj (f1 j (by simp)))), hβ j hj]
  · rw [lk_cons] at hx
    by_cases e : t' = t
    · subst e
      simp at hx; subst hx
      rw [hfs _ _ hl]
      simp [SV.den, Av.den, Cl.den, h1]
    · rw [upd_ne _ _ e] at hx
      rw [hfs _ _ hx]
      exact SV.den_congr x (fun i hi => (hb i (f2 _ _ hx i hi)).symm)
  · rw [lk_cons] at ht
    by_cases e : t' = t
    · subst e; exact hlt _ (by rw [hl]; rfl)
    · rw [upd_ne _ _ e] at ht; exact hlt _ ht
theorem one1_slice (a : Option Addr) (l c : Nat) : one1 (.slice a l c) = .slice a l c := rfl
theorem LAt.one1 {α : Type} {e : α → List Value} {s : Nat} {l : List α} {S : Foot} {W0 : World} {v : Value} {b o : Nat} (h : LAt S W0 v b o e s l) : one1 v = v := by
  obtain ⟨ao, cap, h1, _⟩ := h.sl
  rw [h1]; rfl
end
end Go.Proofs.Ytheopcgjdfckmaa.Sx

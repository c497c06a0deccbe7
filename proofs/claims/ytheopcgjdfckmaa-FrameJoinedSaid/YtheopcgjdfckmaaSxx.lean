/- A row of octets turned to its own type: the model marks its block. It may still be read. -/
import Derived.Test.YtheopcgjdfckmaaSxw
namespace Go.Proofs.Ytheopcgjdfckmaa.Sx
open Go
set_option linter.unusedVariables false
set_option linter.unusedSimpArgs false

/-- A row's block, with some mark. -/
def mRes (v : Value) (T : TypeId) (size n : Nat) (xs : List Value) : Res where
  holds w F := ∃ g cap cur fr, v = .slice (some ⟨g, 0, none⟩) n cap ∧ (∀ x, F x ↔ x = g) ∧ w.heap[g]? = some (.cells cur T fr) ∧ n ≤ cap ∧ cur.toList.take (n * size) = xs ∧ xs.length = n * size
  loc := by
    rintro w w' F hw ⟨g, cap, cur, fr, h1, h2, h3, h4⟩
    exact ⟨g, cap, cur, fr, h1, h2, (hw g ((h2 g).2 rfl)).trans h3, h4⟩
  lt := by
    rintro w F b ⟨g, cap, cur, fr, h1, h2, h3, h4⟩ hb
    rw [(h2 b).1 hb]
    exact (Array.getElem?_eq_some_iff.1 h3).1
def mrow {α : Type} (k : Nat) (T : TypeId) (f : α → List Value) (s : Nat) (l : List α) : Tok where
  ks := [k]
  r β := mRes (one1 (β k).v) T s l.length (l.flatMap f)
  sup h := by rename_i β β'; rw [h k (by simp)]
theorem mrow_ren {α : Type} {g : Nat → Nat} {k k' : Nat} {T : TypeId} {f : α → List Value} {s : Nat} {l : List α} (hk : g k' = k) : RenT g (mrow k' T f s l) (mrow k T f s l) := by
  intro β; subst hk; rfl
def mrowV {α : Type} (k : Nat) (T : TypeId) (f : α → List Value) (s : Nat) (l : List α) : Vw := ⟨k, mrow k T f s l, .nv k, .rp k, l.length, s, l.flatMap f⟩
section
variable {α : Type} {f : α → List Value} {s : Nat} {l : List α}
theorem mrowV_is {k : Nat} {T : TypeId} (hf : ∀ c, (f c).length = s) (hs : 0 < s) : (mrowV k T f s l).Is f l := by
  refine ⟨rfl, rfl, hf, hs, ?_⟩
  rintro β w F ⟨g, cap, cur, fr, h1, h2, h3, h4, h5, h6⟩
  have e : one1 (β k).v = (β k).v := by
    unfold one1
    split
    · rfl
    · rename_i hv
      simp only [one1, hv] at h1; cases h1
  refine ⟨h6, some ⟨g, 0, none⟩, cap, h1, fun _ => ⟨g, 0, rfl, fun off _ => ?_, fun j u hj => ?_⟩⟩
  · show rowPtr off (β k).v = _
    rw [e] at h1
    rw [h1, Nat.zero_add]; rfl
  · have hj' : (l.flatMap f)[j]? = some u := hj
    rw [Nat.zero_add, ← h5, List.getElem?_take] at *
    split at hj'
    · simp only [World.cell?, h3]; simpa using hj'
    · cases hj'
theorem mrowV_isC {k : Nat} {T : TypeId} (hf : ∀ c, (f c).length = s) (hs : 0 < s) : (mrowV k T f s l).IsC f l := by
  refine ⟨mrowV_is hf hs, ?_⟩
  rintro β w F ⟨g, cap, cur, fr, h1, h2, h3, h4, h5, h6⟩ ao m c hd
  have hd' : one1 (β k).v = .slice ao m c := hd
  rw [h1] at hd'
  cases hd'; exact h4
end
theorem freeze_heap {w : World} {g : Nat} {cur : Array Value} {T : TypeId} {fr : Nat × Nat} (h : w.heap[g]? = some (.cells cur T fr)) (off : Nat) : ∃ fr', (w.freeze ⟨g, off, none⟩ 1).heap[g]? = some (.cells cur T fr') := by
  obtain ⟨lo, hi⟩ := fr
  refine ⟨if lo == hi then (off, off + 1) else (min lo off, max hi (off + 1)), ?_⟩
  simp [World.freeze, Array.getElem?_modify, h]
theorem freeze_mod (w : World) (g off : Nat) : Mod (fun x => x = g) w (w.freeze ⟨g, off, none⟩ 1) := by
  refine ⟨rfl, rfl, rfl, by simp [World.freeze], fun k _ hk => ?_⟩
  have : ¬ g = k := fun e => hk e.symm
  simp [World.freeze, Array.getElem?_modify, this]
theorem run_mark {P : Program} {t e : TypeId} (hu : P.underlying t = some (.slice e)) (he : P.underlying e = some (.int .u8)) {w : World} {g n cap : Nat} {cur : Array Value} {T : TypeId} {fr : Nat × Nat} (h : w.heap[g]? = some (.cells cur T fr)) :
    (convert t t (.slice (some ⟨g, 0, none⟩) n cap)).run P w = .ok (.slice (some ⟨g, 0, none⟩) n cap) (w.freeze ⟨g, cur.size, none⟩ 1) := by
  simp [convert, run_underlying hu, run_underlying he, markStringish, World.shape?, h]
section
variable {P : Program} {n : Nat} {ops : Array Oper} {rest : List Oper} {fs fs' : FL} {L L' : TL} {ss : List Step}
theorem Run.mark {α : Type} {f : α → List Value} {s : Nat} {l : List α} {d : Nat} {t : TypeId} {x : Operand} {ty : TypeId} {pos : String} {after : Array Edge} {g : Option (Nat × Bool)} {gr : FL} {k : Nat} {T e : TypeId} (hpos : Nat.blt 0 l.length = true) (hu : P.underlying t = some (.slice e)) (he : P.underlying e = some (.int .u8)) (hg : Gd ops ⟨some d, .convert t t x, ty, pos, after, g⟩ fs gr)
    (hx : ev fs x = some (.a (.c (.nv k)))) (hl : lkT L k = some (lrow k T f s l)) (hn : Nat.blt d n = true)
    (h : Run P n ops rest ((d, .a (.c (.nv k))) :: fs) ((k, some (mrow k T f s l)) :: L) ss fs' L') : Run P n ops (⟨some d, .convert t t x, ty, pos, after, g⟩ :: rest) fs L (⟨gr ++ opds [(x, .a (.c (.nv k)))], some d, .a (.c (.nv k)), [], [(k, lrow k T f s l)], [(k, mrow k T f s l)], []⟩ :: ss) fs' L' := by
  have hev : ∀ p ∈ [(x, SV.a (.c (.nv k)))], ev fs p.1 = some p.2 := fun p hp => by simp at hp; subst hp; exact hx
  rw [Nat.blt_eq] at hpos
  refine Run.cons ?_ ?_ ?_ (fun j => ?_) h
  · intro β a w G K Q hrs hsz hst hK
    have hw := hg.wanted hrs hsz
    have e1 : a.eval x = one1 (β k).v := opds_eval hg hev hrs (x, .a (.c (.nv k))) (by simp)
    have h2 := Star_one.1 hst
    have h3 : w.ownsRow 0 T s (one1 (β k).v) l.length (l.flatMap f) := h2.2
    obtain ⟨b, cap, cur, hv, hb, hc1, hc2, hc3, hc4⟩ := ownsRow_cases h3 hpos
    obtain ⟨fr', hfr⟩ := freeze_heap hb cur.size
    unfold opW Oper.wp
    rw [if_pos hw]
    simp only [execOp, e1, hv]
    rw [run_bind_ok (run_mark hu he hb)]
    have hG : ∀ x, G x ↔ x = b := fun x => by
      rw [h2.1 x, hv]
      simp only [Value.ownBlock]
      constructor
      · intro h; simpa using h.symm
      · rintro rfl; rfl
    have hden : (SV.a (.c (.nv k))).den β = .slice (some ⟨b, 0, none⟩) l.length cap := hv
    have hK' := hK β (w.freeze ⟨b, cur.size, none⟩ 1) G (fun _ _ => rfl) (Star_one.2 ⟨b, cap, cur, fr', hv, hG, hfr, hc1, hc4, h3.1⟩) (fun b hb => .inl hb) ((freeze_mod w b cur.size).weaken (fun y _ hy => (hG y).2 hy))
    rw [hden] at hK'
    exact hK'
  · refine ⟨fun t y hy => ?_, fun d' hd' => by simp at hd'; subst hd'; exact (by rw [Nat.blt_eq] at hn; exact hn), fun p hp => by simp at hp; subst hp; exact hl, by simp, by simp, fun p hp => by simp at hp; subst hp; exact .inl (by simp), fun k hk => by simp at hk, fun _ _ _ _ _ h => by simp at h, fun _ _ _ _ _ _ h => by simp at h⟩
    rw [lk_append] at hy
    cases hx' : lk gr t with
    | some z => rw [hx'] at hy; simp at hy; subst hy; exact hg.fs hx'
    | none => rw [hx'] at hy; simp at hy; exact opds_fs hev hy
  · simp only [Step.outF, lk_cons]
  · rw [lkT_cons, Step.outM_eq]
    by_cases e : j = k
    · subst e; simp [lkP]
    · simp [lkP, e, upd]
theorem K.mark {K : List Step → FL → TL → Prop} {α : Type} {f : α → List Value} {s : Nat} {l : List α} {d : Nat} {t : TypeId} {x : Operand} {ty : TypeId} {pos : String} {after : Array Edge} {g : Option (Nat × Bool)} {gr : FL} {k : Nat} {T e : TypeId} (hpos : Nat.blt 0 l.length = true) (hu : P.underlying t = some (.slice e)) (he : P.underlying e = some (.int .u8)) (hg : Gd ops ⟨some d, .convert t t x, ty, pos, after, g⟩ fs gr)
    (hx : ev fs x = some (.a (.c (.nv k)))) (hl : lkT L k = some (lrow k T f s l)) (hn : Nat.blt d n = true)
    (h : RunK P n ops rest ((d, .a (.c (.nv k))) :: fs) ((k, some (mrow k T f s l)) :: L) (fun ss fs' L' => K (⟨gr ++ opds [(x, .a (.c (.nv k)))], some d, .a (.c (.nv k)), [], [(k, lrow k T f s l)], [(k, mrow k T f s l)], []⟩ :: ss) fs' L')) : RunK P n ops (⟨some d, .convert t t x, ty, pos, after, g⟩ :: rest) fs L K :=
  RunK.of (fun _ _ _ h => Run.mark hpos hu he hg hx hl hn h) h
end
end Go.Proofs.Ytheopcgjdfckmaa.Sx

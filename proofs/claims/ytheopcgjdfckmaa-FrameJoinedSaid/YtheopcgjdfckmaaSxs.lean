/- Lists handed on, read only; calls of functions that read lists; pools whose visits nobody counts; what mirrors are made of. -/
import Derived.Test.YtheopcgjdfckmaaSxm
import Derived.Test.YtheopcgjdfckmaaSxr
namespace Go.Proofs.Ytheopcgjdfckmaa.Sx
open Go
set_option linter.unusedVariables false
set_option linter.unusedSimpArgs false

/-! ### 24. Some blocks, read only -/
def rdRes (S : Foot) (W0 : World) : Res where
  holds w F := (∀ b, F b ↔ S b) ∧ ∀ b, S b → b < w.heap.size ∧ w.heap[b]? = W0.heap[b]?
  loc := by
    intro w w' F hw h
    refine ⟨h.1, fun b hb => ?_⟩
    have h1 := h.2 b hb
    have h2 := hw b ((h.1 b).2 hb)
    refine ⟨?_, h2.trans h1.2⟩
    rw [Array.getElem?_eq_getElem h1.1] at h2
    exact (Array.getElem?_eq_some_iff.1 h2).1
  lt := by
    intro w F b h hb
    exact (h.2 b ((h.1 b).1 hb)).1
def rd (S : Foot) (W0 : World) : Tok where
  ks := []
  r _ := rdRes S W0
  sup _ := rfl
/-- The value v leads, in the blocks S of W0, to the list l. -/
structure LAt {α : Type} (S : Foot) (W0 : World) (v : Value) (b o : Nat) (e : α → List Value) (s : Nat) (l : List α) : Prop where
  len : ∀ c, (e c).length = s
  pos : 0 < s
  sl : ∃ ao cap, v = .slice ao l.length cap ∧ l.length ≤ cap ∧ (0 < l.length → ao = some ⟨b, o, none⟩)
  inn : 0 < l.length → S b
  cells : ∀ j u, (l.flatMap e)[j]? = some u → W0.cell? ⟨b, o + j, none⟩ = some u
def LArg {α : Type} (S : Foot) (W0 : World) (v : Value) (e : α → List Value) (s : Nat) (l : List α) : Prop := ∃ b o, LAt S W0 v b o e s l
def rV {α : Type} (k : Nat) (S : Foot) (W0 : World) (v : Value) (b o : Nat) (e : α → List Value) (s : Nat) (l : List α) : Vw := ⟨k, rd S W0, .v v, fun off => .v (ptr b (o + off)), l.length, s, l.flatMap e⟩
/-- A view of a list whose room is no less than its length. -/
structure Vw.IsC {α : Type} (V : Vw) (e : α → List Value) (l : List α) : Prop where
  is : V.Is e l
  cap : ∀ (β : Env) (w : World) (F : Foot), (V.t.r β).holds w F → ∀ ao m cap, V.s.den β = .slice ao m cap → m ≤ cap
section
variable {α : Type} {e : α → List Value} {s : Nat} {l : List α} {S : Foot} {W0 : World} {v : Value} {b o : Nat}
theorem LAt.is (h : LAt S W0 v b o e s l) (k : Nat) : (rV k S W0 v b o e s l).Is e l := by
  refine ⟨rfl, rfl, h.len, h.pos, ?_⟩
  intro β w F hw
  obtain ⟨ao, cap, h1, h2, h3⟩ := h.sl
  refine ⟨chunk_len h.len l, ao, cap, h1, fun hm => ⟨b, o, h3 hm, fun _ _ => rfl, fun j u hj => ?_⟩⟩
  have h4 := hw.2 b (h.inn hm)
  have := h.cells j u hj
  simp only [World.cell?] at this ⊢
  rw [h4.2]; exact this
theorem LAt.isC (h : LAt S W0 v b o e s l) (k : Nat) : (rV k S W0 v b o e s l).IsC e l := by
  refine ⟨h.is k, fun β w F _ ao m cap hd => ?_⟩
  obtain ⟨ao', cap', h1, h2, h3⟩ := h.sl
  have : Value.slice ao m cap = .slice ao' l.length cap' := hd.symm.trans h1
  cases this; exact h2
theorem LAt.part (h : LAt S W0 v b o e s l) {lo hi : Nat} (h1 : lo ≤ hi) (h2 : hi ≤ l.length) : LAt S W0 (partOf lo hi s v) b (o + lo * s) e s ((l.drop lo).take (hi - lo)) := by
  obtain ⟨ao, cap, h3, h4, h5⟩ := h.sl
  have hl : ((l.drop lo).take (hi - lo)).length = hi - lo := by rw [List.length_take, List.length_drop, Nat.min_eq_left (by omega)]
  refine ⟨h.len, h.pos, ⟨if cap = lo then ao else ao.map (·.add (lo * s)), cap - lo, ?_, ?_, ?_⟩, fun hm => h.inn (by omega), fun j u hj => ?_⟩
  · rw [h3, partOf, hl]
  · rw [hl]; omega
  · intro hm
    rw [hl] at hm
    rw [if_neg (by omega), h5 (by omega)]
    unfold Addr.add
    simp only [Option.map_some]
    split
    · rename_i h0; rw [h0]; simp
    · rfl
  · rw [← chunk_take h.len, ← chunk_drop h.len, List.getElem?_take, List.getElem?_drop] at hj
    split at hj
    · have := h.cells _ u hj
      rw [Nat.add_assoc]; exact this
    · cases hj
theorem lrowV_isC {k : Nat} {T : TypeId} (hf : ∀ c, (e c).length = s) (hs : 0 < s) : (lrowV k T e s l).IsC e l := by
  refine ⟨lrowV_is hf hs, fun β w F hw ao m cap hd => ?_⟩
  have h2 : w.ownsRow 0 T s (one1 (β k).v) l.length (l.flatMap e) := hw.2
  have hd' : one1 (β k).v = .slice ao m cap := hd
  rw [hd'] at h2
  rcases h2.2 with ⟨h0, h4⟩ | ⟨g, cap', cur, hv, _, _, hc, _⟩
  · cases h0; omega
  · cases hv; exact hc
theorem lsubV_isC {k : Nat} {T : TypeId} {a c : Nat} (hf : ∀ c, (e c).length = s) (hs : 0 < s) (ha : a ≤ c) (hb : c ≤ l.length) : (lsubV k T e s l a c).IsC e ((l.drop a).take (c - a)) := by
  refine ⟨lsubV_is hf hs ha hb, fun β w F hw ao m cap hd => ?_⟩
  have h2 : w.ownsRow 0 T s (one1 (β k).v) l.length (l.flatMap e) := hw.2
  have hd' : partOf a c s (β k).v = .slice ao m cap := hd
  rw [one1_row h2] at h2
  rcases h2.2 with ⟨h0, h4⟩ | ⟨g, cap', cur, hv, _, _, hc, _⟩
  · rw [h0] at hd'; simp only [partOf] at hd'; cases hd'; omega
  · rw [hv] at hd'; simp only [partOf] at hd'; cases hd'; omega

/-- A block that a view shows is one of its token's. -/
theorem Vw.inn {V : Vw} (hV : V.Ok) {β : Env} {w : World} {F : Foot} (h : (V.t.r β).holds w F) {b o cap : Nat} (hd : V.s.den β = .slice (some ⟨b, o, none⟩) V.m cap) (hm : 0 < V.m) (hs : 0 < V.size) : F b := by
  refine Classical.byContradiction fun hn => ?_
  have h1 : (V.t.r β).holds (w.setRow b #[]) F := (V.t.r β).loc (fun k hk => setRow_other w b k _ (fun e => hn (e ▸ hk))) h
  obtain ⟨hx, ao, cap', h2, h3⟩ := hV β _ F h1
  rw [hd] at h2
  cases h2
  obtain ⟨b', o', h4, _, h5⟩ := h3 hm
  cases h4
  have hpos : 0 < V.xs.length := by rw [hx]; exact Nat.mul_pos hm hs
  have h6 := h5 0 V.xs[0] (List.getElem?_eq_getElem hpos)
  obtain ⟨hx0, ao0, cap0, h20, h30⟩ := hV β w F h
  rw [hd] at h20
  cases h20
  obtain ⟨b1, o1, h41, _, h51⟩ := h30 hm
  cases h41
  have h61 := h51 0 V.xs[0] (List.getElem?_eq_getElem hpos)
  simp only [World.cell?] at h61 h6
  cases hc : w.heap[b]? with
  | none => rw [hc] at h61; cases h61
  | some ob =>
    rw [hc] at h61
    cases ob with
    | cells cur T tg =>
      have := setRow_heap w b _ #[] _ _ hc
      rw [this] at h6
      simp at h6
    | _ => cases h61
theorem Star_mem : ∀ {L : List Res} {w : World} {F : Foot} {r : Res}, Star L w F → r ∈ L → ∃ F1 : Foot, (∀ b, F1 b → F b) ∧ r.holds w F1
  | r0 :: L, w, F, r, ⟨F1, F2, e, d, hr, hs⟩, hm => by
    rcases List.mem_cons.1 hm with rfl | hm
    · exact ⟨F1, fun b hb => (e b).2 (.inl hb), hr⟩
    · obtain ⟨G, h1, h2⟩ := Star_mem hs hm
      exact ⟨G, fun b hb => (e b).2 (.inr (h1 b hb)), h2⟩
/-- What a view shows may be handed on. -/
theorem Vw.IsC.larg {V : Vw} (h : V.IsC e l) {tr : List (Nat × Tok)} (hm : ∃ k, (k, V.t) ∈ tr) {β : Env} {w : World} {S : Foot} (hs : Star (tr.map fun p => p.2.r β) w S) : LArg S w (V.s.den β) e V.size l := by
  obtain ⟨k, hm⟩ := hm
  obtain ⟨F1, hsub, h1⟩ := Star_mem hs (List.mem_map_of_mem (f := fun p : Nat × Tok => p.2.r β) hm)
  obtain ⟨hx, ao, cap, h2, h3⟩ := h.is.ok β w F1 h1
  have hc := h.cap β w F1 h1 ao V.m cap h2
  have hm' := h.is.m
  by_cases h0 : 0 < V.m
  · obtain ⟨b, o, rfl, hp, hcl⟩ := h3 h0
    exact ⟨b, o, h.is.len, h.is.pos, ⟨_, cap, by rw [h2, hm'], by omega, fun _ => rfl⟩, fun _ => hsub b (Vw.inn h.is.ok h1 h2 h0 h.is.pos), fun j u hj => hcl j u (by rw [h.is.xs]; exact hj)⟩
  · have hl : l = [] := List.eq_nil_of_length_eq_zero (by omega)
    subst hl
    exact ⟨0, 0, h.is.len, h.is.pos, ⟨_, cap, by rw [h2, hm'], by simp, fun h => by simp at h⟩, fun h => by simp at h, fun j u hj => by simp at hj⟩
end

theorem Star_append {A B : List Res} : ∀ {w : World} {F : Foot}, Star (A ++ B) w F ↔ ∃ F1 F2 : Foot, (∀ b, F b ↔ F1 b ∨ F2 b) ∧ (∀ b, F1 b → ¬ F2 b) ∧ Star A w F1 ∧ Star B w F2 := by
  induction A with
  | nil =>
    intro w F
    constructor
    · intro h; exact ⟨fun _ => False, F, fun b => by simp, fun _ h => h.elim, fun _ h => h, h⟩
    · rintro ⟨F1, F2, e, d, h1, h2⟩
      have : F = F2 := funext fun b => propext (by rw [e b]; exact ⟨fun h => h.elim (fun h' => absurd h' (h1 b)) id, .inr⟩)
      rw [this]; exact h2
  | cons r A ih =>
    intro w F
    constructor
    · rintro ⟨G1, G2, e, d, hr, hs⟩
      obtain ⟨F1, F2, e', d', h1, h2⟩ := ih.1 hs
      refine ⟨fun b => G1 b ∨ F1 b, F2, fun b => by rw [e b, e' b, or_assoc], ?_, ⟨G1, F1, fun b => Iff.rfl, fun b hb hf => d b hb ((e' b).2 (.inl hf)), hr, h1⟩, h2⟩
      rintro b (hb | hb) hf
      · exact d b hb ((e' b).2 (.inr hf))
      · exact d' b hb hf
    · rintro ⟨F1, F2, e, d, ⟨G1, G2, e', d', hr, h1⟩, h2⟩
      refine ⟨G1, fun b => G2 b ∨ F2 b, fun b => by rw [e b, e' b, or_assoc], ?_, hr, ih.2 ⟨G2, F2, fun b => Iff.rfl, fun b hb hf => d b ((e' b).2 (.inr hb)) hf, h1, h2⟩⟩
      rintro b hb (hf | hf)
      · exact d' b hb hf
      · exact d b ((e' b).2 (.inl hb)) hf

section
variable {P : Program} {n : Nat} {ops : Array Oper} {rest : List Oper} {fs fs' : FL} {L L' : TL} {ss : List Step}
/-- A call of a function that reads lists of these tokens, and takes and gives others. -/
theorem Run.callV {d : Nat} {c : Call} {ty : TypeId} {pos : String} {after : Array Edge} {g : Option (Nat × Bool)} {gr : FL} {f : FuncId} {args : List SV} {ret : SV} {fr : List Nat} (l : List (Operand × SV)) (tr ti to : List (Nat × Tok)) (args' : Env → List SV)
    (ha : ∀ β, (args' β).map (SV.den β) = args.map (SV.den β))
    (hs : ∀ (β : Env) (w : World) (S : Foot), Star (tr.map fun p => p.2.r β) w S → SCon P f (args' β) ((0, rd S w) :: ti) ret ((0, rd S w) :: to) fr)
    (hc : ToFn P c ty l f args) (hg : Gd ops ⟨some d, .call c, ty, pos, after, g⟩ fs gr) (hev : ∀ p ∈ l, ev fs p.1 = some p.2)
    (htk : ∀ p ∈ tr ++ ti, lkT L p.1 = some p.2) (hnd : ((tr ++ ti).map (·.1)).Nodup) (hnd' : ((tr ++ to).map (·.1)).Nodup) (hsub : ∀ p ∈ ti, p.1 ∈ to.map (·.1)) (hout : ∀ p ∈ to, p.1 ∈ ti.map (·.1) ∨ lkT L p.1 = none)
    (hfr : frB fr fs L = true) (hn : Nat.blt d n = true)
    (h : Run P n ops rest ((d, ret) :: fs) (to.map (fun p => (p.1, some p.2)) ++ L) ss fs' L') : Run P n ops (⟨some d, .call c, ty, pos, after, g⟩ :: rest) fs L (⟨gr ++ opds l, some d, ret, tr, ti, to, fr⟩ :: ss) fs' L' := by
  obtain ⟨f1, f2, f3⟩ := frB_spec hfr
  refine Run.cons ?_ ?_ ?_ (fun j => ?_) h
  · intro β a w G K Q hrs hsz hst hK
    have hw := hg.wanted hrs hsz
    unfold opW Oper.wp
    rw [if_pos hw]
    have h1 := hc β a.eval w (opds_eval hg hev hrs)
    simp only [execOp]
    rw [h1, Oper.upon_enter]
    rw [List.map_append] at hst
    obtain ⟨S, F2, e, dj, hS, hT⟩ := Star_append.1 hst
    have hin : Star (((0, rd S w) :: ti).map fun p => p.2.r β) w G := ⟨S, F2, e, dj, ⟨fun b => Iff.rfl, fun b hb => ⟨hS.lt hb, rfl⟩⟩, hT⟩
    have hcall := hs β w S hS β w G hin
    rw [ha] at hcall
    refine hcall.mono (fun e' w' he => ?_)
    obtain ⟨β', hb, rfl, F', h2, h3, h4⟩ := he
    obtain ⟨S', F3, eF, dF, hS', hT'⟩ := h2
    have hS2 : Star (tr.map fun p => p.2.r β') w' S := by
      have : (tr.map fun p => p.2.r β') = tr.map fun p => p.2.r β := List.map_congr_left (fun p hp => (p.2.sup (fun k hk => hb k (f3 p.1 p.2 (htk p (List.mem_append_left _ hp)) k hk))))
      rw [this]
      exact hS.loc (fun b hb => (hS'.2 b hb).2)
    refine hK β' w' F' hb ?_ h3 h4
    rw [List.map_append]
    have eS : ∀ b, S' b ↔ S b := hS'.1
    exact Star_append.2 ⟨S, F3, fun b => by rw [eF b, eS b], fun b h1 h2 => dF b ((eS b).2 h1) h2, hS2, hT'⟩
  · refine ⟨fun t z hz => ?_, fun d' hd' => ?_, htk, hnd, hnd', hout, f1, f2, fun j t hj _ => f3 j t hj⟩
    · rw [lk_append] at hz
      cases hx' : lk gr t with
      | some z' => rw [hx'] at hz; simp at hz; subst hz; exact hg.fs hx'
      | none => rw [hx'] at hz; simp at hz; exact opds_fs hev hz
    · simp at hd'; subst hd'
      rw [Nat.blt_eq] at hn
      exact hn
  · simp only [Step.outF, lk_cons]
  · rw [Step.outM_eq]
    have e1 : ∀ (to : List (Nat × Tok)), lkT (to.map (fun p => (p.1, some p.2)) ++ L) j = (lkP to j).or (lkT L j) := by
      intro to
      induction to with
      | nil => simp [lkP]
      | cons p to ih =>
        rw [List.map_cons, List.cons_append, lkT_cons]
        simp only [upd, lkP]
        split <;> simp [ih]
    rw [e1]
    cases hp : lkP to j with
    | some x => rfl
    | none =>
      simp only [Option.none_or]
      rw [if_neg]
      intro hm
      obtain ⟨p, hp', rfl⟩ := List.mem_map.1 hm
      obtain ⟨q, hq, e⟩ := List.mem_map.1 (hsub p hp')
      have : ∀ l : List (Nat × Tok), q ∈ l → lkP l p.1 ≠ none := by
        intro l
        induction l with
        | nil => intro h; cases h
        | cons r l ih =>
          intro h
          simp only [lkP]
          split
          · simp
          · rename_i hne
            rcases List.mem_cons.1 h with rfl | h
            · exact absurd e.symm hne
            · exact ih h
      exact this to hq hp
theorem K.callV {K : List Step → FL → TL → Prop} {d : Nat} {c : Call} {ty : TypeId} {pos : String} {after : Array Edge} {g : Option (Nat × Bool)} {gr : FL} {f : FuncId} {args : List SV} {ret : SV} {fr : List Nat} (l : List (Operand × SV)) (tr ti to : List (Nat × Tok)) (args' : Env → List SV)
    (hs : ∀ (β : Env) (w : World) (S : Foot), Star (tr.map fun p => p.2.r β) w S → SCon P f (args' β) ((0, rd S w) :: ti) ret ((0, rd S w) :: to) fr)
    (hc : ToFn P c ty l f args) (hg : Gd ops ⟨some d, .call c, ty, pos, after, g⟩ fs gr) (hev : AllE fs l) (ha : ∀ β, (args' β).map (SV.den β) = args.map (SV.den β))
    (htk : AllT L (tr ++ ti)) (hnd : ndB ((tr ++ ti).map (·.1)) = true) (hnd' : ndB ((tr ++ to).map (·.1)) = true) (hsub : ti.all (fun p => (to.map (·.1)).contains p.1) = true) (hout : to.all (fun p => (ti.map (·.1)).contains p.1 || (lkT L p.1).isNone) = true)
    (hfr : frB fr fs L = true) (hn : Nat.blt d n = true)
    (h : RunK P n ops rest ((d, ret) :: fs) (to.map (fun p => (p.1, some p.2)) ++ L) (fun ss fs' L' => K (⟨gr ++ opds l, some d, ret, tr, ti, to, fr⟩ :: ss) fs' L')) : RunK P n ops (⟨some d, .call c, ty, pos, after, g⟩ :: rest) fs L K :=
  RunK.of (fun _ _ _ h => Run.callV l tr ti to args' ha hs hc hg hev.spec htk.spec (ndB_spec hnd) (ndB_spec hnd') (fun p hp => by simpa using List.all_eq_true.1 hsub p hp) (fun p hp => by
    have := List.all_eq_true.1 hout p hp
    rw [Bool.or_eq_true] at this
    rcases this with h | h
    · exact .inl (by simpa using h)
    · exact .inr (by simpa using h)) hfr hn h) h

/-- Guarded by what was not carried out. -/
theorem Run.skipU {o : Oper} {d : Nat} {j : Nat} {want : Bool} {t : Nat} (hd : o.dst = some d) (hgd : o.guard = some (j, want)) (hdj : (ops[j]?).bind (·.dst) = some t) (hl : lk fs t = some (SV.raw undef)) (hn : Nat.blt d n = true)
    (h : Run P n ops rest ((d, SV.raw undef) :: fs) L ss fs' L') : Run P n ops (o :: rest) fs L (⟨[(t, SV.raw undef)], some d, SV.raw undef, [], [], [], []⟩ :: ss) fs' L' := by
  refine Run.cons ?_ ?_ ?_ (fun k => ?_) h
  · intro β a w G K Q hrs hsz hst hK
    have e1 : lk [(t, SV.raw undef)] t = some (SV.raw undef) := by simp [lk]
    have e2 := hrs t _ e1
    have e3 := hsz t (by rw [e1]; rfl)
    have hw : Region.wanted o (yielded ops a.tmps) = false := by
      simp only [Region.wanted, hgd, yielded, hdj, Option.bind_some]
      have e4 : a.tmps[t]? = some undef := by
        have : a.tmps[t]? = some a.tmps[t] := by simp [e3]
        rw [this]
        simp [Array.getD_eq_getD_getElem?, e3] at e2
        rw [e2]; rfl
      rw [e4]; cases want <;> rfl
    unfold opW
    rw [hw, hd]
    exact hK β w G (fun _ _ => rfl) hst (fun b hb => .inl hb) (Mod.refl _ _)
  · refine ⟨fun t' y hy => ?_, fun d' hd' => ?_, fun p hp => by simp at hp, by simp, by simp, fun p hp => by simp at hp, fun k hk => by simp at hk, fun _ _ _ _ _ h => by simp at h, fun _ _ _ _ _ _ h => by simp at h⟩
    · have := lk_mem hy
      simp at this
      obtain ⟨rfl, rfl⟩ := this
      exact hl
    · simp at hd'; subst hd'
      rw [Nat.blt_eq] at hn
      exact hn
  · simp only [Step.outF, lk_cons]
  · rfl
theorem K.skipU {K : List Step → FL → TL → Prop} {o : Oper} {d : Nat} {j : Nat} {want : Bool} {t : Nat} (hd : o.dst = some d) (hgd : o.guard = some (j, want)) (hdj : (ops[j]?).bind (·.dst) = some t) (hl : lk fs t = some (SV.raw undef)) (hn : Nat.blt d n = true)
    (h : RunK P n ops rest ((d, SV.raw undef) :: fs) L (fun ss fs' L' => K (⟨[(t, SV.raw undef)], some d, SV.raw undef, [], [], [], []⟩ :: ss) fs' L')) : RunK P n ops (o :: rest) fs L K :=
  RunK.of (fun _ _ _ h => Run.skipU hd hgd hdj hl hn h) h

/-- `s[lo:hi]` of a list that was handed on. -/
theorem Run.partR {α : Type} {e : α → List Value} {s : Nat} {ls : List α} {S : Foot} {W0 : World} {v : Value} {b o : Nat} {d : Nat} (lo' hi' : Nat) {t : TypeId} {x : Operand} {lo hi : Option Operand} {ql qh : List (Operand × SV)} {ty : TypeId} {pos : String} {after : Array Edge} {g : Option (Nat × Bool)} {gr : FL} {el : TypeId} (hI : LAt S W0 v b o e s ls) (hg : Gd ops ⟨some d, .slice t x lo hi none, ty, pos, after, g⟩ fs gr)
    (hx : ev fs x = some (SV.raw v)) (hlo : Bnd fs 0 lo' ql lo) (hhi : Bnd fs ls.length hi' qh hi) (hu : P.underlying t = some (.slice el)) (hsz : ∀ w : World, (sizeOf el).run P w = .ok s w) (hlh : lo' ≤ hi') (hh : hi' ≤ ls.length) (hn : Nat.blt d n = true)
    (h : Run P n ops rest ((d, SV.raw (partOf lo' hi' s v)) :: fs) L ss fs' L') : Run P n ops (⟨some d, .slice t x lo hi none, ty, pos, after, g⟩ :: rest) fs L (⟨gr ++ opds ((x, SV.raw v) :: (ql ++ qh)), some d, SV.raw (partOf lo' hi' s v), [], [], [], []⟩ :: ss) fs' L' :=
  Run.pure ((x, SV.raw v) :: (ql ++ qh)) (SV.raw (partOf lo' hi' s v)) rfl hg (fun p hp => by
    rcases List.mem_cons.1 hp with rfl | hp
    · exact hx
    · rcases List.mem_append.1 hp with hp | hp
      · exact hlo.ev p hp
      · exact hhi.ev p hp) hn (fun β ρ w hρ => by
    have e1 : ρ x = v := hρ (x, SV.raw v) (by simp)
    obtain ⟨lv, hlv, hl'⟩ := hlo.val (fun p hp => hρ p (List.mem_cons_of_mem _ (List.mem_append_left _ hp)))
    obtain ⟨hv, hhv, hh'⟩ := hhi.val (fun p hp => hρ p (List.mem_cons_of_mem _ (List.mem_append_right _ hp)))
    obtain ⟨ao, cap, h3, hc, _⟩ := hI.sl
    simp only [execOp, e1, h3, hlv, hhv, Option.map_none]
    rw [run_bind_ok (run_part (P := P) hu hsz hl' hh' hlh hh hc w)]
    simp only [SV.den, Av.den, Cl.den, partOf, sliced]; rfl) h
theorem K.partR {K : List Step → FL → TL → Prop} {α : Type} {e : α → List Value} {s : Nat} {ls : List α} {S : Foot} {W0 : World} {v : Value} {b o : Nat} {d : Nat} (lo' hi' : Nat) {t : TypeId} {x : Operand} {lo hi : Option Operand} {ql qh : List (Operand × SV)} {ty : TypeId} {pos : String} {after : Array Edge} {g : Option (Nat × Bool)} {gr : FL} {el : TypeId} (hI : LAt S W0 v b o e s ls) (hg : Gd ops ⟨some d, .slice t x lo hi none, ty, pos, after, g⟩ fs gr)
    (hx : ev fs x = some (SV.raw v)) (hlo : Bnd fs 0 lo' ql lo) (hhi : Bnd fs ls.length hi' qh hi) (hu : P.underlying t = some (.slice el)) (hsz : ∀ w : World, (sizeOf el).run P w = .ok s w) (hlh : lo' ≤ hi') (hh : hi' ≤ ls.length) (hn : Nat.blt d n = true)
    (h : RunK P n ops rest ((d, SV.raw (partOf lo' hi' s v)) :: fs) L (fun ss fs' L' => K (⟨gr ++ opds ((x, SV.raw v) :: (ql ++ qh)), some d, SV.raw (partOf lo' hi' s v), [], [], [], []⟩ :: ss) fs' L')) : RunK P n ops (⟨some d, .slice t x lo hi none, ty, pos, after, g⟩ :: rest) fs L K :=
  RunK.of (fun _ _ _ h => Run.partR lo' hi' hI hg hx hlo hhi hu hsz hlh hh hn h) h
end

/-! ### 24b. Arrays of plain data -/
def arrB (P : Program) (T len e s : Nat) (zs : List Value) : Bool := match P.underlying T, P.info? e, P.info? T with
  | some (.array l e'), some ie, some it => l == len && e' == e && ie.size == s && (match it.zero with
    | some (.agg a) => a.size == zs.length && (List.range zs.length).all (fun j => match a[j]?, zs[j]? with
      | some (.int k n), some (.int k' n') => k == k' && n == n'
      | some (.bool b), some (.bool b') => b == b'
      | _, _ => false)
    | _ => false)
  | _, _, _ => false
structure ArrT (P : Program) (T len e s : Nat) (zs : List Value) : Prop where
  und : P.underlying T = some (.array len e)
  es : ∀ w : World, (sizeOf e).run P w = .ok s w
  blt : ∀ (parts : List (Nat × Value)) (cells : Array Value), Instr.fill (fun i => some (i * s, s)) zs.toArray parts = some cells → P.built T parts = some cells
theorem arr_of {P : Program} {T len e s : Nat} {zs : List Value} (h : arrB P T len e s zs = true) : ArrT P T len e s zs := by
  unfold arrB at h
  split at h
  · rename_i l e' ie it hu hie hit
    simp only [Bool.and_eq_true, beq_iff_eq] at h
    obtain ⟨⟨⟨rfl, rfl⟩, h3⟩, h4⟩ := h
    have hz : it.zero = some (.agg zs.toArray) := by
      split at h4
      · rename_i a ha
        simp only [Bool.and_eq_true, beq_iff_eq] at h4
        rw [ha]
        congr 2
        apply Array.ext
        · simp [h4.1]
        · intro j hj hj'
          have h6 := List.all_eq_true.1 h4.2 j (List.mem_range.2 (by omega))
          have e1 : a[j]? = some a[j] := by simp [hj]
          have e2 : zs[j]? = some zs[j] := by simp
          rw [e1, e2] at h6
          have : a[j] = zs[j] := by
            generalize a[j] = x at *
            generalize zs[j] = y at *
            clear e1 e2 h4
            split at h6 <;> simp_all
          simpa using this
      · cases h4
    refine ⟨hu, fun w => by unfold sizeOf; rw [run_bind_ok (run_info hie w), h3]; rfl, fun parts cells hf => ?_⟩
    unfold Program.built
    simp only [hit, hu, hz, hie, h3]
    exact hf
  · cases h
/-- The places of an array's parts. -/
def afl (len s : Nat) : List (Nat × Nat × TypeId) := (List.range len).map fun i => (i * s, s, 0)
theorem run_buildA {P : Program} {T len e s : Nat} {zs : List Value} (h : ArrT P T len e s zs) (β : Env) (w : World) {ps : List (Nat × Av)} {cs : List Cl} (hf : fillC (afl len s) (zs.map .v) ps = some cs) :
    (Instr.build T (ps.map fun p => (p.1, p.2.den β)).toArray).run P w = .ok (.agg (cs.map (Cl.den β)).toArray) w := by
  have := fill_run (P := P) (T := T) (n := 0) (zs := zs) β (fun i => some (i * s, s)) (fl := afl len s) (fun i q hq => by
    simp only [afl, List.getElem?_map, Option.map_eq_some_iff] at hq
    obtain ⟨j, hj, rfl⟩ := hq
    have := (List.getElem?_eq_some_iff.1 hj)
    obtain ⟨_, hj⟩ := this
    simp at hj; subst hj; rfl) ps (zs.map .v) cs hf
  have e0 : zs.toArray = ((zs.map Cl.v).map (Cl.den β)).toArray := by simp [Function.comp_def, Cl.den]
  refine Go.run_build w T _ _ (h.blt _ _ ?_)
  rw [e0]; exact this
section
variable {P : Program} {n : Nat} {ops : Array Oper} {rest : List Oper} {fs fs' : FL} {L L' : TL} {ss : List Step}
theorem Run.buildA (ys : List (Nat × Av)) (cs : List Cl) {d : Nat} {T : TypeId} {ps : Array (Nat × Operand)} {ty : TypeId} {pos : String} {after : Array Edge} {g : Option (Nat × Bool)} {gr : FL} {len e s : Nat} {zs : List Value} (l : List (Operand × SV)) (hA : ArrT P T len e s zs) (hg : Gd ops ⟨some d, .build T ps, ty, pos, after, g⟩ fs gr)
    (hev : ∀ p ∈ l, ev fs p.1 = some p.2) (hps : ps.toList = (List.zip ys l).map fun q => (q.1.1, q.2.1)) (hys : l.map (·.2) = ys.map fun q => .a q.2) (hf : fillC (afl len s) (zs.map .v) ys = some cs) (hn : Nat.blt d n = true)
    (h : Run P n ops rest ((d, .a (.agg cs)) :: fs) L ss fs' L') : Run P n ops (⟨some d, .build T ps, ty, pos, after, g⟩ :: rest) fs L (⟨gr ++ opds l, some d, .a (.agg cs), [], [], [], []⟩ :: ss) fs' L' :=
  Run.pure l (.a (.agg cs)) rfl hg hev hn (fun β ρ w hρ => by
    have e : ps.map (fun (i, x) => (i, ρ x)) = (ys.map fun p => (p.1, p.2.den β)).toArray := by
      apply Array.ext'
      simp only [Array.toList_map, hps, List.map_map]
      clear hps hf hev
      induction ys generalizing l with
      | nil => simp
      | cons q ys ih =>
        cases l with
        | nil => simp at hys
        | cons p l =>
          simp only [List.map_cons, List.cons.injEq] at hys
          have h1 := hρ p (by simp)
          simp only [List.zip_cons_cons, List.map_cons, Function.comp, h1, hys.1]
          rw [show (SV.a q.2).den β = q.2.den β from rfl]
          congr 1
          exact ih l hys.2 (fun p hp => hρ p (by simp [hp]))
    simp only [execOp]
    rw [e, run_bind_ok (run_buildA hA β w hf)]; rfl) h
theorem K.buildA {K : List Step → FL → TL → Prop} (ys : List (Nat × Av)) (cs : List Cl) {d : Nat} {T : TypeId} {ps : Array (Nat × Operand)} {ty : TypeId} {pos : String} {after : Array Edge} {g : Option (Nat × Bool)} {gr : FL} {len e s : Nat} {zs : List Value} (l : List (Operand × SV)) (hA : ArrT P T len e s zs) (hg : Gd ops ⟨some d, .build T ps, ty, pos, after, g⟩ fs gr)
    (hev : ∀ p ∈ l, ev fs p.1 = some p.2) (hps : ps.toList = (List.zip ys l).map fun q => (q.1.1, q.2.1)) (hys : l.map (·.2) = ys.map fun q => .a q.2) (hf : fillC (afl len s) (zs.map .v) ys = some cs) (hn : Nat.blt d n = true)
    (h : RunK P n ops rest ((d, .a (.agg cs)) :: fs) L (fun ss fs' L' => K (⟨gr ++ opds l, some d, .a (.agg cs), [], [], [], []⟩ :: ss) fs' L')) : RunK P n ops (⟨some d, .build T ps, ty, pos, after, g⟩ :: rest) fs L K :=
  RunK.of (fun _ _ _ h => Run.buildA ys cs l hA hg hev hps hys hf hn h) h
/-- A place of an array, by a known number. -/
theorem Run.idxA (o : Nat) {d : Nat} {T : TypeId} {x i : Operand} {ty : TypeId} {pos : String} {after : Array Edge} {g : Option (Nat × Bool)} {gr : FL} {len e s k off off' : Nat} {zs : List Value} (hA : ArrT P T len e s zs) (hg : Gd ops ⟨some d, .indexAddr T x i, ty, pos, after, g⟩ fs gr)
    (hx : ev fs x = some (SV.p k off)) (hi : ev fs i = some (SV.i (o : Int))) (ho : Nat.blt o len = true) (ho' : off + o * s = off') (hn : Nat.blt d n = true)
    (h : Run P n ops rest ((d, SV.p k off') :: fs) L ss fs' L') : Run P n ops (⟨some d, .indexAddr T x i, ty, pos, after, g⟩ :: rest) fs L (⟨gr ++ opds [(x, SV.p k off), (i, SV.i (o : Int))], some d, SV.p k off', [], [], [], []⟩ :: ss) fs' L' :=
  Run.pure [(x, SV.p k off), (i, SV.i (o : Int))] (SV.p k off') rfl hg (fun p hp => by simp at hp; rcases hp with rfl | rfl <;> assumption) hn (fun β ρ w hρ => by
    have h1 : ρ x = .pointer (some ⟨(β k).b, off, none⟩) := hρ (x, SV.p k off) (by simp)
    have h2 : ρ i = .int .i64 (o : Int) := hρ (i, SV.i (o : Int)) (by simp)
    rw [Nat.blt_eq] at ho
    subst ho'
    have hr : (Instr.indexAt T (.pointer (some ⟨(β k).b, off, none⟩)) (.int .i64 (o : Int))).run P w = .ok (ptr (β k).b (off + o * s)) w := by
      unfold Instr.indexAt
      have hb : (0 : Int) ≤ (o : Int) ∧ (o : Int) < (len : Int) := by omega
      simp only [asIntOf, Sem.run_bind, Sem.run_pure, Result.andThen_ok, run_und hA.und, Instr.sureAddr, hb, if_true, Int.toNat_natCast, Addr.add]
      by_cases hz : o * s = 0
      · simp [ptr]; rw [hA.es w]; simp [hz]
      · simp [ptr]; rw [hA.es w]; simp [hz]
    simp only [execOp, h1, h2]
    rw [run_bind_ok hr]; rfl) h
theorem K.idxA {K : List Step → FL → TL → Prop} (o : Nat) {d : Nat} {T : TypeId} {x i : Operand} {ty : TypeId} {pos : String} {after : Array Edge} {g : Option (Nat × Bool)} {gr : FL} {len e s k off off' : Nat} {zs : List Value} (hA : ArrT P T len e s zs) (hg : Gd ops ⟨some d, .indexAddr T x i, ty, pos, after, g⟩ fs gr)
    (hx : ev fs x = some (SV.p k off)) (hi : ev fs i = some (SV.i (o : Int))) (ho : Nat.blt o len = true) (ho' : off + o * s = off') (hn : Nat.blt d n = true)
    (h : RunK P n ops rest ((d, SV.p k off') :: fs) L (fun ss fs' L' => K (⟨gr ++ opds [(x, SV.p k off), (i, SV.i (o : Int))], some d, SV.p k off', [], [], [], []⟩ :: ss) fs' L')) : RunK P n ops (⟨some d, .indexAddr T x i, ty, pos, after, g⟩ :: rest) fs L K :=
  RunK.of (fun _ _ _ h => Run.idxA o hA hg hx hi ho ho' hn h) h
end

/-! ### 24c. Methods of known types -/
def methB (P : Program) (T : TypeId) (nm : String) (f : FuncId) : Bool := match P.info? T, P.underlying T with
  | some i, some d => (match d with | .pointer _ => false | _ => true) && (match i.methods.find? (·.name == nm) with
    | some m => m.path.isEmpty && (match m.func with | some (g, b) => g == f && !b | none => false)
    | none => false)
  | _, _ => false
theorem meth_of {P : Program} {T : TypeId} {nm : String} {f : FuncId} (h : methB P T nm f = true) (v : Value) (w : World) : (method (P.types.size + Made.depth) T v nm).run P w = .ok (f, v) w := by
  unfold methB at h
  split at h
  · rename_i i d hi hd
    rw [Bool.and_eq_true] at h
    obtain ⟨h1, h2⟩ := h
    split at h2
    · rename_i m hm
      rw [Bool.and_eq_true] at h2
      obtain ⟨h3, h4⟩ := h2
      have hp : m.path.toList = [] := by simpa using h3
      split at h4
      · rename_i g b hf
        rw [Bool.and_eq_true, beq_iff_eq, Bool.not_eq_true'] at h4
        obtain ⟨rfl, rfl⟩ := h4
        obtain ⟨n, hn⟩ : ∃ n, P.types.size + Made.depth = n + 1 := ⟨P.types.size + Made.depth - 1, by unfold Made.depth; omega⟩
        rw [hn]
        unfold method
        rw [run_bind_ok (run_info hi w)]
        simp only [hm, hp, follow, hf]
        unfold receiverAt
        simp only [Sem.run_bind, Sem.run_pure, Result.andThen_ok]
        rw [show (underlying T).run P w = .ok d w from run_und hd w]
        simp only [Result.andThen_ok]
        cases d <;> first | rfl | (exfalso; simp at h1; done)
      · cases h4
    · cases h2
  · cases h

/-! ### 25. Pools whose visits nobody counts -/
def exRes (r : Int → Res) : Res where
  holds w F := ∃ v, (r v).holds w F
  loc hw h := by
    obtain ⟨v, h⟩ := h
    exact ⟨v, (r v).loc hw h⟩
  lt h hb := by
    obtain ⟨v, h⟩ := h
    exact (r v).lt h hb
/-- A pool's token, whatever its visits are. -/
def pl {α : Type} (k : Nat) (T Tc Ti s : Nat) (f : Cell α → List Value) (p : Pool α) : Tok where
  ks := [k]
  r β := exRes fun v => poolRes (β k).b T Tc Ti s f { p with vis := v }
  sup h := by rename_i β β'; rw [h k (by simp)]
theorem pl_ren {f : Nat → Nat} {α : Type} {k k' T Tc Ti s : Nat} {e : Cell α → List Value} {p : Pool α} (hk : f k' = k) : RenT f (pl k' T Tc Ti s e p) (pl k T Tc Ti s e p) := by
  intro β; subst hk; rfl
theorem SCon.hide {α : Type} {P : Program} {f : FuncId} {args : List SV} {ret : SV} {k T Tc Ti s : Nat} {e : Cell α → List Value} {p p' : Pool α}
    (h : ∀ v, ∃ v', SCon P f args [(k, pool k T Tc Ti s e { p with vis := v })] ret [(k, pool k T Tc Ti s e { p' with vis := v' })] []) : SCon P f args [(k, pl k T Tc Ti s e p)] ret [(k, pl k T Tc Ti s e p')] [] := by
  intro β w F hs
  obtain ⟨v, hv⟩ := Star_one.1 hs
  obtain ⟨v', h1⟩ := h v
  refine (h1 β w F (Star_one.2 hv)).mono fun e' w' => ?_
  rintro ⟨β', hb, he, F', h2, h3, h4⟩
  exact ⟨β', hb, he, F', Star_one.2 ⟨v', Star_one.1 h2⟩, h3, h4⟩
theorem SCon.hideNew {α : Type} {P : Program} {f : FuncId} {args : List SV} {ret : SV} {k T Tc Ti s : Nat} {e : Cell α → List Value} {p : Pool α} {fr : List Nat}
    (h : SCon P f args [] ret [(k, pool k T Tc Ti s e p)] fr) : SCon P f args [] ret [(k, pl k T Tc Ti s e p)] fr := by
  intro β w F hs
  refine (h β w F hs).mono fun e' w' => ?_
  rintro ⟨β', hb, he, F', h2, h3, h4⟩
  exact ⟨β', hb, he, F', Star_one.2 ⟨p.vis, Star_one.1 h2⟩, h3, h4⟩

/-! ### 26. What mirrors are made of -/
abbrev w64 (x : Int) : Int := IntKind.i64.wrap x
abbrev gmin (a b : Int) : Int := if b < a then b else a
abbrev gmax (a b : Int) : Int := if b > a then b else a
section
variable {α β : Type} {c : Bool} {A B : Option α} {r : α}
theorem bif_t (H : (bif c then A else B) = some r) (h : c = true) : A = some r := by rw [h] at H; exact H
theorem bif_f (H : (bif c then A else B) = some r) (h : c = false) : B = some r := by rw [h] at H; exact H
theorem grd {p : Prop} [Decidable p] (H : (bif decide p then A else none) = some r) : p ∧ A = some r := by
  by_cases h : p
  · simp only [h, decide_true, cond_true] at H; exact ⟨h, H⟩
  · simp only [h, decide_false, cond_false] at H; cases H
theorem bnd {o : Option β} {f : β → Option α} (H : o.bind f = some r) : ∃ x, o = some x ∧ f x = some r := Option.bind_eq_some_iff.1 H
def atL (l : List β) (i : Int) : Option β := bif decide (i < 0) then none else l[i.toNat]?
theorem atL_get {l : List β} {i : Int} {x : β} (h : atL l i = some x) : l[i.toNat]? = some x := by
  unfold atL at h
  by_cases h0 : i < 0
  · simp [h0] at h
  · simpa [h0] using h
theorem atL_nn {l : List β} {i : Int} {x : β} (h : atL l i = some x) : i = ((i.toNat : Nat) : Int) := by
  unfold atL at h
  by_cases h0 : i < 0
  · simp [h0] at h
  · omega
end
/-- Where names are changed one to one. -/
theorem inj_pairs : ∀ {l : List (Nat × Nat)}, (l.map (·.2)).Nodup → ∀ {p q : Nat × Nat}, p ∈ l → q ∈ l → p.2 = q.2 → p = q
  | x :: l, h, p, q, hp, hq, e => by
    simp only [List.map_cons, List.nodup_cons] at h
    rcases List.mem_cons.1 hp with h1 | h1 <;> rcases List.mem_cons.1 hq with h2 | h2
    · rw [h1, h2]
    · exact absurd (by rw [← h1, e]; exact List.mem_map_of_mem h2) h.1
    · exact absurd (by rw [← h2, ← e]; exact List.mem_map_of_mem h1) h.1
    · exact inj_pairs h.2 h1 h2 e
theorem rn_mem {ρ : List (Nat × Nat)} (hn : ndB (ρ.map (·.1)) = true) {p : Nat × Nat} (hp : p ∈ ρ) : rn ρ p.1 = p.2 := by
  have key : ∀ {l : List (Nat × Nat)}, (l.map (·.1)).Nodup → p ∈ l → lk l p.1 = some p.2 := by
    intro l
    induction l with
    | nil => intro _ h; cases h
    | cons q l ih =>
      intro hn h
      simp only [List.map_cons, List.nodup_cons] at hn
      rcases List.mem_cons.1 h with rfl | h
      · simp [lk]
      · have : q.1 ≠ p.1 := fun e => hn.1 (by rw [e]; exact List.mem_map_of_mem (f := (·.1)) h)
        have hb : Nat.beq q.1 p.1 = false := by
          cases hb : Nat.beq q.1 p.1 with
          | false => rfl
          | true => exact absurd (Nat.eq_of_beq_eq_true hb) this
        simp only [lk, hb]
        exact ih hn.2 h
  unfold rn
  rw [key (ndB_spec hn) hp]
theorem rn_inj {ρ : List (Nat × Nat)} (hd : ndB (ρ.map (·.2)) = true) (hn : ndB (ρ.map (·.1)) = true) {j k : Nat} (hj : j ∈ ρ.map (·.1)) (hk : k ∈ ρ.map (·.1)) (e : rn ρ j = rn ρ k) : j = k := by
  obtain ⟨p, hp, rfl⟩ := List.mem_map.1 hj
  obtain ⟨q, hq, rfl⟩ := List.mem_map.1 hk
  rw [rn_mem hn hp, rn_mem hn hq] at e
  exact congrArg Prod.fst (inj_pairs (ndB_spec hd) hp hq e)
theorem rn_ks {ρ : List (Nat × Nat)} {ks fr : List Nat} (hd : ndB (ρ.map (·.2)) = true) (hn : ndB (ρ.map (·.1)) = true) (hk : ks.all (fun k => (ρ.map (·.1)).contains k) = true) (hf : fr.all (fun k => (ρ.map (·.1)).contains k) = true) : ∀ k ∈ ks, k ∉ fr → rn ρ k ∉ fr.map (rn ρ) := by
  intro k hkm hkf hm
  obtain ⟨j, hj, e⟩ := List.mem_map.1 hm
  have h1 := List.all_eq_true.1 hk k hkm
  have h2 := List.all_eq_true.1 hf j hj
  simp only [List.contains_iff_mem] at h1 h2
  have := rn_inj hd hn h2 h1 e
  exact hkf (this ▸ hj)
theorem rn_nd {ρ : List (Nat × Nat)} {fr : List Nat} (hd : ndB (ρ.map (·.2)) = true) (hn : ndB (ρ.map (·.1)) = true) (hf : (ndB fr && fr.all (fun k => (ρ.map (·.1)).contains k)) = true) : (fr.map (rn ρ)).Nodup := by
  rw [Bool.and_eq_true] at hf
  have h0 := ndB_spec hf.1
  have hm : ∀ k ∈ fr, k ∈ ρ.map (·.1) := fun k hk => by
    have := List.all_eq_true.1 hf.2 k hk
    simpa only [List.contains_iff_mem] using this
  clear hf
  induction fr with
  | nil => simp
  | cons k fr ih =>
    simp only [List.nodup_cons] at h0
    simp only [List.map_cons, List.nodup_cons]
    refine ⟨fun h => ?_, ih h0.2 (fun j hj => hm j (List.mem_cons_of_mem _ hj))⟩
    obtain ⟨j, hj, e⟩ := List.mem_map.1 h
    have := rn_inj hd hn (hm j (List.mem_cons_of_mem _ hj)) (hm k List.mem_cons_self) e
    exact h0.1 (this ▸ hj)
theorem larg_nil {α : Type} {e : α → List Value} {s : Nat} {S : Foot} {W0 : World} (hf : ∀ c, (e c).length = s) (hs : 0 < s) : LArg S W0 (.slice none 0 0) e s ([] : List α) :=
  ⟨0, 0, hf, hs, ⟨none, 0, rfl, Nat.le_refl _, fun h => by simp at h⟩, fun h => by simp at h, fun j u hj => by simp at hj⟩
section
variable {α β γ : Type} {f : α → Option γ} {g : β → Option γ} {r : γ}
theorem sum_l {a : α} (H : Sum.elim f g (Sum.inl a) = some r) : f a = some r := H
theorem sum_r {b : β} (H : Sum.elim f g (Sum.inr b) = some r) : g b = some r := H
end
theorem ap_m {a b : Nat} (h : a + b < 4294967296) : a + b ≤ maxLen := by simp only [maxLen]; omega
theorem ap_b {a b c : Nat} (h : a + b < 4294967296) (hc : c ≤ 32768) : (a + b) * c ≤ 140737488355328 :=
  Nat.le_trans (Nat.mul_le_mul (Nat.le_of_lt h) hc) (by decide)
theorem tn_le {a b : Int} (h : a ≤ b) : a.toNat ≤ b.toNat := by omega
theorem tn_len {b : Int} {n : Nat} (h : b ≤ (n : Int)) : b.toNat ≤ n := by omega
section
variable {α : Type} {z : α} {p : Pool α}
theorem get_vis (v i g : Int) : (({ p with vis := v } : Pool α).get z i g).1 = (p.get z i g).1 ∧ ∃ v', (({ p with vis := v } : Pool α).get z i g).2 = { p with vis := v' } := by
  unfold Pool.get
  cases h : lookC p.cells i g with
  | none => exact ⟨rfl, v, rfl⟩
  | some c => exact ⟨rfl, _, rfl⟩
theorem set_vis (v i g : Int) (x : α) : (({ p with vis := v } : Pool α).set i g x).1 = (p.set i g x).1 ∧ ∃ v', (({ p with vis := v } : Pool α).set i g x).2 = { (p.set i g x).2 with vis := v' } := by
  unfold Pool.set
  cases h : lookC p.cells i g with
  | none => exact ⟨rfl, v, rfl⟩
  | some c => exact ⟨rfl, _, rfl⟩
theorem drop_vis (v i g : Int) : (({ p with vis := v } : Pool α).drop z i g).1 = (p.drop z i g).1 ∧ ∃ v', (({ p with vis := v } : Pool α).drop z i g).2 = { (p.drop z i g).2 with vis := v' } := by
  unfold Pool.drop
  cases h : lookC p.cells i g with
  | none => exact ⟨rfl, v, rfl⟩
  | some c => exact ⟨rfl, _, rfl⟩
theorem put_vis (v : Int) (x : α) : (({ p with vis := v } : Pool α).put z x).1 = (p.put z x).1 ∧ ∃ v', (({ p with vis := v } : Pool α).put z x).2 = { (p.put z x).2 with vis := v' } := by
  unfold Pool.put Pool.next
  by_cases h : p.held = p.cap
  · simp only [h, if_true]; exact ⟨trivial, v, rfl⟩
  · simp only [h, if_false]
    cases hl : p.free.getLast? with
    | none =>
      simp only
      split
      · exact ⟨rfl, v, rfl⟩
      · exact ⟨rfl, v, rfl⟩
    | some i =>
      simp only
      split
      · exact ⟨rfl, v, rfl⟩
      · exact ⟨rfl, v, rfl⟩
end
def pOk {α : Type} (p : Pool α) : Prop := p.cells.length < 4294967295 ∧ p.free.length < 4294967295 ∧ ∀ i ∈ p.free, 0 ≤ i ∧ i.toNat < p.cells.length
instance {α : Type} (p : Pool α) : Decidable (pOk p) := by unfold pOk; infer_instance
theorem pOk.ok {α : Type} {p : Pool α} (h : pOk p) (v : Int) : PoolOk 4294967294 { p with vis := v } := ⟨by have := h.1; simp only; omega, by have := h.2.1; simp only; omega, h.2.2⟩
def pGet {α : Type} (z : α) (p : Pool α) (i g : Int) : Option (α × Bool) := bif decide (pOk p) then some (p.get z i g).1 else none
def pSet {α : Type} (p : Pool α) (i g : Int) (v : α) : Option (Bool × Pool α) := bif decide (pOk p) then some (p.set i g v) else none
def pPut {α : Type} (z : α) (p : Pool α) (v : α) : Option (((Int × Int) × Bool) × Pool α) := bif decide (pOk p) then some (p.put z v) else none
def pDrop {α : Type} (z : α) (p : Pool α) (i g : Int) : Option ((α × Bool) × Pool α) := bif decide (pOk p) then some (p.drop z i g) else none
theorem SCon.lawRd {P : Program} {f : FuncId} {args : List SV} {fr : List Nat} {w : World} (h : SCon P f args [(0, rd (fun b => b < w.heap.size) w)] (SV.b true) [(0, rd (fun b => b < w.heap.size) w)] fr) :
    Calls P f (args.map (SV.den noEnv)).toArray w (fun e w' => e = .returned (.bool true) ∧ Go.RowKit.Below w.heap.size w w') := by
  refine (h noEnv w (fun b => b < w.heap.size) (Star_one.2 ⟨fun b => Iff.rfl, fun b hb => ⟨hb, rfl⟩⟩)).mono fun e w' => ?_
  rintro ⟨β', _, he, F', hs, _, hM⟩
  have := Star_one.1 hs
  exact ⟨he, hM.os, hM.tape, hM.output, hM.size, fun k hk => (this.2 k hk).2⟩
end Go.Proofs.Ytheopcgjdfckmaa.Sx

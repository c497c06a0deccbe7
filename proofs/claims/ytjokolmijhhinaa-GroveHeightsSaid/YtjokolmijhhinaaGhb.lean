/- My texts that the proof of GroveHeights rests on, part 2: a calculus of walks, the walks, and the plain law. -/
import Derived.LaidEqlPtr
import Derived.Laws.BytesArg
import Derived.Laws.Strings
import Derived.Lib.AppendZerosOnto
import Derived.Laws.MakeOwn
import Derived.Laws.Cover3
import Derived.Test.YtjokolmijhhinaaProg
import Derived.KernelRfl
import Derived.Test.YtjokolmijhhinaaGha
set_option linter.unusedVariables false
set_option linter.unusedSimpArgs false
namespace Go.Proofs.Ytjokolmijhhinaa.Sx
open Go
def rdRes (S : Foot) (W0 : World) : Res where
  holds w F := (∀ b, F b ↔ S b) ∧ ∀ b, S b → b < w.heap.size ∧ w.heap[b]? = W0.heap[b]?
  loc := by
    intro w w' F hw h
    refine ⟨h.1, fun b hb => ?_⟩
    have h1 := h.2 b hb
    have h2 := hw b ((h.1 b).2 hb)
    refine ⟨?_, h2.trans h1.2⟩
    rw [Array.getElem?_eq_getElem h1.1] at h2
    exact (Array.getElem?_eq_some_iff.1 h2).1
  lt := by
    intro w F b h hb
    exact (h.2 b ((h.1 b).1 hb)).1
def rd (S : Foot) (W0 : World) : Tok where
  ks := []
  r _ := rdRes S W0
  sup _ := rfl
structure LAt {α : Type} (S : Foot) (W0 : World) (v : Value) (b o : Nat) (e : α → List Value) (s : Nat) (l : List α) : Prop where
  len : ∀ c, (e c).length = s
  pos : 0 < s
  sl : ∃ ao cap, v = .slice ao l.length cap ∧ l.length ≤ cap ∧ (0 < l.length → ao = some ⟨b, o, none⟩)
  inn : 0 < l.length → S b
  cells : ∀ j u, (l.flatMap e)[j]? = some u → W0.cell? ⟨b, o + j, none⟩ = some u
def LArg {α : Type} (S : Foot) (W0 : World) (v : Value) (e : α → List Value) (s : Nat) (l : List α) : Prop := ∃ b o, LAt S W0 v b o e s l
def rV {α : Type} (k : Nat) (S : Foot) (W0 : World) (v : Value) (b o : Nat) (e : α → List Value) (s : Nat) (l : List α) : Vw := ⟨k, rd S W0, .v v, fun off => .v (ptr b (o + off)), l.length, s, l.flatMap e⟩
structure Vw.IsC {α : Type} (V : Vw) (e : α → List Value) (l : List α) : Prop where
  is : V.Is e l
  cap : ∀ (β : Env) (w : World) (F : Foot), (V.t.r β).holds w F → ∀ ao m cap, V.s.den β = .slice ao m cap → m ≤ cap
section
variable {α : Type} {e : α → List Value} {s : Nat} {l : List α} {S : Foot} {W0 : World} {v : Value} {b o : Nat}
theorem LAt.is (h : LAt S W0 v b o e s l) (k : Nat) : (rV k S W0 v b o e s l).Is e l := by
  refine ⟨rfl, rfl, h.len, h.pos, ?_⟩
  intro β w F hw
  obtain ⟨ao, cap, h1, h2, h3⟩ := h.sl
  refine ⟨chunk_len h.len l, ao, cap, h1, fun hm => ⟨b, o, h3 hm, fun _ _ => rfl, fun j u hj => ?_⟩⟩
  have h4 := hw.2 b (h.inn hm)
  have := h.cells j u hj
  simp only [World.cell?] at this ⊢
  rw [h4.2]; exact this
theorem LAt.isC (h : LAt S W0 v b o e s l) (k : Nat) : (rV k S W0 v b o e s l).IsC e l := by
  refine ⟨h.is k, fun β w F _ ao m cap hd => ?_⟩
  obtain ⟨ao', cap', h1, h2, h3⟩ := h.sl
  have : Value.slice ao m cap = .slice ao' l.length cap' := hd.symm.trans h1
  cases this; exact h2
theorem lrowV_isC {k : Nat} {T : TypeId} (hf : ∀ c, (e c).length = s) (hs : 0 < s) : (lrowV k T e s l).IsC e l := by
  refine ⟨lrowV_is hf hs, fun β w F hw ao m cap hd => ?_⟩
  have h2 : w.ownsRow 0 T s (one1 (β k).v) l.length (l.flatMap e) := hw.2
  have hd' : one1 (β k).v = .slice ao m cap := hd
  rw [hd'] at h2
  rcases h2.2 with ⟨h0, h4⟩ | ⟨g, cap', cur, hv, _, _, hc, _⟩
  · cases h0; omega
  · cases hv; exact hc
theorem Vw.inn {V : Vw} (hV : V.Ok) {β : Env} {w : World} {F : Foot} (h : (V.t.r β).holds w F) {b o cap : Nat} (hd : V.s.den β = .slice (some ⟨b, o, none⟩) V.m cap) (hm : 0 < V.m) (hs : 0 < V.size) : F b := by
  refine Classical.byContradiction fun hn => ?_
  have h1 : (V.t.r β).holds (w.setRow b #[]) F := (V.t.r β).loc (fun k hk => setRow_other w b k _ (fun e => hn (e ▸ hk))) h
  obtain ⟨hx, ao, cap', h2, h3⟩ := hV β _ F h1
  rw [hd] at h2
  cases h2
  obtain ⟨b', o', h4, _, h5⟩ := h3 hm
  cases h4
  have hpos : 0 < V.xs.length := by rw [hx]; exact Nat.mul_pos hm hs
  have h6 := h5 0 V.xs[0] (List.getElem?_eq_getElem hpos)
  obtain ⟨hx0, ao0, cap0, h20, h30⟩ := hV β w F h
  rw [hd] at h20
  cases h20
  obtain ⟨b1, o1, h41, _, h51⟩ := h30 hm
  cases h41
  have h61 := h51 0 V.xs[0] (List.getElem?_eq_getElem hpos)
  simp only [World.cell?] at h61 h6
  cases hc : w.heap[b]? with
  | none => rw [hc] at h61; cases h61
  | some ob =>
    rw [hc] at h61
    cases ob with
    | cells cur T tg =>
      have := setRow_heap w b _ #[] _ _ hc
      rw [this] at h6
      simp at h6
    | _ => cases h61
theorem Star_mem : ∀ {L : List Res} {w : World} {F : Foot} {r : Res}, Star L w F → r ∈ L → ∃ F1 : Foot, (∀ b, F1 b → F b) ∧ r.holds w F1
  | r0 :: L, w, F, r, ⟨F1, F2, e, d, hr, hs⟩, hm => by
    rcases List.mem_cons.1 hm with rfl | hm
    · exact ⟨F1, fun b hb => (e b).2 (.inl hb), hr⟩
    · obtain ⟨G, h1, h2⟩ := Star_mem hs hm
      exact ⟨G, fun b hb => (e b).2 (.inr (h1 b hb)), h2⟩
theorem Vw.IsC.larg {V : Vw} (h : V.IsC e l) {tr : List (Nat × Tok)} (hm : ∃ k, (k, V.t) ∈ tr) {β : Env} {w : World} {S : Foot} (hs : Star (tr.map fun p => p.2.r β) w S) : LArg S w (V.s.den β) e V.size l := by
  obtain ⟨k, hm⟩ := hm
  obtain ⟨F1, hsub, h1⟩ := Star_mem hs (List.mem_map_of_mem (f := fun p : Nat × Tok => p.2.r β) hm)
  obtain ⟨hx, ao, cap, h2, h3⟩ := h.is.ok β w F1 h1
  have hc := h.cap β w F1 h1 ao V.m cap h2
  have hm' := h.is.m
  by_cases h0 : 0 < V.m
  · obtain ⟨b, o, rfl, hp, hcl⟩ := h3 h0
    exact ⟨b, o, h.is.len, h.is.pos, ⟨_, cap, by rw [h2, hm'], by omega, fun _ => rfl⟩, fun _ => hsub b (Vw.inn h.is.ok h1 h2 h0 h.is.pos), fun j u hj => hcl j u (by rw [h.is.xs]; exact hj)⟩
  · have hl : l = [] := List.eq_nil_of_length_eq_zero (by omega)
    subst hl
    exact ⟨0, 0, h.is.len, h.is.pos, ⟨_, cap, by rw [h2, hm'], by simp, fun h => by simp at h⟩, fun h => by simp at h, fun j u hj => by simp at hj⟩
end
theorem Star_append {A B : List Res} : ∀ {w : World} {F : Foot}, Star (A ++ B) w F ↔ ∃ F1 F2 : Foot, (∀ b, F b ↔ F1 b ∨ F2 b) ∧ (∀ b, F1 b → ¬ F2 b) ∧ Star A w F1 ∧ Star B w F2 := by
  induction A with
  | nil =>
    intro w F
    constructor
    · intro h; exact ⟨fun _ => False, F, fun b => by simp, fun _ h => h.elim, fun _ h => h, h⟩
    · rintro ⟨F1, F2, e, d, h1, h2⟩
      have : F = F2 := funext fun b => propext (by rw [e b]; exact ⟨fun h => h.elim (fun h' => absurd h' (h1 b)) id, .inr⟩)
      rw [this]; exact h2
  | cons r A ih =>
    intro w F
    constructor
    · rintro ⟨G1, G2, e, d, hr, hs⟩
      obtain ⟨F1, F2, e', d', h1, h2⟩ := ih.1 hs
      refine ⟨fun b => G1 b ∨ F1 b, F2, fun b => by rw [e b, e' b, or_assoc], ?_, ⟨G1, F1, fun b => Iff.rfl, fun b hb hf => d b hb ((e' b).2 (.inl hf)), hr, h1⟩, h2⟩
      rintro b (hb | hb) hf
      · exact d b hb ((e' b).2 (.inr hf))
      · exact d' b hb hf
    · rintro ⟨F1, F2, e, d, ⟨G1, G2, e', d', hr, h1⟩, h2⟩
      refine ⟨G1, fun b => G2 b ∨ F2 b, fun b => by rw [e b, e' b, or_assoc], ?_, hr, ih.2 ⟨G2, F2, fun b => Iff.rfl, fun b hb hf => d b ((e' b).2 (.inr hb)) hf, h1, h2⟩⟩
      rintro b hb (hf | hf)
      · exact d' b hb hf
      · exact d b ((e' b).2 (.inl hb)) hf
section
variable {P : Program} {n : Nat} {ops : Array Oper} {rest : List Oper} {fs fs' : FL} {L L' : TL} {ss : List Step}
theorem Run.callV {d : Nat} {c : Call} {ty : TypeId} {pos : String} {after : Array Edge} {g : Option (Nat × Bool)} {gr : FL} {f : FuncId} {args : List SV} {ret : SV} {fr : List Nat} (l : List (Operand × SV)) (tr ti to : List (Nat × Tok)) (args' : Env → List SV)
    (ha : ∀ β, (args' β).map (SV.den β) = args.map (SV.den β))
    (hs : ∀ (β : Env) (w : World) (S : Foot), Star (tr.map fun p => p.2.r β) w S → SCon P f (args' β) ((0, rd S w) :: ti) ret ((0, rd S w) :: to) fr)
    (hc : ToFn P c ty l f args) (hg : Gd ops ⟨some d, .call c, ty, pos, after, g⟩ fs gr) (hev : ∀ p ∈ l, ev fs p.1 = some p.2)
    (htk : ∀ p ∈ tr ++ ti, lkT L p.1 = some p.2) (hnd : ((tr ++ ti).map (·.1)).Nodup) (hnd' : ((tr ++ to).map (·.1)).Nodup) (hsub : ∀ p ∈ ti, p.1 ∈ to.map (·.1)) (hout : ∀ p ∈ to, p.1 ∈ ti.map (·.1) ∨ lkT L p.1 = none)
    (hfr : frB fr fs L = true) (hn : Nat.blt d n = true)
    (h : Run P n ops rest ((d, ret) :: fs) (to.map (fun p => (p.1, some p.2)) ++ L) ss fs' L') : Run P n ops (⟨some d, .call c, ty, pos, after, g⟩ :: rest) fs L (⟨gr ++ opds l, some d, ret, tr, ti, to, fr⟩ :: ss) fs' L' := by
  obtain ⟨f1, f2, f3⟩ := frB_spec hfr
  refine Run.cons ?_ ?_ ?_ (fun j => ?_) h
  · intro β a w G K Q hrs hsz hst hK
    have hw := hg.wanted hrs hsz
    unfold opW Oper.wp
    rw [if_pos hw]
    have h1 := hc β a.eval w (opds_eval hg hev hrs)
    simp only [execOp]
    rw [h1, Oper.upon_enter]
    rw [List.map_append] at hst
    obtain ⟨S, F2, e, dj, hS, hT⟩ := Star_append.1 hst
    have hin : Star (((0, rd S w) :: ti).map fun p => p.2.r β) w G := ⟨S, F2, e, dj, ⟨fun b => Iff.rfl, fun b hb => ⟨hS.lt hb, rfl⟩⟩, hT⟩
    have hcall := hs β w S hS β w G hin
    rw [ha] at hcall
    refine hcall.mono (fun e' w' he => ?_)
    obtain ⟨β', hb, rfl, F', h2, h3, h4⟩ := he
    obtain ⟨S', F3, eF, dF, hS', hT'⟩ := h2
    have hS2 : Star (tr.map fun p => p.2.r β') w' S := by
      have : (tr.map fun p => p.2.r β') = tr.map fun p => p.2.r β := List.map_congr_left (fun p hp => (p.2.sup (fun k hk => hb k (f3 p.1 p.2 (htk p (List.mem_append_left _ hp)) k hk))))
      rw [this]
      exact hS.loc (fun b hb => (hS'.2 b hb).2)
    refine hK β' w' F' hb ?_ h3 h4
    rw [List.map_append]
    have eS : ∀ b, S' b ↔ S b := hS'.1
    exact Star_append.2 ⟨S, F3, fun b => by rw [eF b, eS b], fun b h1 h2 => dF b ((eS b).2 h1) h2, hS2, hT'⟩
  · refine ⟨fun t z hz => ?_, fun d' hd' => ?_, htk, hnd, hnd', hout, f1, f2, fun j t hj _ => f3 j t hj⟩
    · rw [lk_append] at hz
      cases hx' : lk gr t with
      | some z' => rw [hx'] at hz; simp at hz; subst hz; exact hg.fs hx'
      | none => rw [hx'] at hz; simp at hz; exact opds_fs hev hz
    · simp at hd'; subst hd'
      rw [Nat.blt_eq] at hn
      exact hn
  · simp only [Step.outF, lk_cons]
  · rw [Step.outM_eq]
    have e1 : ∀ (to : List (Nat × Tok)), lkT (to.map (fun p => (p.1, some p.2)) ++ L) j = (lkP to j).or (lkT L j) := by
      intro to
      induction to with
      | nil => simp [lkP]
      | cons p to ih =>
        rw [List.map_cons, List.cons_append, lkT_cons]
        simp only [upd, lkP]
        split <;> simp [ih]
    rw [e1]
    cases hp : lkP to j with
    | some x => rfl
    | none =>
      simp only [Option.none_or]
      rw [if_neg]
      intro hm
      obtain ⟨p, hp', rfl⟩ := List.mem_map.1 hm
      obtain ⟨q, hq, e⟩ := List.mem_map.1 (hsub p hp')
      have : ∀ l : List (Nat × Tok), q ∈ l → lkP l p.1 ≠ none := by
        intro l
        induction l with
        | nil => intro h; cases h
        | cons r l ih =>
          intro h
          simp only [lkP]
          split
          · simp
          · rename_i hne
            rcases List.mem_cons.1 h with rfl | h
            · exact absurd e.symm hne
            · exact ih h
      exact this to hq hp
theorem K.callV {K : List Step → FL → TL → Prop} {d : Nat} {c : Call} {ty : TypeId} {pos : String} {after : Array Edge} {g : Option (Nat × Bool)} {gr : FL} {f : FuncId} {args : List SV} {ret : SV} {fr : List Nat} (l : List (Operand × SV)) (tr ti to : List (Nat × Tok)) (args' : Env → List SV)
    (hs : ∀ (β : Env) (w : World) (S : Foot), Star (tr.map fun p => p.2.r β) w S → SCon P f (args' β) ((0, rd S w) :: ti) ret ((0, rd S w) :: to) fr)
    (hc : ToFn P c ty l f args) (hg : Gd ops ⟨some d, .call c, ty, pos, after, g⟩ fs gr) (hev : AllE fs l) (ha : ∀ β, (args' β).map (SV.den β) = args.map (SV.den β))
    (htk : AllT L (tr ++ ti)) (hnd : ndB ((tr ++ ti).map (·.1)) = true) (hnd' : ndB ((tr ++ to).map (·.1)) = true) (hsub : ti.all (fun p => (to.map (·.1)).contains p.1) = true) (hout : to.all (fun p => (ti.map (·.1)).contains p.1 || (lkT L p.1).isNone) = true)
    (hfr : frB fr fs L = true) (hn : Nat.blt d n = true)
    (h : RunK P n ops rest ((d, ret) :: fs) (to.map (fun p => (p.1, some p.2)) ++ L) (fun ss fs' L' => K (⟨gr ++ opds l, some d, ret, tr, ti, to, fr⟩ :: ss) fs' L')) : RunK P n ops (⟨some d, .call c, ty, pos, after, g⟩ :: rest) fs L K :=
  RunK.of (fun _ _ _ h => Run.callV l tr ti to args' ha hs hc hg hev.spec htk.spec (ndB_spec hnd) (ndB_spec hnd') (fun p hp => by simpa using List.all_eq_true.1 hsub p hp) (fun p hp => by
    have := List.all_eq_true.1 hout p hp
    rw [Bool.or_eq_true] at this
    rcases this with h | h
    · exact .inl (by simpa using h)
    · exact .inr (by simpa using h)) hfr hn h) h
theorem Run.skipU {o : Oper} {d : Nat} {j : Nat} {want : Bool} {t : Nat} (hd : o.dst = some d) (hgd : o.guard = some (j, want)) (hdj : (ops[j]?).bind (·.dst) = some t) (hl : lk fs t = some (SV.raw undef)) (hn : Nat.blt d n = true)
    (h : Run P n ops rest ((d, SV.raw undef) :: fs) L ss fs' L') : Run P n ops (o :: rest) fs L (⟨[(t, SV.raw undef)], some d, SV.raw undef, [], [], [], []⟩ :: ss) fs' L' := by
  refine Run.cons ?_ ?_ ?_ (fun k => ?_) h
  · intro β a w G K Q hrs hsz hst hK
    have e1 : lk [(t, SV.raw undef)] t = some (SV.raw undef) := by simp [lk]
    have e2 := hrs t _ e1
    have e3 := hsz t (by rw [e1]; rfl)
    have hw : Region.wanted o (yielded ops a.tmps) = false := by
      simp only [Region.wanted, hgd, yielded, hdj, Option.bind_some]
      have e4 : a.tmps[t]? = some undef := by
        have : a.tmps[t]? = some a.tmps[t] := by simp [e3]
        rw [this]
        simp [Array.getD_eq_getD_getElem?, e3] at e2
        rw [e2]; rfl
      rw [e4]; cases want <;> rfl
    unfold opW
    rw [hw, hd]
    exact hK β w G (fun _ _ => rfl) hst (fun b hb => .inl hb) (Mod.refl _ _)
  · refine ⟨fun t' y hy => ?_, fun d' hd' => ?_, fun p hp => by simp at hp, by simp, by simp, fun p hp => by simp at hp, fun k hk => by simp at hk, fun _ _ _ _ _ h => by simp at h, fun _ _ _ _ _ _ h => by simp at h⟩
    · have := lk_mem hy
      simp at this
      obtain ⟨rfl, rfl⟩ := this
      exact hl
    · simp at hd'; subst hd'
      rw [Nat.blt_eq] at hn
      exact hn
  · simp only [Step.outF, lk_cons]
  · rfl
theorem K.skipU {K : List Step → FL → TL → Prop} {o : Oper} {d : Nat} {j : Nat} {want : Bool} {t : Nat} (hd : o.dst = some d) (hgd : o.guard = some (j, want)) (hdj : (ops[j]?).bind (·.dst) = some t) (hl : lk fs t = some (SV.raw undef)) (hn : Nat.blt d n = true)
    (h : RunK P n ops rest ((d, SV.raw undef) :: fs) L (fun ss fs' L' => K (⟨[(t, SV.raw undef)], some d, SV.raw undef, [], [], [], []⟩ :: ss) fs' L')) : RunK P n ops (o :: rest) fs L K :=
  RunK.of (fun _ _ _ h => Run.skipU hd hgd hdj hl hn h) h
end
def arrB (P : Program) (T len e s : Nat) (zs : List Value) : Bool := match P.underlying T, P.info? e, P.info? T with
  | some (.array l e'), some ie, some it => l == len && e' == e && ie.size == s && (match it.zero with
    | some (.agg a) => a.size == zs.length && (List.range zs.length).all (fun j => match a[j]?, zs[j]? with
      | some (.int k n), some (.int k' n') => k == k' && n == n'
      | some (.bool b), some (.bool b') => b == b'
      | _, _ => false)
    | _ => false)
  | _, _, _ => false
section
variable {P : Program} {n : Nat} {ops : Array Oper} {rest : List Oper} {fs fs' : FL} {L L' : TL} {ss : List Step}
end
def methB (P : Program) (T : TypeId) (nm : String) (f : FuncId) : Bool := match P.info? T, P.underlying T with
  | some i, some d => (match d with | .pointer _ => false | _ => true) && (match i.methods.find? (·.name == nm) with
    | some m => m.path.isEmpty && (match m.func with | some (g, b) => g == f && !b | none => false)
    | none => false)
  | _, _ => false
theorem meth_of {P : Program} {T : TypeId} {nm : String} {f : FuncId} (h : methB P T nm f = true) (v : Value) (w : World) : (method (P.types.size + Made.depth) T v nm).run P w = .ok (f, v) w := by
  unfold methB at h
  split at h
  · rename_i i d hi hd
    rw [Bool.and_eq_true] at h
    obtain ⟨h1, h2⟩ := h
    split at h2
    · rename_i m hm
      rw [Bool.and_eq_true] at h2
      obtain ⟨h3, h4⟩ := h2
      have hp : m.path.toList = [] := by simpa using h3
      split at h4
      · rename_i g b hf
        rw [Bool.and_eq_true, beq_iff_eq, Bool.not_eq_true'] at h4
        obtain ⟨rfl, rfl⟩ := h4
        obtain ⟨n, hn⟩ : ∃ n, P.types.size + Made.depth = n + 1 := ⟨P.types.size + Made.depth - 1, by unfold Made.depth; omega⟩
        rw [hn]
        unfold method
        rw [run_bind_ok (run_info hi w)]
        simp only [hm, hp, follow, hf]
        unfold receiverAt
        simp only [Sem.run_bind, Sem.run_pure, Result.andThen_ok]
        rw [show (underlying T).run P w = .ok d w from run_und hd w]
        simp only [Result.andThen_ok]
        cases d <;> first | rfl | (exfalso; simp at h1; done)
      · cases h4
    · cases h2
  · cases h
abbrev w64 (x : Int) : Int := IntKind.i64.wrap x
abbrev gmin (a b : Int) : Int := if b < a then b else a
abbrev gmax (a b : Int) : Int := if b > a then b else a
section
variable {α β : Type} {c : Bool} {A B : Option α} {r : α}
theorem bif_t (H : (bif c then A else B) = some r) (h : c = true) : A = some r := by rw [h] at H; exact H
theorem bif_f (H : (bif c then A else B) = some r) (h : c = false) : B = some r := by rw [h] at H; exact H
theorem grd {p : Prop} [Decidable p] (H : (bif decide p then A else none) = some r) : p ∧ A = some r := by
  by_cases h : p
  · simp only [h, decide_true, cond_true] at H; exact ⟨h, H⟩
  · simp only [h, decide_false, cond_false] at H; cases H
theorem bnd {o : Option β} {f : β → Option α} (H : o.bind f = some r) : ∃ x, o = some x ∧ f x = some r := Option.bind_eq_some_iff.1 H
def atL (l : List β) (i : Int) : Option β := bif decide (i < 0) then none else l[i.toNat]?
theorem atL_get {l : List β} {i : Int} {x : β} (h : atL l i = some x) : l[i.toNat]? = some x := by
  unfold atL at h
  by_cases h0 : i < 0
  · simp [h0] at h
  · simpa [h0] using h
theorem atL_nn {l : List β} {i : Int} {x : β} (h : atL l i = some x) : i = ((i.toNat : Nat) : Int) := by
  unfold atL at h
  by_cases h0 : i < 0
  · simp [h0] at h
  · omega
end
theorem inj_pairs : ∀ {l : List (Nat × Nat)}, (l.map (·.2)).Nodup → ∀ {p q : Nat × Nat}, p ∈ l → q ∈ l → p.2 = q.2 → p = q
  | x :: l, h, p, q, hp, hq, e => by
    simp only [List.map_cons, List.nodup_cons] at h
    rcases List.mem_cons.1 hp with h1 | h1 <;> rcases List.mem_cons.1 hq with h2 | h2
    · rw [h1, h2]
    · exact absurd (by rw [← h1, e]; exact List.mem_map_of_mem h2) h.1
    · exact absurd (by rw [← h2, ← e]; exact List.mem_map_of_mem h1) h.1
    · exact inj_pairs h.2 h1 h2 e
theorem rn_mem {ρ : List (Nat × Nat)} (hn : ndB (ρ.map (·.1)) = true) {p : Nat × Nat} (hp : p ∈ ρ) : rn ρ p.1 = p.2 := by
  have key : ∀ {l : List (Nat × Nat)}, (l.map (·.1)).Nodup → p ∈ l → lk l p.1 = some p.2 := by
    intro l
    induction l with
    | nil => intro _ h; cases h
    | cons q l ih =>
      intro hn h
      simp only [List.map_cons, List.nodup_cons] at hn
      rcases List.mem_cons.1 h with rfl | h
      · simp [lk]
      · have : q.1 ≠ p.1 := fun e => hn.1 (by rw [e]; exact List.mem_map_of_mem (f := (·.1)) h)
        have hb : Nat.beq q.1 p.1 = false := by
          cases hb : Nat.beq q.1 p.1 with
          | false => rfl
          | true => exact absurd (Nat.eq_of_beq_eq_true hb) this
        simp only [lk, hb]
        exact ih hn.2 h
  unfold rn
  rw [key (ndB_spec hn) hp]
theorem rn_inj {ρ : List (Nat × Nat)} (hd : ndB (ρ.map (·.2)) = true) (hn : ndB (ρ.map (·.1)) = true) {j k : Nat} (hj : j ∈ ρ.map (·.1)) (hk : k ∈ ρ.map (·.1)) (e : rn ρ j = rn ρ k) : j = k := by
  obtain ⟨p, hp, rfl⟩ := List.mem_map.1 hj
  obtain ⟨q, hq, rfl⟩ := List.mem_map.1 hk
  rw [rn_mem hn hp, rn_mem hn hq] at e
  exact congrArg Prod.fst (inj_pairs (ndB_spec hd) hp hq e)
theorem rn_ks {ρ : List (Nat × Nat)} {ks fr : List Nat} (hd : ndB (ρ.map (·.2)) = true) (hn : ndB (ρ.map (·.1)) = true) (hk : ks.all (fun k => (ρ.map (·.1)).contains k) = true) (hf : fr.all (fun k => (ρ.map (·.1)).contains k) = true) : ∀ k ∈ ks, k ∉ fr → rn ρ k ∉ fr.map (rn ρ) := by
  intro k hkm hkf hm
  obtain ⟨j, hj, e⟩ := List.mem_map.1 hm
  have h1 := List.all_eq_true.1 hk k hkm
  have h2 := List.all_eq_true.1 hf j hj
  simp only [List.contains_iff_mem] at h1 h2
  have := rn_inj hd hn h2 h1 e
  exact hkf (this ▸ hj)
theorem rn_nd {ρ : List (Nat × Nat)} {fr : List Nat} (hd : ndB (ρ.map (·.2)) = true) (hn : ndB (ρ.map (·.1)) = true) (hf : (ndB fr && fr.all (fun k => (ρ.map (·.1)).contains k)) = true) : (fr.map (rn ρ)).Nodup := by
  rw [Bool.and_eq_true] at hf
  have h0 := ndB_spec hf.1
  have hm : ∀ k ∈ fr, k ∈ ρ.map (·.1) := fun k hk => by
    have := List.all_eq_true.1 hf.2 k hk
    simpa only [List.contains_iff_mem] using this
  clear hf
  induction fr with
  | nil => simp
  | cons k fr ih =>
    simp only [List.nodup_cons] at h0
    simp only [List.map_cons, List.nodup_cons]
    refine ⟨fun h => ?_, ih h0.2 (fun j hj => hm j (List.mem_cons_of_mem _ hj))⟩
    obtain ⟨j, hj, e⟩ := List.mem_map.1 h
    have := rn_inj hd hn (hm j (List.mem_cons_of_mem _ hj)) (hm k List.mem_cons_self) e
    exact h0.1 (this ▸ hj)
section
variable {α β γ : Type} {f : α → Option γ} {g : β → Option γ} {r : γ}
theorem sum_l {a : α} (H : Sum.elim f g (Sum.inl a) = some r) : f a = some r := H
theorem sum_r {b : β} (H : Sum.elim f g (Sum.inr b) = some r) : g b = some r := H
end
section
variable {α : Type} {z : α} {p : Pool α}
end
def pOk {α : Type} (p : Pool α) : Prop := p.cells.length < 4294967295 ∧ p.free.length < 4294967295 ∧ ∀ i ∈ p.free, 0 ≤ i ∧ i.toNat < p.cells.length
instance {α : Type} (p : Pool α) : Decidable (pOk p) := by unfold pOk; infer_instance
theorem pOk.ok {α : Type} {p : Pool α} (h : pOk p) (v : Int) : PoolOk 4294967294 { p with vis := v } := ⟨by have := h.1; simp only; omega, by have := h.2.1; simp only; omega, h.2.2⟩
def pGet {α : Type} (z : α) (p : Pool α) (i g : Int) : Option (α × Bool) := bif decide (pOk p) then some (p.get z i g).1 else none
def pSet {α : Type} (p : Pool α) (i g : Int) (v : α) : Option (Bool × Pool α) := bif decide (pOk p) then some (p.set i g v) else none
def pPut {α : Type} (z : α) (p : Pool α) (v : α) : Option (((Int × Int) × Bool) × Pool α) := bif decide (pOk p) then some (p.put z v) else none
def pDrop {α : Type} (z : α) (p : Pool α) (i g : Int) : Option ((α × Bool) × Pool α) := bif decide (pOk p) then some (p.drop z i g) else none
theorem SCon.lawRd {P : Program} {f : FuncId} {args : List SV} {fr : List Nat} {w : World} (h : SCon P f args [(0, rd (fun b => b < w.heap.size) w)] (SV.b true) [(0, rd (fun b => b < w.heap.size) w)] fr) :
    Calls P f (args.map (SV.den noEnv)).toArray w (fun e w' => e = .returned (.bool true) ∧ Go.RowKit.Below w.heap.size w w') := by
  refine (h noEnv w (fun b => b < w.heap.size) (Star_one.2 ⟨fun b => Iff.rfl, fun b hb => ⟨hb, rfl⟩⟩)).mono fun e w' => ?_
  rintro ⟨β', _, he, F', hs, _, hM⟩
  have := Star_one.1 hs
  exact ⟨he, hM.os, hM.tape, hM.output, hM.size, fun k hk => (this.2 k hk).2⟩
end Go.Proofs.Ytjokolmijhhinaa.Sx
namespace Go.Proofs.Ytjokolmijhhinaa.Sx
open Go
theorem toFn_raw {P : Program} {f : FuncId} {x : Operand} {az : Array Operand} {ats : Array TypeId} {ty : TypeId} {l : List (Operand × SV)} (hf : fnB P f = true) (has : az.toList = l.map (·.1)) :
    ToFn P ⟨.value x, az, ats⟩ ty ((x, SV.raw (.func (.func f) #[] #[])) :: l) f (l.map (·.2)) := by
  intro β ρ w hρ
  have h1 : ρ x = .func (.func f) #[] #[] := hρ (x, SV.raw (.func (.func f) #[] #[])) (by simp)
  have h2 := args_map (ρ := ρ) (β := β) has (fun p hp => hρ p (by simp [hp]))
  simp only [resolve, h1, Deferred.ofValue, Sem.run_bind, Sem.run_pure, Result.andThen_ok, invoke, h2]
  rw [callFunc_run hf]
  simp
section
variable {P : Program} {n : Nat} {ops : Array Oper} {rest : List Oper} {fs fs' : FL} {L L' : TL} {ss : List Step}
end
end Go.Proofs.Ytjokolmijhhinaa.Sx
namespace Go.Proofs.Ytjokolmijhhinaa.Sx
open Go
section
variable {P : Program} {T te : TypeId} {x z : Operand} {j : TypeInfo}
end
section
variable {P : Program} {n : Nat} {ops : Array Oper} {rest : List Oper} {fs fs' : FL} {L L' : TL} {ss : List Step} {K : List Step → FL → TL → Prop}
end
section
variable {P : Program} {T te : TypeId} {x z : Operand}
end
end Go.Proofs.Ytjokolmijhhinaa.Sx
namespace Go.Proofs.Ytjokolmijhhinaa.Sx
open Go
section
variable {P : Program} {t ty : TypeId} {x z : Operand}
end
section
variable {P : Program} {n : Nat} {ops : Array Oper} {rest : List Oper} {fs fs' : FL} {L L' : TL} {ss : List Step}
end
end Go.Proofs.Ytjokolmijhhinaa.Sx
namespace Go.Proofs.Ytjokolmijhhinaa.Sx
open Go
section
variable {α : Type} {f : α → List Value} {s : Nat} {l : List α}
end
section
variable {P : Program} {n : Nat} {ops : Array Oper} {rest : List Oper} {fs fs' : FL} {L L' : TL} {ss : List Step}
end
end Go.Proofs.Ytjokolmijhhinaa.Sx
namespace Go.Proofs.Ytjokolmijhhinaa.Sx
open Go
section
variable {C : Ctx} {fs : FL} {L : TL} {R : Act → World → Prop} {α : Type}
end
section
variable {P : Program} {n : Nat} {ops : Array Oper} {rest : List Oper} {fs : FL} {L : TL} {K : List Step → FL → TL → Prop}
theorem g0 {d : Option Nat} {op : Op} {T : TypeId} {pos : String} {after : Array Edge} : Gd ops ⟨d, op, T, pos, after, none⟩ fs [] := gd0 rfl
theorem g1 {d : Option Nat} {op : Op} {T : TypeId} {pos : String} {after : Array Edge} {j : Nat} {want b : Bool} {t : Nat} (hd : (ops[j]?).bind (·.dst) = some t) (hl : lk fs t = some (SV.b b)) (hb : b = want) : Gd ops ⟨d, op, T, pos, after, some (j, want)⟩ fs [(t, SV.b want)] := gd1 rfl hd hl hb
theorem K.mv {d : Nat} {x : Operand} {T : TypeId} {pos : String} {after : Array Edge} {y : SV} (hx : ev fs x = some y) (hn : Nat.blt d n = true)
    (h : RunK P n ops rest ((d, y) :: fs) L (fun ss fs' L' => K (⟨[] ++ opds [(x, y)], some d, y, [], [], [], []⟩ :: ss) fs' L')) : RunK P n ops (⟨some d, .move x, T, pos, after, none⟩ :: rest) fs L K := Sx.K.move (.inl rfl) g0 hx hn h
theorem K.as {d : Nat} {x : Operand} {T : TypeId} {pos : String} {after : Array Edge} {y : SV} (hx : ev fs x = some y) (hn : Nat.blt d n = true)
    (h : RunK P n ops rest ((d, y) :: fs) L (fun ss fs' L' => K (⟨[] ++ opds [(x, y)], some d, y, [], [], [], []⟩ :: ss) fs' L')) : RunK P n ops (⟨some d, .assign x, T, pos, after, none⟩ :: rest) fs L K := Sx.K.move (.inr rfl) g0 hx hn h
theorem K.sk {op : Op} {d : Nat} {T : TypeId} {pos : String} {after : Array Edge} {j : Nat} {want b : Bool} {t : Nat} (hdj : (ops[j]?).bind (·.dst) = some t) (hl : lk fs t = some (SV.b b)) (hb : b = !want) (hn : Nat.blt d n = true)
    (h : RunK P n ops rest ((d, SV.raw undef) :: fs) L (fun ss fs' L' => K (⟨[(t, SV.b b)], some d, SV.raw undef, [], [], [], []⟩ :: ss) fs' L')) : RunK P n ops (⟨some d, op, T, pos, after, some (j, want)⟩ :: rest) fs L K := Sx.K.skip rfl rfl hdj hl hb hn h
end
theorem la {α : Type} {e : α → List Value} {s : Nat} {l : List α} {k : Nat} {T : TypeId} {tr : List (Nat × Tok)} {β : Env} {w : World} {S : Foot} (j : Nat) (hj : tr[j]? = some (k, lrow k T e s l)) (hf : ∀ c, (e c).length = s) (hs : Nat.blt 0 s = true) (h : Star (tr.map fun p => p.2.r β) w S) : LArg S w ((lrowV k T e s l).s.den β) e s l :=
  (lrowV_isC hf (Nat.blt_eq ▸ hs)).larg ⟨k, List.mem_of_getElem? hj⟩ h
def avOf : Option SV → Av
  | some (.a y) => y
  | _ => .agg []
def isAv : Option SV → Bool
  | some (.a _) => true
  | _ => false
def getT (L : TL) : List Nat → List (Nat × Tok)
  | [] => []
  | k :: ks => match lkT L k with
    | some t => (k, t) :: getT L ks
    | none => getT L ks
theorem getT_all {L : TL} : ∀ ks, AllT L (getT L ks)
  | [] => trivial
  | k :: ks => by
    unfold getT
    split
    · rename_i t h; exact ⟨h, getT_all ks⟩
    · exact getT_all ks
theorem allR_of {Y : TypeId → TyI} {fs : FL} {L : TL} : ∀ ts : List Nat, ts.all (fun t => isAv (lk fs t)) = true → AllR Y fs L (ts.map fun t => (.tmp t, avOf (lk fs t)))
  | [], _ => trivial
  | t :: ts, h => by
    simp only [List.all_cons, Bool.and_eq_true] at h
    refine ⟨?_, allR_of ts h.2⟩
    obtain ⟨y, hy⟩ : ∃ y, lk fs t = some (.a y) := by
      have h1 := h.1
      cases hl : lk fs t with
      | none => rw [hl] at h1; cases h1
      | some x =>
        cases x with
        | a y => exact ⟨y, rfl⟩
        | _ => rw [hl] at h1; cases h1
    have e : avOf (lk fs t) = y := by rw [hy]; rfl
    show ResIs Y fs L (.tmp t) (avOf (lk fs t))
    rw [e]; exact .tmp hy
section
variable {fs : FL} {L : TL} {P : Program} {fn : Func} {to : List (Nat × Tok)} {ret : SV} {fr : List Nat} {F0 : Foot} {W : World} {β0 : Env} {N : Nat}
theorem At.dt (Y : Tys P) {e : Exit} (hx : e = .ret ∨ e = .normal) (ts : List Nat) (hr : fn.results = (ts.map ResultVar.tmp).toArray) (ha : ts.all (fun t => isAv (lk fs t)) = true) (hto : getT L (to.map (·.1)) = to) (he : retOf (ts.map fun t => avOf (lk fs t)) = ret)
    (hnd : ndB (to.map (·.1)) = true) (hfr : fr.all (fun k => Nat.ble 20 k) = true) (hks : ksB (ret.ks ++ to.flatMap (·.2.ks)) fr = true) :
    At ⟨W, F0, β0, N, []⟩ fs L (bodyPost P fn (Ret F0 W fr β0 ret to) e) := by
  have e1 : (ts.map fun t => ((.tmp t : ResultVar), avOf (lk fs t))).map (·.1) = ts.map ResultVar.tmp := by simp [Function.comp_def]
  have e2 : (ts.map fun t => ((.tmp t : ResultVar), avOf (lk fs t))).map (·.2) = ts.map fun t => avOf (lk fs t) := by simp [Function.comp_def]
  refine At.done (to' := getT L (to.map (·.1))) Y (ts.map fun t => (.tmp t, avOf (lk fs t))) ?_ (allR_of ts ha) (getT_all _) hto ?_ ?_ hfr ?_ hx
  · rw [e1]; exact hr
  · rw [e2]; exact he
  · rw [hto]; exact hnd
  · rw [e2, he, hto]; exact hks
theorem At.dr (Y : Tys P) (ts : List Nat) (hr : fn.results = (ts.map ResultVar.tmp).toArray) (ha : ts.all (fun t => isAv (lk fs t)) = true) (hto : getT L (to.map (·.1)) = to) (he : retOf (ts.map fun t => avOf (lk fs t)) = ret)
    (hnd : ndB (to.map (·.1)) = true) (hfr : fr.all (fun k => Nat.ble 20 k) = true) (hks : ksB (ret.ks ++ to.flatMap (·.2.ks)) fr = true) :
    At ⟨W, F0, β0, N, []⟩ fs L (bodyPost P fn (Ret F0 W fr β0 ret to) .ret) := At.dt Y (.inl rfl) ts hr ha hto he hnd hfr hks
end
theorem oi {α : Type} {a b : α} (h : some a = some b) : b = a := (Option.some.inj h).symm
def JP (C : Ctx) {σ : Type} (Fs : σ → FL) (Tl : σ → List (Nat × Tok)) : Act → World → Prop := fun a w => ∃ s', Holds C (lk (Fs s')) (lkT ((Tl s').map fun p => (p.1, some p.2))) a w
def LP (C : Ctx) {σ : Type} (Fs : σ → FL) (Tl : σ → List (Nat × Tok)) (μ : σ → Nat) (s : σ) : Act → World → Prop := fun a w => ∃ s', μ s' < μ s ∧ Holds C (lk (Fs s')) (lkT ((Tl s').map fun p => (p.1, some p.2))) a w
section
variable {C : Ctx} {P : Program} {fs : FL} {L : TL} {Q : Exit → Act → World → Prop}
theorem G.sJ {σ : Type} (Fs : σ → FL) (Tl : σ → List (Nat × Tok)) {x y : Code} (h : G C P fs L x (Exit.then (JP C Fs Tl) Q)) (hy : ∀ s : σ, G C P (Fs s) ((Tl s).map fun p => (p.1, some p.2)) y Q) : G C P fs L (.seq x y) Q := G.seqJ Fs Tl h hy
theorem At.jd {σ : Type} {Fs : σ → FL} {Tl : σ → List (Nat × Tok)} (s' : σ) (ρ : List (Nat × Nat)) (ts : List Tok) (hρ : ρ.all (fun p => Nat.ble 20 p.1) = true) (hf : RenF (rn ρ) fs (Fs s')) (hl : RenL (rn ρ) L (Tl s') ts) (hnd : ndB (((Tl s').map (·.1)).map (rn ρ)) = true) :
    At C fs L (Exit.then (JP C Fs Tl) Q .normal) := At.joined s' ρ ts hρ hf hl hnd
theorem G.lp {σ : Type} (Fs : σ → FL) (Tl : σ → List (Nat × Tok)) (μ : σ → Nat) (s0 : σ) {c : Code} (h0 : At C fs L (fun a w => Holds C (lk (Fs s0)) (lkT ((Tl s0).map fun p => (p.1, some p.2))) a w))
    (hr : ∀ s : σ, G C P (Fs s) ((Tl s).map fun p => (p.1, some p.2)) c (Exit.then (LP C Fs Tl μ s) Q)) : G C P fs L (.loop c) Q := G.loop Fs Tl μ s0 h0 hr
theorem At.ag {σ : Type} {Fs : σ → FL} {Tl : σ → List (Nat × Tok)} {μ : σ → Nat} {s : σ} (s' : σ) (ρ : List (Nat × Nat)) (ts : List Tok) (hμ : μ s' < μ s) (hρ : ρ.all (fun p => Nat.ble 20 p.1) = true) (hf : RenF (rn ρ) fs (Fs s')) (hl : RenL (rn ρ) L (Tl s') ts) (hnd : ndB (((Tl s').map (·.1)).map (rn ρ)) = true) :
    At C fs L (Exit.then (LP C Fs Tl μ s) Q .normal) := At.again s' ρ ts hμ hρ hf hl hnd
end
def evD (fs : FL) (o : Operand) : SV := (ev fs o).getD (SV.raw undef)
def opl (fs : FL) (az : Array Operand) : List (Operand × SV) := az.toList.map fun o => (o, evD fs o)
def fnl (f : FuncId) (fs : FL) (az : Array Operand) : List (Operand × SV) := (.func f, SV.raw (.func (.func f) #[] #[])) :: opl fs az
theorem fnl_all {f : FuncId} {fs : FL} {az : Array Operand} (h : az.toList.all (fun o => (ev fs o).isSome) = true) : AllE fs (fnl f fs az) := by
  refine ⟨rfl, ?_⟩
  unfold opl
  generalize az.toList = l at *
  induction l with
  | nil => trivial
  | cons o l ih =>
    simp only [List.all_cons, Bool.and_eq_true] at h
    refine ⟨?_, ih h.2⟩
    obtain ⟨x, hx⟩ := Option.isSome_iff_exists.1 h.1
    show ev fs o = some (evD fs o)
    simp [evD, hx]
theorem fnl_to {P : Program} {f : FuncId} {fs : FL} {az : Array Operand} {ats : Array TypeId} {ty : TypeId} (hf : fnB P f = true) : ToFn P ⟨.value (.func f), az, ats⟩ ty (fnl f fs az) f ((opl fs az).map (·.2)) :=
  toFn_func hf (by unfold opl; simp [Function.comp_def])
theorem getT_of {L : TL} {tr : List (Nat × Tok)} (h : getT L (tr.map (·.1)) = tr) : AllT L tr := h ▸ getT_all _
section
variable {P : Program} {n : Nat} {ops : Array Oper} {rest : List Oper} {fs : FL} {L : TL} {K : List Step → FL → TL → Prop} {d : Nat} {az : Array Operand} {ats : Array TypeId} {ty : TypeId} {pos : String} {after : Array Edge} {g : Option (Nat × Bool)} {gr : FL} {f : FuncId} {args : List SV} {ret : SV} {tr ti to : List (Nat × Tok)} {fr : List Nat} {args' : Env → List SV}
theorem K.cR (hf : fnB P f = true) (hs : SCon P f args tr ret tr fr) (hg : Gd ops ⟨some d, .call ⟨.value (.func f), az, ats⟩, ty, pos, after, g⟩ fs gr) (ha : (opl fs az).map (·.2) = args) (hev : az.toList.all (fun o => (ev fs o).isSome) = true) (htk : getT L (tr.map (·.1)) = tr) (hb : (ndB (tr.map (·.1)) && (frB fr fs L && Nat.blt d n)) = true)
    (h : RunK P n ops rest ((d, ret) :: fs) L (fun ss fs' L' => K (⟨gr ++ opds (fnl f fs az), some d, ret, tr, [], [], fr⟩ :: ss) fs' L')) : RunK P n ops (⟨some d, .call ⟨.value (.func f), az, ats⟩, ty, pos, after, g⟩ :: rest) fs L K := by
  subst ha
  simp only [Bool.and_eq_true] at hb
  exact Sx.K.callR (fnl f fs az) hs (fnl_to hf) hg (fnl_all hev) (getT_of htk) hb.1 hb.2.1 hb.2.2 h
theorem K.c0 (hf : fnB P f = true) (hs : SCon P f args ti ret to fr) (hg : Gd ops ⟨some d, .call ⟨.value (.func f), az, ats⟩, ty, pos, after, g⟩ fs gr) (ha : (opl fs az).map (·.2) = args) (hev : az.toList.all (fun o => (ev fs o).isSome) = true) (htk : getT L (ti.map (·.1)) = ti)
    (hb : (ndB (ti.map (·.1)) && (ndB (to.map (·.1)) && (ti.all (fun p => (to.map (·.1)).contains p.1) && (to.all (fun p => (ti.map (·.1)).contains p.1 || (lkT L p.1).isNone) && (frB fr fs L && Nat.blt d n))))) = true)
    (h : RunK P n ops rest ((d, ret) :: fs) (to.map (fun p => (p.1, some p.2)) ++ L) (fun ss fs' L' => K (⟨gr ++ opds (fnl f fs az), some d, ret, [], ti, to, fr⟩ :: ss) fs' L')) : RunK P n ops (⟨some d, .call ⟨.value (.func f), az, ats⟩, ty, pos, after, g⟩ :: rest) fs L K := by
  subst ha
  simp only [Bool.and_eq_true] at hb
  exact Sx.K.call0 (fnl f fs az) hs (fnl_to hf) hg (fnl_all hev) (getT_of htk) hb.1 hb.2.1 hb.2.2.1 hb.2.2.2.1 hb.2.2.2.2.1 hb.2.2.2.2.2 h
theorem K.cV (hf : fnB P f = true) (ks : List Nat) (hs : ∀ (β : Env) (w : World) (S : Foot), Star ((getT L ks).map fun p => p.2.r β) w S → SCon P f (args' β) ((0, rd S w) :: ti) ret ((0, rd S w) :: to) fr) (hg : Gd ops ⟨some d, .call ⟨.value (.func f), az, ats⟩, ty, pos, after, g⟩ fs gr) (ha : ∀ β, (args' β).map (SV.den β) = ((opl fs az).map (·.2)).map (SV.den β))
    (hev : az.toList.all (fun o => (ev fs o).isSome) = true) (htk : getT L (ti.map (·.1)) = ti)
    (hb : (ndB ((getT L ks ++ ti).map (·.1)) && (ndB ((getT L ks ++ to).map (·.1)) && (ti.all (fun p => (to.map (·.1)).contains p.1) && (to.all (fun p => (ti.map (·.1)).contains p.1 || (lkT L p.1).isNone) && (frB fr fs L && Nat.blt d n))))) = true)
    (h : RunK P n ops rest ((d, ret) :: fs) (to.map (fun p => (p.1, some p.2)) ++ L) (fun ss fs' L' => K (⟨gr ++ opds (fnl f fs az), some d, ret, getT L ks, ti, to, fr⟩ :: ss) fs' L')) : RunK P n ops (⟨some d, .call ⟨.value (.func f), az, ats⟩, ty, pos, after, g⟩ :: rest) fs L K := by
  simp only [Bool.and_eq_true] at hb
  have ht : AllT L (getT L ks ++ ti) := by
    have : ∀ l : List (Nat × Tok), AllT L l → AllT L (l ++ ti) := fun l => by
      induction l with
      | nil => intro _; exact getT_of htk
      | cons p l ih => intro h; exact ⟨h.1, ih h.2⟩
    exact this _ (getT_all _)
  exact Sx.K.callV (fnl f fs az) (getT L ks) ti to args' hs (fnl_to hf) hg (fnl_all hev) ha ht hb.1 hb.2.1 hb.2.2.1 hb.2.2.2.1 hb.2.2.2.2.1 hb.2.2.2.2.2 h
end
section
variable {C : Ctx} {P : Program} {fs : FL} {L : TL} {Q Q' : Exit → Act → World → Prop}
theorem At.ns {x z : Code} (h : G C P fs L x (Exit.then (fun a w => z.wp P Q a w) Q)) : At C fs L (Exit.then (fun a w => (Code.seq x z).wp P Q a w) Q' .normal) := At.next (G.seq h)
theorem At.nr {z : Code} {id : Nat} {l : List Oper} (h : RunK P C.n l.toArray l fs L (fun _ fs' L' => At C fs' L' (Exit.then (fun a w => z.wp P Q a w) Q .normal))) : At C fs L (Exit.then (fun a w => (Code.seq (.region id l.toArray false) z).wp P Q a w) Q' .normal) := At.ns (G.rg h)
end
end Go.Proofs.Ytjokolmijhhinaa.Sx
namespace Go.Proofs.Ytjokolmijhhinaa.Sx
open Go
section
variable {P : Program} {n : Nat} {ops : Array Oper} {rest : List Oper} {fs fs' : FL} {L L' : TL} {ss : List Step}
end
end Go.Proofs.Ytjokolmijhhinaa.Sx
namespace Go.Proofs.Ytjokolmijhhinaa.Sx
open Go
section
variable {α : Type} {e : α → List Value} {s : Nat} {S : Foot} {W0 : World}
end
section
variable {P : Program} {n : Nat} {ops : Array Oper} {rest : List Oper} {fs fs' : FL} {L L' : TL} {ss : List Step}
end
section
variable {H : Type} {enc : TypeId × Value → H} {P : Program} {w : World} {base : Nat} {spare : Nat → Bool} {held : Bool}
end
end Go.Proofs.Ytjokolmijhhinaa.Sx
namespace Go.Proofs.Ytjokolmijhhinaa
open Go Go.Proofs.Ytjokolmijhhinaa.Sx
def tysF : TypeId → TyI
  | 1 => .one (.nilFunc)
  | 2 => .one (.int .i64 0)
  | 3 => .one (.int .i64 0)
  | 4 => .one (.bool false)
  | 5 => .one (.int .u8 0)
  | 6 => .one (.int .u8 0)
  | 7 => .st 4 [(0, 1, 2), (1, 1, 3), (2, 1, 4), (3, 1, 6)] [.int .i64 0, .int .i64 0, .bool false, .int .u8 0]
  | 8 => .st 4 [(0, 1, 2), (1, 1, 3), (2, 1, 4), (3, 1, 6)] [.int .i64 0, .int .i64 0, .bool false, .int .u8 0]
  | 9 => .one (.string ⟨#[]⟩)
  | 10 => .one (.string ⟨#[]⟩)
  | 11 => .one (.string ⟨#[]⟩)
  | 12 => .one (.int .u64 0)
  | 13 => .st 2 [(0, 1, 9), (1, 1, 12)] [.string ⟨#[]⟩, .int .u64 0]
  | 14 => .st 2 [(0, 1, 9), (1, 1, 12)] [.string ⟨#[]⟩, .int .u64 0]
  | 15 => .one (.pointer .none)
  | 16 => .one (.pointer .none)
  | 17 => .one (.pointer .none)
  | 18 => .st 1 [(0, 1, 17)] [.pointer .none]
  | 19 => .st 1 [(0, 1, 17)] [.pointer .none]
  | 20 => .one (.nilIface)
  | 21 => .one (.int .i32 0)
  | 22 => .one (.slice .none 0 0)
  | 23 => .one (.nilFunc)
  | 24 => .one (.nilFunc)
  | 25 => .one (.pointer .none)
  | 26 => .one (.slice .none 0 0)
  | 28 => .one (.nilFunc)
  | 29 => .one (.slice .none 0 0)
  | 30 => .one (.nilFunc)
  | 31 => .st 3 [(0, 1, 3), (1, 1, 3), (2, 1, 3)] [.int .i64 0, .int .i64 0, .int .i64 0]
  | 32 => .st 3 [(0, 1, 3), (1, 1, 3), (2, 1, 3)] [.int .i64 0, .int .i64 0, .int .i64 0]
  | 33 => .one (.nilFunc)
  | 34 => .st 2 [(0, 1, 3), (1, 1, 3)] [.int .i64 0, .int .i64 0]
  | 35 => .st 2 [(0, 1, 3), (1, 1, 3)] [.int .i64 0, .int .i64 0]
  | 36 => .one (.nilFunc)
  | 37 => .one (.nilFunc)
  | 38 => .one (.nilFunc)
  | 39 => .one (.nilFunc)
  | 40 => .st 3 [(0, 1, 3), (1, 1, 3), (2, 1, 3)] [.int .i64 0, .int .i64 0, .int .i64 0]
  | 41 => .st 3 [(0, 1, 3), (1, 1, 3), (2, 1, 3)] [.int .i64 0, .int .i64 0, .int .i64 0]
  | 42 => .one (.nilFunc)
  | 43 => .one (.nilFunc)
  | 45 => .one (.nilFunc)
  | 46 => .one (.nilFunc)
  | 47 => .one (.nilFunc)
  | 48 => .one (.nilFunc)
  | 49 => .one (.nilFunc)
  | 50 => .one (.nilFunc)
  | 51 => .one (.nilFunc)
  | 53 => .one (.nilFunc)
  | 54 => .st 2 [(0, 1, 3), (1, 1, 3)] [.int .i64 0, .int .i64 0]
  | 56 => .one (.nilFunc)
  | 57 => .one (.nilFunc)
  | 58 => .one (.nilFunc)
  | 59 => .one (.nilFunc)
  | 60 => .one (.nilFunc)
  | 61 => .one (.slice .none 0 0)
  | 62 => .one (.nilFunc)
  | 63 => .one (.nilFunc)
  | 64 => .one (.nilFunc)
  | 65 => .one (.nilFunc)
  | 66 => .one (.nilFunc)
  | 67 => .st 2 [(0, 1, 3), (1, 1, 3)] [.int .i64 0, .int .i64 0]
  | 68 => .st 2 [(0, 1, 3), (1, 1, 3)] [.int .i64 0, .int .i64 0]
  | 69 => .st 4 [] [.int .i64 0, .int .i64 0, .int .i64 0, .int .i64 0]
  | 70 => .st 2 [] [.int .i64 0, .int .i64 0]
  | 71 => .st 4 [(0, 2, 68), (2, 1, 4), (3, 1, 3)] [.int .i64 0, .int .i64 0, .bool false, .int .i64 0]
  | 72 => .st 4 [(0, 2, 68), (2, 1, 4), (3, 1, 3)] [.int .i64 0, .int .i64 0, .bool false, .int .i64 0]
  | 73 => .one (.pointer .none)
  | 74 => .one (.nilFunc)
  | 75 => .one (.nilFunc)
  | 76 => .one (.int .i64 0)
  | 78 => .one (.nilFunc)
  | 79 => .one (.nilFunc)
  | 80 => .one (.nilFunc)
  | 81 => .one (.nilFunc)
  | 82 => .one (.nilFunc)
  | 83 => .one (.nilFunc)
  | 84 => .one (.nilFunc)
  | 85 => .one (.slice .none 0 0)
  | 86 => .one (.slice .none 0 0)
  | 87 => .st 3 [(0, 1, 4), (1, 2, 68)] [.bool false, .int .i64 0, .int .i64 0]
  | 88 => .st 3 [(0, 1, 4), (1, 2, 68)] [.bool false, .int .i64 0, .int .i64 0]
  | 89 => .one (.nilFunc)
  | 90 => .one (.nilFunc)
  | 91 => .one (.nilFunc)
  | 92 => .one (.nilFunc)
  | 93 => .one (.nilFunc)
  | 94 => .one (.nilFunc)
  | 95 => .one (.nilFunc)
  | 96 => .one (.nilFunc)
  | 97 => .one (.pointer .none)
  | 98 => .st 2 [(0, 1, 3), (1, 1, 3)] [.int .i64 0, .int .i64 0]
  | 99 => .st 2 [(0, 1, 3), (1, 1, 3)] [.int .i64 0, .int .i64 0]
  | 100 => .st 3 [(0, 1, 97), (1, 2, 99)] [.pointer .none, .int .i64 0, .int .i64 0]
  | 101 => .st 3 [(0, 1, 97), (1, 2, 99)] [.pointer .none, .int .i64 0, .int .i64 0]
  | 102 => .one (.nilFunc)
  | 103 => .st 10 [(0, 2, 35), (2, 2, 99), (4, 2, 99), (6, 1, 3), (7, 3, 32)] [.int .i64 0, .int .i64 0, .int .i64 0, .int .i64 0, .int .i64 0, .int .i64 0, .int .i64 0, .int .i64 0, .int .i64 0, .int .i64 0]
  | 104 => .st 10 [(0, 2, 35), (2, 2, 99), (4, 2, 99), (6, 1, 3), (7, 3, 32)] [.int .i64 0, .int .i64 0, .int .i64 0, .int .i64 0, .int .i64 0, .int .i64 0, .int .i64 0, .int .i64 0, .int .i64 0, .int .i64 0]
  | 105 => .one (.nilFunc)
  | 107 => .one (.nilFunc)
  | 109 => .one (.nilFunc)
  | 110 => .one (.nilFunc)
  | 112 => .one (.nilFunc)
  | 113 => .one (.nilFunc)
  | 114 => .one (.nilFunc)
  | 115 => .one (.nilFunc)
  | 117 => .one (.nilFunc)
  | 118 => .one (.nilFunc)
  | 119 => .one (.nilFunc)
  | 120 => .one (.pointer .none)
  | 121 => .st 3 [(0, 1, 120), (1, 2, 99)] [.pointer .none, .int .i64 0, .int .i64 0]
  | 122 => .st 3 [(0, 1, 120), (1, 2, 99)] [.pointer .none, .int .i64 0, .int .i64 0]
  | 123 => .st 10 [(0, 4, 72), (4, 2, 99), (6, 2, 99), (8, 1, 3), (9, 1, 76)] [.int .i64 0, .int .i64 0, .bool false, .int .i64 0, .int .i64 0, .int .i64 0, .int .i64 0, .int .i64 0, .int .i64 0, .int .i64 0]
  | 124 => .st 10 [(0, 4, 72), (4, 2, 99), (6, 2, 99), (8, 1, 3), (9, 1, 76)] [.int .i64 0, .int .i64 0, .bool false, .int .i64 0, .int .i64 0, .int .i64 0, .int .i64 0, .int .i64 0, .int .i64 0, .int .i64 0]
  | 125 => .one (.nilFunc)
  | 126 => .one (.nilFunc)
  | 128 => .one (.nilFunc)
  | 129 => .one (.nilFunc)
  | 130 => .one (.slice .none 0 0)
  | 131 => .one (.nilFunc)
  | 132 => .one (.nilFunc)
  | 133 => .one (.nilFunc)
  | 134 => .one (.nilFunc)
  | 135 => .one (.slice .none 0 0)
  | 136 => .st 5 [(0, 1, 135), (1, 1, 29), (2, 1, 3), (3, 1, 3), (4, 1, 3)] [.slice .none 0 0, .slice .none 0 0, .int .i64 0, .int .i64 0, .int .i64 0]
  | 137 => .st 5 [(0, 1, 135), (1, 1, 29), (2, 1, 3), (3, 1, 3), (4, 1, 3)] [.slice .none 0 0, .slice .none 0 0, .int .i64 0, .int .i64 0, .int .i64 0]
  | 139 => .one (.nilFunc)
  | 140 => .one (.nilFunc)
  | 141 => .one (.nilFunc)
  | 142 => .one (.nilFunc)
  | 143 => .one (.nilFunc)
  | 144 => .one (.nilFunc)
  | 145 => .one (.nilFunc)
  | 146 => .one (.nilFunc)
  | 148 => .one (.nilFunc)
  | 149 => .one (.nilFunc)
  | 150 => .one (.nilFunc)
  | 151 => .one (.pointer .none)
  | 152 => .one (.nilFunc)
  | 153 => .st 12 [(0, 10, 104), (10, 1, 3), (11, 1, 4)] [.int .i64 0, .int .i64 0, .int .i64 0, .int .i64 0, .int .i64 0, .int .i64 0, .int .i64 0, .int .i64 0, .int .i64 0, .int .i64 0, .int .i64 0, .bool false]
  | 154 => .st 12 [(0, 10, 104), (10, 1, 3), (11, 1, 4)] [.int .i64 0, .int .i64 0, .int .i64 0, .int .i64 0, .int .i64 0, .int .i64 0, .int .i64 0, .int .i64 0, .int .i64 0, .int .i64 0, .int .i64 0, .bool false]
  | 155 => .one (.nilFunc)
  | 156 => .one (.slice .none 0 0)
  | 157 => .st 5 [(0, 1, 156), (1, 1, 29), (2, 1, 3), (3, 1, 3), (4, 1, 3)] [.slice .none 0 0, .slice .none 0 0, .int .i64 0, .int .i64 0, .int .i64 0]
  | 158 => .st 5 [(0, 1, 156), (1, 1, 29), (2, 1, 3), (3, 1, 3), (4, 1, 3)] [.slice .none 0 0, .slice .none 0 0, .int .i64 0, .int .i64 0, .int .i64 0]
  | 159 => .one (.pointer .none)
  | 160 => .st 12 [(0, 10, 124), (10, 1, 3), (11, 1, 4)] [.int .i64 0, .int .i64 0, .bool false, .int .i64 0, .int .i64 0, .int .i64 0, .int .i64 0, .int .i64 0, .int .i64 0, .int .i64 0, .int .i64 0, .bool false]
  | 161 => .st 12 [(0, 10, 124), (10, 1, 3), (11, 1, 4)] [.int .i64 0, .int .i64 0, .bool false, .int .i64 0, .int .i64 0, .int .i64 0, .int .i64 0, .int .i64 0, .int .i64 0, .int .i64 0, .int .i64 0, .bool false]
  | 162 => .one (.nilFunc)
  | 163 => .one (.nilFunc)
  | 164 => .one (.nilFunc)
  | 165 => .st 4 [(0, 1, 17), (1, 1, 17), (2, 1, 17), (3, 1, 9)] [.pointer .none, .pointer .none, .pointer .none, .string ⟨#[]⟩]
  | 166 => .st 4 [(0, 1, 17), (1, 1, 17), (2, 1, 17), (3, 1, 9)] [.pointer .none, .pointer .none, .pointer .none, .string ⟨#[]⟩]
  | 170 => .one (.int .u32 0)
  | 171 => .one (.int .u8 0)
  | 172 => .one (.int .u8 0)
  | 173 => .one (.nilFunc)
  | 174 => .one (.pointer .none)
  | 175 => .one (.int .i32 0)
  | 176 => .one (.int .i32 0)
  | 177 => .st 11 [(0, 1, 12), (1, 1, 12), (2, 1, 170), (3, 1, 171), (4, 1, 5), (5, 1, 5), (6, 1, 172), (7, 1, 173), (8, 1, 174), (9, 1, 175), (10, 1, 176)] [.int .u64 0, .int .u64 0, .int .u32 0, .int .u8 0, .int .u8 0, .int .u8 0, .int .u8 0, .nilFunc, .pointer .none, .int .i32 0, .int .i32 0]
  | 178 => .st 11 [(0, 1, 12), (1, 1, 12), (2, 1, 170), (3, 1, 171), (4, 1, 5), (5, 1, 5), (6, 1, 172), (7, 1, 173), (8, 1, 174), (9, 1, 175), (10, 1, 176)] [.int .u64 0, .int .u64 0, .int .u32 0, .int .u8 0, .int .u8 0, .int .u8 0, .int .u8 0, .nilFunc, .pointer .none, .int .i32 0, .int .i32 0]
  | 179 => .one (.nilFunc)
  | 180 => .one (.nilFunc)
  | 181 => .one (.nilFunc)
  | 182 => .one (.nilFunc)
  | 183 => .one (.nilFunc)
  | 184 => .one (.nilFunc)
  | 185 => .one (.nilFunc)
  | 186 => .one (.nilFunc)
  | 187 => .one (.pointer .none)
  | 188 => .one (.nilFunc)
  | _ => .none
theorem tysB : (List.range 189).all (fun T => tyB Try.prog T (tysF T)) = true := by kernel_rfl
def Y : Tys Try.prog := ⟨fun T => match Nat.blt T 189 with | true => tysF T | false => .none, fun T => by
  cases h : Nat.blt T 189 with
  | true =>
    rw [Nat.blt_eq] at h
    exact tyOk_of (List.all_eq_true.1 tysB T (List.mem_range.2 h))
  | false => trivial⟩
def cfL : List Nat := [3, 4, 5, 6, 7, 8, 9, 10, 11, 12, 13, 14, 15, 16, 17, 18, 19, 20, 21, 22, 23, 24, 25, 26, 27, 28, 29, 30, 31, 32, 33, 34, 35, 36, 37, 38, 39, 40, 41, 42, 43, 44, 45, 46, 47, 48, 49, 50, 51, 52, 53, 54, 55, 56, 57, 58, 59, 60, 61, 62, 63, 64, 65, 66, 67, 68, 69, 70, 71, 72, 73, 74, 75, 76, 77, 78, 79, 80, 81, 82, 83, 84, 85, 86, 87, 88, 89, 90, 91, 92, 93, 94, 95, 96, 97, 98, 99, 100, 101, 102, 103, 104, 105, 106, 107, 108, 109, 110, 111, 112, 113, 130, 131, 132, 133]
theorem cfB : cfL.all (fun f => fnB Try.prog f) = true := by kernel_rfl
theorem cf (f : Nat) (h : cfL.contains f = true) : fnB Try.prog f = true := List.all_eq_true.1 cfB f (by simpa using h)
theorem mixed : Try.prog.follows .mixedOrders = true := by kernel_rfl
theorem t1 : Y.f 1 = .one (.nilFunc) := by kernel_rfl
theorem t2 : Y.f 2 = .one (.int .i64 0) := by kernel_rfl
theorem t3 : Y.f 3 = .one (.int .i64 0) := by kernel_rfl
theorem t4 : Y.f 4 = .one (.bool false) := by kernel_rfl
theorem t5 : Y.f 5 = .one (.int .u8 0) := by kernel_rfl
theorem t29 : Y.f 29 = .one (.slice .none 0 0) := by kernel_rfl
theorem t32 : Y.f 32 = .st 3 [(0, 1, 3), (1, 1, 3), (2, 1, 3)] [.int .i64 0, .int .i64 0, .int .i64 0] := by kernel_rfl
theorem t35 : Y.f 35 = .st 2 [(0, 1, 3), (1, 1, 3)] [.int .i64 0, .int .i64 0] := by kernel_rfl
theorem t41 : Y.f 41 = .st 3 [(0, 1, 3), (1, 1, 3), (2, 1, 3)] [.int .i64 0, .int .i64 0, .int .i64 0] := by kernel_rfl
theorem t97 : Y.f 97 = .one (.pointer .none) := by kernel_rfl
theorem t99 : Y.f 99 = .st 2 [(0, 1, 3), (1, 1, 3)] [.int .i64 0, .int .i64 0] := by kernel_rfl
theorem t101 : Y.f 101 = .st 3 [(0, 1, 97), (1, 2, 99)] [.pointer .none, .int .i64 0, .int .i64 0] := by kernel_rfl
theorem t104 : Y.f 104 = .st 10 [(0, 2, 35), (2, 2, 99), (4, 2, 99), (6, 1, 3), (7, 3, 32)] [.int .i64 0, .int .i64 0, .int .i64 0, .int .i64 0, .int .i64 0, .int .i64 0, .int .i64 0, .int .i64 0, .int .i64 0, .int .i64 0] := by kernel_rfl
theorem t135 : Y.f 135 = .one (.slice .none 0 0) := by kernel_rfl
theorem t137 : Y.f 137 = .st 5 [(0, 1, 135), (1, 1, 29), (2, 1, 3), (3, 1, 3), (4, 1, 3)] [.slice .none 0 0, .slice .none 0 0, .int .i64 0, .int .i64 0, .int .i64 0] := by kernel_rfl
theorem t154 : Y.f 154 = .st 12 [(0, 10, 104), (10, 1, 3), (11, 1, 4)] [.int .i64 0, .int .i64 0, .int .i64 0, .int .i64 0, .int .i64 0, .int .i64 0, .int .i64 0, .int .i64 0, .int .i64 0, .int .i64 0, .int .i64 0, .bool false] := by kernel_rfl
theorem el22 : El Try.prog 22 41 3 24 := el_of (by kernel_rfl)
theorem el29 : El Try.prog 29 3 1 8 := el_of (by kernel_rfl)
theorem el135 : El Try.prog 135 154 12 96 := el_of (by kernel_rfl)
end Go.Proofs.Ytjokolmijhhinaa
namespace Go.Proofs.Ytjokolmijhhinaa
open Go Go.Proofs.Ytjokolmijhhinaa.Sx
structure TL07Elem where
  k : Int
  w : Int
structure TTide where
  n : Int
  sum : Int
  low : Int
structure TRef where
  index : Int
  gen : Int
structure TNode (E A : Type) where
  e : E
  left : TRef
  right : TRef
  size : Int
  sum : A
def eTNode_TL07Elem_TTide (x : TNode TL07Elem TTide) : List Value := [.int .i64 x.e.k, .int .i64 x.e.w, .int .i64 x.left.index, .int .i64 x.left.gen, .int .i64 x.right.index, .int .i64 x.right.gen, .int .i64 x.size, .int .i64 x.sum.n, .int .i64 x.sum.sum, .int .i64 x.sum.low]
theorem eTNode_TL07Elem_TTide_len : ∀ x, (eTNode_TL07Elem_TTide x).length = 10 := fun _ => rfl
theorem eTNode_TL07Elem_TTide_one : ∀ x, (eTNode_TL07Elem_TTide x).all Value.oneCell' = true := fun _ => rfl
abbrev zTL07Elem : TL07Elem := ⟨0, 0⟩
abbrev zTTide : TTide := ⟨0, 0, 0⟩
abbrev zTRef : TRef := ⟨0, 0⟩
def eTTide (x : TTide) : List Value := [.int .i64 x.n, .int .i64 x.sum, .int .i64 x.low]
def eTL07Elem (x : TL07Elem) : List Value := [.int .i64 x.k, .int .i64 x.w]
def eTRef (x : TRef) : List Value := [.int .i64 x.index, .int .i64 x.gen]
structure TL07Act where
  kind : Int
  k : Int
  w : Int
def eTL07Act (x : TL07Act) : List Value := [.int .i64 x.kind, .int .i64 x.k, .int .i64 x.w]
theorem eTL07Act_len : ∀ x, (eTL07Act x).length = 3 := fun _ => rfl
structure Ops (E A : Type) where
  cmp : Nat → E → E → Option Int
  sum : Nat → E → Option A
  plus : Nat → A → A → Option A
  zE : E
  zA : A
abbrev zNode {E A : Type} (O : Ops E A) : TNode E A := ⟨O.zE, ⟨0, 0⟩, ⟨0, 0⟩, 0, O.zA⟩
def Tree_get.f {E A : Type} (O : Ops E A) (k : Nat) (p1 : Pool (TNode E A)) (a1 : TRef) : Option (TNode E A) := bif (a1.gen == 0) then (some (zNode O)) else ((pGet (zNode O) p1 a1.index a1.gen).bind fun x1 => some x1.1)
def Tree_weight.f {E A : Type} (O : Ops E A) (k : Nat) (p1 : Pool (TNode E A)) (a1 : TRef) : Option (Int) := (Tree_get.f O k p1 a1).bind fun x1 => some (w64 (x1.size + 1))
def Tree_lay.f {E A : Type} (O : Ops E A) (k : Nat) (p1 : Pool (TNode E A)) (a1 : TRef) (a2 : TRef) (a3 : TRef) : Option (TRef × Pool (TNode E A)) := (Tree_get.f O k p1 a1).bind fun x1 => (Tree_get.f O k p1 a2).bind fun x2 => (Tree_get.f O k p1 a3).bind fun x3 => (O.sum k x1.e).bind fun x4 => (O.plus k x2.sum x4).bind fun x5 => (O.plus k x5 x3.sum).bind fun x6 => (pSet p1 a1.index a1.gen (TNode.mk x1.e a2 a3 (w64 ((w64 (x2.size + 1)) + x3.size)) x6)).bind fun x7 => some (a1, x7.2)
def Tree_turnRight.f {E A : Type} (O : Ops E A) (k : Nat) (p1 : Pool (TNode E A)) (a1 : TRef) : Option (TRef × Pool (TNode E A)) := (Tree_get.f O k p1 a1).bind fun x1 => (Tree_get.f O k p1 x1.left).bind fun x2 => (Tree_lay.f O k p1 a1 x2.right x1.right).bind fun x3 => (Tree_lay.f O k x3.2 x1.left x2.left a1).bind fun x4 => some (x4.1, x4.2)
def Tree_turnLeft.f {E A : Type} (O : Ops E A) (k : Nat) (p1 : Pool (TNode E A)) (a1 : TRef) : Option (TRef × Pool (TNode E A)) := (Tree_get.f O k p1 a1).bind fun x1 => (Tree_get.f O k p1 x1.right).bind fun x2 => (Tree_lay.f O k p1 a1 x1.left x2.left).bind fun x3 => (Tree_lay.f O k x3.2 x1.right a1 x2.right).bind fun x4 => some (x4.1, x4.2)
def Tree_balance.f {E A : Type} (O : Ops E A) (k : Nat) (p1 : Pool (TNode E A)) (a1 : TRef) : Option (TRef × Pool (TNode E A)) := (Tree_get.f O k p1 a1).bind fun x1 => (Tree_weight.f O k p1 x1.left).bind fun x2 => (Tree_weight.f O k p1 x1.right).bind fun x3 => bif (decide (x3 > (w64 (3 * x2)))) then ((Tree_get.f O k p1 x1.right).bind fun x4 => (Tree_weight.f O k p1 x4.left).bind fun x5 => (Tree_weight.f O k p1 x4.right).bind fun x6 => bif (decide (x5 ≥ (w64 (2 * x6)))) then ((Tree_turnRight.f O k p1 x1.right).bind fun x7 => (Tree_lay.f O k x7.2 a1 x1.left x7.1).bind fun x8 => (Tree_turnLeft.f O k x8.2 a1).bind fun x9 => some (x9.1, x9.2)) else ((Tree_turnLeft.f O k p1 a1).bind fun x10 => some (x10.1, x10.2))) else (bif (decide (x2 > (w64 (3 * x3)))) then ((Tree_get.f O k p1 x1.left).bind fun x11 => (Tree_weight.f O k p1 x11.right).bind fun x12 => (Tree_weight.f O k p1 x11.left).bind fun x13 => bif (decide (x12 ≥ (w64 (2 * x13)))) then ((Tree_turnLeft.f O k p1 x1.left).bind fun x14 => (Tree_lay.f O k x14.2 a1 x14.1 x1.right).bind fun x15 => (Tree_turnRight.f O k x15.2 a1).bind fun x16 => some (x16.1, x16.2)) else ((Tree_turnRight.f O k p1 a1).bind fun x17 => some (x17.1, x17.2))) else (some (a1, p1)))
def Tree_link.r {E A : Type} (O : Ops E A) (k : Nat) : Nat → Pool (TNode E A) → TRef → TRef → TRef → Option (TRef × Pool (TNode E A))
  | 0, _, _, _, _ => none
  | n + 1, p1, a1, a2, a3 => (Tree_weight.f O k p1 a1).bind fun x1 => (Tree_weight.f O k p1 a3).bind fun x2 => bif (decide (x2 > (w64 (3 * x1)))) then ((Tree_get.f O k p1 a3).bind fun x3 => (Tree_link.r O k n p1 a1 a2 x3.left).bind fun x4 => (Tree_lay.f O k x4.2 a3 x4.1 x3.right).bind fun x5 => (Tree_balance.f O k x5.2 x5.1).bind fun x6 => some (x6.1, x6.2)) else (bif (decide (x1 > (w64 (3 * x2)))) then ((Tree_get.f O k p1 a1).bind fun x7 => (Tree_link.r O k n p1 x7.right a2 a3).bind fun x8 => (Tree_lay.f O k x8.2 a1 x7.left x8.1).bind fun x9 => (Tree_balance.f O k x9.2 x9.1).bind fun x10 => some (x10.1, x10.2)) else ((Tree_lay.f O k p1 a2 a1 a3).bind fun x11 => some (x11.1, x11.2)))
def Tree_link.f {E A : Type} (O : Ops E A) (k : Nat) (p1 : Pool (TNode E A)) (a1 : TRef) (a2 : TRef) (a3 : TRef) : Option (TRef × Pool (TNode E A)) := Tree_link.r O k k p1 a1 a2 a3
def Tree_put.r {E A : Type} (O : Ops E A) (k : Nat) : Nat → Pool (TNode E A) → TRef → E → Option (TRef × Bool × Pool (TNode E A))
  | 0, _, _, _ => none
  | n + 1, p1, a1, a2 => bif (a1.gen == 0) then ((O.sum k a2).bind fun x1 => (pPut (zNode O) p1 (TNode.mk a2 zTRef zTRef 1 x1)).bind fun x2 => some ((TRef.mk x2.1.1.1 x2.1.1.2), x2.1.2, x2.2)) else ((Tree_get.f O k p1 a1).bind fun x3 => (O.cmp k a2 x3.e).bind fun x4 => bif (decide (x4 < 0)) then ((Tree_put.r O k n p1 x3.left a2).bind fun x5 => bif (!x5.2.1) then (some (a1, false, x5.2.2)) else ((Tree_link.f O k x5.2.2 x5.1 a1 x3.right).bind fun x6 => some (x6.1, true, x6.2))) else (bif (decide (x4 > 0)) then ((Tree_put.r O k n p1 x3.right a2).bind fun x7 => bif (!x7.2.1) then (some (a1, false, x7.2.2)) else ((Tree_link.f O k x7.2.2 x3.left a1 x7.1).bind fun x8 => some (x8.1, true, x8.2))) else ((pSet p1 a1.index a1.gen (TNode.mk a2 x3.left x3.right x3.size x3.sum)).bind fun x9 => (Tree_lay.f O k x9.2 a1 x3.left x3.right).bind fun x10 => some (x10.1, true, x10.2))))
def Tree_Rank.l0 {E A : Type} (O : Ops E A) (k : Nat) (p1 : Pool (TNode E A)) (a1 : E) : Nat → (Int × TRef) → Option (Int)
  | 0, _ => none
  | n + 1, (v1, v2) => bif (v2.gen != 0) then ((Tree_get.f O k p1 v2).bind fun x2 => (O.cmp k a1 x2.e).bind fun x3 => bif (decide (x3 ≤ 0)) then (Tree_Rank.l0 O k p1 a1 n (v1, x2.left)) else ((Tree_weight.f O k p1 x2.left).bind fun x4 => Tree_Rank.l0 O k p1 a1 n ((w64 (v1 + x4)), x2.right))) else (some v1)
def Tree_between.r {E A : Type} (O : Ops E A) (k : Nat) : Nat → Pool (TNode E A) → TRef → Int → Int → Option (A)
  | 0, _, _, _, _ => none
  | n + 1, p1, a1, a2, a3 => (Tree_get.f O k p1 a1).bind fun x1 => (bif (decide (a2 ≥ a3)) then (some (Sum.inl O.zA)) else (bif (decide (a2 ≥ x1.size)) then (some (Sum.inl O.zA)) else (bif (decide (a3 ≤ 0)) then (some (Sum.inl O.zA)) else (bif (x1.size == 0) then (some (Sum.inl O.zA)) else (some (Sum.inr ())))))).bind (Sum.elim (fun r => some r) (fun w2 => (bif (decide (a2 ≤ 0)) then (bif (decide (a3 ≥ x1.size)) then (some (Sum.inl x1.sum)) else (some (Sum.inr ()))) else (some (Sum.inr ()))).bind (Sum.elim (fun r => some r) (fun w3 => (Tree_get.f O k p1 x1.left).bind fun x4 => (Tree_between.r O k n p1 x1.left a2 a3).bind fun x5 => (bif (decide (a2 ≤ x4.size)) then (bif (decide (a3 > x4.size)) then ((O.sum k x1.e).bind fun x7 => (O.plus k x5 x7).bind fun x8 => some x8) else (some x5)) else (some x5)).bind fun x6 => (Tree_between.r O k n p1 x1.right (w64 ((w64 (a2 - x4.size)) - 1)) (w64 ((w64 (a3 - x4.size)) - 1))).bind fun x9 => (O.plus k x6 x9).bind fun x10 => some x10))))
def Tree_last.r {E A : Type} (O : Ops E A) (k : Nat) : Nat → Pool (TNode E A) → TRef → Option (TRef × TRef × Pool (TNode E A))
  | 0, _, _ => none
  | n + 1, p1, a1 => (Tree_get.f O k p1 a1).bind fun x1 => bif (x1.right.gen == 0) then (some (x1.left, a1, p1)) else ((Tree_last.r O k n p1 x1.right).bind fun x2 => (Tree_link.f O k x2.2.2 x1.left a1 x2.1).bind fun x3 => some (x3.1, x2.2.1, x3.2))
def Tree_last.f {E A : Type} (O : Ops E A) (k : Nat) (p1 : Pool (TNode E A)) (a1 : TRef) : Option (TRef × TRef × Pool (TNode E A)) := Tree_last.r O k k p1 a1
def Tree_merge.f {E A : Type} (O : Ops E A) (k : Nat) (p1 : Pool (TNode E A)) (a1 : TRef) (a2 : TRef) : Option (TRef × Pool (TNode E A)) := bif (a1.gen == 0) then (some (a2, p1)) else (bif (a2.gen == 0) then (some (a1, p1)) else ((Tree_last.f O k p1 a1).bind fun x1 => (Tree_link.f O k x1.2.2 x1.1 x1.2.1 a2).bind fun x2 => some (x2.1, x2.2)))
def Tree_drop.r {E A : Type} (O : Ops E A) (k : Nat) : Nat → Pool (TNode E A) → TRef → E → Option (TRef × E × Bool × Pool (TNode E A))
  | 0, _, _, _ => none
  | n + 1, p1, a1, a2 => bif (a1.gen == 0) then (some (a1, O.zE, false, p1)) else ((Tree_get.f O k p1 a1).bind fun x1 => (O.cmp k a2 x1.e).bind fun x2 => bif (decide (x2 < 0)) then ((Tree_drop.r O k n p1 x1.left a2).bind fun x3 => bif (!x3.2.2.1) then (some (a1, x3.2.1, false, x3.2.2.2)) else ((Tree_link.f O k x3.2.2.2 x3.1 a1 x1.right).bind fun x4 => some (x4.1, x3.2.1, true, x4.2))) else (bif (decide (x2 > 0)) then ((Tree_drop.r O k n p1 x1.right a2).bind fun x5 => bif (!x5.2.2.1) then (some (a1, x5.2.1, false, x5.2.2.2)) else ((Tree_link.f O k x5.2.2.2 x1.left a1 x5.1).bind fun x6 => some (x6.1, x5.2.1, true, x6.2))) else ((pDrop (zNode O) p1 a1.index a1.gen).bind fun x7 => (Tree_merge.f O k x7.2 x1.left x1.right).bind fun x8 => some (x8.1, x1.e, true, x8.2))))
def Tree_Find.l0 {E A : Type} (O : Ops E A) (k : Nat) (p1 : Pool (TNode E A)) (a1 : E) : Nat → TRef → Option (Sum (E × Bool) (Unit))
  | 0, _ => none
  | n + 1, v1 => bif (v1.gen != 0) then ((Tree_get.f O k p1 v1).bind fun x2 => (O.cmp k a1 x2.e).bind fun x3 => bif (x3 == 0) then (some (Sum.inl (x2.e, true))) else (bif (decide (x3 < 0)) then (Tree_Find.l0 O k p1 a1 n x2.left) else (Tree_Find.l0 O k p1 a1 n x2.right))) else (some (Sum.inr ()))
def tide_Tide_Plus.f (k : Nat) (a0 : TTide) (a1 : TTide) : Option (TTide) := bif (a0.n == 0) then (some a1) else (bif (a1.n == 0) then (some a0) else (some (TTide.mk (w64 (a0.n + a1.n)) (w64 (a0.sum + a1.sum)) (gmin a0.low (w64 (a0.sum + a1.low))))))
def tide_Of.l0 (k : Nat) (l0 : List Int) : Nat → (TTide × Int) → Option (TTide)
  | 0, _ => none
  | n + 1, (v1, v2) => bif (decide (v2 < (l0.length : Int))) then ((atL l0 v2).bind fun x2 => (tide_Tide_Plus.f k v1 (TTide.mk 1 x2 x2)).bind fun x3 => tide_Of.l0 k l0 n (x3, (w64 (v2 + 1)))) else (some v1)
def tide_Of.f (k : Nat) (l0 : List Int) : Option (TTide) := (tide_Of.l0 k l0 k (zTTide, 0)).bind fun x1 => some x1
def Lw07_elem_Sum.f (k : Nat) (a0 : TL07Elem) : Option (TTide) := (tide_Of.f k ([a0.w] : List Int)).bind fun x1 => some x1
def Lw07_elem_Compare.f (k : Nat) (a0 : TL07Elem) (a1 : TL07Elem) : Option (Int) := bif (decide (a0.k < a1.k)) then (some (-1)) else (bif (decide (a0.k > a1.k)) then (some 1) else (some 0))
def Lw07_awake_1.f (k : Nat) (a0 : TTide) (a1 : TTide) : Option (Bool) := some (decide ((w64 (a0.sum + a1.sum)) > 6))
abbrev opsE : Ops TL07Elem TTide := ⟨Lw07_elem_Compare.f, Lw07_elem_Sum.f, tide_Tide_Plus.f, zTL07Elem, zTTide⟩
abbrev zNodeE : TNode TL07Elem TTide := zNode opsE
def Lw07_small.l0 (k : Nat) (l0 : List TL07Act) : Nat → Int → Option (Sum (Bool) (Unit))
  | 0, _ => none
  | n + 1, v1 => bif (decide (v1 < (l0.length : Int))) then ((atL l0 v1).bind fun x2 => bif (decide (x2.w < (-1000000))) then (some (Sum.inl false)) else (bif (decide (x2.w > 1000000)) then (some (Sum.inl false)) else (Lw07_small.l0 k l0 n (w64 (v1 + 1))))) else (some (Sum.inr ()))
def Lw07_small.f (k : Nat) (l0 : List TL07Act) (a1 : Int) : Option (Bool) := bif (decide ((l0.length : Int) > a1)) then (some false) else ((Lw07_small.l0 k l0 k 0).bind (Sum.elim (fun r => some r) (fun w1 => some true)))
def R01_Rest.f (k : Nat) (a0 : Int) (a1 : Int) : Option (Int) := bif decide (a1 ≠ 0) then (bif decide (a1 ≠ 0) then (some ((w64 ((a0.tmod a1) + a1)).tmod a1)) else none) else none
end Go.Proofs.Ytjokolmijhhinaa
namespace Go.Proofs.Ytjokolmijhhinaa
theorem R {α : Sort _} {a : α} : a = a := rfl
open Go Go.Proofs.Ytjokolmijhhinaa.Sx
theorem me32_130 (v : Value) (w : World) : (method (Try.prog.types.size + Made.depth) 32 v "Plus").run Try.prog w = .ok (130, v) w := meth_of (by kernel_rfl) v w
theorem me35_131 (v : Value) (w : World) : (method (Try.prog.types.size + Made.depth) 35 v "Compare").run Try.prog w = .ok (131, v) w := meth_of (by kernel_rfl) v w
theorem me35_132 (v : Value) (w : World) : (method (Try.prog.types.size + Made.depth) 35 v "Sum").run Try.prog w = .ok (132, v) w := meth_of (by kernel_rfl) v w
abbrev tide_Tide_Plus_st (a0 : TTide) (a1 : TTide) (r : TTide) : Prop := SCon Try.prog 130 [.a (.agg ((eTTide a0).map .v)), .a (.agg ((eTTide a1).map .v))] [] (.a (.agg ((eTTide r).map .v))) [] []
theorem tide_Tide_Plus_con0 {k : Nat}  {a0 : TTide} {a1 : TTide} {r : TTide}  (H0 : tide_Tide_Plus.f k a0 a1 = some r) : tide_Tide_Plus_st a0 a1 r := by
 rw [tide_Tide_Plus.f] at H0
 refine spec_of [(0, _), (1, _)] [] 32 Try.func130 R Try.ntmps130 R R R R (fun β W F => ?_)
 refine G.seq <| G.rg <| K.box Y 100 _ g0 R R R R R R <| K.box Y 101 _ g0 R R R R R R <| K.alloc Y 102 _ g0 t32 R R R R R <| K.nil <| At.ns <| G.seq <| G.rg <| K.fieldAddr Y g0 R t32 R R <| K.load1 Y g0 R R t3 R R <| K.bin (V := .bool (a0.n == 0)) g0 R R (fun _ => R) R <| K.nil <| At.next <| G.cond R (fun h1 => ?_) (fun h1 => ?_)
 ·
  replace H0 := bif_t H0 h1
  refine G.seq <| G.rg <| K.loadS Y _ g0 R R t32 R R R <| K.store Y _ g0 R R R t32 R R R R R <| K.nil <| At.next <| G.ret <| At.over_ret <| At.done Y [(.cell 4 32, .agg [_, _, _])] R ⟨.st R R t32 R R, trivial⟩ (to' := []) trivial ?_ ?_ R R R (.inl R)
  · cases H0; rfl
  · cases H0; rfl
 ·
  replace H0 := bif_f H0 h1
  refine G.skip <| At.ns <| G.seq <| G.rg <| K.fieldAddr Y g0 R t32 R R <| K.load1 Y g0 R R t3 R R <| K.bin (V := .bool (a1.n == 0)) g0 R R (fun _ => R) R <| K.nil <| At.next <| G.cond R (fun h2 => ?_) (fun h2 => ?_)
  ·
   replace H0 := bif_t H0 h2
   refine G.seq <| G.rg <| K.loadS Y _ g0 R R t32 R R R <| K.store Y _ g0 R R R t32 R R R R R <| K.nil <| At.next <| G.ret <| At.over_ret <| At.done Y [(.cell 4 32, .agg [_, _, _])] R ⟨.st R R t32 R R, trivial⟩ (to' := []) trivial ?_ ?_ R R R (.inl R)
   · cases H0; rfl
   · cases H0; rfl
  ·
   replace H0 := bif_f H0 h2
   refine G.skip <| At.nr <| K.fieldAddr Y g0 R t32 R R <| K.load1 Y g0 R R t3 R R <| K.fieldAddr Y g0 R t32 R R <| K.load1 Y g0 R R t3 R R <| K.bin (V := .int .i64 (w64 (a0.n + a1.n))) g0 R R (fun _ => R) R <| K.fieldAddr Y g0 R t32 R R <| K.load1 Y g0 R R t3 R R <| K.fieldAddr Y g0 R t32 R R <| K.load1 Y g0 R R t3 R R <| K.bin (V := .int .i64 (w64 (a0.sum + a1.sum))) g0 R R (fun _ => R) R <| K.fieldAddr Y g0 R t32 R R <| K.load1 Y g0 R R t3 R R <| K.fieldAddr Y g0 R t32 R R <| K.load1 Y g0 R R t3 R R <| K.fieldAddr Y g0 R t32 R R <| K.load1 Y g0 R R t3 R R <| K.bin (V := .int .i64 (w64 (a0.sum + a1.low))) g0 R R (fun _ => R) R <| K.bi2 (V := .int .i64 (gmin a0.low (w64 (a0.sum + a1.low)))) g0 R R (fun _ _ => R) R <| K.build Y [(0, _), (1, _), (2, _)] [_, _, _] [((.tmp 17), _), ((.tmp 22), _), ((.tmp 30), _)] g0 (AllE.spec ⟨R, R, R, trivial⟩) R R t32 R R <| K.store Y _ g0 R R R t32 R R R R R <| K.nil <| At.next <| G.ret <| At.done Y [(.cell 4 32, .agg [_, _, _])] R ⟨.st R R t32 R R, trivial⟩ (to' := []) trivial ?_ ?_ R R R (.inl R)
   · cases H0; rfl
   · cases H0; rfl
theorem tide_Tide_Plus_con {k : Nat}  {a0 : TTide} {a1 : TTide} {r : TTide}  (H0 : tide_Tide_Plus.f k a0 a1 = some r) : tide_Tide_Plus_st a0 a1 r :=
 SCon.ren (rn []) (tide_Tide_Plus_con0 (k := k)   H0) trivial trivial (by simp) (by simp)
abbrev tide_Of_st (S : Foot) (W0 : World) (s0 : Value) (r : TTide) : Prop := SCon Try.prog 133 [SV.raw s0] [(0, rd S W0)] (.a (.agg ((eTTide r).map .v))) [(0, rd S W0)] []
theorem tide_Of_con0 {k : Nat}  {S : Foot} {W0 : World} {s0 : Value} {l0 : List Int} {r : TTide} (hL0 : LArg S W0 s0 intE 1 l0) (H0 : tide_Of.f k l0 = some r) : tide_Of_st S W0 s0 r := by
 rw [tide_Of.f] at H0
 obtain ⟨b0, o0, hI0⟩ := hL0
 refine spec_of [(0, _)] [(0, _)] 19 Try.func133 R Try.ntmps133 R R R R (fun β W F => ?_)
 refine G.seq <| G.rg <| K.alloc Y 100 _ g0 t32 R R R R R <| K.nil <| At.nr <| K.alloc Y 101 _ g0 t32 R R R R R <| K.nil <| At.next ?_
 obtain ⟨x1, H1, H0⟩ := bnd H0
 refine G.sJ (σ := { v : TTide // x1 = v }) (fun q => [(2, .a (.c (.p 102 0))), (3, .a (.c (.p 103 0)))]) (fun q => [(0, rd S W0), (102, blk 102 [.v (.int .i64 0), .v (.int .i64 0), .v (.int .i64 0)] 32), (103, blk 103 [.v (.int .i64 q.1.n), .v (.int .i64 q.1.sum), .v (.int .i64 q.1.low)] 32)]) ?_ ?_
 ·
  refine G.seq <| G.rg <| K.mv R R <| K.lenL (rV 0 S W0 s0 b0 o0 intE 1 l0) (hI0.is 0) g0 R R Try.underlying29 R <| K.mv R R <| K.nil <| At.next <| G.block <| G.lp (σ := { q : Nat × (TTide × Int) // tide_Of.l0 k l0 q.1 q.2 = some x1 }) (fun q => [(2, .a (.c (.p 108 0))), (3, .a (.c (.p 109 0))), (6, SV.raw s0), (7, .a (.c (.v (.int .i64 (l0.length : Int))))), (8, .a (.c (.v (.int .i64 q.1.2.2))))]) (fun q => [(0, rd S W0), (108, blk 108 [.v (.int .i64 0), .v (.int .i64 0), .v (.int .i64 0)] 32), (109, blk 109 [.v (.int .i64 q.1.2.1.n), .v (.int .i64 q.1.2.1.sum), .v (.int .i64 q.1.2.1.low)] 32)]) (fun q => q.1.1) ⟨(k, (zTTide, 0)), H1⟩ ?_ ?_
  · exact At.into [(108, 100), (109, 101)] [_, _, _] R ⟨R, R, R, R, R, trivial⟩ ⟨R, (fun _ => R), R, (blk_ren R R), R, (blk_ren R R), trivial⟩ R
  ·
   rintro ⟨⟨n0, v1, v2⟩, H1⟩
   show G _ _ [(2, .a (.c (.p 108 0))), (3, .a (.c (.p 109 0))), (6, SV.raw s0), (7, .a (.c (.v (.int .i64 (l0.length : Int))))), (8, .a (.c (.v (.int .i64 v2))))] [(0, some (rd S W0)), (108, some (blk 108 [.v (.int .i64 0), .v (.int .i64 0), .v (.int .i64 0)] 32)), (109, some (blk 109 [.v (.int .i64 v1.n), .v (.int .i64 v1.sum), .v (.int .i64 v1.low)] 32))] _ _
   cases n0 with
   | zero => exact absurd H1 (by simp [tide_Of.l0])
   | succ n0 =>
    have HL0 := H1
    rw [tide_Of.l0] at H1
    refine G.seq <| G.rg <| K.bin (V := .bool (decide (v2 < (l0.length : Int)))) g0 R R (fun _ => R) R <| K.nil <| At.ns <| G.cond R (fun h1 => ?_) (fun h1 => ?_)
    ·
     replace H1 := bif_t H1 h1
     refine G.skip <| At.ns <| G.block <| G.seq ?_
     obtain ⟨x2, hx2, H1⟩ := bnd H1
     refine G.rg <| K.idxL (rV 0 S W0 s0 b0 o0 intE 1 l0) ((v2).toNat) (hI0.is 0) (atL_get hx2) (atL_nn hx2) g0 R R R Try.underlying29 el29.size_run R <| K.load1L Y (rV 0 S W0 s0 b0 o0 intE 1 l0) ((v2).toNat) 0 (hI0.is 0) (atL_get hx2) g0 R R t3 R R <| K.as R R <| K.nil <| At.next ?_
     obtain ⟨x3, hx3, H1⟩ := bnd H1
     exact G.rg <| K.loadS Y _ g0 R R t32 R R R <| K.mv R R <| K.mv R R <| K.build Y [(0, _), (1, _), (2, _)] [_, _, _] [(_, _), ((.tmp 13), _), ((.tmp 14), _)] g0 (AllE.spec ⟨R, R, R, trivial⟩) R R t32 R R <| K.cR (cf 130 R) (tide_Tide_Plus_con hx3) g0 R R R R <| K.store Y _ g0 R R R t32 R R R R R <| K.nil <| At.block_normal <| At.next <| G.rg <| K.bin (V := .int .i64 (w64 (v2 + 1))) g0 R R (fun _ => R) R <| K.mv R R <| K.nil <| At.ag ⟨(n0, (x3, (w64 (v2 + 1)))), H1⟩ [] [_, _, _] (Nat.lt_succ_self _) R ⟨R, R, R, R, R, trivial⟩ ⟨R, (fun _ => R), R, (blk_ren R R), R, (blk_ren R R), trivial⟩ R
    ·
     replace H1 := bif_f H1 h1
     exact G.exit <| At.over_exit <| At.over_exit <| At.block_hit <| At.jd ⟨v1, oi H1⟩ [(102, 108), (103, 109)] [_, _, _] R ⟨R, R, trivial⟩ ⟨R, (fun _ => R), R, (blk_ren R R), R, (blk_ren R R), trivial⟩ R
 ·
  rintro ⟨_, rfl⟩
  show G _ _ [(2, .a (.c (.p 102 0))), (3, .a (.c (.p 103 0)))] [(0, some (rd S W0)), (102, some (blk 102 [.v (.int .i64 0), .v (.int .i64 0), .v (.int .i64 0)] 32)), (103, some (blk 103 [.v (.int .i64 x1.n), .v (.int .i64 x1.sum), .v (.int .i64 x1.low)] 32))] _ _
  refine G.seq <| G.rg <| K.loadS Y _ g0 R R t32 R R R <| K.store Y _ g0 R R R t32 R R R R R <| K.nil <| At.next <| G.ret <| At.done Y [(.cell 2 32, .agg [_, _, _])] R ⟨.st R R t32 R R, trivial⟩ (to' := [(0, _)]) ⟨R, trivial⟩ ?_ ?_ R R R (.inl R)
  · cases H0; rfl
  · cases H0; rfl
theorem tide_Of_con {k : Nat}  {S : Foot} {W0 : World} {s0 : Value} {l0 : List Int} {r : TTide} (hL0 : LArg S W0 s0 intE 1 l0) (H0 : tide_Of.f k l0 = some r) : tide_Of_st S W0 s0 r :=
 SCon.ren (rn []) (tide_Of_con0 (k := k)  hL0 H0) ⟨(fun _ => R), trivial⟩ ⟨(fun _ => R), trivial⟩ (by simp) (by simp)
abbrev Lw07_elem_Sum_st (a0 : TL07Elem) (r : TTide) : Prop := SCon Try.prog 132 [.a (.agg ((eTL07Elem a0).map .v))] [] (.a (.agg ((eTTide r).map .v))) [] []
theorem Lw07_elem_Sum_con0 {k : Nat}  {a0 : TL07Elem} {r : TTide}  (H0 : Lw07_elem_Sum.f k a0 = some r) : Lw07_elem_Sum_st a0 r := by
 rw [Lw07_elem_Sum.f] at H0
 refine spec_of [(0, _)] [] 7 Try.func132 R Try.ntmps132 R R R R (fun β W F => ?_)
 refine G.seq <| G.rg <| K.box Y 100 _ g0 R R R R R R <| K.alloc Y 101 _ g0 t32 R R R R R <| K.nil <| At.ns ?_
 obtain ⟨x1, hx1, H0⟩ := bnd H0
 refine G.rg <| K.fieldAddr Y g0 R t35 R R <| K.load1 Y g0 R R t3 R R <| K.buildL Y 102 ([a0.w] : List Int) [(0, _)] [((.tmp 4), _)] intE_len g0 (AllE.spec ⟨R, trivial⟩) R R Try.underlying29 t3 R R R R R R R R <| K.cV (cf 133 R) [102] (fun β w S2 h => tide_Of_con (la 0 R intE_len R h) hx1) g0 (fun _ => R) R R R <| K.store Y _ g0 R R R t32 R R R R R <| K.nil <| At.next <| G.ret <| At.done Y [(.cell 2 32, .agg [_, _, _])] R ⟨.st R R t32 R R, trivial⟩ (to' := []) trivial ?_ ?_ R R R (.inl R)
 · cases H0; rfl
 · cases H0; rfl
theorem Lw07_elem_Sum_con {k : Nat}  {a0 : TL07Elem} {r : TTide}  (H0 : Lw07_elem_Sum.f k a0 = some r) : Lw07_elem_Sum_st a0 r :=
 SCon.ren (rn []) (Lw07_elem_Sum_con0 (k := k)   H0) trivial trivial (by simp) (by simp)
abbrev Lw07_elem_Compare_st (a0 : TL07Elem) (a1 : TL07Elem) (r : Int) : Prop := SCon Try.prog 131 [.a (.agg ((eTL07Elem a0).map .v)), .a (.agg ((eTL07Elem a1).map .v))] [] (.a (.c (.v (.int .i64 r)))) [] []
theorem Lw07_elem_Compare_con0 {k : Nat}  {a0 : TL07Elem} {a1 : TL07Elem} {r : Int}  (H0 : Lw07_elem_Compare.f k a0 a1 = some r) : Lw07_elem_Compare_st a0 a1 r := by
 rw [Lw07_elem_Compare.f] at H0
 refine spec_of [(0, _), (1, _)] [] 15 Try.func131 R Try.ntmps131 R R R R (fun β W F => ?_)
 refine G.seq <| G.rg <| K.box Y 100 _ g0 R R R R R R <| K.box Y 101 _ g0 R R R R R R <| K.as R R <| K.nil <| At.ns <| G.seq <| G.rg <| K.fieldAddr Y g0 R t35 R R <| K.load1 Y g0 R R t3 R R <| K.fieldAddr Y g0 R t35 R R <| K.load1 Y g0 R R t3 R R <| K.bin (V := .bool (decide (a0.k < a1.k))) g0 R R (fun _ => R) R <| K.nil <| At.next <| G.cond R (fun h1 => ?_) (fun h1 => ?_)
 ·
  replace H0 := bif_t H0 h1
  exact G.seq <| G.rg <| K.as R R <| K.nil <| At.next <| G.ret <| At.over_ret <| At.dr Y [4] R R (by cases H0; rfl) (by cases H0; rfl) R R R
 ·
  replace H0 := bif_f H0 h1
  refine G.skip <| At.ns <| G.seq <| G.rg <| K.fieldAddr Y g0 R t35 R R <| K.load1 Y g0 R R t3 R R <| K.fieldAddr Y g0 R t35 R R <| K.load1 Y g0 R R t3 R R <| K.bin (V := .bool (decide (a0.k > a1.k))) g0 R R (fun _ => R) R <| K.nil <| At.next <| G.cond R (fun h2 => ?_) (fun h2 => ?_)
  ·
   replace H0 := bif_t H0 h2
   exact G.seq <| G.rg <| K.as R R <| K.nil <| At.next <| G.ret <| At.over_ret <| At.dr Y [4] R R (by cases H0; rfl) (by cases H0; rfl) R R R
  ·
   replace H0 := bif_f H0 h2
   exact G.skip <| At.nr <| K.as R R <| K.nil <| At.next <| G.ret <| At.dr Y [4] R R (by cases H0; rfl) (by cases H0; rfl) R R R
theorem Lw07_elem_Compare_con {k : Nat}  {a0 : TL07Elem} {a1 : TL07Elem} {r : Int}  (H0 : Lw07_elem_Compare.f k a0 a1 = some r) : Lw07_elem_Compare_st a0 a1 r :=
 SCon.ren (rn []) (Lw07_elem_Compare_con0 (k := k)   H0) trivial trivial (by simp) (by simp)
end Go.Proofs.Ytjokolmijhhinaa
namespace Go.Proofs.Ytjokolmijhhinaa
open Go Go.Proofs.Ytjokolmijhhinaa.Sx
abbrev fCE : Cell (TNode TL07Elem TTide) → List Value := cellE eTNode_TL07Elem_TTide
theorem fCE_len : ∀ c, (fCE c).length = 12 := cellE_len eTNode_TL07Elem_TTide_len
theorem fCE_one : ∀ c, (fCE c).all Value.oneCell' = true := cellE_one eTNode_TL07Elem_TTide_one
abbrev avE (x : (TNode TL07Elem TTide)) : Av := .agg ((eTNode_TL07Elem_TTide x).map .v)
abbrev poolE (k : Nat) (p : Pool (TNode TL07Elem TTide)) : Tok := pool k 137 154 3 12 fCE p
theorem nextE (p : Pool (TNode TL07Elem TTide)) (hc : p.cells.length < 4294967296) (hf : p.free.length < 4294967296) : SCon Try.prog 104 [SV.p 0 0] [(0, poolE 0 p)] (SV.i (p.next zNodeE).1) [(0, poolE 0 (p.next zNodeE).2)] [] := by
  obtain ⟨cells, free, cap, held, vis⟩ := p
  simp only at hc hf
  rcases List.eq_nil_or_concat free with h0 | ⟨l, x, h0⟩
  · subst h0
    refine spec_of [(0, _)] [(0, _)] 46 Try.func104 R Try.ntmps104 R R R R (fun β W F => ?_)
    refine G.ent [(0, _)] [(0, _), (21, _), (22, _)] [21, 22] (pool_open (by decide) (by decide) (by decide)) ⟨R, trivial⟩ R R R R <| G.seq <| G.rg <| K.as R R <| K.nil <| At.ns <| G.seq <| G.rg <| K.mv R R <| K.nilCheck g0 R R <| K.fieldAddr Y g0 R t137 R R <| K.load1 Y g0 R R t29 R R <| K.lenL (lrowV 22 3 intE 1 _) (lrowV_is intE_len (by decide)) g0 R R Try.underlying29 R <| K.bin g0 R R (fun _ => R) R <| K.as R R <| K.nil <| At.nr <| K.mv R R <| K.bin g0 R R (fun _ => R) R <| K.nil <| At.next <| G.cond R (fun h1 => ?_) (fun h1 => ?_)
    · exact absurd h1 (by simp [IntKind.wrap_i64] at * <;> omega)
    ·
      refine G.skip <| At.nr <| K.mv R R <| K.mv R R <| K.nilCheck g0 R R <| K.fieldAddr Y g0 R t137 R R <| K.load1 Y g0 R R t135 R R <| K.build Y [] [_, _, _, _, _, _, _, _, _, _, _, _] [] g0 (AllE.spec trivial) R R t154 R R <| K.buildL Y 136 [(⟨zNodeE, 0, false⟩ : Cell (TNode TL07Elem TTide))] [(0, _)] [((.tmp 35), _)] fCE_len g0 (AllE.spec ⟨R, trivial⟩) R R Try.underlying135 t154 R R R R R R R R <| K.appendL 137 (lrowV 136 154 fCE 12 _) _ el135 (lrowV_is fCE_len (by decide)) fCE_one g0 R R R R R (by simp only [List.length_cons, List.length_nil, maxLen]; omega) (by simp only [List.length_cons, List.length_nil, maxLen]; omega) R R R R R R <| K.nilCheck g0 R R <| K.fieldAddr Y g0 R t137 R R <| K.store Y _ g0 R R R t135 R R R R R <| K.nil <| At.nr <| K.mv R R <| K.nilCheck g0 R R <| K.fieldAddr Y g0 R t137 R R <| K.load1 Y g0 R R t135 R R <| K.lenL (lrowV 137 154 fCE 12 _) (lrowV_is fCE_len (by decide)) g0 R R Try.underlying135 R <| K.bin g0 R R (fun _ => R) R <| K.as R R <| K.nil <| At.next <| G.ret <| At.ent [(0, _), (137, _), (22, _)] [(0, poolE 0 ⟨_, _, _, _, _⟩)] [] (pool_close _ _ _ _ _) ⟨R, R, R, trivial⟩ R R R R <| At.done Y [(.tmp 2, .c _)] R ⟨.tmp R, trivial⟩ (to' := [(0, _)]) ⟨R, trivial⟩ ?_ ?_ R R R (.inl R)
      · simp [Pool.next, *]
      · exact ret_i (by simp [Pool.next, IntKind.wrap_i64]; omega)
  · rw [List.concat_eq_append] at h0; subst h0
    have hget : (l ++ [x])[l.length]? = some x := by simp
    refine spec_of [(0, _)] [(0, _)] 46 Try.func104 R Try.ntmps104 R R R R (fun β W F => ?_)
    refine G.ent [(0, _)] [(0, _), (21, _), (22, _)] [21, 22] (pool_open (by decide) (by decide) (by decide)) ⟨R, trivial⟩ R R R R <| G.seq <| G.rg <| K.as R R <| K.nil <| At.ns <| G.seq <| G.rg <| K.mv R R <| K.nilCheck g0 R R <| K.fieldAddr Y g0 R t137 R R <| K.load1 Y g0 R R t29 R R <| K.lenL (lrowV 22 3 intE 1 _) (lrowV_is intE_len (by decide)) g0 R R Try.underlying29 R <| K.bin g0 R R (fun _ => R) R <| K.as R R <| K.nil <| At.nr <| K.mv R R <| K.bin g0 R R (fun _ => R) R <| K.nil <| At.next <| G.cond R (fun h1 => ?_) (fun h1 => ?_)
    ·
      refine G.seq <| G.rg <| K.mv R R <| K.nilCheck g0 R R <| K.fieldAddr Y g0 R t137 R R <| K.load1 Y g0 R R t29 R R <| K.mv R R <| K.idxL (lrowV 22 3 intE 1 _) l.length (lrowV_is intE_len (by decide)) hget (by simp [IntKind.wrap_i64] at * <;> omega) g0 R R R Try.underlying29 el29.size_run R <| K.load1L Y (lrowV 22 3 intE 1 _) l.length 0 (lrowV_is intE_len (by decide)) hget g0 R R t3 R R <| K.as R R <| K.nil <| At.nr <| K.mv R R <| K.mv R R <| K.nilCheck g0 R R <| K.fieldAddr Y g0 R t137 R R <| K.load1 Y g0 R R t29 R R <| K.mv R R <| K.cutL 126 l.length intE_len g0 R (.at_ R (by simp [IntKind.wrap_i64] at * <;> omega) (by simp [IntKind.wrap_i64] at * <;> omega)) R Try.underlying29 el29.size_run (by simp) R R R R <| K.nilCheck g0 R R <| K.fieldAddr Y g0 R t137 R R <| K.store Y _ g0 R R R t29 R R R R R <| K.nil <| At.nr <| K.mv R R <| K.as R R <| K.nil <| At.next <| G.ret <| At.over_ret <| At.ent [(0, _), (21, _), (126, _)] [(0, poolE 0 ⟨_, _, _, _, _⟩)] [] (pool_close _ _ _ _ _) ⟨R, R, R, trivial⟩ R R R R <| At.done Y [(.tmp 2, .c _)] R ⟨.tmp R, trivial⟩ (to' := [(0, _)]) ⟨R, trivial⟩ ?_ ?_ R R R (.inl R)
      · simp [Pool.next, *]
      · exact ret_i (by simp [Pool.next])
    · exact absurd h1 (by simp [IntKind.wrap_i64] at * <;> omega)
theorem findSE {cells : List (Cell (TNode TL07Elem TTide))} {n : Nat} {c : Cell (TNode TL07Elem TTide)} (hg : cells[n]? = some c) (hl : c.live = true) (hlen : cells.length < 4294967296) (cap held vis : Int) : SCon Try.prog 102 [SV.p 0 0, SV.agg [.i (n : Int), .i c.gen]] [(0, blk 0 [.nv 1, .nv 2, .i cap, .i held, .i vis] 137), (1, lrow 1 154 fCE 12 cells)] (.a (.c (.rp 1 (n * 12)))) [(0, blk 0 [.nv 1, .nv 2, .i cap, .i held, .i (IntKind.i64.wrap (vis + 1))] 137), (1, lrow 1 154 fCE 12 cells)] [] := by
  have hlt := (List.getElem?_eq_some_iff.1 hg).1
  refine spec_of [(0, _), (1, _)] [(0, _), (1, _)] 48 Try.func102 R Try.ntmps102 R R R R (fun β W F => ?_)
  refine G.seq <| G.rg <| K.box Y 103 _ g0 R R R R R R <| K.as R R <| K.nil <| At.ns <| G.seq ?_
  have h1 : (decide ((n : Int) < 0)) = false := by simp [IntKind.wrap_i64] at * <;> omega
  refine G.rd mixed <| K.fieldAddr Y g0 R t99 R R <| K.load1 Y g0 R R t3 R R <| K.bin g0 R R (fun _ => R) R <| K.mv R R <| K.fieldAddr Y (g1 R R h1) R t99 R R <| K.load1 Y (g1 R R h1) R R t3 R R <| K.move (.inl R) (g1 R R h1) R R <| K.nilCheck (g1 R R h1) R R <| K.fieldAddr Y (g1 R R h1) R t137 R R <| K.load1 Y (g1 R R h1) R R t135 R R <| K.lenL (lrowV 1 154 fCE 12 _) (lrowV_is fCE_len (by decide)) (g1 R R h1) R R Try.underlying135 R <| K.bin (g1 R R h1) R R (fun _ => R) R <| K.pickF g0 R (h1) R R <| K.nil <| And.intro (by kernel_rfl) <| At.next <| G.cond R (fun h2 => ?_) (fun h2 => ?_)
  · exact absurd h2 (by simp [IntKind.wrap_i64] at * <;> omega)
  ·
    refine G.skip <| At.ns <| G.rd mixed <| K.mv R R <| K.nilCheck g0 R R <| K.fieldAddr Y g0 R t137 R R <| K.load1 Y g0 R R t135 R R <| K.fieldAddr Y g0 R t99 R R <| K.load1 Y g0 R R t3 R R <| K.idxL (lrowV 1 154 fCE 12 _) n (lrowV_is fCE_len (by decide)) hg R g0 R R R Try.underlying135 el135.size_run R <| K.as R R <| K.nil <| And.intro (by kernel_rfl) <| At.ns <| G.seq ?_
    have h3 : (!c.live) = false := by simp [hl]
    refine G.rd mixed <| K.mv R R <| K.nilL (lrowV 1 154 fCE 12 _) n 0 (lrowV_is fCE_len (by decide)) hg g0 R R R R <| K.fieldL Y (lrowV 1 154 fCE 12 _) n 0 11 (lrowV_is fCE_len (by decide)) hg g0 R R t154 R R R R <| K.load1L Y (lrowV 1 154 fCE 12 _) n 11 (lrowV_is fCE_len (by decide)) hg g0 R R t4 R R <| K.un g0 R (fun _ => R) R <| K.mv R R <| K.move (.inl R) (g1 R R h3) R R <| K.nilL (lrowV 1 154 fCE 12 _) n 0 (lrowV_is fCE_len (by decide)) hg (g1 R R h3) R R R R <| K.fieldL Y (lrowV 1 154 fCE 12 _) n 0 10 (lrowV_is fCE_len (by decide)) hg (g1 R R h3) R R t154 R R R R <| K.load1L Y (lrowV 1 154 fCE 12 _) n 10 (lrowV_is fCE_len (by decide)) hg (g1 R R h3) R R t3 R R <| K.fieldAddr Y (g1 R R h3) R t99 R R <| K.load1 Y (g1 R R h3) R R t3 R R <| K.bin (g1 R R h3) R R (fun _ => R) R <| K.pickF g0 R (h3) R R <| K.nil <| And.intro (by kernel_rfl) <| At.next <| G.cond R (fun h4 => ?_) (fun h4 => ?_)
    · exact absurd h4 (by simp)
    ·
      refine G.skip <| At.nr <| K.mv R R <| K.nilCheck g0 R R <| K.fieldAddr Y g0 R t137 R R <| K.load1 Y g0 R R t3 R R <| K.bin g0 R R (fun _ => R) R <| K.nilCheck g0 R R <| K.fieldAddr Y g0 R t137 R R <| K.store Y _ g0 R R R t3 R R R R R <| K.nil <| At.nr <| K.mv R R <| K.as R R <| K.nil <| At.next <| G.ret <| At.done Y [(.tmp 4, .c _)] R ⟨.tmp R, trivial⟩ (to' := [(0, _), (1, _)]) ⟨R, R, trivial⟩ ?_ ?_ R R R (.inl R)
      · rfl
      · rfl
theorem findNE {cells : List (Cell (TNode TL07Elem TTide))} {i g : Int} (hn : lookC cells i g = none) (hlen : cells.length < 4294967296) (cap held vis : Int) : SCon Try.prog 102 [SV.p 0 0, SV.agg [.i i, .i g]] [(0, blk 0 [.nv 1, .nv 2, .i cap, .i held, .i vis] 137), (1, lrow 1 154 fCE 12 cells)] (SV.raw (.pointer none)) [(0, blk 0 [.nv 1, .nv 2, .i cap, .i held, .i vis] 137), (1, lrow 1 154 fCE 12 cells)] [] := by
  refine spec_of [(0, _), (1, _)] [(0, _), (1, _)] 48 Try.func102 R Try.ntmps102 R R R R (fun β W F => ?_)
  refine G.seq <| G.rg <| K.box Y 103 _ g0 R R R R R R <| K.as R R <| K.nil <| At.ns <| G.seq ?_
  rcases Bool.eq_false_or_eq_true (decide (i < 0)) with h1 | h1
  ·
    refine G.rd mixed <| K.fieldAddr Y g0 R t99 R R <| K.load1 Y g0 R R t3 R R <| K.bin g0 R R (fun _ => R) R <| K.mv R R <| K.sk R R h1 R <| K.sk R R h1 R <| K.sk R R h1 R <| K.sk R R h1 R <| K.sk R R h1 R <| K.sk R R h1 R <| K.sk R R h1 R <| K.sk R R h1 R <| K.pickT g0 R (h1) R R <| K.nil <| And.intro (by kernel_rfl) <| At.next <| G.cond R (fun h2 => ?_) (fun h2 => ?_)
    ·
      refine G.seq <| G.rg <| K.as R R <| K.nil <| At.next <| G.ret <| At.over_ret <| At.done Y [(.tmp 4, .c _)] R ⟨.tmp R, trivial⟩ (to' := [(0, _), (1, _)]) ⟨R, R, trivial⟩ ?_ ?_ R R R (.inl R)
      · rfl
      · rfl
    · cases h2
  ·
    refine G.rd mixed <| K.fieldAddr Y g0 R t99 R R <| K.load1 Y g0 R R t3 R R <| K.bin g0 R R (fun _ => R) R <| K.mv R R <| K.fieldAddr Y (g1 R R h1) R t99 R R <| K.load1 Y (g1 R R h1) R R t3 R R <| K.move (.inl R) (g1 R R h1) R R <| K.nilCheck (g1 R R h1) R R <| K.fieldAddr Y (g1 R R h1) R t137 R R <| K.load1 Y (g1 R R h1) R R t135 R R <| K.lenL (lrowV 1 154 fCE 12 _) (lrowV_is fCE_len (by decide)) (g1 R R h1) R R Try.underlying135 R <| K.bin (g1 R R h1) R R (fun _ => R) R <| K.pickF g0 R (h1) R R <| K.nil <| And.intro (by kernel_rfl) <| At.next <| G.cond R (fun h3 => ?_) (fun h3 => ?_)
    ·
      refine G.seq <| G.rg <| K.as R R <| K.nil <| At.next <| G.ret <| At.over_ret <| At.done Y [(.tmp 4, .c _)] R ⟨.tmp R, trivial⟩ (to' := [(0, _), (1, _)]) ⟨R, R, trivial⟩ ?_ ?_ R R R (.inl R)
      · rfl
      · rfl
    ·
      refine G.skip <| At.ns ?_
      obtain ⟨c, hg⟩ : ∃ c, cells[i.toNat]? = some c := ⟨_, List.getElem?_eq_getElem (by simp [IntKind.wrap_i64] at * <;> omega)⟩
      refine G.rd mixed <| K.mv R R <| K.nilCheck g0 R R <| K.fieldAddr Y g0 R t137 R R <| K.load1 Y g0 R R t135 R R <| K.fieldAddr Y g0 R t99 R R <| K.load1 Y g0 R R t3 R R <| K.idxL (lrowV 1 154 fCE 12 _) i.toNat (lrowV_is fCE_len (by decide)) hg (by simp [IntKind.wrap_i64] at * <;> omega) g0 R R R Try.underlying135 el135.size_run R <| K.as R R <| K.nil <| And.intro (by kernel_rfl) <| At.ns <| G.seq ?_
      rcases Bool.eq_false_or_eq_true (!c.live) with h4 | h4
      ·
        refine G.rd mixed <| K.mv R R <| K.nilL (lrowV 1 154 fCE 12 _) i.toNat 0 (lrowV_is fCE_len (by decide)) hg g0 R R R R <| K.fieldL Y (lrowV 1 154 fCE 12 _) i.toNat 0 11 (lrowV_is fCE_len (by decide)) hg g0 R R t154 R R R R <| K.load1L Y (lrowV 1 154 fCE 12 _) i.toNat 11 (lrowV_is fCE_len (by decide)) hg g0 R R t4 R R <| K.un g0 R (fun _ => R) R <| K.mv R R <| K.sk R R h4 R <| K.sk R R h4 R <| K.sk R R h4 R <| K.sk R R h4 R <| K.sk R R h4 R <| K.sk R R h4 R <| K.sk R R h4 R <| K.pickT g0 R (h4) R R <| K.nil <| And.intro (by kernel_rfl) <| At.next <| G.cond R (fun h5 => ?_) (fun h5 => ?_)
        ·
          refine G.seq <| G.rg <| K.as R R <| K.nil <| At.next <| G.ret <| At.over_ret <| At.done Y [(.tmp 4, .c _)] R ⟨.tmp R, trivial⟩ (to' := [(0, _), (1, _)]) ⟨R, R, trivial⟩ ?_ ?_ R R R (.inl R)
          · rfl
          · rfl
        · cases h5
      ·
        refine G.rd mixed <| K.mv R R <| K.nilL (lrowV 1 154 fCE 12 _) i.toNat 0 (lrowV_is fCE_len (by decide)) hg g0 R R R R <| K.fieldL Y (lrowV 1 154 fCE 12 _) i.toNat 0 11 (lrowV_is fCE_len (by decide)) hg g0 R R t154 R R R R <| K.load1L Y (lrowV 1 154 fCE 12 _) i.toNat 11 (lrowV_is fCE_len (by decide)) hg g0 R R t4 R R <| K.un g0 R (fun _ => R) R <| K.mv R R <| K.move (.inl R) (g1 R R h4) R R <| K.nilL (lrowV 1 154 fCE 12 _) i.toNat 0 (lrowV_is fCE_len (by decide)) hg (g1 R R h4) R R R R <| K.fieldL Y (lrowV 1 154 fCE 12 _) i.toNat 0 10 (lrowV_is fCE_len (by decide)) hg (g1 R R h4) R R t154 R R R R <| K.load1L Y (lrowV 1 154 fCE 12 _) i.toNat 10 (lrowV_is fCE_len (by decide)) hg (g1 R R h4) R R t3 R R <| K.fieldAddr Y (g1 R R h4) R t99 R R <| K.load1 Y (g1 R R h4) R R t3 R R <| K.bin (g1 R R h4) R R (fun _ => R) R <| K.pickF g0 R (h4) R R <| K.nil <| And.intro (by kernel_rfl) <| At.next <| G.cond R (fun h6 => ?_) (fun h6 => ?_)
        ·
          refine G.seq <| G.rg <| K.as R R <| K.nil <| At.next <| G.ret <| At.over_ret <| At.done Y [(.tmp 4, .c _)] R ⟨.tmp R, trivial⟩ (to' := [(0, _), (1, _)]) ⟨R, R, trivial⟩ ?_ ?_ R R R (.inl R)
          · rfl
          · rfl
        · exact absurd h6 (by simp_all [lookC])
theorem findSE' {cells : List (Cell (TNode TL07Elem TTide))} {n : Nat} {c : Cell (TNode TL07Elem TTide)} (hg : cells[n]? = some c) (hl : c.live = true) (hlen : cells.length < 4294967296) (cap held vis : Int) (k0 k1 k2 : Nat) : SCon Try.prog 102 [SV.p k0 0, SV.agg [.i (n : Int), .i c.gen]]
    [(k0, blk k0 [.nv k1, .nv k2, .i cap, .i held, .i vis] 137), (k1, lrow k1 154 fCE 12 cells)] (.a (.c (.rp k1 (n * 12)))) [(k0, blk k0 [.nv k1, .nv k2, .i cap, .i held, .i (IntKind.i64.wrap (vis + 1))] 137), (k1, lrow k1 154 fCE 12 cells)] [] :=
  SCon.ren (rn [(0, k0), (1, k1), (2, k2)]) (findSE hg hl hlen cap held vis) ⟨blk_ren R R, lrow_ren R, trivial⟩ ⟨blk_ren R R, lrow_ren R, trivial⟩ (by simp) (by simp)
theorem findNE' {cells : List (Cell (TNode TL07Elem TTide))} {i g : Int} (hn : lookC cells i g = none) (hlen : cells.length < 4294967296) (cap held vis : Int) (k0 k1 k2 : Nat) : SCon Try.prog 102 [SV.p k0 0, SV.agg [.i i, .i g]]
    [(k0, blk k0 [.nv k1, .nv k2, .i cap, .i held, .i vis] 137), (k1, lrow k1 154 fCE 12 cells)] (SV.raw (.pointer none)) [(k0, blk k0 [.nv k1, .nv k2, .i cap, .i held, .i vis] 137), (k1, lrow k1 154 fCE 12 cells)] [] :=
  SCon.ren (rn [(0, k0), (1, k1), (2, k2)]) (findNE hn hlen cap held vis) ⟨blk_ren R R, lrow_ren R, trivial⟩ ⟨blk_ren R R, lrow_ren R, trivial⟩ (by simp) (by simp)
theorem getE (p : Pool (TNode TL07Elem TTide)) (i g : Int) (hlen : p.cells.length < 4294967296) (hfree : p.free.length < 4294967296) : SCon Try.prog 83 [SV.p 0 0, SV.agg [.i i, .i g]] [(0, poolE 0 p)] (.tup [avE (p.get zNodeE i g).1.1, .c (.b (p.get zNodeE i g).1.2)]) [(0, poolE 0 (p.get zNodeE i g).2)] [] := by
  obtain ⟨cells, free, cap, held, vis⟩ := p
  simp only at hlen hfree
  cases hlk : lookC cells i g with
  | none =>
    refine spec_of [(0, _), (1, _)] [(0, _)] 18 Try.func83 R Try.ntmps83 R R R R (fun β W F => ?_)
    refine G.ent [(0, _)] [(0, _), (21, _), (22, _)] [21, 22] (pool_open (by decide) (by decide) (by decide)) ⟨R, trivial⟩ R R R R <| G.seq <| G.rg <| K.box Y 103 _ g0 R R R R R R <| K.alloc Y 104 _ g0 t104 R R R R R <| K.as R R <| K.nil <| At.nr <| K.mv R R <| K.loadS Y _ g0 R R t99 R R R <| K.call0 [(.func 102, _), ((.tmp 8), _), ((.tmp 9), _)] (findNE' hlk hlen _ _ _ 0 21 22) (toFn_func (cf 102 R) R) g0 ⟨R, R, R, trivial⟩ ⟨R, R, trivial⟩ R R R R R R <| K.as R R <| K.nil <| At.ns <| G.seq <| G.rg <| K.mv R R <| K.bin g0 R R (pn_eql_none Try.underlying151) R <| K.nil <| At.next <| G.cond R (fun h1 => ?_) (fun h1 => ?_)
    ·
      refine G.seq <| G.rg <| K.alloc Y 107 _ g0 t104 R R R R R <| K.nil <| At.nr <| K.loadS Y _ g0 R R t104 R R R <| K.store Y _ g0 R R R t104 R R R R R <| K.as R R <| K.nil <| At.next <| G.ret <| At.over_ret <| At.ent [(0, _), (21, _), (22, _)] [(0, poolE 0 ⟨_, _, _, _, _⟩)] [] (pool_close _ _ _ _ _) ⟨R, R, R, trivial⟩ R R R R <| At.done Y [(.cell 4 104, .agg [_, _, _, _, _, _, _, _, _, _]), (.tmp 5, .c _)] R ⟨.st R R t104 R R, .tmp R, trivial⟩ (to' := [(0, _)]) ⟨R, trivial⟩ ?_ ?_ R R R (.inl R)
      · simp only [Pool.get, hlk]
      · simp only [Pool.get, hlk]; rfl
    · cases h1
  | some c =>
    obtain ⟨n, rfl, hg, hl, rfl⟩ := lookC_some hlk
    refine spec_of [(0, _), (1, _)] [(0, _)] 18 Try.func83 R Try.ntmps83 R R R R (fun β W F => ?_)
    refine G.ent [(0, _)] [(0, _), (21, _), (22, _)] [21, 22] (pool_open (by decide) (by decide) (by decide)) ⟨R, trivial⟩ R R R R <| G.seq <| G.rg <| K.box Y 103 _ g0 R R R R R R <| K.alloc Y 104 _ g0 t104 R R R R R <| K.as R R <| K.nil <| At.nr <| K.mv R R <| K.loadS Y _ g0 R R t99 R R R <| K.call0 [(.func 102, _), ((.tmp 8), _), ((.tmp 9), _)] (findSE' hg hl hlen _ _ _ 0 21 22) (toFn_func (cf 102 R) R) g0 ⟨R, R, R, trivial⟩ ⟨R, R, trivial⟩ R R R R R R <| K.as R R <| K.nil <| At.ns <| G.seq <| G.rg <| K.mv R R <| K.eqnilL (lrowV 21 154 fCE 12 _) n 0 (B := false) (lrowV_is fCE_len (by decide)) hg g0 R R R R (pn_eql_some Try.underlying151) R <| K.nil <| At.next <| G.cond R (fun h1 => ?_) (fun h1 => ?_)
    · cases h1
    ·
      refine G.skip <| At.nr <| K.mv R R <| K.nilL (lrowV 21 154 fCE 12 _) n 0 (lrowV_is fCE_len (by decide)) hg g0 R R R R <| K.fieldL Y (lrowV 21 154 fCE 12 _) n 0 0 (lrowV_is fCE_len (by decide)) hg g0 R R t154 R R R R <| K.loadSL Y (lrowV 21 154 fCE 12 _) n 0 [_, _, _, _, _, _, _, _, _, _] [_, _, _, _, _, _, _, _, _, _] (lrowV_is fCE_len (by decide)) hg g0 R R t104 R R R R R <| K.store Y _ g0 R R R t104 R R R R R <| K.as R R <| K.nil <| At.next <| G.ret <| At.ent [(0, _), (21, _), (22, _)] [(0, poolE 0 ⟨_, _, _, _, _⟩)] [] (pool_close _ _ _ _ _) ⟨R, R, R, trivial⟩ R R R R <| At.done Y [(.cell 4 104, .agg [_, _, _, _, _, _, _, _, _, _]), (.tmp 5, .c _)] R ⟨.st R R t104 R R, .tmp R, trivial⟩ (to' := [(0, _)]) ⟨R, trivial⟩ ?_ ?_ R R R (.inl R)
      · simp [Pool.get, hlk, Pool.hit]
      · simp only [Pool.get, hlk]; rfl
theorem setE (p : Pool (TNode TL07Elem TTide)) (i g : Int) (v : (TNode TL07Elem TTide)) (hlen : p.cells.length < 4294967296) (hfree : p.free.length < 4294967296) : SCon Try.prog 87 [SV.p 0 0, SV.agg [.i i, .i g], .a (avE v)] [(0, poolE 0 p)] (SV.b (p.set i g v).1) [(0, poolE 0 (p.set i g v).2)] [] := by
  obtain ⟨cells, free, cap, held, vis⟩ := p
  simp only at hlen hfree
  cases hlk : lookC cells i g with
  | none =>
    refine spec_of [(0, _), (1, _), (2, _)] [(0, _)] 19 Try.func87 R Try.ntmps87 R R R R (fun β W F => ?_)
    refine G.ent [(0, _)] [(0, _), (21, _), (22, _)] [21, 22] (pool_open (by decide) (by decide) (by decide)) ⟨R, trivial⟩ R R R R <| G.seq <| G.rg <| K.box Y 104 _ g0 R R R R R R <| K.box Y 105 _ g0 R R R R R R <| K.as R R <| K.nil <| At.nr <| K.mv R R <| K.loadS Y _ g0 R R t99 R R R <| K.call0 [(.func 102, _), ((.tmp 8), _), ((.tmp 9), _)] (findNE' hlk hlen _ _ _ 0 21 22) (toFn_func (cf 102 R) R) g0 ⟨R, R, R, trivial⟩ ⟨R, R, trivial⟩ R R R R R R <| K.as R R <| K.nil <| At.ns <| G.seq <| G.rg <| K.mv R R <| K.bin g0 R R (pn_neq_none Try.underlying151) R <| K.nil <| At.next <| G.cond R (fun h1 => ?_) (fun h1 => ?_)
    · cases h1
    ·
      refine G.skip <| At.nr <| K.mv R R <| K.bin g0 R R (pn_neq_none Try.underlying151) R <| K.as R R <| K.nil <| At.next <| G.ret <| At.ent [(0, _), (21, _), (22, _)] [(0, poolE 0 ⟨_, _, _, _, _⟩)] [] (pool_close _ _ _ _ _) ⟨R, R, R, trivial⟩ R R R R <| At.done Y [(.tmp 6, .c _)] R ⟨.tmp R, trivial⟩ (to' := [(0, _)]) ⟨R, trivial⟩ ?_ ?_ R R R (.inl R)
      · simp only [Pool.set, hlk]
      · simp only [Pool.set, hlk]; rfl
  | some c =>
    obtain ⟨n, rfl, hg, hl, rfl⟩ := lookC_some hlk
    refine spec_of [(0, _), (1, _), (2, _)] [(0, _)] 19 Try.func87 R Try.ntmps87 R R R R (fun β W F => ?_)
    refine G.ent [(0, _)] [(0, _), (21, _), (22, _)] [21, 22] (pool_open (by decide) (by decide) (by decide)) ⟨R, trivial⟩ R R R R <| G.seq <| G.rg <| K.box Y 104 _ g0 R R R R R R <| K.box Y 105 _ g0 R R R R R R <| K.as R R <| K.nil <| At.nr <| K.mv R R <| K.loadS Y _ g0 R R t99 R R R <| K.call0 [(.func 102, _), ((.tmp 8), _), ((.tmp 9), _)] (findSE' hg hl hlen _ _ _ 0 21 22) (toFn_func (cf 102 R) R) g0 ⟨R, R, R, trivial⟩ ⟨R, R, trivial⟩ R R R R R R <| K.as R R <| K.nil <| At.ns <| G.seq <| G.rg <| K.mv R R <| K.eqnilL (lrowV 21 154 fCE 12 _) n 0 (B := true) (lrowV_is fCE_len (by decide)) hg g0 R R R R (pn_neq_some Try.underlying151) R <| K.nil <| At.next <| G.cond R (fun h1 => ?_) (fun h1 => ?_)
    ·
      refine G.rg <| K.mv R R <| K.loadS Y _ g0 R R t104 R R R <| K.nilL (lrowV 21 154 fCE 12 _) n 0 (lrowV_is fCE_len (by decide)) hg g0 R R R R <| K.fieldL Y (lrowV 21 154 fCE 12 _) n 0 0 (lrowV_is fCE_len (by decide)) hg g0 R R t154 R R R R <| K.storeL Y n 0 [_, _, _, _, _, _, _, _, _, _] { c with v := v } fCE_len (by decide) hg g0 R R R t104 R R R R R R <| K.nil <| At.nr <| K.mv R R <| K.eqnilL (lrowV 21 154 fCE 12 _) n 0 (B := true) (lrowV_is fCE_len (by decide)) (set_get hg) g0 R R R R (pn_neq_some Try.underlying151) R <| K.as R R <| K.nil <| At.next <| G.ret <| At.ent [(0, _), (21, _), (22, _)] [(0, poolE 0 ⟨_, _, _, _, _⟩)] [] (pool_close _ _ _ _ _) ⟨R, R, R, trivial⟩ R R R R <| At.done Y [(.tmp 6, .c _)] R ⟨.tmp R, trivial⟩ (to' := [(0, _)]) ⟨R, trivial⟩ ?_ ?_ R R R (.inl R)
      · simp [Pool.set, hlk, Pool.hit]
      · simp only [Pool.set, hlk]; rfl
    · cases h1
theorem dropE (p : Pool (TNode TL07Elem TTide)) (i g : Int) (hlen : p.cells.length < 4294967296) (hfree : p.free.length < 4294967296) : SCon Try.prog 85 [SV.p 0 0, SV.agg [.i i, .i g]] [(0, poolE 0 p)] (.tup [avE (p.drop zNodeE i g).1.1, .c (.b (p.drop zNodeE i g).1.2)]) [(0, poolE 0 (p.drop zNodeE i g).2)] [] := by
  obtain ⟨cells, free, cap, held, vis⟩ := p
  simp only at hlen hfree
  cases hlk : lookC cells i g with
  | none =>
    refine spec_of [(0, _), (1, _)] [(0, _)] 50 Try.func85 R Try.ntmps85 R R R R (fun β W F => ?_)
    refine G.ent [(0, _)] [(0, _), (21, _), (22, _)] [21, 22] (pool_open (by decide) (by decide) (by decide)) ⟨R, trivial⟩ R R R R <| G.seq <| G.rg <| K.box Y 103 _ g0 R R R R R R <| K.alloc Y 104 _ g0 t104 R R R R R <| K.as R R <| K.nil <| At.nr <| K.mv R R <| K.loadS Y _ g0 R R t99 R R R <| K.call0 [(.func 102, _), ((.tmp 9), _), ((.tmp 10), _)] (findNE' hlk hlen _ _ _ 0 21 22) (toFn_func (cf 102 R) R) g0 ⟨R, R, R, trivial⟩ ⟨R, R, trivial⟩ R R R R R R <| K.as R R <| K.nil <| At.ns <| G.seq <| G.rg <| K.mv R R <| K.bin g0 R R (pn_eql_none Try.underlying151) R <| K.nil <| At.next <| G.cond R (fun h1 => ?_) (fun h1 => ?_)
    ·
      refine G.seq <| G.rg <| K.alloc Y 107 _ g0 t104 R R R R R <| K.nil <| At.nr <| K.loadS Y _ g0 R R t104 R R R <| K.store Y _ g0 R R R t104 R R R R R <| K.as R R <| K.nil <| At.next <| G.ret <| At.over_ret <| At.ent [(0, _), (21, _), (22, _)] [(0, poolE 0 ⟨_, _, _, _, _⟩)] [] (pool_close _ _ _ _ _) ⟨R, R, R, trivial⟩ R R R R <| At.done Y [(.cell 4 104, .agg [_, _, _, _, _, _, _, _, _, _]), (.tmp 5, .c _)] R ⟨.st R R t104 R R, .tmp R, trivial⟩ (to' := [(0, _)]) ⟨R, trivial⟩ ?_ ?_ R R R (.inl R)
      · simp only [Pool.drop, hlk]
      · simp only [Pool.drop, hlk]; rfl
    · cases h1
  | some c =>
    obtain ⟨n, rfl, hg, hl, rfl⟩ := lookC_some hlk
    refine spec_of [(0, _), (1, _)] [(0, _)] 50 Try.func85 R Try.ntmps85 R R R R (fun β W F => ?_)
    refine G.ent [(0, _)] [(0, _), (21, _), (22, _)] [21, 22] (pool_open (by decide) (by decide) (by decide)) ⟨R, trivial⟩ R R R R <| G.seq <| G.rg <| K.box Y 103 _ g0 R R R R R R <| K.alloc Y 104 _ g0 t104 R R R R R <| K.as R R <| K.nil <| At.nr <| K.mv R R <| K.loadS Y _ g0 R R t99 R R R <| K.call0 [(.func 102, _), ((.tmp 9), _), ((.tmp 10), _)] (findSE' hg hl hlen _ _ _ 0 21 22) (toFn_func (cf 102 R) R) g0 ⟨R, R, R, trivial⟩ ⟨R, R, trivial⟩ R R R R R R <| K.as R R <| K.nil <| At.ns <| G.seq <| G.rg <| K.mv R R <| K.eqnilL (lrowV 21 154 fCE 12 _) n 0 (B := false) (lrowV_is fCE_len (by decide)) hg g0 R R R R (pn_eql_some Try.underlying151) R <| K.nil <| At.next <| G.cond R (fun h1 => ?_) (fun h1 => ?_)
    · cases h1
    ·
      refine G.skip <| At.nr <| K.mv R R <| K.nilL (lrowV 21 154 fCE 12 _) n 0 (lrowV_is fCE_len (by decide)) hg g0 R R R R <| K.fieldL Y (lrowV 21 154 fCE 12 _) n 0 0 (lrowV_is fCE_len (by decide)) hg g0 R R t154 R R R R <| K.loadSL Y (lrowV 21 154 fCE 12 _) n 0 [_, _, _, _, _, _, _, _, _, _] [_, _, _, _, _, _, _, _, _, _] (lrowV_is fCE_len (by decide)) hg g0 R R t104 R R R R R <| K.alloc Y 108 _ g0 t104 R R R R R <| K.store Y _ g0 R R R t104 R R R R R <| K.nil <| At.nr <| K.mv R R <| K.mv R R <| K.nilL (lrowV 21 154 fCE 12 _) n 0 (lrowV_is fCE_len (by decide)) hg g0 R R R R <| K.fieldL Y (lrowV 21 154 fCE 12 _) n 0 10 (lrowV_is fCE_len (by decide)) hg g0 R R t154 R R R R <| K.load1L Y (lrowV 21 154 fCE 12 _) n 10 (lrowV_is fCE_len (by decide)) hg g0 R R t3 R R <| K.build Y [(1, _)] [_, _, _, _, _, _, _, _, _, _, _, _] [((.tmp 23), _)] g0 (AllE.spec ⟨R, trivial⟩) R R t154 R R <| K.nilL (lrowV 21 154 fCE 12 _) n 0 (lrowV_is fCE_len (by decide)) hg g0 R R R R <| K.storeL Y n 0 [_, _, _, _, _, _, _, _, _, _, _, _] ⟨zNodeE, c.gen, false⟩ fCE_len (by decide) hg g0 R R R t154 R R R R R R <| K.nil <| At.nr <| K.mv R R <| K.nilCheck g0 R R <| K.fieldAddr Y g0 R t137 R R <| K.load1 Y g0 R R t3 R R <| K.bin g0 R R (fun _ => R) R <| K.nilCheck g0 R R <| K.fieldAddr Y g0 R t137 R R <| K.store Y _ g0 R R R t3 R R R R R <| K.nil <| At.ns <| G.seq <| G.rg <| K.mv R R <| K.nilL (lrowV 21 154 fCE 12 _) n 0 (lrowV_is fCE_len (by decide)) (set_get hg) g0 R R R R <| K.fieldL Y (lrowV 21 154 fCE 12 _) n 0 10 (lrowV_is fCE_len (by decide)) (set_get hg) g0 R R t154 R R R R <| K.load1L Y (lrowV 21 154 fCE 12 _) n 10 (lrowV_is fCE_len (by decide)) (set_get hg) g0 R R t3 R R <| K.bin g0 R R (fun _ => R) R <| K.nil <| At.next <| G.cond R (fun h2 => ?_) (fun h2 => ?_)
      ·
        refine G.rd mixed <| K.mv R R <| K.mv R R <| K.nilCheck g0 R R <| K.fieldAddr Y g0 R t137 R R <| K.load1 Y g0 R R t29 R R <| K.fieldAddr Y g0 R t99 R R <| K.load1 Y g0 R R t3 R R <| K.buildL Y 145 [(n : Int)] [(0, _)] [((.tmp 44), _)] intE_len g0 (AllE.spec ⟨R, trivial⟩) R R Try.underlying29 t3 R R R R R R R R <| K.appendL 146 (lrowV 145 3 intE 1 _) _ el29 (lrowV_is intE_len (by decide)) intE_one g0 R R R R R (by simp only [List.length_cons, List.length_nil, maxLen]; omega) (by simp only [List.length_cons, List.length_nil, maxLen]; omega) R R R R R R <| K.nilCheck g0 R R <| K.fieldAddr Y g0 R t137 R R <| K.store Y _ g0 R R R t29 R R R R R <| K.nil <| And.intro (by kernel_rfl) <| At.nr <| K.loadS Y _ g0 R R t104 R R R <| K.store Y _ g0 R R R t104 R R R R R <| K.as R R <| K.nil <| At.next <| G.ret <| At.ent [(0, _), (21, _), (146, _)] [(0, poolE 0 ⟨_, _, _, _, _⟩)] [] (pool_close _ _ _ _ _) ⟨R, R, R, trivial⟩ R R R R <| At.done Y [(.cell 4 104, .agg [_, _, _, _, _, _, _, _, _, _]), (.tmp 5, .c _)] R ⟨.st R R t104 R R, .tmp R, trivial⟩ (to' := [(0, _)]) ⟨R, trivial⟩ ?_ ?_ R R R (.inl R)
        · simp [Pool.drop, hlk, Pool.hit, h2]
        · simp only [Pool.drop, hlk]; rfl
      ·
        refine G.skip <| At.nr <| K.loadS Y _ g0 R R t104 R R R <| K.store Y _ g0 R R R t104 R R R R R <| K.as R R <| K.nil <| At.next <| G.ret <| At.ent [(0, _), (21, _), (22, _)] [(0, poolE 0 ⟨_, _, _, _, _⟩)] [] (pool_close _ _ _ _ _) ⟨R, R, R, trivial⟩ R R R R <| At.done Y [(.cell 4 104, .agg [_, _, _, _, _, _, _, _, _, _]), (.tmp 5, .c _)] R ⟨.st R R t104 R R, .tmp R, trivial⟩ (to' := [(0, _)]) ⟨R, trivial⟩ ?_ ?_ R R R (.inl R)
        · simp [Pool.drop, hlk, Pool.hit, h2]
        · simp only [Pool.drop, hlk]; rfl
theorem putFE (p : Pool (TNode TL07Elem TTide)) (v : (TNode TL07Elem TTide)) (hh : p.held = p.cap) : SCon Try.prog 86 [SV.p 0 0, .a (avE v)] [(0, poolE 0 p)] (.tup [.agg [.i 0, .i 0], .c (.b false)]) [(0, poolE 0 p)] [] := by
  obtain ⟨cells, free, cap, held, vis⟩ := p
  simp only at hh
  refine spec_of [(0, _), (1, _)] [(0, _)] 53 Try.func86 R Try.ntmps86 R R R R (fun β W F => ?_)
  refine G.ent [(0, _)] [(0, _), (21, _), (22, _)] [21, 22] (pool_open (by decide) (by decide) (by decide)) ⟨R, trivial⟩ R R R R <| G.seq <| G.rg <| K.box Y 103 _ g0 R R R R R R <| K.alloc Y 104 _ g0 t99 R R R R R <| K.as R R <| K.nil <| At.ns <| G.seq <| G.rd mixed <| K.mv R R <| K.nilCheck g0 R R <| K.fieldAddr Y g0 R t137 R R <| K.load1 Y g0 R R t3 R R <| K.mv R R <| K.nilCheck g0 R R <| K.fieldAddr Y g0 R t137 R R <| K.load1 Y g0 R R t3 R R <| K.bin g0 R R (fun _ => R) R <| K.nil <| And.intro (by kernel_rfl) <| At.next <| G.cond R (fun h1 => ?_) (fun h1 => ?_)
  ·
    refine G.seq <| G.rg <| K.build Y [] [_, _] [] g0 (AllE.spec trivial) R R t99 R R <| K.store Y _ g0 R R R t99 R R R R R <| K.as R R <| K.nil <| At.next <| G.ret <| At.over_ret <| At.ent [(0, _), (21, _), (22, _)] [(0, poolE 0 ⟨_, _, _, _, _⟩)] [] (pool_close _ _ _ _ _) ⟨R, R, R, trivial⟩ R R R R <| At.done Y [(.cell 4 99, .agg [_, _]), (.tmp 5, .c _)] R ⟨.st R R t99 R R, .tmp R, trivial⟩ (to' := [(0, _)]) ⟨R, trivial⟩ ?_ ?_ R R R (.inl R)
    · rfl
    · rfl
  · exact absurd h1 (by simp [hh])
theorem putTE (p : Pool (TNode TL07Elem TTide)) (v : (TNode TL07Elem TTide)) (hh : p.held ≠ p.cap) (hlen : p.cells.length < 4294967296) (hfree : p.free.length < 4294967296) {n : Nat} {c : Cell (TNode TL07Elem TTide)} (hn : (p.next zNodeE).1 = n) (hg : (p.next zNodeE).2.cells[n]? = some c) : SCon Try.prog 86 [SV.p 0 0, .a (avE v)] [(0, poolE 0 p)]
    (.tup [.agg [.i n, .i (IntKind.i64.wrap (c.gen + 1))], .c (.b true)]) [(0, poolE 0 ((p.next zNodeE).2.lay n c v))] [] := by
  obtain ⟨cells, free, cap, held, vis⟩ := p
  simp only at hh hlen hfree
  refine spec_of [(0, _), (1, _)] [(0, _)] 53 Try.func86 R Try.ntmps86 R R R R (fun β W F => ?_)
  refine G.ent [(0, _)] [(0, _), (21, _), (22, _)] [21, 22] (pool_open (by decide) (by decide) (by decide)) ⟨R, trivial⟩ R R R R <| G.seq <| G.rg <| K.box Y 103 _ g0 R R R R R R <| K.alloc Y 104 _ g0 t99 R R R R R <| K.as R R <| K.nil <| At.ns <| G.seq <| G.rd mixed <| K.mv R R <| K.nilCheck g0 R R <| K.fieldAddr Y g0 R t137 R R <| K.load1 Y g0 R R t3 R R <| K.mv R R <| K.nilCheck g0 R R <| K.fieldAddr Y g0 R t137 R R <| K.load1 Y g0 R R t3 R R <| K.bin g0 R R (fun _ => R) R <| K.nil <| And.intro (by kernel_rfl) <| At.next <| G.cond R (fun h1 => ?_) (fun h1 => ?_)
  · exact absurd h1 (by simp [hh])
  ·
    refine G.skip <| At.ns <| G.ent [(0, _), (21, _), (22, _)] [(0, poolE 0 ⟨_, _, _, _, _⟩)] [] (pool_close _ _ _ _ _) ⟨R, R, R, trivial⟩ R R R R <| G.rg <| K.mv R R <| K.call0 [(.func 104, _), ((.tmp 18), _)] (nextE _ hlen hfree) (toFn_func (cf 104 R) R) g0 ⟨R, R, trivial⟩ ⟨R, trivial⟩ R R R R R R <| K.as R R <| K.nil <| At.ns <| G.ent [(0, _)] [(0, _), (23, _), (24, _)] [23, 24] (pool_open (by decide) (by decide) (by decide)) ⟨R, trivial⟩ R R R R <| G.rg <| K.mv R R <| K.nilCheck g0 R R <| K.fieldAddr Y g0 R t137 R R <| K.load1 Y g0 R R t135 R R <| K.mv R R <| K.idxL (lrowV 23 154 fCE 12 _) n (lrowV_is fCE_len (by decide)) hg hn g0 R R R Try.underlying135 el135.size_run R <| K.as R R <| K.nil <| At.nr <| K.mv R R <| K.mv R R <| K.loadS Y _ g0 R R t104 R R R <| K.nilL (lrowV 23 154 fCE 12 _) n 0 (lrowV_is fCE_len (by decide)) hg g0 R R R R <| K.fieldL Y (lrowV 23 154 fCE 12 _) n 0 0 (lrowV_is fCE_len (by decide)) hg g0 R R t154 R R R R <| K.storeL Y n 0 [_, _, _, _, _, _, _, _, _, _] { c with v := v } fCE_len (by decide) hg g0 R R R t104 R R R R R R <| K.nilL (lrowV 23 154 fCE 12 _) n 0 (lrowV_is fCE_len (by decide)) (set_get hg) g0 R R R R <| K.fieldL Y (lrowV 23 154 fCE 12 _) n 0 11 (lrowV_is fCE_len (by decide)) (set_get hg) g0 R R t154 R R R R <| K.storeL Y n 11 [_] ⟨v, c.gen, true⟩ fCE_len (by decide) (set_get hg) g0 R R R t4 R R R R R R <| K.nil <| At.nr <| K.mv R R <| K.nilL (lrowV 23 154 fCE 12 _) n 0 (lrowV_is fCE_len (by decide)) (set_get (set_get hg)) g0 R R R R <| K.fieldL Y (lrowV 23 154 fCE 12 _) n 0 10 (lrowV_is fCE_len (by decide)) (set_get (set_get hg)) g0 R R t154 R R R R <| K.load1L Y (lrowV 23 154 fCE 12 _) n 10 (lrowV_is fCE_len (by decide)) (set_get (set_get hg)) g0 R R t3 R R <| K.bin g0 R R (fun _ => R) R <| K.nilL (lrowV 23 154 fCE 12 _) n 0 (lrowV_is fCE_len (by decide)) (set_get (set_get hg)) g0 R R R R <| K.fieldL Y (lrowV 23 154 fCE 12 _) n 0 10 (lrowV_is fCE_len (by decide)) (set_get (set_get hg)) g0 R R t154 R R R R <| K.storeL Y n 10 [_] ⟨v, IntKind.i64.wrap (c.gen + 1), true⟩ fCE_len (by decide) (set_get (set_get hg)) g0 R R R t3 R R R R R R <| K.nil <| At.nr <| K.mv R R <| K.nilCheck g0 R R <| K.fieldAddr Y g0 R t137 R R <| K.load1 Y g0 R R t3 R R <| K.bin g0 R R (fun _ => R) R <| K.nilCheck g0 R R <| K.fieldAddr Y g0 R t137 R R <| K.store Y _ g0 R R R t3 R R R R R <| K.nil <| At.nr <| K.mv R R <| K.mv R R <| K.nilL (lrowV 23 154 fCE 12 _) n 0 (lrowV_is fCE_len (by decide)) (set_get (set_get (set_get hg))) g0 R R R R <| K.fieldL Y (lrowV 23 154 fCE 12 _) n 0 10 (lrowV_is fCE_len (by decide)) (set_get (set_get (set_get hg))) g0 R R t154 R R R R <| K.load1L Y (lrowV 23 154 fCE 12 _) n 10 (lrowV_is fCE_len (by decide)) (set_get (set_get (set_get hg))) g0 R R t3 R R <| K.build Y [(0, _), (1, _)] [_, _] [((.tmp 47), _), ((.tmp 51), _)] g0 (AllE.spec ⟨R, R, trivial⟩) R R t99 R R <| K.store Y _ g0 R R R t99 R R R R R <| K.as R R <| K.nil <| At.next <| G.ret <| At.ent [(0, _), (23, _), (24, _)] [(0, poolE 0 ⟨_, _, _, _, _⟩)] [] (pool_close _ _ _ _ _) ⟨R, R, R, trivial⟩ R R R R <| At.done Y [(.cell 4 99, .agg [_, _]), (.tmp 5, .c _)] R ⟨.st R R t99 R R, .tmp R, trivial⟩ (to' := [(0, _)]) ⟨R, trivial⟩ ?_ ?_ R R R (.inl R)
    · simp [Pool.lay]
    · rw [hn]; rfl
theorem visitsE (p : Pool (TNode TL07Elem TTide)) : SCon Try.prog 63 [SV.p 0 0] [(0, poolE 0 p)] (SV.i p.vis) [(0, poolE 0 p)] [] := by
  obtain ⟨cells, free, cap, held, vis⟩ := p
  refine spec_of [(0, _)] [(0, _)] 7 Try.func63 R Try.ntmps63 R R R R (fun β W F => ?_)
  refine G.ent [(0, _)] [(0, _), (21, _), (22, _)] [21, 22] (pool_open (by decide) (by decide) (by decide)) ⟨R, trivial⟩ R R R R <| G.seq <| G.rg <| K.as R R <| K.nil <| At.nr <| K.mv R R <| K.nilCheck g0 R R <| K.fieldAddr Y g0 R t137 R R <| K.load1 Y g0 R R t3 R R <| K.as R R <| K.nil <| At.next <| G.ret <| At.ent [(0, _), (21, _), (22, _)] [(0, poolE 0 ⟨_, _, _, _, _⟩)] [] (pool_close _ _ _ _ _) ⟨R, R, R, trivial⟩ R R R R <| At.done Y [(.tmp 2, .c _)] R ⟨.tmp R, trivial⟩ (to' := [(0, _)]) ⟨R, trivial⟩ ?_ ?_ R R R (.inl R)
  · rfl
  · rfl
theorem newE_ (c : Int) : SCon Try.prog 61 [SV.i c] [] (SV.p 107 0) [(107, poolE 107 ⟨[], [], capOf c, 0, 0⟩)] [107] := by
  refine spec_of [(0, _)] [] 8 Try.func61 R Try.ntmps61 R R R R (fun β W F => ?_)
  refine G.seq <| G.rg <| K.as R R <| K.nil <| At.nr <| K.mv R R <| K.bi2 g0 R R (fun _ _ => R) R <| K.bi2 g0 R R (fun _ _ => R) R <| K.build Y [(2, _)] [_, _, _, _, _] [((.tmp 5), _)] g0 (AllE.spec ⟨R, trivial⟩) R R t137 R R <| K.box Y 107 _ g0 R R R R R R <| K.as R R <| K.nil <| At.next <| G.ret <| At.ent [(107, _)] [(107, poolE 107 ⟨_, _, _, _, _⟩)] [] (pool_nil _ _ _) ⟨R, trivial⟩ R R R R <| At.done Y [(.tmp 2, .c _)] R ⟨.tmp R, trivial⟩ (to' := [(107, _)]) ⟨R, trivial⟩ ?_ ?_ R R R (.inl R)
  · rfl
  · rfl
theorem newE (c : Int) (k : Nat) : SCon Try.prog 61 [SV.i c] [] (SV.p k 0) [(k, poolE k ⟨[], [], capOf c, 0, 0⟩)] [k] :=
  SCon.ren (rn [(107, k)]) (newE_ c) trivial ⟨pool_ren R, trivial⟩ (by simp) (by intro j hj hn; simp [SV.ks, Av.ks, Cl.ks, pool] at hj hn; exact absurd hj hn)
theorem putE_ {N : Nat} (p : Pool (TNode TL07Elem TTide)) (v : (TNode TL07Elem TTide)) (h : PoolOk N p) (hN : N < 4294967296) : SCon Try.prog 86 [SV.p 0 0, .a (avE v)] [(0, poolE 0 p)] (.tup [.agg [.i (p.put zNodeE v).1.1.1, .i (p.put zNodeE v).1.1.2], .c (.b (p.put zNodeE v).1.2)]) [(0, poolE 0 (p.put zNodeE v).2)] [] := by
  by_cases hh : p.held = p.cap
  · have e : p.put zNodeE v = (((0, 0), false), p) := by unfold Pool.put; rw [if_pos hh]
    rw [e]; exact putFE p v hh
  · obtain ⟨h1, h2, c, hc⟩ := h.next (z := zNodeE)
    have e : p.put zNodeE v = ((((p.next zNodeE).1, IntKind.i64.wrap (c.gen + 1)), true), (p.next zNodeE).2.lay (p.next zNodeE).1.toNat c v) := by unfold Pool.put; rw [if_neg hh, hc]
    have h3 : (p.next zNodeE).1 = ((p.next zNodeE).1.toNat : Int) := by omega
    have := putTE p v hh (Nat.lt_of_le_of_lt h.cells hN) (Nat.lt_of_le_of_lt h.free hN) h3 hc
    rw [← h3] at this
    rw [e]; exact this
theorem putE {N : Nat} (p : Pool (TNode TL07Elem TTide)) (v : (TNode TL07Elem TTide)) (h : PoolOk N p) (hN : N < 4294967296) (k : Nat) : SCon Try.prog 86 [SV.p k 0, .a (avE v)] [(k, poolE k p)] (.tup [.agg [.i (p.put zNodeE v).1.1.1, .i (p.put zNodeE v).1.1.2], .c (.b (p.put zNodeE v).1.2)]) [(k, poolE k (p.put zNodeE v).2)] [] :=
  SCon.ren (rn [(0, k)]) (putE_ p v h hN) ⟨pool_ren R, trivial⟩ ⟨pool_ren R, trivial⟩ (by simp) (by simp)
theorem getE' {N : Nat} (p : Pool (TNode TL07Elem TTide)) (i g : Int) (h : PoolOk N p) (hN : N < 4294967296) (k : Nat) : SCon Try.prog 83 [SV.p k 0, SV.agg [.i i, .i g]] [(k, poolE k p)] (.tup [avE (p.get zNodeE i g).1.1, .c (.b (p.get zNodeE i g).1.2)]) [(k, poolE k (p.get zNodeE i g).2)] [] :=
  SCon.ren (rn [(0, k)]) (getE p i g (Nat.lt_of_le_of_lt h.cells hN) (Nat.lt_of_le_of_lt h.free hN)) ⟨pool_ren R, trivial⟩ ⟨pool_ren R, trivial⟩ (by simp) (by simp)
theorem setE' {N : Nat} (p : Pool (TNode TL07Elem TTide)) (i g : Int) (v : (TNode TL07Elem TTide)) (h : PoolOk N p) (hN : N < 4294967296) (k : Nat) : SCon Try.prog 87 [SV.p k 0, SV.agg [.i i, .i g], .a (avE v)] [(k, poolE k p)] (SV.b (p.set i g v).1) [(k, poolE k (p.set i g v).2)] [] :=
  SCon.ren (rn [(0, k)]) (setE p i g v (Nat.lt_of_le_of_lt h.cells hN) (Nat.lt_of_le_of_lt h.free hN)) ⟨pool_ren R, trivial⟩ ⟨pool_ren R, trivial⟩ (by simp) (by simp)
theorem dropE' {N : Nat} (p : Pool (TNode TL07Elem TTide)) (i g : Int) (h : PoolOk N p) (hN : N < 4294967296) (k : Nat) : SCon Try.prog 85 [SV.p k 0, SV.agg [.i i, .i g]] [(k, poolE k p)] (.tup [avE (p.drop zNodeE i g).1.1, .c (.b (p.drop zNodeE i g).1.2)]) [(k, poolE k (p.drop zNodeE i g).2)] [] :=
  SCon.ren (rn [(0, k)]) (dropE p i g (Nat.lt_of_le_of_lt h.cells hN) (Nat.lt_of_le_of_lt h.free hN)) ⟨pool_ren R, trivial⟩ ⟨pool_ren R, trivial⟩ (by simp) (by simp)
theorem visitsE' (p : Pool (TNode TL07Elem TTide)) (k : Nat) : SCon Try.prog 63 [SV.p k 0] [(k, poolE k p)] (SV.i p.vis) [(k, poolE k p)] [] :=
  SCon.ren (rn [(0, k)]) (visitsE p) ⟨pool_ren R, trivial⟩ ⟨pool_ren R, trivial⟩ (by simp) (by simp)
end Go.Proofs.Ytjokolmijhhinaa
namespace Go.Proofs.Ytjokolmijhhinaa
open Go Go.Proofs.Ytjokolmijhhinaa.Sx
end Go.Proofs.Ytjokolmijhhinaa
namespace Go.Proofs.Ytjokolmijhhinaa
open Go Go.Proofs.Ytjokolmijhhinaa.Sx
abbrev Lw07_awake_1_st (a0 : TTide) (a1 : TTide) (r : Bool) : Prop := SCon Try.prog 59 [.a (.agg ((eTTide a0).map .v)), .a (.agg ((eTTide a1).map .v))] [] (.a (.c (.v (.bool r)))) [] []
theorem Lw07_awake_1_con0 {k : Nat}  {a0 : TTide} {a1 : TTide} {r : Bool}  (H0 : Lw07_awake_1.f k a0 a1 = some r) : Lw07_awake_1_st a0 a1 r := by
 rw [Lw07_awake_1.f] at H0
 refine spec_of [(0, _), (1, _)] [] 11 Try.func59 R Try.ntmps59 R R R R (fun β W F => ?_)
 exact G.seq <| G.rg <| K.box Y 100 _ g0 R R R R R R <| K.box Y 101 _ g0 R R R R R R <| K.as R R <| K.nil <| At.nr <| K.fieldAddr Y g0 R t32 R R <| K.load1 Y g0 R R t3 R R <| K.fieldAddr Y g0 R t32 R R <| K.load1 Y g0 R R t3 R R <| K.bin (V := .int .i64 (w64 (a0.sum + a1.sum))) g0 R R (fun _ => R) R <| K.bin (V := .bool (decide ((w64 (a0.sum + a1.sum)) > 6))) g0 R R (fun _ => R) R <| K.as R R <| K.nil <| At.next <| G.ret <| At.dr Y [4] R R (by cases H0; rfl) (by cases H0; rfl) R R R
theorem Lw07_awake_1_con {k : Nat}  {a0 : TTide} {a1 : TTide} {r : Bool}  (H0 : Lw07_awake_1.f k a0 a1 = some r) : Lw07_awake_1_st a0 a1 r :=
 SCon.ren (rn []) (Lw07_awake_1_con0 (k := k)   H0) trivial trivial (by simp) (by simp)
abbrev Lw07_small_st (S : Foot) (W0 : World) (s0 : Value) (a1 : Int) (r : Bool) : Prop := SCon Try.prog 12 [SV.raw s0, .a (.c (.v (.int .i64 a1)))] [(0, rd S W0)] (.a (.c (.v (.bool r)))) [(0, rd S W0)] []
theorem Lw07_small_con0 {k : Nat}  {S : Foot} {W0 : World} {s0 : Value} {l0 : List TL07Act} {a1 : Int} {r : Bool} (hL0 : LArg S W0 s0 eTL07Act 3 l0) (H0 : Lw07_small.f k l0 a1 = some r) : Lw07_small_st S W0 s0 a1 r := by
 rw [Lw07_small.f] at H0
 obtain ⟨b0, o0, hI0⟩ := hL0
 refine spec_of [(0, _), (1, _)] [(0, _)] 30 Try.func12 R Try.ntmps12 R R R R (fun β W F => ?_)
 refine G.seq <| G.rg <| K.as R R <| K.nil <| At.ns <| G.seq <| G.rg <| K.mv R R <| K.lenL (rV 0 S W0 s0 b0 o0 eTL07Act 3 l0) (hI0.is 0) g0 R R Try.underlying22 R <| K.mv R R <| K.bin (V := .bool (decide ((l0.length : Int) > a1))) g0 R R (fun _ => R) R <| K.nil <| At.next <| G.cond R (fun h1 => ?_) (fun h1 => ?_)
 ·
  replace H0 := bif_t H0 h1
  exact G.seq <| G.rg <| K.as R R <| K.nil <| At.next <| G.ret <| At.over_ret <| At.dr Y [4] R R (by cases H0; rfl) (by cases H0; rfl) R R R
 ·
  replace H0 := bif_f H0 h1
  refine G.skip <| At.next ?_
  obtain ⟨x1, H1, H0⟩ := bnd H0
  refine G.sJ (σ := { v : Unit // x1 = Sum.inr v }) (fun q => []) (fun q => [(0, rd S W0)]) ?_ ?_
  ·
   refine G.seq <| G.rg <| K.as R R <| K.nil <| At.next <| G.block <| G.lp (σ := { q : Nat × (Int) // Lw07_small.l0 k l0 q.1 q.2 = some x1 }) (fun q => [(0, SV.raw s0), (5, .a (.c (.v (.int .i64 q.1.2))))]) (fun q => [(0, rd S W0)]) (fun q => q.1.1) ⟨(k, 0), H1⟩ ?_ ?_
   · exact At.into [] [_] R ⟨R, R, trivial⟩ ⟨R, (fun _ => R), trivial⟩ R
   ·
    rintro ⟨⟨n0, v1⟩, H1⟩
    show G _ _ [(0, SV.raw s0), (5, .a (.c (.v (.int .i64 v1))))] [(0, some (rd S W0))] _ _
    cases n0 with
    | zero => exact absurd H1 (by simp [Lw07_small.l0])
    | succ n0 =>
     have HL0 := H1
     rw [Lw07_small.l0] at H1
     refine G.seq <| G.seq <| G.rg <| K.mv R R <| K.mv R R <| K.lenL (rV 0 S W0 s0 b0 o0 eTL07Act 3 l0) (hI0.is 0) g0 R R Try.underlying22 R <| K.bin (V := .bool (decide (v1 < (l0.length : Int)))) g0 R R (fun _ => R) R <| K.nil <| At.next <| G.cond R (fun h2 => ?_) (fun h2 => ?_)
     ·
      replace H1 := bif_t H1 h2
      refine G.skip <| At.ns <| G.block <| G.seq ?_
      obtain ⟨x2, hx2, H1⟩ := bnd H1
      rcases Bool.eq_false_or_eq_true (decide (x2.w < (-1000000))) with h3 | h3
      ·
       replace H1 := bif_t H1 h3
       refine G.rg <| K.mv R R <| K.mv R R <| K.idxL (rV 0 S W0 s0 b0 o0 eTL07Act 3 l0) ((v1).toNat) (hI0.is 0) (atL_get hx2) (atL_nn hx2) g0 R R R Try.underlying22 el22.size_run R <| K.fieldL Y (rV 0 S W0 s0 b0 o0 eTL07Act 3 l0) ((v1).toNat) 0 2 (hI0.is 0) (atL_get hx2) g0 R R t41 R R R R <| K.load1L Y (rV 0 S W0 s0 b0 o0 eTL07Act 3 l0) ((v1).toNat) 2 (hI0.is 0) (atL_get hx2) g0 R R t3 R R <| K.bin (V := .bool (decide (x2.w < (-1000000)))) g0 R R (fun _ => R) R <| K.mv R R <| K.sk R R h3 R <| K.sk R R h3 R <| K.sk R R h3 R <| K.sk R R h3 R <| K.sk R R h3 R <| K.sk R R h3 R <| K.pickT g0 R (h3) R R <| K.nil <| At.next <| G.cond R (fun h4 => ?_) (fun h4 => ?_)
       ·
        refine G.seq <| G.rg <| K.as R R <| K.nil <| At.next <| G.ret <| At.block_ret <| At.over_ret <| At.over_ret <| At.block_ret <| At.over_ret ?_
        cases H1
        replace H0 := sum_l H0
        exact At.dr Y [4] R R (by cases H0; rfl) (by cases H0; rfl) R R R
       · cases h4
      ·
       replace H1 := bif_f H1 h3
       refine G.rg <| K.mv R R <| K.mv R R <| K.idxL (rV 0 S W0 s0 b0 o0 eTL07Act 3 l0) ((v1).toNat) (hI0.is 0) (atL_get hx2) (atL_nn hx2) g0 R R R Try.underlying22 el22.size_run R <| K.fieldL Y (rV 0 S W0 s0 b0 o0 eTL07Act 3 l0) ((v1).toNat) 0 2 (hI0.is 0) (atL_get hx2) g0 R R t41 R R R R <| K.load1L Y (rV 0 S W0 s0 b0 o0 eTL07Act 3 l0) ((v1).toNat) 2 (hI0.is 0) (atL_get hx2) g0 R R t3 R R <| K.bin (V := .bool (decide (x2.w < (-1000000)))) g0 R R (fun _ => R) R <| K.mv R R <| K.move (.inl R) (g1 R R h3) R R <| K.move (.inl R) (g1 R R h3) R R <| K.idxL (rV 0 S W0 s0 b0 o0 eTL07Act 3 l0) ((v1).toNat) (hI0.is 0) (atL_get hx2) (atL_nn hx2) (g1 R R h3) R R R Try.underlying22 el22.size_run R <| K.fieldL Y (rV 0 S W0 s0 b0 o0 eTL07Act 3 l0) ((v1).toNat) 0 2 (hI0.is 0) (atL_get hx2) (g1 R R h3) R R t41 R R R R <| K.load1L Y (rV 0 S W0 s0 b0 o0 eTL07Act 3 l0) ((v1).toNat) 2 (hI0.is 0) (atL_get hx2) (g1 R R h3) R R t3 R R <| K.bin (V := .bool (decide (x2.w > 1000000))) (g1 R R h3) R R (fun _ => R) R <| K.pickF g0 R (h3) R R <| K.nil <| At.next <| G.cond R (fun h5 => ?_) (fun h5 => ?_)
       ·
        replace H1 := bif_t H1 h5
        refine G.seq <| G.rg <| K.as R R <| K.nil <| At.next <| G.ret <| At.block_ret <| At.over_ret <| At.over_ret <| At.block_ret <| At.over_ret ?_
        cases H1
        replace H0 := sum_l H0
        exact At.dr Y [4] R R (by cases H0; rfl) (by cases H0; rfl) R R R
       ·
        replace H1 := bif_f H1 h5
        exact G.skip <| At.block_normal <| At.next <| G.rg <| K.mv R R <| K.bin (V := .int .i64 (w64 (v1 + 1))) g0 R R (fun _ => R) R <| K.as R R <| K.nil <| At.ag ⟨(n0, (w64 (v1 + 1))), H1⟩ [] [_] (Nat.lt_succ_self _) R ⟨R, R, trivial⟩ ⟨R, (fun _ => R), trivial⟩ R
     ·
      replace H1 := bif_f H1 h2
      exact G.exit <| At.over_exit <| At.over_exit <| At.block_hit <| At.jd ⟨(), oi H1⟩ [] [_] R trivial ⟨R, (fun _ => R), trivial⟩ R
  ·
   rintro ⟨w1, rfl⟩
   replace H0 := sum_r H0
   show G _ _ [] [(0, some (rd S W0))] _ _
   exact G.seq <| G.rg <| K.as R R <| K.nil <| At.next <| G.ret <| At.dr Y [4] R R (by cases H0; rfl) (by cases H0; rfl) R R R
theorem Lw07_small_con {k : Nat}  {S : Foot} {W0 : World} {s0 : Value} {l0 : List TL07Act} {a1 : Int} {r : Bool} (hL0 : LArg S W0 s0 eTL07Act 3 l0) (H0 : Lw07_small.f k l0 a1 = some r) : Lw07_small_st S W0 s0 a1 r :=
 SCon.ren (rn []) (Lw07_small_con0 (k := k)  hL0 H0) ⟨(fun _ => R), trivial⟩ ⟨(fun _ => R), trivial⟩ (by simp) (by simp)
abbrev R01_Rest_st (a0 : Int) (a1 : Int) (r : Int) : Prop := SCon Try.prog 19 [.a (.c (.v (.int .i64 a0))), .a (.c (.v (.int .i64 a1)))] [] (.a (.c (.v (.int .i64 r)))) [] []
theorem R01_Rest_con0 {k : Nat}  {a0 : Int} {a1 : Int} {r : Int}  (H0 : R01_Rest.f k a0 a1 = some r) : R01_Rest_st a0 a1 r := by
 rw [R01_Rest.f] at H0
 refine spec_of [(0, _), (1, _)] [] 12 Try.func19 R Try.ntmps19 R R R R (fun β W F => ?_)
 refine G.seq <| G.rg <| K.as R R <| K.nil <| At.ns ?_
 obtain ⟨h1, H0⟩ := grd H0
 obtain ⟨h2, H0⟩ := grd H0
 exact G.rg <| K.mv R R <| K.mv R R <| K.bin (V := .int .i64 (a0.tmod a1)) g0 R R (rem_run h1) R <| K.mv R R <| K.bin (V := .int .i64 (w64 ((a0.tmod a1) + a1))) g0 R R (fun _ => R) R <| K.mv R R <| K.bin (V := .int .i64 ((w64 ((a0.tmod a1) + a1)).tmod a1)) g0 R R (rem_run h2) R <| K.as R R <| K.nil <| At.next <| G.ret <| At.dr Y [4] R R (by cases H0; rfl) (by cases H0; rfl) R R R
theorem R01_Rest_con {k : Nat}  {a0 : Int} {a1 : Int} {r : Int}  (H0 : R01_Rest.f k a0 a1 = some r) : R01_Rest_st a0 a1 r :=
 SCon.ren (rn []) (R01_Rest_con0 (k := k)   H0) trivial trivial (by simp) (by simp)
end Go.Proofs.Ytjokolmijhhinaa
namespace Go.Proofs.Ytjokolmijhhinaa
open Go Go.Proofs.Ytjokolmijhhinaa.Sx
def vGet {α : Type} (z : α) (p : Pool α) (i g : Int) : Option ((α × Bool) × Pool α) := bif decide (pOk p) then some (p.get z i g) else none
def VTree_New.f {E A : Type} (O : Ops E A) (k : Nat) (a0 : Int) : Option (TRef × Pool (TNode E A)) := some (zTRef, (⟨[], [], capOf a0, 0, 0⟩ : Pool (TNode E A)))
def VTree_get.f {E A : Type} (O : Ops E A) (k : Nat) (p1 : Pool (TNode E A)) (a1 : TRef) : Option (TNode E A × Pool (TNode E A)) := bif (a1.gen == 0) then (some ((zNode O), p1)) else ((vGet (zNode O) p1 a1.index a1.gen).bind fun x1 => some (x1.1.1, x1.2))
def VTree_weight.f {E A : Type} (O : Ops E A) (k : Nat) (p1 : Pool (TNode E A)) (a1 : TRef) : Option (Int × Pool (TNode E A)) := (VTree_get.f O k p1 a1).bind fun x1 => some ((w64 (x1.1.size + 1)), x1.2)
def VTree_lay.f {E A : Type} (O : Ops E A) (k : Nat) (p1 : Pool (TNode E A)) (a1 : TRef) (a2 : TRef) (a3 : TRef) : Option (TRef × Pool (TNode E A)) := (VTree_get.f O k p1 a1).bind fun x1 => (VTree_get.f O k x1.2 a2).bind fun x2 => (VTree_get.f O k x2.2 a3).bind fun x3 => (O.sum k x1.1.e).bind fun x4 => (O.plus k x2.1.sum x4).bind fun x5 => (O.plus k x5 x3.1.sum).bind fun x6 => (pSet x3.2 a1.index a1.gen (TNode.mk x1.1.e a2 a3 (w64 ((w64 (x2.1.size + 1)) + x3.1.size)) x6)).bind fun x7 => some (a1, x7.2)
def VTree_turnRight.f {E A : Type} (O : Ops E A) (k : Nat) (p1 : Pool (TNode E A)) (a1 : TRef) : Option (TRef × Pool (TNode E A)) := (VTree_get.f O k p1 a1).bind fun x1 => (VTree_get.f O k x1.2 x1.1.left).bind fun x2 => (VTree_lay.f O k x2.2 a1 x2.1.right x1.1.right).bind fun x3 => (VTree_lay.f O k x3.2 x1.1.left x2.1.left a1).bind fun x4 => some (x4.1, x4.2)
def VTree_turnLeft.f {E A : Type} (O : Ops E A) (k : Nat) (p1 : Pool (TNode E A)) (a1 : TRef) : Option (TRef × Pool (TNode E A)) := (VTree_get.f O k p1 a1).bind fun x1 => (VTree_get.f O k x1.2 x1.1.right).bind fun x2 => (VTree_lay.f O k x2.2 a1 x1.1.left x2.1.left).bind fun x3 => (VTree_lay.f O k x3.2 x1.1.right a1 x2.1.right).bind fun x4 => some (x4.1, x4.2)
def VTree_balance.f {E A : Type} (O : Ops E A) (k : Nat) (p1 : Pool (TNode E A)) (a1 : TRef) : Option (TRef × Pool (TNode E A)) := (VTree_get.f O k p1 a1).bind fun x1 => (VTree_weight.f O k x1.2 x1.1.left).bind fun x2 => (VTree_weight.f O k x2.2 x1.1.right).bind fun x3 => bif (decide (x3.1 > (w64 (3 * x2.1)))) then ((VTree_get.f O k x3.2 x1.1.right).bind fun x4 => (VTree_weight.f O k x4.2 x4.1.left).bind fun x5 => (VTree_weight.f O k x5.2 x4.1.right).bind fun x6 => bif (decide (x5.1 ≥ (w64 (2 * x6.1)))) then ((VTree_turnRight.f O k x6.2 x1.1.right).bind fun x7 => (VTree_lay.f O k x7.2 a1 x1.1.left x7.1).bind fun x8 => (VTree_turnLeft.f O k x8.2 a1).bind fun x9 => some (x9.1, x9.2)) else ((VTree_turnLeft.f O k x6.2 a1).bind fun x10 => some (x10.1, x10.2))) else (bif (decide (x2.1 > (w64 (3 * x3.1)))) then ((VTree_get.f O k x3.2 x1.1.left).bind fun x11 => (VTree_weight.f O k x11.2 x11.1.right).bind fun x12 => (VTree_weight.f O k x12.2 x11.1.left).bind fun x13 => bif (decide (x12.1 ≥ (w64 (2 * x13.1)))) then ((VTree_turnLeft.f O k x13.2 x1.1.left).bind fun x14 => (VTree_lay.f O k x14.2 a1 x14.1 x1.1.right).bind fun x15 => (VTree_turnRight.f O k x15.2 a1).bind fun x16 => some (x16.1, x16.2)) else ((VTree_turnRight.f O k x13.2 a1).bind fun x17 => some (x17.1, x17.2))) else (some (a1, x3.2)))
def VTree_link.r {E A : Type} (O : Ops E A) (k : Nat) : Nat → Pool (TNode E A) → TRef → TRef → TRef → Option (TRef × Pool (TNode E A))
  | 0, _, _, _, _ => none
  | n + 1, p1, a1, a2, a3 => (VTree_weight.f O k p1 a1).bind fun x1 => (VTree_weight.f O k x1.2 a3).bind fun x2 => bif (decide (x2.1 > (w64 (3 * x1.1)))) then ((VTree_get.f O k x2.2 a3).bind fun x3 => (VTree_link.r O k n x3.2 a1 a2 x3.1.left).bind fun x4 => (VTree_lay.f O k x4.2 a3 x4.1 x3.1.right).bind fun x5 => (VTree_balance.f O k x5.2 x5.1).bind fun x6 => some (x6.1, x6.2)) else (bif (decide (x1.1 > (w64 (3 * x2.1)))) then ((VTree_get.f O k x2.2 a1).bind fun x7 => (VTree_link.r O k n x7.2 x7.1.right a2 a3).bind fun x8 => (VTree_lay.f O k x8.2 a1 x7.1.left x8.1).bind fun x9 => (VTree_balance.f O k x9.2 x9.1).bind fun x10 => some (x10.1, x10.2)) else ((VTree_lay.f O k x2.2 a2 a1 a3).bind fun x11 => some (x11.1, x11.2)))
def VTree_link.f {E A : Type} (O : Ops E A) (k : Nat) (p1 : Pool (TNode E A)) (a1 : TRef) (a2 : TRef) (a3 : TRef) : Option (TRef × Pool (TNode E A)) := VTree_link.r O k k p1 a1 a2 a3
def VTree_put.r {E A : Type} (O : Ops E A) (k : Nat) : Nat → Pool (TNode E A) → TRef → E → Option (TRef × Bool × Pool (TNode E A))
  | 0, _, _, _ => none
  | n + 1, p1, a1, a2 => bif (a1.gen == 0) then ((O.sum k a2).bind fun x1 => (pPut (zNode O) p1 (TNode.mk a2 zTRef zTRef 1 x1)).bind fun x2 => some ((TRef.mk x2.1.1.1 x2.1.1.2), x2.1.2, x2.2)) else ((VTree_get.f O k p1 a1).bind fun x3 => (O.cmp k a2 x3.1.e).bind fun x4 => bif (decide (x4 < 0)) then ((VTree_put.r O k n x3.2 x3.1.left a2).bind fun x5 => bif (!x5.2.1) then (some (a1, false, x5.2.2)) else ((VTree_link.f O k x5.2.2 x5.1 a1 x3.1.right).bind fun x6 => some (x6.1, true, x6.2))) else (bif (decide (x4 > 0)) then ((VTree_put.r O k n x3.2 x3.1.right a2).bind fun x7 => bif (!x7.2.1) then (some (a1, false, x7.2.2)) else ((VTree_link.f O k x7.2.2 x3.1.left a1 x7.1).bind fun x8 => some (x8.1, true, x8.2))) else ((pSet x3.2 a1.index a1.gen (TNode.mk a2 x3.1.left x3.1.right x3.1.size x3.1.sum)).bind fun x9 => (VTree_lay.f O k x9.2 a1 x3.1.left x3.1.right).bind fun x10 => some (x10.1, true, x10.2))))
def VTree_put.f {E A : Type} (O : Ops E A) (k : Nat) (p1 : Pool (TNode E A)) (a1 : TRef) (a2 : E) : Option (TRef × Bool × Pool (TNode E A)) := VTree_put.r O k k p1 a1 a2
def VTree_Put.f {E A : Type} (O : Ops E A) (k : Nat) (p1 : Pool (TNode E A)) (rt0 : TRef) (a1 : E) : Option (Bool × TRef × Pool (TNode E A)) := (VTree_put.f O k p1 rt0 a1).bind fun x1 => bif x1.2.1 then (some (x1.2.1, x1.1, x1.2.2)) else (some (x1.2.1, rt0, x1.2.2))
def VTree_Len.f {E A : Type} (O : Ops E A) (k : Nat) (p1 : Pool (TNode E A)) (rt0 : TRef) : Option (Int × Pool (TNode E A)) := (VTree_get.f O k p1 rt0).bind fun x1 => some (x1.1.size, x1.2)
def VTree_first.r {E A : Type} (O : Ops E A) (k : Nat) : Nat → Pool (TNode E A) → TRef → Int → A → (A → A → Option Bool) → Option (Int × A × Pool (TNode E A))
  | 0, _, _, _, _, _ => none
  | n + 1, p1, a1, a2, a3, fn4 => (VTree_get.f O k p1 a1).bind fun x1 => (bif (x1.1.size == 0) then ((O.plus k a3 x1.1.sum).bind fun x3 => some (Sum.inl ((-1), x3, x1.2))) else (bif (decide (a2 ≥ x1.1.size)) then ((O.plus k a3 x1.1.sum).bind fun x4 => some (Sum.inl ((-1), x4, x1.2))) else (bif (decide (a2 ≤ 0)) then ((fn4 a3 x1.1.sum).bind fun x5 => bif (!x5) then ((O.plus k a3 x1.1.sum).bind fun x6 => some (Sum.inl ((-1), x6, x1.2))) else (some (Sum.inr ()))) else (some (Sum.inr ()))))).bind (Sum.elim (fun r => some r) (fun w2 => (VTree_get.f O k x1.2 x1.1.left).bind fun x7 => (VTree_first.r O k n x7.2 x1.1.left a2 a3 fn4).bind fun x8 => bif (decide (x8.1 ≥ 0)) then (some (x8.1, x8.2.1, x8.2.2)) else ((O.sum k x1.1.e).bind fun x9 => (bif (decide (a2 ≤ x7.1.size)) then ((fn4 x8.2.1 x9).bind fun x11 => bif x11 then (some (Sum.inl (x7.1.size, x8.2.1, x8.2.2))) else (some (Sum.inr ()))) else (some (Sum.inr ()))).bind (Sum.elim (fun r => some r) (fun w10 => (O.plus k x8.2.1 x9).bind fun x12 => (VTree_first.r O k n x8.2.2 x1.1.right (w64 ((w64 (a2 - x7.1.size)) - 1)) x12 fn4).bind fun x13 => bif (decide (x13.1 ≥ 0)) then (some ((w64 (x13.1 + (w64 (x7.1.size + 1)))), x13.2.1, x13.2.2)) else (some (x13.1, x13.2.1, x13.2.2)))))))
def VTree_first.f {E A : Type} (O : Ops E A) (k : Nat) (p1 : Pool (TNode E A)) (a1 : TRef) (a2 : Int) (a3 : A) (fn4 : A → A → Option Bool) : Option (Int × A × Pool (TNode E A)) := VTree_first.r O k k p1 a1 a2 a3 fn4
def VTree_First.f {E A : Type} (O : Ops E A) (k : Nat) (p1 : Pool (TNode E A)) (rt0 : TRef) (a1 : Int) (fn2 : A → A → Option Bool) : Option (Int × Pool (TNode E A)) := (VTree_Len.f O k p1 rt0).bind fun x1 => (VTree_first.f O k x1.2 rt0 (gmin (gmax a1 0) x1.1) O.zA fn2).bind fun x2 => some (x2.1, x2.2.2)
def VTree_Rank.l0 {E A : Type} (O : Ops E A) (k : Nat) (a1 : E) : Nat → (Pool (TNode E A) × Int × TRef) → Option (Int × Pool (TNode E A))
  | 0, _ => none
  | n + 1, (v1, v2, v3) => bif (v3.gen != 0) then ((VTree_get.f O k v1 v3).bind fun x2 => (O.cmp k a1 x2.1.e).bind fun x3 => bif (decide (x3 ≤ 0)) then (VTree_Rank.l0 O k a1 n (x2.2, v2, x2.1.left)) else ((VTree_weight.f O k x2.2 x2.1.left).bind fun x4 => VTree_Rank.l0 O k a1 n (x4.2, (w64 (v2 + x4.1)), x2.1.right))) else (some (v2, v1))
def VTree_Rank.f {E A : Type} (O : Ops E A) (k : Nat) (p1 : Pool (TNode E A)) (rt0 : TRef) (a1 : E) : Option (Int × Pool (TNode E A)) := (VTree_Rank.l0 O k a1 k (p1, 0, rt0)).bind fun x1 => some (x1.1, x1.2)
def VTree_between.r {E A : Type} (O : Ops E A) (k : Nat) : Nat → Pool (TNode E A) → TRef → Int → Int → Option (A × Pool (TNode E A))
  | 0, _, _, _, _ => none
  | n + 1, p1, a1, a2, a3 => (VTree_get.f O k p1 a1).bind fun x1 => (bif (decide (a2 ≥ a3)) then (some (Sum.inl (O.zA, x1.2))) else (bif (decide (a2 ≥ x1.1.size)) then (some (Sum.inl (O.zA, x1.2))) else (bif (decide (a3 ≤ 0)) then (some (Sum.inl (O.zA, x1.2))) else (bif (x1.1.size == 0) then (some (Sum.inl (O.zA, x1.2))) else (some (Sum.inr ())))))).bind (Sum.elim (fun r => some r) (fun w2 => (bif (decide (a2 ≤ 0)) then (bif (decide (a3 ≥ x1.1.size)) then (some (Sum.inl (x1.1.sum, x1.2))) else (some (Sum.inr ()))) else (some (Sum.inr ()))).bind (Sum.elim (fun r => some r) (fun w3 => (VTree_get.f O k x1.2 x1.1.left).bind fun x4 => (VTree_between.r O k n x4.2 x1.1.left a2 a3).bind fun x5 => (bif (decide (a2 ≤ x4.1.size)) then (bif (decide (a3 > x4.1.size)) then ((O.sum k x1.1.e).bind fun x7 => (O.plus k x5.1 x7).bind fun x8 => some x8) else (some x5.1)) else (some x5.1)).bind fun x6 => (VTree_between.r O k n x5.2 x1.1.right (w64 ((w64 (a2 - x4.1.size)) - 1)) (w64 ((w64 (a3 - x4.1.size)) - 1))).bind fun x9 => (O.plus k x6 x9.1).bind fun x10 => some (x10, x9.2)))))
def VTree_between.f {E A : Type} (O : Ops E A) (k : Nat) (p1 : Pool (TNode E A)) (a1 : TRef) (a2 : Int) (a3 : Int) : Option (A × Pool (TNode E A)) := VTree_between.r O k k p1 a1 a2 a3
def VTree_Between.f {E A : Type} (O : Ops E A) (k : Nat) (p1 : Pool (TNode E A)) (rt0 : TRef) (a1 : Int) (a2 : Int) : Option (A × Pool (TNode E A)) := (VTree_Len.f O k p1 rt0).bind fun x1 => (VTree_between.f O k x1.2 rt0 (gmin (gmax a1 0) x1.1) (gmin (gmax a2 0) x1.1)).bind fun x2 => some (x2.1, x2.2)
def VLw07_awake.f (k : Nat) : Option (Bool) := (VTree_New.f opsE k 9).bind fun x1 => ((VTree_Put.f opsE k x1.2 x1.1 (TL07Elem.mk 5 5)).bind fun x3 => bif (!x3.1) then (some (Sum.inl false)) else ((VTree_Put.f opsE k x3.2.2 x3.2.1 (TL07Elem.mk 2 2)).bind fun x4 => bif (!x4.1) then (some (Sum.inl false)) else ((VTree_Put.f opsE k x4.2.2 x4.2.1 (TL07Elem.mk 9 9)).bind fun x5 => bif (!x5.1) then (some (Sum.inl false)) else (some (Sum.inr (x5.2.2, x5.2.1.index, x5.2.1.gen)))))).bind (Sum.elim (fun r => some r) (fun w2 => (VTree_First.f opsE k w2.1 (TRef.mk w2.2.1 w2.2.2) 0 (fun z0 z1 => Lw07_awake_1.f k z0 z1)).bind fun x6 => (VTree_Rank.f opsE k x6.2 (TRef.mk w2.2.1 w2.2.2) (TL07Elem.mk 6 0)).bind fun x7 => bif (x7.1 == 2) then ((VTree_Between.f opsE k x7.2 (TRef.mk w2.2.1 w2.2.2) 1 3).bind fun x8 => bif (x8.1.sum == 14) then (some (x6.1 == 1)) else (some false)) else (some false)))
def VTree_Visits.f {E A : Type} (O : Ops E A) (k : Nat) (p1 : Pool (TNode E A)) : Option (Int) := some p1.vis
def VTree_last.r {E A : Type} (O : Ops E A) (k : Nat) : Nat → Pool (TNode E A) → TRef → Option (TRef × TRef × Pool (TNode E A))
  | 0, _, _ => none
  | n + 1, p1, a1 => (VTree_get.f O k p1 a1).bind fun x1 => bif (x1.1.right.gen == 0) then (some (x1.1.left, a1, x1.2)) else ((VTree_last.r O k n x1.2 x1.1.right).bind fun x2 => (VTree_link.f O k x2.2.2 x1.1.left a1 x2.1).bind fun x3 => some (x3.1, x2.2.1, x3.2))
def VTree_last.f {E A : Type} (O : Ops E A) (k : Nat) (p1 : Pool (TNode E A)) (a1 : TRef) : Option (TRef × TRef × Pool (TNode E A)) := VTree_last.r O k k p1 a1
def VTree_merge.f {E A : Type} (O : Ops E A) (k : Nat) (p1 : Pool (TNode E A)) (a1 : TRef) (a2 : TRef) : Option (TRef × Pool (TNode E A)) := bif (a1.gen == 0) then (some (a2, p1)) else (bif (a2.gen == 0) then (some (a1, p1)) else ((VTree_last.f O k p1 a1).bind fun x1 => (VTree_link.f O k x1.2.2 x1.1 x1.2.1 a2).bind fun x2 => some (x2.1, x2.2)))
def VTree_drop.r {E A : Type} (O : Ops E A) (k : Nat) : Nat → Pool (TNode E A) → TRef → E → Option (TRef × E × Bool × Pool (TNode E A))
  | 0, _, _, _ => none
  | n + 1, p1, a1, a2 => bif (a1.gen == 0) then (some (a1, O.zE, false, p1)) else ((VTree_get.f O k p1 a1).bind fun x1 => (O.cmp k a2 x1.1.e).bind fun x2 => bif (decide (x2 < 0)) then ((VTree_drop.r O k n x1.2 x1.1.left a2).bind fun x3 => bif (!x3.2.2.1) then (some (a1, x3.2.1, false, x3.2.2.2)) else ((VTree_link.f O k x3.2.2.2 x3.1 a1 x1.1.right).bind fun x4 => some (x4.1, x3.2.1, true, x4.2))) else (bif (decide (x2 > 0)) then ((VTree_drop.r O k n x1.2 x1.1.right a2).bind fun x5 => bif (!x5.2.2.1) then (some (a1, x5.2.1, false, x5.2.2.2)) else ((VTree_link.f O k x5.2.2.2 x1.1.left a1 x5.1).bind fun x6 => some (x6.1, x5.2.1, true, x6.2))) else ((pDrop (zNode O) x1.2 a1.index a1.gen).bind fun x7 => (VTree_merge.f O k x7.2 x1.1.left x1.1.right).bind fun x8 => some (x8.1, x1.1.e, true, x8.2))))
def VTree_drop.f {E A : Type} (O : Ops E A) (k : Nat) (p1 : Pool (TNode E A)) (a1 : TRef) (a2 : E) : Option (TRef × E × Bool × Pool (TNode E A)) := VTree_drop.r O k k p1 a1 a2
def VTree_Drop.f {E A : Type} (O : Ops E A) (k : Nat) (p1 : Pool (TNode E A)) (rt0 : TRef) (a1 : E) : Option (E × Bool × TRef × Pool (TNode E A)) := (VTree_drop.f O k p1 rt0 a1).bind fun x1 => some (x1.2.1, x1.2.2.1, x1.1, x1.2.2.2)
def R07_Height.l0 (k : Nat) : Nat → (Int × Int) → Option (Int)
  | 0, _ => none
  | n + 1, (v1, v2) => bif (decide (v2 > 1)) then (R07_Height.l0 k n ((w64 (v1 + 3)), (w64 (v2.tdiv 2)))) else (some v1)
def R07_Height.f (k : Nat) (a0 : Int) : Option (Int) := (R07_Height.l0 k k (2, (w64 (a0 + 1)))).bind fun x1 => some x1
def VTree_height.r {E A : Type} (O : Ops E A) (k : Nat) : Nat → Pool (TNode E A) → TRef → Option (Int × Pool (TNode E A))
  | 0, _, _ => none
  | n + 1, p1, a1 => bif (a1.gen == 0) then (some (0, p1)) else ((VTree_get.f O k p1 a1).bind fun x1 => (VTree_height.r O k n x1.2 x1.1.left).bind fun x2 => (VTree_height.r O k n x2.2 x1.1.right).bind fun x3 => some ((w64 (1 + (gmax x2.1 x3.1))), x3.2))
def VTree_height.f {E A : Type} (O : Ops E A) (k : Nat) (p1 : Pool (TNode E A)) (a1 : TRef) : Option (Int × Pool (TNode E A)) := VTree_height.r O k k p1 a1
def VTree_Height.f {E A : Type} (O : Ops E A) (k : Nat) (p1 : Pool (TNode E A)) (rt0 : TRef) : Option (Int × Pool (TNode E A)) := (VTree_height.f O k p1 rt0).bind fun x1 => some (x1.1, x1.2)
def VTree_Find.l0 {E A : Type} (O : Ops E A) (k : Nat) (a1 : E) : Nat → (Pool (TNode E A) × TRef) → Option (Sum (E × Bool × Pool (TNode E A)) (Pool (TNode E A)))
  | 0, _ => none
  | n + 1, (v1, v2) => bif (v2.gen != 0) then ((VTree_get.f O k v1 v2).bind fun x2 => (O.cmp k a1 x2.1.e).bind fun x3 => bif (x3 == 0) then (some (Sum.inl (x2.1.e, true, x2.2))) else (bif (decide (x3 < 0)) then (VTree_Find.l0 O k a1 n (x2.2, x2.1.left)) else (VTree_Find.l0 O k a1 n (x2.2, x2.1.right)))) else (some (Sum.inr v1))
def VTree_Find.f {E A : Type} (O : Ops E A) (k : Nat) (p1 : Pool (TNode E A)) (rt0 : TRef) (a1 : E) : Option (E × Bool × Pool (TNode E A)) := (VTree_Find.l0 O k a1 k (p1, rt0)).bind (Sum.elim (fun r => some r) (fun w1 => some (O.zE, false, w1)))
def VLw07_GroveHeights.l0 (k : Nat) (l0 : List TL07Act) (a1 : Int) : Nat → (Pool (TNode TL07Elem TTide) × Int × Int × Int) → Option (Sum (Bool) (Unit))
  | 0, _ => none
  | n + 1, (v1, v2, v3, v4) => bif (decide (v4 < (w64 (6 * (l0.length : Int))))) then (bif decide ((l0.length : Int) ≠ 0) then ((atL l0 (v4.tmod (l0.length : Int))).bind fun x8 => bif decide ((l0.length : Int) ≠ 0) then ((R01_Rest.f k a1 100).bind fun x9 => (VTree_Len.f opsE k v1 (TRef.mk v2 v3)).bind fun x10 => (VTree_Visits.f opsE k x10.2).bind fun x11 => ((R01_Rest.f k x8.kind 5).bind fun x13 => bif (x13 == 1) then ((VTree_Drop.f opsE k x10.2 (TRef.mk v2 v3) (TL07Elem.mk (w64 ((x8.k.tmod 1000) + (w64 ((w64 (v4.tdiv (l0.length : Int))) * x9)))) x8.w)).bind fun x14 => some (x14.2.2.2, x14.2.2.1.index, x14.2.2.1.gen, (TL07Elem.mk (w64 ((x8.k.tmod 1000) + (w64 ((w64 (v4.tdiv (l0.length : Int))) * x9)))) x8.w))) else ((VTree_Put.f opsE k x10.2 (TRef.mk v2 v3) (TL07Elem.mk (w64 ((x8.k.tmod 1000) + (w64 ((w64 (v4.tdiv (l0.length : Int))) * x9)))) x8.w)).bind fun x15 => some (x15.2.2, x15.2.1.index, x15.2.1.gen, (TL07Elem.mk (w64 ((x8.k.tmod 1000) + (w64 ((w64 (v4.tdiv (l0.length : Int))) * x9)))) x8.w)))).bind fun x12 => ((VTree_Visits.f opsE k x12.1).bind fun x17 => (R07_Height.f k (w64 (x10.1 + 1))).bind fun x18 => bif (decide ((w64 (x17 - x11)) > (w64 (200 * (w64 (x18 + 4)))))) then (some (Sum.inl false)) else ((VTree_Height.f opsE k x12.1 (TRef.mk x12.2.1 x12.2.2.1)).bind fun x19 => (VTree_Len.f opsE k x19.2 (TRef.mk x12.2.1 x12.2.2.1)).bind fun x20 => (R07_Height.f k x20.1).bind fun x21 => bif (decide (x19.1 > x21)) then (some (Sum.inl false)) else (some (Sum.inr (x20.2, x19.1, x20.1, x21, (decide (x19.1 > x21))))))).bind (Sum.elim (fun r => some (Sum.inl r)) (fun w16 => (VTree_Visits.f opsE k w16.1).bind fun x22 => (VTree_Rank.f opsE k w16.1 (TRef.mk x12.2.1 x12.2.2.1) x12.2.2.2).bind fun x23 => (VTree_Find.f opsE k x23.2 (TRef.mk x12.2.1 x12.2.2.1) x12.2.2.2).bind fun x24 => (VTree_Between.f opsE k x24.2.2 (TRef.mk x12.2.1 x12.2.2.1) (w64 (x10.1.tdiv 3)) (w64 (x10.1.tdiv 2))).bind fun x25 => (VTree_Visits.f opsE k x25.2).bind fun x26 => (R07_Height.f k (w64 (x10.1 + 1))).bind fun x27 => bif (decide ((w64 (x26 - x22)) > (w64 (600 * (w64 (x27 + 4)))))) then (some (Sum.inl false)) else (VLw07_GroveHeights.l0 k l0 a1 n (x25.2, x12.2.1, x12.2.2.1, (w64 (v4 + 1))))))) else none) else none) else (some (Sum.inr ()))
def VLw07_GroveHeights.f (k : Nat) (l0 : List TL07Act) (a1 : Int) : Option (Bool) := ((VLw07_awake.f k).bind fun x2 => bif (!x2) then ((VLw07_awake.f k).bind fun x3 => some (Sum.inl x3)) else ((Lw07_small.f k l0 60).bind fun x4 => bif (!x4) then ((VLw07_awake.f k).bind fun x5 => some (Sum.inl x5)) else (some (Sum.inr ())))).bind (Sum.elim (fun r => some r) (fun w1 => (VTree_New.f opsE k 400).bind fun x6 => (VLw07_GroveHeights.l0 k l0 a1 k (x6.2, x6.1.index, x6.1.gen, 0)).bind (Sum.elim (fun r => some r) (fun w7 => some true))))
end Go.Proofs.Ytjokolmijhhinaa
namespace Go.Proofs.Ytjokolmijhhinaa.Sx
open Go
def starRes (L : List Res) : Res where
  holds := Star L
  loc hw h := h.loc hw
  lt h hb := h.lt hb
def adEnv (a : Nat → Nat) : Env := fun k => ⟨a k, undef⟩
def eltRes (l : List (Nat × Tok)) (a : Nat → Nat) : Res := starRes (l.map fun p => p.2.r (adEnv a))
section
variable {σ : Type}
def hpL (toks : σ → List (Nat × Tok)) (A : List (Nat → Nat)) (Q : List σ) : List Res := List.zipWith (fun a q => eltRes (toks q) a) A Q
def hp (k : Nat) (toks : σ → List (Nat × Tok)) (A : List (Nat → Nat)) (Q : List σ) : Tok where
  ks := []
  r _ := starRes (hpL toks A Q)
  sup _ := rfl
end
end Go.Proofs.Ytjokolmijhhinaa.Sx
namespace Go.Proofs.Ytjokolmijhhinaa.Sx
open Go
section
variable {P : Program} {n : Nat} {ops : Array Oper} {rest : List Oper} {fs fs' : FL} {L L' : TL} {ss : List Step}
end
section
variable {P : Program} {n : Nat} {ops : Array Oper} {rest : List Oper} {fs : FL} {L : TL} {K : List Step → FL → TL → Prop} {d : Nat} {az : Array Operand} {ats : Array TypeId} {ty : TypeId} {pos : String} {after : Array Edge} {g : Option (Nat × Bool)} {gr : FL} {f : FuncId} {args : List SV} {ti to : List (Nat × Tok)} {fr : List Nat} {args' : Env → List SV}
end
end Go.Proofs.Ytjokolmijhhinaa.Sx
namespace Go.Proofs.Ytjokolmijhhinaa.Sx
open Go
def SConAt (β : Env) (P : Program) (f : FuncId) (args : List SV) (ti : List (Nat × Tok)) (ret : SV) (to : List (Nat × Tok)) (fr : List Nat) : Prop :=
  ∀ (w : World) (F : Foot), Star (ti.map fun p => p.2.r β) w F → Calls P f (args.map (SV.den β)).toArray w (Ret F w fr β ret to)
section
variable {P : Program} {n : Nat} {ops : Array Oper} {rest : List Oper} {fs fs' : FL} {L L' : TL} {ss : List Step}
theorem Run.callA {d : Nat} {c : Call} {ty : TypeId} {pos : String} {after : Array Edge} {g : Option (Nat × Bool)} {gr : FL} {f : FuncId} {args : List SV} {ret : SV} {fr : List Nat} (l : List (Operand × SV)) (tr ti to : List (Nat × Tok))
    (hs : ∀ (β : Env) (w : World) (S : Foot), Star (tr.map fun p => p.2.r β) w S → SConAt β P f args ((0, rd S w) :: ti) ret ((0, rd S w) :: to) fr)
    (hc : ToFn P c ty l f args) (hg : Gd ops ⟨some d, .call c, ty, pos, after, g⟩ fs gr) (hev : ∀ p ∈ l, ev fs p.1 = some p.2)
    (htk : ∀ p ∈ tr ++ ti, lkT L p.1 = some p.2) (hnd : ((tr ++ ti).map (·.1)).Nodup) (hnd' : ((tr ++ to).map (·.1)).Nodup) (hsub : ∀ p ∈ ti, p.1 ∈ to.map (·.1)) (hout : ∀ p ∈ to, p.1 ∈ ti.map (·.1) ∨ lkT L p.1 = none)
    (hfr : frB fr fs L = true) (hn : Nat.blt d n = true)
    (h : Run P n ops rest ((d, ret) :: fs) (to.map (fun p => (p.1, some p.2)) ++ L) ss fs' L') : Run P n ops (⟨some d, .call c, ty, pos, after, g⟩ :: rest) fs L (⟨gr ++ opds l, some d, ret, tr, ti, to, fr⟩ :: ss) fs' L' := by
  obtain ⟨f1, f2, f3⟩ := frB_spec hfr
  refine Run.cons ?_ ?_ ?_ (fun j => ?_) h
  · intro β a w G K Q hrs hsz hst hK
    have hw := hg.wanted hrs hsz
    unfold opW Oper.wp
    rw [if_pos hw]
    have h1 := hc β a.eval w (opds_eval hg hev hrs)
    simp only [execOp]
    rw [h1, Oper.upon_enter]
    rw [List.map_append] at hst
    obtain ⟨S, F2, e, dj, hS, hT⟩ := Star_append.1 hst
    have hin : Star (((0, rd S w) :: ti).map fun p => p.2.r β) w G := ⟨S, F2, e, dj, ⟨fun b => Iff.rfl, fun b hb => ⟨hS.lt hb, rfl⟩⟩, hT⟩
    have hcall := hs β w S hS w G hin
    refine hcall.mono (fun e' w' he => ?_)
    obtain ⟨β', hb, rfl, F', h2, h3, h4⟩ := he
    obtain ⟨S', F3, eF, dF, hS', hT'⟩ := h2
    have hS2 : Star (tr.map fun p => p.2.r β') w' S := by
      have : (tr.map fun p => p.2.r β') = tr.map fun p => p.2.r β := List.map_congr_left (fun p hp => (p.2.sup (fun k hk => hb k (f3 p.1 p.2 (htk p (List.mem_append_left _ hp)) k hk))))
      rw [this]
      exact hS.loc (fun b hb => (hS'.2 b hb).2)
    refine hK β' w' F' hb ?_ h3 h4
    rw [List.map_append]
    have eS : ∀ b, S' b ↔ S b := hS'.1
    exact Star_append.2 ⟨S, F3, fun b => by rw [eF b, eS b], fun b h1 h2 => dF b ((eS b).2 h1) h2, hS2, hT'⟩
  · refine ⟨fun t z hz => ?_, fun d' hd' => ?_, htk, hnd, hnd', hout, f1, f2, fun j t hj _ => f3 j t hj⟩
    · rw [lk_append] at hz
      cases hx' : lk gr t with
      | some z' => rw [hx'] at hz; simp at hz; subst hz; exact hg.fs hx'
      | none => rw [hx'] at hz; simp at hz; exact opds_fs hev hz
    · simp at hd'; subst hd'
      rw [Nat.blt_eq] at hn
      exact hn
  · simp only [Step.outF, lk_cons]
  · rw [Step.outM_eq]
    have e1 : ∀ (to : List (Nat × Tok)), lkT (to.map (fun p => (p.1, some p.2)) ++ L) j = (lkP to j).or (lkT L j) := by
      intro to
      induction to with
      | nil => simp [lkP]
      | cons p to ih =>
        rw [List.map_cons, List.cons_append, lkT_cons]
        simp only [upd, lkP]
        split <;> simp [ih]
    rw [e1]
    cases hp : lkP to j with
    | some x => rfl
    | none =>
      simp only [Option.none_or]
      rw [if_neg]
      intro hm
      obtain ⟨p, hp', rfl⟩ := List.mem_map.1 hm
      obtain ⟨q, hq, e⟩ := List.mem_map.1 (hsub p hp')
      have : ∀ l : List (Nat × Tok), q ∈ l → lkP l p.1 ≠ none := by
        intro l
        induction l with
        | nil => intro h; cases h
        | cons r l ih =>
          intro h
          simp only [lkP]
          split
          · simp
          · rename_i hne
            rcases List.mem_cons.1 h with rfl | h
            · exact absurd e.symm hne
            · exact ih h
      exact this to hq hp
end
section
variable {P : Program} {n : Nat} {ops : Array Oper} {rest : List Oper} {fs : FL} {L : TL} {K : List Step → FL → TL → Prop} {d : Nat} {az : Array Operand} {ats : Array TypeId} {ty : TypeId} {pos : String} {after : Array Edge} {g : Option (Nat × Bool)} {gr : FL} {f : FuncId} {ti to : List (Nat × Tok)} {fr : List Nat} {ret : SV}
theorem K.cA (hf : fnB P f = true) (ks : List Nat) (hs : ∀ (β : Env) (w : World) (S : Foot), Star ((getT L ks).map fun p => p.2.r β) w S → SConAt β P f ((opl fs az).map (·.2)) ((0, rd S w) :: ti) ret ((0, rd S w) :: to) fr) (hg : Gd ops ⟨some d, .call ⟨.value (.func f), az, ats⟩, ty, pos, after, g⟩ fs gr)
    (hev : az.toList.all (fun o => (ev fs o).isSome) = true) (htk : getT L (ti.map (·.1)) = ti)
    (hb : (ndB ((getT L ks ++ ti).map (·.1)) && (ndB ((getT L ks ++ to).map (·.1)) && (ti.all (fun p => (to.map (·.1)).contains p.1) && (to.all (fun p => (ti.map (·.1)).contains p.1 || (lkT L p.1).isNone) && (frB fr fs L && Nat.blt d n))))) = true)
    (h : RunK P n ops rest ((d, ret) :: fs) (to.map (fun p => (p.1, some p.2)) ++ L) (fun ss fs' L' => K (⟨gr ++ opds (fnl f fs az), some d, ret, getT L ks, ti, to, fr⟩ :: ss) fs' L')) : RunK P n ops (⟨some d, .call ⟨.value (.func f), az, ats⟩, ty, pos, after, g⟩ :: rest) fs L K := by
  simp only [Bool.and_eq_true] at hb
  have ht : AllT L (getT L ks ++ ti) := by
    have : ∀ l : List (Nat × Tok), AllT L l → AllT L (l ++ ti) := fun l => by
      induction l with
      | nil => intro _; exact getT_of htk
      | cons p l ih => intro h; exact ⟨h.1, ih h.2⟩
    exact this _ (getT_all _)
  refine RunK.of (fun _ _ _ h => Run.callA (fnl f fs az) (getT L ks) ti to hs (fnl_to hf) hg (fnl_all hev).spec ht.spec (ndB_spec hb.1) (ndB_spec hb.2.1) (fun p hp => by simpa using List.all_eq_true.1 hb.2.2.1 p hp) (fun p hp => by
    have := List.all_eq_true.1 hb.2.2.2.1 p hp
    rw [Bool.or_eq_true] at this
    rcases this with h | h
    · exact .inl (by simpa using h)
    · exact .inr (by simpa using h)) hb.2.2.2.2.1 hb.2.2.2.2.2 h) h
end
theorem SCon.rdBlk {P : Program} {f : FuncId} {args : List SV} {ret : SV} {ti to : List (Nat × Tok)} {fr : List Nat} {k T : Nat} {cs : List Cl} (h : SCon P f args ((k, blk k cs T) :: ti) ret ((k, blk k cs T) :: to) fr) (hfr : (blk k cs T).ks.all (fun j => !fr.contains j) = true) {β : Env} {w : World} {S : Foot} (hs : Star ([(k, blk k cs T)].map fun p => p.2.r β) w S) :
    SConAt β P f args ((0, rd S w) :: ti) ret ((0, rd S w) :: to) fr := by
  intro w1 F hst
  have hb := Star_one.1 hs
  obtain ⟨F1, F2, e, d, h1, h2⟩ := hst
  have hS : ∀ b, F1 b ↔ S b := h1.1
  have hW : ∀ b, S b → w1.heap[b]? = w.heap[b]? := fun b hb => (h1.2 b hb).2
  have hb1 := ((blk k cs T).r β).loc hW hb
  have hin : Star (((k, blk k cs T) :: ti).map fun p => p.2.r β) w1 F := ⟨S, F2, fun b => by rw [e b, hS b], fun b hb => d b ((hS b).2 hb), hb1, h2⟩
  refine (h β w1 F hin).mono (fun en w' he => ?_)
  obtain ⟨β', hβ, rfl, F', g1, g2, g3⟩ := he
  refine ⟨β', hβ, rfl, F', ?_, g2, g3⟩
  obtain ⟨G1, G2, e2, d2, k1, k2⟩ := g1
  have er : (blk k cs T).r β' = (blk k cs T).r β := (blk k cs T).sup (fun j hj => hβ j (by have := List.all_eq_true.1 hfr j hj; simpa using this))
  have k1' : ((blk k cs T).r β).holds w' G1 := by rw [← er]; exact k1
  have hb' := hb
  have eG : ∀ b, G1 b ↔ S b := fun b => by rw [k1'.1 b, hb'.1 b]
  exact ⟨G1, G2, e2, d2, ⟨eG, fun b hb => ⟨((blk k cs T).r β).lt k1' ((eG b).2 hb), by
    have hbk := (hb'.1 b).1 hb
    subst hbk
    exact k1'.2.trans hb'.2.symm⟩⟩, k2⟩
end Go.Proofs.Ytjokolmijhhinaa.Sx

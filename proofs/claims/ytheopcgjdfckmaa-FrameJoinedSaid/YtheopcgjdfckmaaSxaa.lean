/- Lists of lists: read, built, grown; rows of a computed length; parts of strings. -/
import Derived.Test.YtheopcgjdfckmaaSxz
import Derived.Lib.AppendZerosOnto
import Derived.Laws.MakeOwn
import Derived.Laws.Cover3
namespace Go.Proofs.Ytheopcgjdfckmaa.Sx
open Go
set_option linter.unusedVariables false
set_option linter.unusedSimpArgs false

def vE (v : Value) : List Value := [v]
theorem vE_len : ∀ v, (vE v).length = 1 := fun _ => rfl
theorem flat_vE : ∀ l : List Value, l.flatMap vE = l
  | [] => rfl
  | x :: l => by rw [List.flatMap_cons, flat_vE l]; rfl
section
variable {α : Type} {e : α → List Value} {s : Nat} {S : Foot} {W0 : World}
theorem LAt.mono {v : Value} {b o : Nat} {l : List α} (h : LAt S W0 v b o e s l) {S' : Foot} {W1 : World} (hS : ∀ b, S b → S' b) (hW : ∀ b, S b → W1.heap[b]? = W0.heap[b]?) : LAt S' W1 v b o e s l := by
  refine ⟨h.len, h.pos, h.sl, fun h0 => hS _ (h.inn h0), fun j u hj => ?_⟩
  have h0 : 0 < l.length := by
    cases l with
    | nil => simp at hj
    | cons x l => simp
  have := h.cells j u hj
  simp only [World.cell?] at this ⊢
  rw [hW b (h.inn h0)]; exact this
theorem LArg.mono {v : Value} {l : List α} (h : LArg S W0 v e s l) {S' : Foot} {W1 : World} (hS : ∀ b, S b → S' b) (hW : ∀ b, S b → W1.heap[b]? = W0.heap[b]?) : LArg S' W1 v e s l := by
  obtain ⟨b, o, h⟩ := h
  exact ⟨b, o, h.mono hS hW⟩
/-- The values vs lead to the lists ll. -/
def LLI (S : Foot) (W0 : World) (e : α → List Value) (s : Nat) (vs : List Value) (ll : List (List α)) : Prop :=
  vs.length = ll.length ∧ ∀ (i : Nat) (v : Value) (l : List α), vs[i]? = some v → ll[i]? = some l → LArg S W0 v e s l
theorem LLI.nil : LLI S W0 e s [] ([] : List (List α)) := ⟨rfl, fun i v l h => by simp at h⟩
theorem LLI.cons {v : Value} {l : List α} {vs : List Value} {ll : List (List α)} (h : LArg S W0 v e s l) (h' : LLI S W0 e s vs ll) : LLI S W0 e s (v :: vs) (l :: ll) := by
  refine ⟨by simp [h'.1], fun i v' l' h1 h2 => ?_⟩
  cases i with
  | zero => simp at h1 h2; subst h1; subst h2; exact h
  | succ i => simp at h1 h2; exact h'.2 i v' l' h1 h2
theorem LLI.append {vs vs' : List Value} {ll ll' : List (List α)} (h : LLI S W0 e s vs ll) (h' : LLI S W0 e s vs' ll') : LLI S W0 e s (vs ++ vs') (ll ++ ll') := by
  refine ⟨by simp [h.1, h'.1], fun i v l h1 h2 => ?_⟩
  by_cases hi : i < vs.length
  · rw [List.getElem?_append_left hi] at h1
    rw [List.getElem?_append_left (by rw [← h.1]; exact hi)] at h2
    exact h.2 i v l h1 h2
  · rw [List.getElem?_append_right (by omega)] at h1
    rw [List.getElem?_append_right (by rw [← h.1]; omega), ← h.1] at h2
    exact h'.2 _ v l h1 h2
theorem LLI.mono {vs : List Value} {ll : List (List α)} (h : LLI S W0 e s vs ll) {S' : Foot} {W1 : World} (hS : ∀ b, S b → S' b) (hW : ∀ b, S b → W1.heap[b]? = W0.heap[b]?) : LLI S' W1 e s vs ll :=
  ⟨h.1, fun i v l h1 h2 => (h.2 i v l h1 h2).mono hS hW⟩
theorem LLI.at {vs : List Value} {ll : List (List α)} (h : LLI S W0 e s vs ll) {ix : Int} {x : List α} (hx : atL ll ix = some x) : ∃ ao cap b o, vs[ix.toNat]? = some (.slice ao x.length cap) ∧ LAt S W0 (.slice ao x.length cap) b o e s x := by
  have h1 := atL_get hx
  have hlt : ix.toNat < vs.length := by rw [h.1]; exact (List.getElem?_eq_some_iff.1 h1).1
  obtain ⟨b, o, hL⟩ := h.2 ix.toNat _ x (List.getElem?_eq_getElem hlt) h1
  obtain ⟨ao, cap, h2, h3⟩ := hL.sl
  rw [h2] at hL
  exact ⟨ao, cap, b, o, by rw [List.getElem?_eq_getElem hlt, h2], hL⟩
theorem LLI.len {vs : List Value} {ll : List (List α)} (h : LLI S W0 e s vs ll) : (vs.length : Int) = (ll.length : Int) := by rw [h.1]
/-- The value v leads to a list of values that lead to the lists ll. -/
def LL (S : Foot) (W0 : World) (v : Value) (e : α → List Value) (s : Nat) (ll : List (List α)) : Prop := ∃ vs, LArg S W0 v vE 1 vs ∧ LLI S W0 e s vs ll
/-- A row of lists' values, and what they lead to. -/
def rrRes (e : α → List Value) (s : Nat) (v : Value) (T : TypeId) (ll : List (List α)) : Res where
  holds w F := ∃ (vs : List Value) (F1 F2 : Foot), (∀ b, F b ↔ F1 b ∨ F2 b) ∧ (∀ b, F1 b → ¬ F2 b) ∧ (rowRes v T 1 vs.length vs).holds w F1 ∧ (∀ b, F2 b → b < w.heap.size) ∧ LLI F2 w e s vs ll
  loc := by
    rintro w w' F hw ⟨vs, F1, F2, h1, h2, h3, h4, h5⟩
    refine ⟨vs, F1, F2, h1, h2, (rowRes v T 1 vs.length vs).loc (fun b hb => hw b ((h1 b).2 (.inl hb))) h3, fun b hb => ?_, h5.mono (fun _ h => h) (fun b hb => hw b ((h1 b).2 (.inr hb)))⟩
    have h6 := hw b ((h1 b).2 (.inr hb))
    have h7 := h4 b hb
    rw [Array.getElem?_eq_getElem h7] at h6
    exact (Array.getElem?_eq_some_iff.1 h6).1
  lt := by
    rintro w F b ⟨vs, F1, F2, h1, h2, h3, h4, h5⟩ hb
    rcases (h1 b).1 hb with h | h
    · exact (rowRes v T 1 vs.length vs).lt h3 h
    · exact h4 b h
def rrow (k : Nat) (T : TypeId) (e : α → List Value) (s : Nat) (ll : List (List α)) : Tok where
  ks := [k]
  r β := rrRes e s (one1 (β k).v) T ll
  sup h := by rename_i β β'; rw [h k (by simp)]
theorem rrow_ren {g : Nat → Nat} {k k' : Nat} {T : TypeId} {ll : List (List α)} (hk : g k' = k) : RenT g (rrow k' T e s ll) (rrow k T e s ll) := by
  intro β; subst hk; rfl
theorem larg_of {w : World} {T : TypeId} {v : Value} {vs : List Value} {F : Foot} (h : (rowRes v T 1 vs.length vs).holds w F) : LArg F w v vE 1 vs := by
  obtain ⟨hF, h⟩ := h
  rcases h.2 with ⟨rfl, h0⟩ | ⟨g, cap, cur, rfl, _, hg, h1, h2, h3, h4⟩
  · have : vs = [] := List.eq_nil_of_length_eq_zero h0
    subst this
    exact larg_nil vE_len (by decide)
  · refine ⟨g, 0, vE_len, by decide, ⟨_, cap, rfl, h1, fun _ => rfl⟩, fun _ => (hF g).2 rfl, fun j u hj => ?_⟩
    rw [flat_vE] at hj
    rw [Nat.zero_add]; exact ownsRow_cell h j u hj
theorem rr_ll {T : TypeId} {k : Nat} {ll : List (List α)} {tr : List (Nat × Tok)} (j : Nat) (hj : tr[j]? = some (k, rrow k T e s ll)) {β : Env} {w : World} {S : Foot} (h : Star (tr.map fun p => p.2.r β) w S) : LL S w (Cl.den β (.nv k)) e s ll := by
  have hm : (k, rrow k T e s ll) ∈ tr := List.mem_of_getElem? hj
  obtain ⟨F, hsub, vs, F1, F2, h1, h2, h3, h4, h5⟩ := Star_mem h (List.mem_map_of_mem (f := fun p : Nat × Tok => p.2.r β) hm)
  exact ⟨vs, (larg_of h3).mono (fun b hb => hsub b ((h1 b).2 (.inl hb))) (fun _ _ => rfl), h5.mono (fun b hb => hsub b ((h1 b).2 (.inr hb))) (fun _ _ => rfl)⟩
theorem rd_ll {S1 : Foot} {W1 : World} {k : Nat} {v : Value} {ll : List (List α)} {tr : List (Nat × Tok)} (j : Nat) (hj : tr[j]? = some (k, rd S1 W1)) {β : Env} {w : World} {S : Foot} (h : Star (tr.map fun p => p.2.r β) w S) (hL : LL S1 W1 v e s ll) : LL S w v e s ll := by
  have hm : (k, rd S1 W1) ∈ tr := List.mem_of_getElem? hj
  obtain ⟨F, hsub, h1, h2⟩ := Star_mem h (List.mem_map_of_mem (f := fun p : Nat × Tok => p.2.r β) hm)
  obtain ⟨vs, h3, h4⟩ := hL
  exact ⟨vs, h3.mono (fun b hb => hsub b ((h1 b).2 hb)) (fun b hb => (h2 b hb).2), h4.mono (fun b hb => hsub b ((h1 b).2 hb)) (fun b hb => (h2 b hb).2)⟩
theorem rd_lli {S1 : Foot} {W1 : World} {k : Nat} {vs : List Value} {ll : List (List α)} {tr : List (Nat × Tok)} (j : Nat) (hj : tr[j]? = some (k, rd S1 W1)) {β : Env} {w : World} {S : Foot} (h : Star (tr.map fun p => p.2.r β) w S) (hL : LLI S1 W1 e s vs ll) : LLI S w e s vs ll := by
  have hm : (k, rd S1 W1) ∈ tr := List.mem_of_getElem? hj
  obtain ⟨F, hsub, h1, h2⟩ := Star_mem h (List.mem_map_of_mem (f := fun p : Nat × Tok => p.2.r β) hm)
  exact hL.mono (fun b hb => hsub b ((h1 b).2 hb)) (fun b hb => (h2 b hb).2)
/-- A block of lists' values that was just built. -/
theorem blk_ll {T : TypeId} {k : Nat} {cs : List Cl} {ll : List (List α)} {tr : List (Nat × Tok)} (j : Nat) (hj : tr[j]? = some (k, blk k cs T)) {β : Env} {w : World} {S : Foot} (h : Star (tr.map fun p => p.2.r β) w S) {vs : List Value} (hvs : cs.map (Cl.den β) = vs) {n : Nat} (hn : cs.length = n) (hi : LLI S w e s vs ll) : LL S w (.slice (some ⟨(β k).b, 0, none⟩) n n) e s ll := by
  subst hvs; subst hn
  have hm : (k, blk k cs T) ∈ tr := List.mem_of_getElem? hj
  obtain ⟨F, hsub, h1, h2⟩ := Star_mem h (List.mem_map_of_mem (f := fun p : Nat × Tok => p.2.r β) hm)
  have hl : (cs.map (Cl.den β)).length = cs.length := by simp
  refine ⟨cs.map (Cl.den β), ⟨(β k).b, 0, vE_len, by decide, ⟨_, cs.length, by rw [hl], by simp, fun _ => rfl⟩, fun _ => hsub _ ((h1 _).2 rfl), fun j u hj => ?_⟩, hi⟩
  rw [flat_vE] at hj
  rw [Nat.zero_add]
  simp only [World.cell?, h2]
  simpa using hj
end

theorem ap1_m {a : Nat} (h : a + 1 < 4294967296) : a + 1 ≤ maxLen := by simp only [maxLen]; omega
theorem ap1_b {a c : Nat} (h : a + 1 < 4294967296) (hc : c ≤ 32768) : (a + 1) * c ≤ 140737488355328 := Nat.le_trans (Nat.mul_le_mul (Nat.le_of_lt h) hc) (by decide)
section
variable {P : Program} {n : Nat} {ops : Array Oper} {rest : List Oper} {fs fs' : FL} {L L' : TL} {ss : List Step}
/-- The length of a list of lists. -/
theorem K.lenE {K : List Step → FL → TL → Prop} {α : Type} {f : α → List Value} {l : List α} (V : Vw) (N : Int) {d : Nat} {x : Operand} {t : TypeId} {ty : TypeId} {pos : String} {after : Array Edge} {g : Option (Nat × Bool)} {gr : FL} {e : TypeId} (hV : V.Is f l) (hN : (l.length : Int) = N) (hg : Gd ops ⟨some d, .call ⟨.builtin .len, #[x], #[t]⟩, ty, pos, after, g⟩ fs gr)
    (hx : ev fs x = some (.a (.c V.s))) (hl : lkT L V.k = some V.t) (hu : P.underlying t = some (.slice e)) (hn : Nat.blt d n = true)
    (h : RunK P n ops rest ((d, SV.i N) :: fs) L (fun ss fs' L' => K (⟨gr ++ opds [(x, .a (.c V.s))], some d, SV.i N, [(V.k, V.t)], [], [], []⟩ :: ss) fs' L')) : RunK P n ops (⟨some d, .call ⟨.builtin .len, #[x], #[t]⟩, ty, pos, after, g⟩ :: rest) fs L K := by
  subst hN
  exact RunK.of (fun _ _ _ h => Run.lenL V hV hg hx hl hu hn h) h
/-- The length of a row of lists. -/
theorem K.lenRR {K : List Step → FL → TL → Prop} {α : Type} {f : α → List Value} {s : Nat} {ll : List (List α)} {k : Nat} {T : TypeId} {d : Nat} {x : Operand} {t : TypeId} {ty : TypeId} {pos : String} {after : Array Edge} {g : Option (Nat × Bool)} {gr : FL} {e : TypeId} (hg : Gd ops ⟨some d, .call ⟨.builtin .len, #[x], #[t]⟩, ty, pos, after, g⟩ fs gr)
    (hx : ev fs x = some (.a (.c (.nv k)))) (hl : lkT L k = some (rrow k T f s ll)) (hu : P.underlying t = some (.slice e)) (hn : Nat.blt d n = true)
    (h : RunK P n ops rest ((d, SV.i ll.length) :: fs) L (fun ss fs' L' => K (⟨gr ++ opds [(x, .a (.c (.nv k)))], some d, SV.i ll.length, [(k, rrow k T f s ll)], [], [], []⟩ :: ss) fs' L')) : RunK P n ops (⟨some d, .call ⟨.builtin .len, #[x], #[t]⟩, ty, pos, after, g⟩ :: rest) fs L K :=
  Sx.K.pureR [(x, .a (.c (.nv k)))] (SV.i ll.length) [(k, rrow k T f s ll)] rfl hg (fun p hp => by simp at hp; subst hp; exact hx) (fun p hp => by simp at hp; subst hp; exact hl) (by simp) hn (fun β ρ w F hs hρ => by
    have h1 : ρ x = one1 (β k).v := hρ (x, .a (.c (.nv k))) (by simp)
    obtain ⟨vs, F1, F2, _, _, h3, _, h5⟩ := Star_one.1 hs
    have h4 : ∃ ao cap, one1 (β k).v = .slice ao vs.length cap := by
      rcases h3.2.2 with ⟨h0, h4⟩ | ⟨g, cap, cur, hv, _⟩
      · exact ⟨none, 0, by rw [h0, h4]⟩
      · exact ⟨_, cap, hv⟩
    obtain ⟨ao, cap, h6⟩ := h4
    simp only [execOp, resolve, Sem.run_bind, Sem.run_pure, Result.andThen_ok, invoke, List.map_toArray, List.map_cons, List.map_nil, h1, h6]
    rw [← h5.1]
    exact lenS hu _ w) h

/-- A nil list of lists laid in a variable. -/
theorem Run.nilRR {α : Type} (k : Nat) (T : TypeId) (f : α → List Value) (s : Nat) {d : Nat} {op : Op} {ty : TypeId} {pos : String} {after : Array Edge} {g : Option (Nat × Bool)} {gr : FL} (hop : op = .assign (.const (.slice none 0 0)) ∨ op = .move (.const (.slice none 0 0))) (hg : Gd ops ⟨some d, op, ty, pos, after, g⟩ fs gr)
    (hl : lkT L k = none) (hfr : frB [k] fs L = true) (hn : Nat.blt d n = true)
    (h : Run P n ops rest ((d, .a (.c (.nv k))) :: fs) ((k, some (rrow k T f s ([] : List (List α)))) :: L) ss fs' L') : Run P n ops (⟨some d, op, ty, pos, after, g⟩ :: rest) fs L (⟨gr, some d, .a (.c (.nv k)), [], [], [(k, rrow k T f s ([] : List (List α)))], [k]⟩ :: ss) fs' L' := by
  obtain ⟨f1, f2, f3⟩ := frB_spec hfr
  refine Run.cons ?_ ?_ ?_ (fun j => ?_) h
  · intro β a w G K Q hrs hsz hst hK
    have hw := hg.wanted (rs := []) (by simpa using hrs) (by simpa using hsz)
    unfold opW Oper.wp
    rw [if_pos hw]
    have hrun : (execOp a.eval ⟨some d, op, ty, pos, after, g⟩).run P w = .ok (.value (.slice none 0 0)) w := by
      rcases hop with rfl | rfl <;> rfl
    rw [hrun]
    have hG : ∀ b, ¬ G b := hst
    have hks : ∀ j, j ∉ [k] → upd β k ⟨0, .slice none 0 0⟩ j = β j := fun j hj => upd_ne _ _ (by simpa using hj)
    have := hK (upd β k ⟨0, .slice none 0 0⟩) w (fun _ => False) hks (Star_one.2 ⟨[], fun _ => False, fun _ => False, by simp, by simp, ⟨fun x => by simp [one1, Value.oneCell', Value.ownBlock], by simp, .inl ⟨by simp [one1, Value.oneCell'], by simp⟩⟩, fun _ h => h.elim, LLI.nil⟩) (fun b hb => hb.elim) (Mod.refl _ _)
    have e : (SV.a (.c (.nv k))).den (upd β k ⟨0, .slice none 0 0⟩) = .slice none 0 0 := by simp [SV.den, Av.den, Cl.den, one1, Value.oneCell']
    rw [e] at this
    rw [Oper.upon_value]; exact this
  · refine ⟨fun t y hy => hg.fs hy, fun d' hd' => ?_, fun p hp => by simp at hp, by simp, by simp, fun p hp => by simp at hp; subst hp; exact .inr hl, f1, f2, fun j t hj _ => f3 j t hj⟩
    simp at hd'; subst hd'
    rw [Nat.blt_eq] at hn
    exact hn
  · simp only [Step.outF, lk_cons]
  · rw [lkT_cons, Step.outM_eq]
    by_cases e : j = k
    · subst e; simp [lkP]
    · simp [lkP, e, upd]
theorem K.nilRR {K : List Step → FL → TL → Prop} {α : Type} (k : Nat) (T : TypeId) (f : α → List Value) (s : Nat) {d : Nat} {op : Op} {ty : TypeId} {pos : String} {after : Array Edge} {g : Option (Nat × Bool)} {gr : FL} (hop : op = .assign (.const (.slice none 0 0)) ∨ op = .move (.const (.slice none 0 0))) (hg : Gd ops ⟨some d, op, ty, pos, after, g⟩ fs gr)
    (hl : lkT L k = none) (hfr : frB [k] fs L = true) (hn : Nat.blt d n = true)
    (h : RunK P n ops rest ((d, .a (.c (.nv k))) :: fs) ((k, some (rrow k T f s ([] : List (List α)))) :: L) (fun ss fs' L' => K (⟨gr, some d, .a (.c (.nv k)), [], [], [(k, rrow k T f s ([] : List (List α)))], [k]⟩ :: ss) fs' L')) : RunK P n ops (⟨some d, op, ty, pos, after, g⟩ :: rest) fs L K :=
  RunK.of (fun _ _ _ h => Run.nilRR k T f s hop hg hl hfr hn h) h

/-- `append(s, x)`: s a list of lists, x a row of its own that stands in a block that was just built. -/
theorem Run.appRR {α : Type} {f : α → List Value} {s' : Nat} {ll : List (List α)} {x' : List α} {T1 : TypeId} {d : Nat} (k3 : Nat) {s x : Operand} {t e bytes : Nat} {ty : TypeId} {pos : String} {after : Array Edge} {g : Option (Nat × Bool)} {gr : FL} {k k1 k2 : Nat} (hE : El P t e 1 bytes) (hf : ∀ c, (f c).length = s') (hs' : 0 < s') (hg : Gd ops ⟨some d, .call ⟨.builtin .append, #[s, x], #[t, t]⟩, ty, pos, after, g⟩ fs gr)
    (hs : ev fs s = some (.a (.c (.nv k)))) (hx : ev fs x = some (.a (.c (.sl k1 0 1 1)))) (hl : lkT L k = some (rrow k e f s' ll)) (hl1 : lkT L k1 = some (blk k1 [.nv k2] e)) (hl2 : lkT L k2 = some (lrow k2 T1 f s' x'))
    (h63 : ll.length + 1 ≤ maxLen) (hbytes : (ll.length + 1) * bytes ≤ 140737488355328) (hl3 : lkT L k3 = none) (hnd : ndB [k, k1, k2, k3] = true) (hfr : frB [k3] fs ((k2, none) :: (k1, none) :: (k, none) :: L) = true) (hn : Nat.blt d n = true)
    (h : Run P n ops rest ((d, .a (.c (.nv k3))) :: fs) ((k3, some (rrow k3 e f s' (ll ++ [x']))) :: (k2, none) :: (k1, none) :: (k, none) :: L) ss fs' L') : Run P n ops (⟨some d, .call ⟨.builtin .append, #[s, x], #[t, t]⟩, ty, pos, after, g⟩ :: rest) fs L
      (⟨gr ++ opds [(s, .a (.c (.nv k))), (x, .a (.c (.sl k1 0 1 1)))], some d, .a (.c (.nv k3)), [], [(k, rrow k e f s' ll), (k1, blk k1 [.nv k2] e), (k2, lrow k2 T1 f s' x')], [(k3, rrow k3 e f s' (ll ++ [x']))], [k3]⟩ :: ss) fs' L' := by
  obtain ⟨f1, f2, f3⟩ := frB_spec hfr
  have hnd' := ndB_spec hnd
  simp at hnd'
  obtain ⟨⟨n1, n2, n3⟩, ⟨n4, n5⟩, n6⟩ := hnd'
  have hev : ∀ p ∈ [(s, SV.a (.c (.nv k))), (x, .a (.c (.sl k1 0 1 1)))], ev fs p.1 = some p.2 := fun p hp => by simp at hp; rcases hp with rfl | rfl <;> assumption
  refine Run.cons ?_ ?_ ?_ (fun j => ?_) h
  · intro β a w G K Q hrs hsz' hst hK
    have hw := hg.wanted hrs hsz'
    have e1 : a.eval s = one1 (β k).v := opds_eval hg hev hrs (s, .a (.c (.nv k))) (by simp)
    have e2 : a.eval x = .slice (some ⟨(β k1).b, 0, none⟩) 1 1 := opds_eval hg hev hrs (x, .a (.c (.sl k1 0 1 1))) (by simp)
    have hst' : Star ([(k, rrow k e f s' ll), (k1, blk k1 [.nv k2] e), (k2, lrow k2 T1 f s' x')].map fun p => p.2.r β) w G := hst
    obtain ⟨FA, FR, eF, dF, ⟨vs, A1, A2, a1, a2, a3, a4, a5⟩, FB, FC, eF2, dF2, hB, hC⟩ := hst'
    have hC' := Star_one.1 hC
    have hrow : w.ownsRow 0 T1 s' (one1 (β k2).v) x'.length (x'.flatMap f) := hC'.2
    have hcell : ∀ j u, [one1 (β k2).v][j]? = some u → w.cell? ((⟨(β k1).b, 0, none⟩ : Addr).add j) = some u := by
      intro j u hj
      have e3 : (⟨(β k1).b, 0, none⟩ : Addr).add j = ⟨(β k1).b, j, none⟩ := by unfold Addr.add; split <;> simp_all
      rw [e3]
      simp only [World.cell?, hB.2]
      simpa [Cl.den] using hj
    have hone : (one1 (β k2).v).oneCell' = true := Cl.ok1_den (x := .nv k2) rfl β
    obtain ⟨v', w', hrun, hown, hmod, hown2, hone'⟩ := append_row (P := P) (ty := ty) (c := 1) hE a3.2 (news := [one1 (β k2).v]) (q := 1) rfl hcell (fun u hu => by simp at hu; subst hu; exact hone) (by decide) (by rw [a5.1]; exact h63) (by rw [a5.1]; exact hbytes)
    unfold opW Oper.wp
    rw [if_pos hw]
    have hrun2 : (execOp a.eval ⟨some d, .call ⟨.builtin .append, #[s, x], #[t, t]⟩, ty, pos, after, g⟩).run P w = .ok (.value v') w' := by
      simp only [execOp, resolve, Sem.run_bind, Sem.run_pure, Result.andThen_ok, invoke, List.map_toArray, List.map_cons, List.map_nil, e1, e2]
      unfold builtin
      rw [run_bind_ok hrun]; rfl
    rw [hrun2]
    have hks : ∀ j, j ∉ [k3] → upd β k3 ⟨0, v'⟩ j = β j := fun j hj => upd_ne _ _ (by simpa using hj)
    have o1 : one1 v' = v' := by unfold one1; rw [hone']
    have hA1 : ∀ b, (one1 (β k).v).ownBlock = some b → A1 b := fun b hb => (a3.1 b).2 hb
    have hFA : ∀ b, (one1 (β k).v).ownBlock = some b → FA b := fun b hb => (a1 b).2 (.inl (hA1 b hb))
    have inner : ∀ b, A2 b ∨ FC b → b < w.heap.size ∧ w'.heap[b]? = w.heap[b]? ∧ ¬ (one1 (β k).v).ownBlock = some b := by
      rintro b (hb | hb)
      · have hn1 : ¬ (one1 (β k).v).ownBlock = some b := fun h => a2 b (hA1 b h) hb
        exact ⟨a4 b hb, hmod.block b (a4 b hb) hn1, hn1⟩
      · have hn1 : ¬ (one1 (β k).v).ownBlock = some b := fun h => dF b (hFA b h) ((eF2 b).2 (.inr hb))
        have hlt := ((lrow k2 T1 f s' x').r β).lt hC' hb
        exact ⟨hlt, hmod.block b hlt hn1, hn1⟩
    have := hK (upd β k3 ⟨0, v'⟩) w' (fun b => v'.ownBlock = some b ∨ (A2 b ∨ FC b)) hks (Star_one.2 ?_) ?_ (hmod.weaken (fun b _ hb => (eF b).2 (.inl (hFA b hb))))
    · have e : (SV.a (.c (.nv k3))).den (upd β k3 ⟨0, v'⟩) = v' := by simp [SV.den, Av.den, Cl.den, o1]
      rw [e] at this
      rw [Oper.upon_value]; exact this
    · refine ⟨vs ++ [one1 (β k2).v], fun b => v'.ownBlock = some b, fun b => A2 b ∨ FC b, fun b => Iff.rfl, ?_, ⟨fun x => ?_, ?_⟩, ?_, ?_⟩
      · intro b hv hb
        obtain ⟨i1, i2, i3⟩ := inner b hb
        rcases hown2 b hv with h | h
        · exact i3 h
        · omega
      · simp [o1]
      · simp only [upd_same, o1, List.length_append, List.length_singleton]; exact hown
      · intro b hb
        exact Nat.lt_of_lt_of_le (inner b hb).1 hmod.size
      · refine (a5.mono (fun b hb => .inl hb) (fun b hb => (inner b (.inl hb)).2.1)).append (LLI.cons ?_ LLI.nil)
        have hla : LArg FC w (one1 (β k2).v) f s' x' := la 0 rfl hf (by rw [Nat.blt_eq]; exact hs') (tr := [(k2, lrow k2 T1 f s' x')]) hC
        exact hla.mono (fun b hb => .inr hb) (fun b hb => (inner b (.inr hb)).2.1)
    · rintro b (hb | hb | hb)
      · rcases hown2 b hb with h | h
        · exact .inl ((eF b).2 (.inl (hFA b h)))
        · exact .inr h
      · exact .inl ((eF b).2 (.inl ((a1 b).2 (.inr hb))))
      · exact .inl ((eF b).2 (.inr ((eF2 b).2 (.inr hb))))
  · refine ⟨fun t y hy => ?_, fun d' hd' => ?_, fun p hp => ?_, ?_, ?_, fun p hp => ?_, f1, f2, fun j t hj hp => ?_⟩
    · rw [lk_append] at hy
      cases hx' : lk gr t with
      | some z => rw [hx'] at hy; simp at hy; subst hy; exact hg.fs hx'
      | none => rw [hx'] at hy; simp at hy; exact opds_fs hev hy
    · simp at hd'; subst hd'
      rw [Nat.blt_eq] at hn
      exact hn
    · simp at hp; rcases hp with rfl | rfl | rfl
      · exact hl
      · exact hl1
      · exact hl2
    · simp; exact ⟨⟨n1, n2⟩, n4⟩
    · simp
    · simp at hp; subst hp; exact .inr hl3
    · refine f3 j t ?_
      rw [lkT_cons, upd_ne _ _ (fun q => hp (k2, lrow k2 T1 f s' x') (by simp) q.symm), lkT_cons, upd_ne _ _ (fun q => hp (k1, blk k1 [.nv k2] e) (by simp) q.symm), lkT_cons, upd_ne _ _ (fun q => hp (k, rrow k e f s' ll) (by simp) q.symm)]
      exact hj
  · simp only [Step.outF, lk_cons]
  · rw [lkT_cons, lkT_cons, lkT_cons, lkT_cons, Step.outM_eq]
    by_cases q3 : j = k3
    · subst q3; simp [lkP]
    · by_cases q2 : j = k2
      · subst q2; simp [lkP, q3, upd]
      · by_cases q1 : j = k1
        · subst q1; simp [lkP, q3, q2, upd]
        · by_cases q0 : j = k
          · subst q0; simp [lkP, q3, q2, q1, upd]
          · simp [lkP, q3, q2, q1, q0, upd]
theorem K.appRR {K : List Step → FL → TL → Prop} {α : Type} {f : α → List Value} {s' : Nat} {ll : List (List α)} {x' : List α} {T1 : TypeId} {d : Nat} (k3 : Nat) {s x : Operand} {t e bytes : Nat} {ty : TypeId} {pos : String} {after : Array Edge} {g : Option (Nat × Bool)} {gr : FL} {k k1 k2 : Nat} (hE : El P t e 1 bytes) (hf : ∀ c, (f c).length = s') (hs' : 0 < s') (hg : Gd ops ⟨some d, .call ⟨.builtin .append, #[s, x], #[t, t]⟩, ty, pos, after, g⟩ fs gr)
    (hs : ev fs s = some (.a (.c (.nv k)))) (hx : ev fs x = some (.a (.c (.sl k1 0 1 1)))) (hl : lkT L k = some (rrow k e f s' ll)) (hl1 : lkT L k1 = some (blk k1 [.nv k2] e)) (hl2 : lkT L k2 = some (lrow k2 T1 f s' x'))
    (h63 : ll.length + 1 ≤ maxLen) (hbytes : (ll.length + 1) * bytes ≤ 140737488355328) (hl3 : lkT L k3 = none) (hnd : ndB [k, k1, k2, k3] = true) (hfr : frB [k3] fs ((k2, none) :: (k1, none) :: (k, none) :: L) = true) (hn : Nat.blt d n = true)
    (h : RunK P n ops rest ((d, .a (.c (.nv k3))) :: fs) ((k3, some (rrow k3 e f s' (ll ++ [x']))) :: (k2, none) :: (k1, none) :: (k, none) :: L) (fun ss fs' L' => K (⟨gr ++ opds [(s, .a (.c (.nv k))), (x, .a (.c (.sl k1 0 1 1)))], some d, .a (.c (.nv k3)), [], [(k, rrow k e f s' ll), (k1, blk k1 [.nv k2] e), (k2, lrow k2 T1 f s' x')], [(k3, rrow k3 e f s' (ll ++ [x']))], [k3]⟩ :: ss) fs' L')) : RunK P n ops (⟨some d, .call ⟨.builtin .append, #[s, x], #[t, t]⟩, ty, pos, after, g⟩ :: rest) fs L K :=
  RunK.of (fun _ _ _ h => Run.appRR k3 hE hf hs' hg hs hx hl hl1 hl2 h63 hbytes hl3 hnd hfr hn h) h
/-- `append(s, l...)`: lists' values behind a row of such. -/
theorem K.appendLL {K : List Step → FL → TL → Prop} {α : Type} {f : α → List Value} {s' : Nat} {S1 S2 : Foot} {W1 W2 : World} {vs vs2 : List Value} {ll ll2 : List (List α)} {d : Nat} (k2 : Nat) (V : Vw) {s x : Operand} {t e bytes : Nat} {ty : TypeId} {pos : String} {after : Array Edge} {g : Option (Nat × Bool)} {gr : FL} {k : Nat} (hE : El P t e 1 bytes) (hV : V.Is vE vs2) (hi : LLI S1 W1 f s' vs ll) (hi2 : LLI S2 W2 f s' vs2 ll2) (hg : Gd ops ⟨some d, .call ⟨.builtin .append, #[s, x], #[t, t]⟩, ty, pos, after, g⟩ fs gr)
    (hs : ev fs s = some (.a (.c (.nv k)))) (hx : ev fs x = some (.a (.c V.s))) (hl : lkT L k = some (lrow k e vE 1 vs)) (hb : lkT L V.k = some V.t) (hsz : V.size = 1)
    (hlt : ll.length + ll2.length < 4294967296) (hby : bytes ≤ 32768) (hne : Nat.beq V.k k = false) (hl2 : lkT L k2 = none) (hne2 : Nat.beq k2 k = false) (hne3 : Nat.beq V.k k2 = false) (hfr : frB [k2] fs ((k, none) :: L) = true) (hn : Nat.blt d n = true)
    (h : RunK P n ops rest ((d, .a (.c (.nv k2))) :: fs) ((k2, some (lrow k2 e vE 1 (vs ++ vs2))) :: (k, none) :: L) (fun ss fs' L' => K (⟨gr ++ opds [(s, .a (.c (.nv k))), (x, .a (.c V.s))], some d, .a (.c (.nv k2)), [(V.k, V.t)], [(k, lrow k e vE 1 vs)], [(k2, lrow k2 e vE 1 (vs ++ vs2))], [k2]⟩ :: ss) fs' L')) : RunK P n ops (⟨some d, .call ⟨.builtin .append, #[s, x], #[t, t]⟩, ty, pos, after, g⟩ :: rest) fs L K := by
  refine RunK.of (fun ss fs' L' h => ?_) h
  have hlt' : vs.length + vs2.length < 4294967296 := by rw [hi.1, hi2.1]; exact hlt
  have e : (lrow k2 e vE 1 (vs ++ vs2) : Tok) = row k2 e 1 (vs.length + V.m) (vs.flatMap vE ++ V.xs) := by rw [lrow, List.length_append, List.flatMap_append, hV.xs, hV.m]
  rw [e] at h ⊢
  refine Run.append k2 V hE hV.ok hg hs hx hl hb hsz (fun u hu => ?_) (by rw [hV.m]; exact ap_m hlt') (by rw [hV.m]; exact ap_b hlt' hby) hne hl2 hne2 hne3 hfr hn h
  rw [hV.xs, flat_vE] at hu
  obtain ⟨i, hi3⟩ := List.getElem?_of_mem hu
  have h4 : i < ll2.length := by rw [← hi2.1]; exact (List.getElem?_eq_some_iff.1 hi3).1
  obtain ⟨b, o, h5⟩ := hi2.2 i u _ hi3 (List.getElem?_eq_getElem h4)
  obtain ⟨ao, cap, rfl, _⟩ := h5.sl
  rfl
/-- A slice built of values over names: a block of them. -/
theorem Run.buildC (Y : Tys P) (k : Nat) (ys : List (Nat × Av)) (cs : List Cl) {d : Nat} {t e len : Nat} {ps : Array (Nat × Operand)} {ty : TypeId} {pos : String} {after : Array Edge} {g : Option (Nat × Bool)} {gr : FL} {z : Value} (l : List (Operand × SV)) (hg : Gd ops ⟨some d, .buildSlice t len ps, ty, pos, after, g⟩ fs gr)
    (hev : ∀ p ∈ l, ev fs p.1 = some p.2) (hps : ps.toList = (List.zip ys l).map fun q => (q.1.1, q.2.1)) (hys : l.map (·.2) = ys.map fun q => .a q.2) (hu : P.underlying t = some (.slice e)) (hT : Y.f e = .one z) (hpos : Nat.blt 0 len = true) (hs24 : Nat.ble len 16777216 = true) (hf : fillC (bfl 1 len) ((List.replicate len z).map .v) ys = some cs) (hxl : Nat.beq cs.length len = true) (hck : cs.all (fun c => !c.ks.contains k) = true)
    (hl : lkT L k = none) (hfr : frB [k] fs L = true) (hn : Nat.blt d n = true)
    (h : Run P n ops rest ((d, .a (.c (.sl k 0 len len))) :: fs) ((k, some (blk k cs e)) :: L) ss fs' L') : Run P n ops (⟨some d, .buildSlice t len ps, ty, pos, after, g⟩ :: rest) fs L (⟨gr ++ opds l, some d, .a (.c (.sl k 0 len len)), [], [], [(k, blk k cs e)], [k]⟩ :: ss) fs' L' := by
  obtain ⟨f1, f2, f3⟩ := frB_spec hfr
  have hxl' := Nat.eq_of_beq_eq_true hxl
  have hs24' := Nat.le_of_ble_eq_true hs24
  rw [Nat.blt_eq] at hpos
  have h1 : Ty1 P e z := by have := Y.ok e; rw [hT] at this; exact this
  refine Run.cons ?_ ?_ ?_ (fun j => ?_) h
  · intro β a w G K Q hrs hsz hst hK
    have hw := hg.wanted hrs hsz
    have hρ := opds_eval hg hev hrs
    have e0 : ps.map (fun (i, x) => (i, a.eval x)) = (ys.map fun p => (p.1, p.2.den β)).toArray := by
      apply Array.ext'
      simp only [Array.toList_map, hps, List.map_map]
      clear hps hf hev h hrs hsz hst hK hg
      induction ys generalizing l with
      | nil => simp
      | cons q ys ih =>
        cases l with
        | nil => simp at hys
        | cons p l =>
          simp only [List.map_cons, List.cons.injEq] at hys
          have h1 := hρ p (by simp)
          simp only [List.zip_cons_cons, List.map_cons, Function.comp, h1, hys.1]
          rw [show (SV.a q.2).den β = q.2.den β from rfl]
          congr 1
          exact ih l hys.2 (fun p hp => hρ p (by simp [hp]))
    have e1 : ((List.replicate len z).map Cl.v).map (Cl.den β) = List.replicate len z := by simp [Cl.den]
    have hfill := fill_run (P := P) (T := 0) (n := 0) (zs := []) β (fun i => some (i * 1, 1)) (fl := bfl 1 len) (fun i q hq => by
      simp only [bfl, List.getElem?_map, Option.map_eq_some_iff] at hq
      obtain ⟨j, hj, rfl⟩ := hq
      rw [List.getElem?_range] at hj
      · simp at hj; subst hj; rfl
      · by_cases hlt : i < len
        · exact hlt
        · rw [List.getElem?_eq_none (by simpa using hlt)] at hj; cases hj) ys _ _ hf
    rw [e1] at hfill
    have hrun : (execOp a.eval ⟨some d, .buildSlice t len ps, ty, pos, after, g⟩).run P w = .ok (.value (.slice (some ⟨w.heap.size, 0, none⟩) len len)) (w.alloc (.cells (cs.map (Cl.den β)).toArray e)) := by
      suffices hb : (Instr.buildSlice t len (ys.map fun p => (p.1, p.2.den β)).toArray).run P w = .ok (.slice (some ⟨w.heap.size, 0, none⟩) len len) (w.alloc (.cells (cs.map (Cl.den β)).toArray e)) by
        simp only [execOp, e0]
        rw [run_bind_ok hb]; rfl
      unfold Instr.buildSlice
      rw [run_bind_ok (run_und hu w)]
      simp only
      rw [run_bind_ok (h1.size w)]
      have hng : ¬ (len * 1 > 2 ^ 24) := by omega
      simp only [if_neg hng]
      have hzz : (Array.range (len * 1)).map ((#[z] : Array Value)[· % (#[z] : Array Value).size]!) = (List.replicate len z).toArray := by
        apply Array.ext
        · simp
        · intro i h1 h2
          simp [Nat.mod_one]
      have hne : ¬ (len * 1 = 0) := by omega
      simp only [if_neg hne, Sem.run_bind, h1.zero, Result.andThen_ok, Sem.run_pure, h1.zc, hzz, hfill]
      simp [newRow]
    unfold opW Oper.wp
    rw [if_pos hw, hrun]
    have hks : ∀ j, j ∉ [k] → upd β k ⟨w.heap.size, undef⟩ j = β j := fun j hj => upd_ne _ _ (by simpa using hj)
    have hcs : cs.map (Cl.den (upd β k ⟨w.heap.size, undef⟩)) = cs.map (Cl.den β) := by
      refine List.map_congr_left (fun c hc => Cl.den_congr c (fun j hj => hks j ?_))
      have := List.all_eq_true.1 hck c hc
      simp at this ⊢
      rintro rfl; exact this hj
    have := hK (upd β k ⟨w.heap.size, undef⟩) (w.alloc (.cells (cs.map (Cl.den β)).toArray e)) (fun b => b = w.heap.size) hks (Star_one.2 ⟨fun x => by simp, ?_⟩) (fun b hb => .inr (by omega))
      ⟨rfl, rfl, rfl, by simp, fun j hj _ => Go.RowKit.Below.heap_alloc _ _ _ hj⟩
    · have e : (SV.a (.c (.sl k 0 len len))).den (upd β k ⟨w.heap.size, undef⟩) = .slice (some ⟨w.heap.size, 0, none⟩) len len := by simp [SV.den, Av.den, Cl.den]
      rw [e] at this
      rw [Oper.upon_value]; exact this
    · simp only [upd_same, hcs]; exact heap_alloc_new w _
  · refine ⟨fun t y hy => ?_, fun d' hd' => ?_, fun p hp => by simp at hp, by simp, by simp, fun p hp => by simp at hp; subst hp; exact .inr hl, f1, f2, fun j t hj _ => f3 j t hj⟩
    · rw [lk_append] at hy
      cases hx' : lk gr t with
      | some z => rw [hx'] at hy; simp at hy; subst hy; exact hg.fs hx'
      | none => rw [hx'] at hy; simp at hy; exact opds_fs hev hy
    · simp at hd'; subst hd'
      rw [Nat.blt_eq] at hn
      exact hn
  · simp only [Step.outF, lk_cons]
  · rw [lkT_cons, Step.outM_eq]
    by_cases e : j = k
    · subst e; simp [lkP]
    · simp [lkP, e, upd]
theorem K.buildC {K : List Step → FL → TL → Prop} (Y : Tys P) (k : Nat) (ys : List (Nat × Av)) (cs : List Cl) {d : Nat} {t e len : Nat} {ps : Array (Nat × Operand)} {ty : TypeId} {pos : String} {after : Array Edge} {g : Option (Nat × Bool)} {gr : FL} {z : Value} (l : List (Operand × SV)) (hg : Gd ops ⟨some d, .buildSlice t len ps, ty, pos, after, g⟩ fs gr)
    (hev : ∀ p ∈ l, ev fs p.1 = some p.2) (hps : ps.toList = (List.zip ys l).map fun q => (q.1.1, q.2.1)) (hys : l.map (·.2) = ys.map fun q => .a q.2) (hu : P.underlying t = some (.slice e)) (hT : Y.f e = .one z) (hpos : Nat.blt 0 len = true) (hs24 : Nat.ble len 16777216 = true) (hf : fillC (bfl 1 len) ((List.replicate len z).map .v) ys = some cs) (hxl : Nat.beq cs.length len = true) (hck : cs.all (fun c => !c.ks.contains k) = true)
    (hl : lkT L k = none) (hfr : frB [k] fs L = true) (hn : Nat.blt d n = true)
    (h : RunK P n ops rest ((d, .a (.c (.sl k 0 len len))) :: fs) ((k, some (blk k cs e)) :: L) (fun ss fs' L' => K (⟨gr ++ opds l, some d, .a (.c (.sl k 0 len len)), [], [], [(k, blk k cs e)], [k]⟩ :: ss) fs' L')) : RunK P n ops (⟨some d, .buildSlice t len ps, ty, pos, after, g⟩ :: rest) fs L K :=
  RunK.of (fun _ _ _ h => Run.buildC Y k ys cs l hg hev hps hys hu hT hpos hs24 hf hxl hck hl hfr hn h) h

/-! ### Rows of a computed length -/
/-- An operation that yields a new row and touches nothing else. -/
theorem Run.fresh {α : Type} {f : α → List Value} {s : Nat} {o : Oper} {d : Nat} {gr : FL} (k : Nat) (T : TypeId) (l' : List α) (l : List (Operand × SV)) (hd : o.dst = some d) (hg : Gd ops o fs gr) (hev : ∀ p ∈ l, ev fs p.1 = some p.2) (hl : lkT L k = none) (hfr : frB [k] fs L = true) (hn : Nat.blt d n = true)
    (hr : ∀ (β : Env) (ρ : Operand → Value) (w : World), (∀ p ∈ l, ρ p.1 = p.2.den β) → ∃ v w', (execOp ρ o).run P w = .ok (.value v) w' ∧ w'.ownsRow 0 T s v l'.length (l'.flatMap f) ∧ Mod (fun _ => False) w w' ∧ (∀ b, v.ownBlock = some b → w.heap.size ≤ b) ∧ v.oneCell' = true)
    (h : Run P n ops rest ((d, .a (.c (.nv k))) :: fs) ((k, some (lrow k T f s l')) :: L) ss fs' L') : Run P n ops (o :: rest) fs L (⟨gr ++ opds l, some d, .a (.c (.nv k)), [], [], [(k, lrow k T f s l')], [k]⟩ :: ss) fs' L' := by
  obtain ⟨f1, f2, f3⟩ := frB_spec hfr
  refine Run.cons ?_ ?_ ?_ (fun j => ?_) h
  · intro β a w G K Q hrs hsz hst hK
    have hw := hg.wanted hrs hsz
    obtain ⟨v, w', hrun, hown, hmod, hnew, hone⟩ := hr β a.eval w (opds_eval hg hev hrs)
    unfold opW Oper.wp
    rw [if_pos hw, hrun]
    have hks : ∀ j, j ∉ [k] → upd β k ⟨0, v⟩ j = β j := fun j hj => upd_ne _ _ (by simpa using hj)
    have o1 : one1 v = v := by unfold one1; rw [hone]
    have := hK (upd β k ⟨0, v⟩) w' (fun b => v.ownBlock = some b) hks (Star_one.2 ⟨fun x => by simp [o1], by simp only [upd_same, o1]; exact hown⟩) (fun b hb => .inr (hnew b hb)) (hmod.weaken (fun b _ hb => hb.elim))
    have e : (SV.a (.c (.nv k))).den (upd β k ⟨0, v⟩) = v := by simp [SV.den, Av.den, Cl.den, o1]
    rw [e] at this
    rw [Oper.upon_value, hd]; exact this
  · refine ⟨fun t y hy => ?_, fun d' hd' => ?_, fun p hp => by simp at hp, by simp, by simp, fun p hp => by simp at hp; subst hp; exact .inr hl, f1, f2, fun j t hj _ => f3 j t hj⟩
    · rw [lk_append] at hy
      cases hx' : lk gr t with
      | some z => rw [hx'] at hy; simp at hy; subst hy; exact hg.fs hx'
      | none => rw [hx'] at hy; simp at hy; exact opds_fs hev hy
    · simp at hd'; subst hd'
      rw [Nat.blt_eq] at hn
      exact hn
  · simp only [Step.outF, lk_cons]
  · rw [lkT_cons, Step.outM_eq]
    by_cases e : j = k
    · subst e; simp [lkP]
    · simp [lkP, e, upd]
theorem El.zero {t e bytes : Nat} {zv : Value} (hE : El P t e 1 bytes) (h1 : Ty1 P e zv) : ∃ i, P.info? e = some i ∧ i.zero = some zv ∧ i.size = 1 ∧ i.bytes = bytes := by
  obtain ⟨i, z, a1, a2, a3, a4, a5⟩ := hE.ex
  refine ⟨i, a1, ?_, a3, a4⟩
  have h2 := h1.zero default
  have h3 : (zeroValue e).run P default = .ok z default := by
    simp [zeroValue, typeInfo, a1, a2]
  rw [h3] at h2
  cases h2; exact a2
theorem made_rep (zv : Value) (n : Nat) : (madeCells #[zv] n).toList = List.replicate n zv := by
  apply List.ext_getElem
  · simp [madeCells]
  · intro i h1 h2
    simp [madeCells, Nat.mod_one]
theorem rep_flat {α : Type} {f : α → List Value} {c0 : α} {zv : Value} (hc : f c0 = [zv]) : ∀ n : Nat, (List.replicate n c0).flatMap f = List.replicate n zv
  | 0 => rfl
  | n + 1 => by rw [List.replicate_succ, List.flatMap_cons, rep_flat hc n, hc]; rfl
/-- `make([]T, n)`. -/
theorem Run.makeRow (Y : Tys P) {α : Type} {f : α → List Value} (k : Nat) (c0 : α) {d : Nat} {t e bytes : Nat} {zv : Value} {x : Operand} {m : Int} {ty : TypeId} {pos : String} {after : Array Edge} {g : Option (Nat × Bool)} {gr : FL} (hE : El P t e 1 bytes) (hT : Y.f e = .one zv) (hc : f c0 = [zv]) (hg : Gd ops ⟨some d, .makeSlice t x x, ty, pos, after, g⟩ fs gr)
    (hx : ev fs x = some (SV.i m)) (h0 : 0 ≤ m) (hm : m < 4294967296) (hb : bytes ≤ 65536) (hl : lkT L k = none) (hfr : frB [k] fs L = true) (hn : Nat.blt d n = true)
    (h : Run P n ops rest ((d, .a (.c (.nv k))) :: fs) ((k, some (lrow k e f 1 (List.replicate m.toNat c0))) :: L) ss fs' L') : Run P n ops (⟨some d, .makeSlice t x x, ty, pos, after, g⟩ :: rest) fs L (⟨gr ++ opds [(x, SV.i m)], some d, .a (.c (.nv k)), [], [], [(k, lrow k e f 1 (List.replicate m.toNat c0))], [k]⟩ :: ss) fs' L' :=
  Run.fresh k e (List.replicate m.toNat c0) [(x, SV.i m)] rfl hg (fun p hp => by simp at hp; subst hp; exact hx) hl hfr hn (fun β ρ w hρ => by
    have h1 : Ty1 P e zv := by have := Y.ok e; rw [hT] at this; exact this
    obtain ⟨i, i1, i2, i3, i4⟩ := hE.zero h1
    have e1 : ρ x = .int .i64 m := hρ (x, SV.i m) (by simp)
    have h48 : (i.bytes : Int) * m ≤ 281474976710656 := by
      rw [i4]
      have : (bytes : Int) * m ≤ 65536 * 4294967296 := Int.mul_le_mul (by omega) (by omega) h0 (by omega)
      omega
    have hr := run_make (P := P) w t e i zv hE.und i1 i2 .i64 .i64 m m h0 (Int.le_refl _) h48 (by omega)
    rw [i3, Nat.mul_one, h1.zc] at hr
    refine ⟨_, _, by simp only [execOp, e1]; rw [run_bind_ok hr]; rfl, ⟨?_, .inr ⟨w.heap.size, m.toNat, _, by rw [List.length_replicate], Nat.zero_le _, heap_alloc_new w _, by simp, ?_, ?_, ?_⟩⟩, ⟨rfl, rfl, rfl, by simp, fun j hj _ => Go.RowKit.Below.heap_alloc _ _ _ hj⟩, fun b hb => ?_, rfl⟩
    · rw [rep_flat hc]; simp
    · simp only [maxLen]; omega
    · rw [size_madeCells]; simp
    · rw [made_rep, rep_flat hc]; simp
    · simp [Value.ownBlock] at hb; omega) h
theorem K.makeRow {K : List Step → FL → TL → Prop} (Y : Tys P) {α : Type} {f : α → List Value} (k : Nat) (c0 : α) {d : Nat} {t e bytes : Nat} {zv : Value} {x : Operand} {m : Int} {ty : TypeId} {pos : String} {after : Array Edge} {g : Option (Nat × Bool)} {gr : FL} (hE : El P t e 1 bytes) (hT : Y.f e = .one zv) (hc : f c0 = [zv]) (hg : Gd ops ⟨some d, .makeSlice t x x, ty, pos, after, g⟩ fs gr)
    (hx : ev fs x = some (SV.i m)) (h0 : 0 ≤ m) (hm : m < 4294967296) (hb : bytes ≤ 65536) (hl : lkT L k = none) (hfr : frB [k] fs L = true) (hn : Nat.blt d n = true)
    (h : RunK P n ops rest ((d, .a (.c (.nv k))) :: fs) ((k, some (lrow k e f 1 (List.replicate m.toNat c0))) :: L) (fun ss fs' L' => K (⟨gr ++ opds [(x, SV.i m)], some d, .a (.c (.nv k)), [], [], [(k, lrow k e f 1 (List.replicate m.toNat c0))], [k]⟩ :: ss) fs' L')) : RunK P n ops (⟨some d, .makeSlice t x x, ty, pos, after, g⟩ :: rest) fs L K :=
  RunK.of (fun _ _ _ h => Run.makeRow Y k c0 hE hT hc hg hx h0 hm hb hl hfr hn h) h
/-- `append(nil, make([]T, n)...)`. -/
theorem Run.appZ (Y : Tys P) {α : Type} {f : α → List Value} (k : Nat) (c0 : α) {d : Nat} {t tn e bytes : Nat} {kn : IntKind} {zv : Value} {s x : Operand} {m : Int} {ty : TypeId} {pos : String} {after : Array Edge} {g : Option (Nat × Bool)} {gr : FL} (hE : El P t e 1 bytes) (hT : Y.f e = .one zv) (hc : f c0 = [zv]) (htn : P.underlying tn = some (.int kn)) (hg : Gd ops ⟨some d, .call ⟨.builtin .append, #[s, x], #[t, tn]⟩, ty, pos, after, g⟩ fs gr)
    (hs : ev fs s = some (SV.raw (.slice none 0 0))) (hx : ev fs x = some (SV.i m)) (h0 : 0 < m) (hm : m < 4294967296) (hb : bytes ≤ 16384) (hl : lkT L k = none) (hfr : frB [k] fs L = true) (hn : Nat.blt d n = true)
    (h : Run P n ops rest ((d, .a (.c (.nv k))) :: fs) ((k, some (lrow k e f 1 (List.replicate m.toNat c0))) :: L) ss fs' L') : Run P n ops (⟨some d, .call ⟨.builtin .append, #[s, x], #[t, tn]⟩, ty, pos, after, g⟩ :: rest) fs L (⟨gr ++ opds [(s, SV.raw (.slice none 0 0)), (x, SV.i m)], some d, .a (.c (.nv k)), [], [], [(k, lrow k e f 1 (List.replicate m.toNat c0))], [k]⟩ :: ss) fs' L' :=
  Run.fresh k e (List.replicate m.toNat c0) [(s, SV.raw (.slice none 0 0)), (x, SV.i m)] rfl hg (fun p hp => by simp at hp; rcases hp with rfl | rfl <;> assumption) hl hfr hn (fun β ρ w hρ => by
    have h1 : Ty1 P e zv := by have := Y.ok e; rw [hT] at this; exact this
    obtain ⟨i, i1, i2, i3, i4⟩ := hE.zero h1
    have e1 : ρ s = .slice none 0 0 := hρ (s, SV.raw (.slice none 0 0)) (by simp)
    have e2 : ρ x = .int .i64 m := hρ (x, SV.i m) (by simp)
    obtain ⟨q, rfl⟩ : ∃ q : Nat, m = (q : Int) := ⟨m.toNat, by omega⟩
    have hqb : q * bytes ≤ 4294967296 * 16384 := Nat.mul_le_mul (by omega) hb
    have hr := Go.Lib.run_append_grow_zeros (P := P) w t tn ty e i zv .i64 kn hE.und htn i1 i2 none 0 0 [] (by rw [i3]; exact run_firstCells_none w.drew 1 0 0 0) q (by omega) (by omega) (by omega) (by omega) (by rw [i4]; omega) (growslice_fits (by omega) (by rw [i4, Nat.zero_add]; omega))
    refine ⟨_, _, by
      simp only [execOp, resolve, Sem.run_bind, Sem.run_pure, Result.andThen_ok, invoke, List.map_toArray, List.map_cons, List.map_nil, e1, e2]
      unfold builtin
      rw [run_bind_ok hr]; rfl, ⟨?_, .inr ⟨w.heap.size, grownCap w (0 + q) 0 e, _, by rw [List.length_replicate, Int.toNat_natCast, Nat.zero_add], Nat.zero_le _, heap_alloc_new w.drew _, ?_, grownCap_le_maxLen w _ 0 e (by simp only [maxLen]; omega), ?_, ?_⟩⟩, drewMod _ _ _, fun b hb => ?_, rfl⟩
    · rw [rep_flat hc]; simp
    · have := grownCap_ge w (0 + q) 0 e; simp at this ⊢; exact this
    · have := grownCap_ge w (0 + q) 0 e
      simp [zeroCells_size, h1.zc] at this ⊢; omega
    · rw [rep_flat hc, h1.zc]
      have e9 : (Builtin.zeroCells #[zv] q).toList = List.replicate q zv := by
        have := made_rep zv (q * 1)
        rw [Nat.mul_one] at this
        rw [← this]; simp [Builtin.zeroCells, madeCells]
      simp only [List.append_toArray, Array.toList_append, e9, List.nil_append, List.length_replicate, Nat.mul_one, Int.toNat_natCast]
      rw [List.take_append_of_le_length (by simp)]
      simp
    · simp [Value.ownBlock] at hb; omega) h
theorem K.appZ {K : List Step → FL → TL → Prop} (Y : Tys P) {α : Type} {f : α → List Value} (k : Nat) (c0 : α) {d : Nat} {t tn e bytes : Nat} {kn : IntKind} {zv : Value} {s x : Operand} {m : Int} {ty : TypeId} {pos : String} {after : Array Edge} {g : Option (Nat × Bool)} {gr : FL} (hE : El P t e 1 bytes) (hT : Y.f e = .one zv) (hc : f c0 = [zv]) (htn : P.underlying tn = some (.int kn)) (hg : Gd ops ⟨some d, .call ⟨.builtin .append, #[s, x], #[t, tn]⟩, ty, pos, after, g⟩ fs gr)
    (hs : ev fs s = some (SV.raw (.slice none 0 0))) (hx : ev fs x = some (SV.i m)) (h0 : 0 < m) (hm : m < 4294967296) (hb : bytes ≤ 16384) (hl : lkT L k = none) (hfr : frB [k] fs L = true) (hn : Nat.blt d n = true)
    (h : RunK P n ops rest ((d, .a (.c (.nv k))) :: fs) ((k, some (lrow k e f 1 (List.replicate m.toNat c0))) :: L) (fun ss fs' L' => K (⟨gr ++ opds [(s, SV.raw (.slice none 0 0)), (x, SV.i m)], some d, .a (.c (.nv k)), [], [], [(k, lrow k e f 1 (List.replicate m.toNat c0))], [k]⟩ :: ss) fs' L')) : RunK P n ops (⟨some d, .call ⟨.builtin .append, #[s, x], #[t, tn]⟩, ty, pos, after, g⟩ :: rest) fs L K :=
  RunK.of (fun _ _ _ h => Run.appZ Y k c0 hE hT hc htn hg hs hx h0 hm hb hl hfr hn h) h
theorem capS {P : Program} {t e T : TypeId} (h : P.underlying t = some (.slice e)) {ao : Option Addr} {len cap : Nat} (c : Array Bool) (w : World) : (builtin .cap #[t] T c #[.slice ao len cap]).run P w = .ok (.value (.int .i64 (cap : Int))) w := by
  have : (Builtin.cap_ #[t] T #[.slice ao len cap]).run P w = .ok (.int .i64 (cap : Int)) w := by
    unfold Builtin.cap_
    simp only [List.getElem?_toArray, List.getElem?_cons_zero]
    rw [run_bind_ok (run_und h w)]; rfl
  unfold builtin
  rw [run_bind_ok this]; rfl
theorem sn_eql {P : Program} {T e : TypeId} {x z : Operand} (h : P.underlying T = some (.slice e)) (a : Option Addr) (l c : Nat) (w : World) : (do eqGuard .eql T x z (.slice a l c) (.slice none 0 0); binOp .eql T (.slice a l c) (.slice none 0 0) : Sem Value).run P w = .ok (.bool a.isNone) w :=
  eql_of rfl rfl (run_equal_slice_nil w T e a l c h)
/-- A part of the nil slice. -/
theorem K.partN {K : List Step → FL → TL → Prop} {d : Nat} {t : TypeId} {x : Operand} {hi : Option Operand} {qh : List (Operand × SV)} {ty : TypeId} {pos : String} {after : Array Edge} {g : Option (Nat × Bool)} {gr : FL} {el s : TypeId} (hg : Gd ops ⟨some d, .slice t x none hi none, ty, pos, after, g⟩ fs gr)
    (hx : ev fs x = some (SV.raw (.slice none 0 0))) (hhi : Bnd fs 0 0 qh hi) (hu : P.underlying t = some (.slice el)) (hsz : ∀ w : World, (sizeOf el).run P w = .ok s w) (hn : Nat.blt d n = true)
    (h : RunK P n ops rest ((d, SV.raw (.slice none 0 0)) :: fs) L (fun ss fs' L' => K (⟨gr ++ opds ((x, SV.raw (.slice none 0 0)) :: ([] ++ qh)), some d, SV.raw (.slice none 0 0), [], [], [], []⟩ :: ss) fs' L')) : RunK P n ops (⟨some d, .slice t x none hi none, ty, pos, after, g⟩ :: rest) fs L K := by
  refine Sx.K.pureR ((x, SV.raw (.slice none 0 0)) :: ([] ++ qh)) (SV.raw (.slice none 0 0)) [] rfl hg (fun p hp => ?_) (fun p hp => by simp at hp) (by simp) hn (fun β ρ w F hs hρ => ?_) h
  · rcases List.mem_cons.1 hp with rfl | hp
    · exact hx
    · exact hhi.ev p (by simpa using hp)
  · have e1 : ρ x = .slice none 0 0 := hρ (x, SV.raw (.slice none 0 0)) (by simp)
    obtain ⟨hv, hhv, hh'⟩ := hhi.val (fun p hp => hρ p (List.mem_cons_of_mem _ (by simpa using hp)))
    simp only [execOp, e1, hhv, Option.map_none]
    have := run_part (P := P) hu hsz (a := none) (cap := 0) (lo := none) (l := 0) (.inl ⟨rfl, rfl⟩) hh' (Nat.le_refl _) (Nat.le_refl _) (Nat.le_refl _) w
    simp only [Option.map_none] at this
    rw [run_bind_ok this]; simp [sliced, SV.den, Av.den, Cl.den]
/-- Parts of strings. -/
theorem run_spart {t : TypeId} (hu : P.underlying t = some .string) {b : ByteArray} {l h : Nat} {lo hi : Option Int} (hlo : lo = none ∧ l = 0 ∨ ∃ i, lo = some i ∧ 0 ≤ i ∧ l = i.toNat) (hhi : hi = none ∧ h = b.size ∨ ∃ i, hi = some i ∧ 0 ≤ i ∧ h = i.toNat)
    (hlh : l ≤ h) (hh : h ≤ b.size) (w : World) : (Instr.sliceAt t (.string b) (lo.map (Value.int .i64)) (hi.map (Value.int .i64)) none).run P w = .ok (.string (b.extract l h)) w := by
  rw [run_sliceAt_string (P := P) w t _ _ _ _ hu]
  rcases hlo with ⟨rfl, rfl⟩ | ⟨i, rfl, hi0, rfl⟩ <;> rcases hhi with ⟨rfl, rfl⟩ | ⟨j, rfl, hj0, rfl⟩
  · simp only [Option.map_none]
    rw [run_slice_string_all (P := P) w t b hu]
  · simp only [Option.map_none, Option.map_some]
    rw [run_slice_string_h (P := P) w t b hu .i64 j hj0 (by omega)]
  · simp only [Option.map_none, Option.map_some]
    rw [run_slice_string_l (P := P) w t b hu .i64 i hi0 (by omega)]
  · simp only [Option.map_some]
    rw [run_slice_string (P := P) w t b .i64 .i64 i j hu hi0 (by omega) (by omega)]
theorem K.ssub {K : List Step → FL → TL → Prop} {d : Nat} (lo' hi' : Nat) {b : ByteArray} {t : TypeId} {x : Operand} {lo hi : Option Operand} {ql qh : List (Operand × SV)} {ty : TypeId} {pos : String} {after : Array Edge} {g : Option (Nat × Bool)} {gr : FL} (hg : Gd ops ⟨some d, .slice t x lo hi none, ty, pos, after, g⟩ fs gr)
    (hx : ev fs x = some (SV.raw (.string b))) (hlo : Bnd fs 0 lo' ql lo) (hhi : Bnd fs b.size hi' qh hi) (hu : P.underlying t = some .string) (hlh : lo' ≤ hi') (hh : hi' ≤ b.size) (hn : Nat.blt d n = true)
    (h : RunK P n ops rest ((d, SV.raw (.string (b.extract lo' hi'))) :: fs) L (fun ss fs' L' => K (⟨gr ++ opds ((x, SV.raw (.string b)) :: (ql ++ qh)), some d, SV.raw (.string (b.extract lo' hi')), [], [], [], []⟩ :: ss) fs' L')) : RunK P n ops (⟨some d, .slice t x lo hi none, ty, pos, after, g⟩ :: rest) fs L K := by
  refine Sx.K.pureR ((x, SV.raw (.string b)) :: (ql ++ qh)) (SV.raw (.string (b.extract lo' hi'))) [] rfl hg (fun p hp => ?_) (fun p hp => by simp at hp) (by simp) hn (fun β ρ w F hs hρ => ?_) h
  · rcases List.mem_cons.1 hp with rfl | hp
    · exact hx
    · rcases List.mem_append.1 hp with hp | hp
      · exact hlo.ev p hp
      · exact hhi.ev p hp
  · have e1 : ρ x = .string b := hρ (x, SV.raw (.string b)) (by simp)
    obtain ⟨lv, hlv, hl'⟩ := hlo.val (fun p hp => hρ p (List.mem_cons_of_mem _ (List.mem_append_left _ hp)))
    obtain ⟨hv, hhv, hh'⟩ := hhi.val (fun p hp => hρ p (List.mem_cons_of_mem _ (List.mem_append_right _ hp)))
    simp only [execOp, e1, hlv, hhv, Option.map_none]
    rw [run_bind_ok (run_spart (P := P) hu hl' hh' hlh hh w)]; rfl
end
section
variable {H : Type} {enc : TypeId × Value → H} {P : Program} {w : World} {base : Nat} {spare : Nat → Bool} {held : Bool}
/-- A slice whose elements are opened in some way. -/
theorem open_listG {α : Type} {f : α → List Value} {s : Nat} {Q : α → Prop} {t e : TypeId} {v : Value} {d : DataW H} {p : List MemPlace} (hu : P.underlying t = some (.slice e)) (hs : P.cellsOf e = s) (hpos : 0 < s) (hf : ∀ c, (f c).length = s)
    (helem : ∀ n cs x, DataW.trod enc P w base spare held n e cs = some x → ∃ y, cs = f y ∧ Q y) (hv : v.cells = #[v]) (h : DataW.Trod enc P w base spare held t v d p) :
    ∃ (l : List α) (b o : Nat), (∀ x ∈ l, Q x) ∧ (∃ ao cap, v = .slice ao l.length cap ∧ l.length ≤ cap ∧ (0 < l.length → ao = some ⟨b, o, none⟩)) ∧ (0 < l.length → b < w.heap.size) ∧ (∀ j u, (l.flatMap f)[j]? = some u → w.cell? ⟨b, o + j, none⟩ = some u) ∧ l.length ≤ maxLen := by
  obtain ⟨fuel, hf'⟩ := h
  rw [hv] at hf'
  rcases DataW.trod_slice hu hf' with ⟨h1, _⟩ | ⟨a, len, cap, elems, rest, n, _, h1, _, hb, hlc, hcm, hel, hcells, _, _⟩
  · simp at h1
    subst h1
    exact ⟨[], 0, 0, fun x hx => (by cases hx), ⟨none, 0, rfl, Nat.le_refl _, fun h => (by simp at h)⟩, fun h => (by simp at h), fun j u hj => (by simp at hj), by simp⟩
  · simp at h1
    subst h1
    have each : ∀ i, i < len → ∃ x, Q x ∧ w.cells? base (a.add (i * s)) s = some (f x) := by
      intro i hi
      have h2 := hcells i hi
      rw [List.getElem?_eq_getElem (by omega)] at h2
      rw [hs] at h2
      cases hc : w.cells? base (a.add (i * s)) s with
      | none => rw [hc] at h2; cases h2
      | some cs =>
        rw [hc] at h2
        obtain ⟨x, hx, hq⟩ := helem n cs _ h2
        exact ⟨x, hq, by rw [hx]⟩
    have list : ∀ m, m ≤ len → ∃ l : List α, l.length = m ∧ (∀ x ∈ l, Q x) ∧ ∀ i x, l[i]? = some x → w.cells? base (a.add (i * s)) s = some (f x) := by
      intro m
      induction m with
      | zero => intro _; exact ⟨[], rfl, fun x hx => (by cases hx), fun i x hx => (by simp at hx)⟩
      | succ m ih =>
        intro hm
        obtain ⟨l, h1, h2, h3⟩ := ih (by omega)
        obtain ⟨x, hq, hx⟩ := each m (by omega)
        refine ⟨l ++ [x], by simp [h1], fun y hy => ?_, fun i y hy => ?_⟩
        · rcases List.mem_append.1 hy with hy | hy
          · exact h2 y hy
          · simp at hy; subst hy; exact hq
        · rw [List.getElem?_append] at hy
          split at hy
          · exact h3 i y hy
          · rename_i hge
            have : i - l.length = 0 := by
              have := (List.getElem?_eq_some_iff.1 hy).1
              simp at this; omega
            rw [this] at hy
            simp at hy; subst hy
            have : i = m := by omega
            rw [this]; exact hx
    obtain ⟨l, hl, hQ, hx⟩ := list len (Nat.le_refl _)
    subst hl
    by_cases h0 : 0 < l.length
    · have hx0 := hx 0 l[0] (List.getElem?_eq_getElem h0)
      have hadd0 : a.add (0 * s) = a := by simp [Addr.add]
      rw [hadd0] at hx0
      have hcell := World.cells?_some hx0
      have hspot : a.spot = none := by
        have hlen0 := hf l[0]
        have h4 := hcell.2.2 0 (by omega)
        have ha0 : a.add 0 = a := by simp [Addr.add]
        rw [ha0] at h4
        unfold World.cell? at h4
        split at h4
        · split at h4
          · rw [List.getElem?_eq_getElem (by omega)] at h4; cases h4
          · rename_i hns; simpa using hns
        · rw [List.getElem?_eq_getElem (by omega)] at h4; cases h4
      obtain ⟨b, o, sp⟩ := a
      simp only at hspot
      subst hspot
      refine ⟨l, b, o, hQ, ⟨_, cap, rfl, hlc, fun _ => rfl⟩, fun _ => World.cells?_block hx0 hpos, fun j u hj => ?_, by omega⟩
      have hjl : j < l.length * s := by rw [← chunk_len hf]; exact (List.getElem?_eq_some_iff.1 hj).1
      have hi : j / s < l.length := by rw [Nat.div_lt_iff_lt_mul hpos]; exact hjl
      have hxi := hx (j / s) l[j / s] (List.getElem?_eq_getElem hi)
      have hc2 := World.cells?_some hxi
      have hm := Nat.mod_lt j hpos
      have h5 := hc2.2.2 (j % s) hm
      have hjd : j / s * s + j % s = j := by rw [Nat.mul_comm]; exact Nat.div_add_mod j s
      have hadd : ((⟨b, o, none⟩ : Addr).add (j / s * s)).add (j % s) = ⟨b, o + j, none⟩ := by
        unfold Addr.add
        split <;> split <;> simp_all <;> omega
      rw [hadd] at h5
      rw [h5]
      have := chunk_get hf (List.getElem?_eq_getElem hi : l[j / s]? = _) (o := j % s) (v := (f l[j / s])[j % s]'(by rw [hf]; exact hm)) (List.getElem?_eq_getElem _)
      rw [hjd, hj] at this
      rw [List.getElem?_eq_getElem (by rw [hf]; exact hm)]
      exact this.symm
    · have h0' : l = [] := List.eq_nil_of_length_eq_zero (by omega)
      subst h0'
      exact ⟨[], 0, 0, fun x hx => (by cases hx), ⟨_, cap, rfl, Nat.zero_le _, fun h => (by simp at h)⟩, fun h => (by simp at h), fun j u hj => (by simp at hj), by simp⟩
/-- A list of lists that a caller hands over. -/
theorem open_llist {α : Type} {f : α → List Value} {s : Nat} {Q : α → Prop} {t e ie : TypeId} {v : Value} {d : DataW H} {p : List MemPlace} {D : Nat} {ks : List (Option IntKind)} (hu : P.underlying t = some (.slice e)) (hue : P.underlying e = some (.slice ie)) (hk : kindsOf P D ie = some ks) (hs : P.cellsOf ie = s) (hce : P.cellsOf e = 1) (hpos : 0 < s) (hf : ∀ c, (f c).length = s)
    (hdec : ∀ cs, okKinds ks cs → ∃ x, cs = f x ∧ Q x) (hv : v.cells = #[v]) (h : DataW.Trod enc P w base spare held t v d p) :
    ∃ ll : List (List α), LL (fun b => b < w.heap.size) w v f s ll ∧ ∀ l ∈ ll, ∀ x ∈ l, Q x := by
  obtain ⟨vs, b, o, hq, h1, h2, h3, h4⟩ := open_listG (f := vE) (s := 1) (Q := fun y => ∃ l : List α, LArg (fun b => b < w.heap.size) w y f s l ∧ ∀ x ∈ l, Q x) hu hce (by decide) vE_len (fun n cs x hx => by
    have : ∃ y, cs = [y] ∧ y.cells = #[y] := by
      rcases DataW.trod_slice hue hx with ⟨h1, _⟩ | ⟨a, len, cap, _, _, _, _, h1, _⟩
      · exact ⟨_, h1, rfl⟩
      · exact ⟨_, h1, rfl⟩
    obtain ⟨y, rfl, hy⟩ := this
    obtain ⟨l, b, o, hq, h1, h2, h3, h4⟩ := open_list (enc := enc) (w := w) (base := base) (spare := spare) (held := held) (d := x.1) (p := x.2) hue hk hs hpos hf hdec hy ⟨n, by rw [hy]; exact hx⟩
    exact ⟨y, rfl, l, ⟨b, o, hf, hpos, h1, h2, h3⟩, hq⟩) hv h
  have key : ∀ vs : List Value, (∀ y ∈ vs, ∃ l : List α, LArg (fun b => b < w.heap.size) w y f s l ∧ ∀ x ∈ l, Q x) → ∃ ll : List (List α), LLI (fun b => b < w.heap.size) w f s vs ll ∧ ∀ l ∈ ll, ∀ x ∈ l, Q x := by
    intro vs
    induction vs with
    | nil => intro _; exact ⟨[], LLI.nil, by simp⟩
    | cons y vs ih =>
      intro h
      obtain ⟨l, hl1, hl2⟩ := h y (by simp)
      obtain ⟨ll, h5, h6⟩ := ih (fun z hz => h z (by simp [hz]))
      refine ⟨l :: ll, LLI.cons hl1 h5, fun m hm => ?_⟩
      rcases List.mem_cons.1 hm with rfl | hm
      · exact hl2
      · exact h6 m hm
  obtain ⟨ll, h5, h6⟩ := key vs hq
  exact ⟨ll, ⟨vs, ⟨b, o, vE_len, by decide, h1, h2, h3⟩, h5⟩, h6⟩
end
end Go.Proofs.Ytheopcgjdfckmaa.Sx

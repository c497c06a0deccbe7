/- Slices of the calls' own: tokens of rows; their operations. -/
import Derived.Test.YtheopcgjdfckmaaSxf
import Derived.Laws.AppendOwn
import Derived.Great.BuildSlice
namespace Go.Proofs.Ytheopcgjdfckmaa.Sx
open Go
set_option linter.unusedVariables false

/-! ### 13. Rows -/
/-- The value v leads to n elements of `size` cells, xs, and owns them. -/
def rowRes (v : Value) (T : TypeId) (size n : Nat) (xs : List Value) : Res where
  holds w F := (∀ x, F x ↔ v.ownBlock = some x) ∧ w.ownsRow 0 T size v n xs
  loc := by
    intro w w' F hw h
    refine ⟨h.1, h.2.1, ?_⟩
    rcases h.2.2 with h0 | ⟨g, cap, cur, hv, hb, hg, r⟩
    · exact .inl h0
    · exact .inr ⟨g, cap, cur, hv, hb, (hw g ((h.1 g).2 (by rw [hv]; rfl))).trans hg, r⟩
  lt := by
    intro w F b h hb
    exact (h.2.lt b ((h.1 b).1 hb)).2
def row (k : Nat) (T : TypeId) (size n : Nat) (xs : List Value) : Tok where
  ks := [k]
  r β := rowRes (one1 (β k).v) T size n xs
  sup h := by rename_i β β'; rw [h k (by simp)]

theorem ownsRow_cases {w : World} {T : TypeId} {size n : Nat} {v : Value} {xs : List Value} (h : w.ownsRow 0 T size v n xs) (hn : 0 < n) : ∃ g cap cur, v = .slice (some ⟨g, 0, none⟩) n cap ∧ w.heap[g]? = some (.cells cur T (0, 0)) ∧ n ≤ cap ∧ cap ≤ maxLen ∧ cur.size = cap * size ∧ cur.toList.take (n * size) = xs := by
  rcases h.2 with ⟨_, h0⟩ | ⟨g, cap, cur, hv, _, hg, h1, h2, h3, h4⟩
  · omega
  · exact ⟨g, cap, cur, hv, hg, h1, h2, h3, h4⟩
theorem one1_row {w : World} {T : TypeId} {size n : Nat} {v : Value} {xs : List Value} (h : w.ownsRow 0 T size (one1 v) n xs) : one1 v = v := by
  unfold one1
  split
  · rfl
  · rename_i hv
    rcases h.2 with ⟨h1, _⟩ | ⟨g, cap, cur, h1, _⟩ <;> (simp only [one1, hv] at h1; cases h1)

/-! ### 13b. What may be read: a slice's elements under some token -/
structure Vw where
  k : Nat
  t : Tok
  s : Cl
  pt : Nat → Cl
  m : Nat
  size : Nat
  xs : List Value
/-- What a view says where its token holds. -/
def Vw.At (V : Vw) (β : Env) (w : World) : Prop := V.xs.length = V.m * V.size ∧ ∃ ao cap, V.s.den β = .slice ao V.m cap ∧
  (0 < V.m → ∃ b o, ao = some ⟨b, o, none⟩ ∧ (∀ off, off < V.m * V.size → (V.pt off).den β = ptr b (o + off)) ∧ ∀ j u, V.xs[j]? = some u → w.cell? ⟨b, o + j, none⟩ = some u)
def Vw.Ok (V : Vw) : Prop := ∀ (β : Env) (w : World) (F : Foot), (V.t.r β).holds w F → V.At β w
def rowV (k : Nat) (T : TypeId) (size m : Nat) (xs : List Value) : Vw := ⟨k, row k T size m xs, .nv k, .rp k, m, size, xs⟩
def subV (k : Nat) (T : TypeId) (size m : Nat) (xs : List Value) (l h : Nat) : Vw := ⟨k, row k T size m xs, .rs k l h size, fun o => .rp k (l * size + o), h - l, size, (xs.drop (l * size)).take ((h - l) * size)⟩
def blkV (k : Nat) (T : TypeId) (size q c : Nat) (xs : List Value) : Vw := ⟨k, blk k (xs.map .v) T, .sl k 0 q c, .p k, q, size, xs⟩

theorem ownsRow_cell {w : World} {T : TypeId} {size n : Nat} {g cap : Nat} {xs : List Value} (h : w.ownsRow 0 T size (.slice (some ⟨g, 0, none⟩) n cap) n xs) : ∀ j u, xs[j]? = some u → w.cell? ⟨g, j, none⟩ = some u := by
  intro j u hj
  rcases h.2 with ⟨h0, _⟩ | ⟨g', cap', cur, hv, _, hg, h1, h2, h3, h4⟩
  · cases h0
  · cases hv
    rw [← h4, List.getElem?_take] at hj
    split at hj
    · simp only [World.cell?, hg]; simpa using hj
    · cases hj
theorem rowV_ok (k : Nat) (T : TypeId) (size m : Nat) (xs : List Value) : (rowV k T size m xs).Ok := by
  intro β w F h
  have h2 : w.ownsRow 0 T size (one1 (β k).v) m xs := h.2
  refine ⟨h2.1, ?_⟩
  by_cases hm : 0 < m
  · obtain ⟨g, cap, cur, hv, hg, h1, h3, h4, h5⟩ := ownsRow_cases h2 hm
    refine ⟨some ⟨g, 0, none⟩, cap, hv, fun _ => ⟨g, 0, rfl, fun off _ => ?_, fun j u hj => ?_⟩⟩
    · have e := one1_row h2
      rw [e] at hv
      show rowPtr off (β k).v = _
      rw [hv, Nat.zero_add]; rfl
    · rw [hv] at h2; rw [Nat.zero_add]; exact ownsRow_cell h2 j u hj
  · have : ∃ ao cap, one1 (β k).v = .slice ao m cap := by
      rcases h2.2 with ⟨h0, h4⟩ | ⟨g, cap, cur, hv, _⟩
      · exact ⟨none, 0, by rw [h0, h4]⟩
      · exact ⟨_, cap, hv⟩
    obtain ⟨ao, cap, h3⟩ := this
    exact ⟨ao, cap, h3, fun h => absurd h hm⟩
theorem subV_ok (k : Nat) (T : TypeId) (size m : Nat) (xs : List Value) {l h : Nat} (hl : l ≤ h) (hh : h ≤ m) : (subV k T size m xs l h).Ok := by
  intro β w F hh'
  have h2 : w.ownsRow 0 T size (one1 (β k).v) m xs := hh'.2
  have e := one1_row h2
  refine ⟨?_, ?_⟩
  · simp only [subV, List.length_take, List.length_drop, h2.1]
    rw [Nat.min_eq_left]
    rw [← Nat.sub_mul]; exact Nat.mul_le_mul_right _ (by omega)
  by_cases hm : 0 < h - l
  · obtain ⟨g, cap, cur, hv, hg, h1, h3, h4, h5⟩ := ownsRow_cases h2 (by omega)
    have hv' := hv
    rw [e] at hv'
    have hne : ¬ cap = l := by omega
    have hadd : (⟨g, 0, none⟩ : Addr).add (l * size) = ⟨g, l * size, none⟩ := by
      unfold Addr.add
      split
      · rename_i h0; rw [h0]
      · simp
    refine ⟨some ⟨g, l * size, none⟩, cap - l, ?_, fun _ => ⟨g, l * size, rfl, fun off _ => ?_, fun j u hj => ?_⟩⟩
    · show partOf l h size (β k).v = _
      rw [hv']
      simp only [partOf, if_neg hne, Option.map_some, hadd]; rfl
    · show rowPtr _ (β k).v = _
      rw [hv']; rfl
    · rw [hv] at h2
      refine ownsRow_cell h2 _ u ?_
      simp only [subV, List.getElem?_take, List.getElem?_drop] at hj
      split at hj
      · exact hj
      · cases hj
  · have : ∃ ao cap, one1 (β k).v = .slice ao m cap := by
      rcases h2.2 with ⟨h0, h4⟩ | ⟨g, cap, cur, hv, _⟩
      · exact ⟨none, 0, by rw [h0, h4]⟩
      · exact ⟨_, cap, hv⟩
    obtain ⟨ao, cap, h3⟩ := this
    rw [e] at h3
    exact ⟨_, cap - l, (by show partOf l h size (β k).v = _; rw [h3]; rfl), fun h => absurd h hm⟩
theorem blkV_ok (k : Nat) (T : TypeId) (size q c : Nat) (xs : List Value) (hl : xs.length = q * size) : (blkV k T size q c xs).Ok := by
  intro β w F h
  have h2 := h.2
  refine ⟨hl, some ⟨(β k).b, 0, none⟩, c, rfl, fun _ => ⟨_, 0, rfl, fun off _ => by rw [Nat.zero_add]; rfl, fun j u hj => ?_⟩⟩
  rw [Nat.zero_add]
  simp only [World.cell?, h2]
  simp only [blkV] at hj
  simp [Cl.den, hj]

section
variable {P : Program} {n : Nat} {ops : Array Oper} {rest : List Oper} {fs fs' : FL} {L L' : TL} {ss : List Step}

/-- An operation that yields a value, reads tokens, and leaves memory alone. -/
theorem Run.pureR {o : Oper} {d : Nat} {gr : FL} (l : List (Operand × SV)) (x : SV) (tr : List (Nat × Tok)) (hd : o.dst = some d) (hg : Gd ops o fs gr) (hev : ∀ p ∈ l, ev fs p.1 = some p.2) (htk : ∀ p ∈ tr, lkT L p.1 = some p.2) (hnd : (tr.map (·.1)).Nodup) (hn : Nat.blt d n = true)
    (hr : ∀ (β : Env) (ρ : Operand → Value) (w : World) (F : Foot), Star (tr.map fun p => p.2.r β) w F → (∀ p ∈ l, ρ p.1 = p.2.den β) → (execOp ρ o).run P w = .ok (.value (x.den β)) w)
    (h : Run P n ops rest ((d, x) :: fs) L ss fs' L') : Run P n ops (o :: rest) fs L (⟨gr ++ opds l, some d, x, tr, [], [], []⟩ :: ss) fs' L' := by
  refine Run.cons ?_ ?_ ?_ (fun k => ?_) h
  · intro β a w G K Q hrs hsz hst hK
    have hw := hg.wanted hrs hsz
    unfold opW Oper.wp
    rw [if_pos hw, hr β a.eval w G (by simpa using hst) (opds_eval hg hev hrs), Oper.upon_value, hd]
    exact hK β w G (fun _ _ => rfl) hst (fun b hb => .inl hb) (Mod.refl _ _)
  · refine ⟨fun t y hy => ?_, fun d' hd' => ?_, fun p hp => htk p (by simpa using hp), by simpa using hnd, by simpa using hnd, fun p hp => by simp at hp, fun k hk => by simp at hk, fun _ _ _ _ _ h => by simp at h, fun _ _ _ _ _ _ h => by simp at h⟩
    · rw [lk_append] at hy
      cases hx : lk gr t with
      | some z => rw [hx] at hy; simp at hy; subst hy; exact hg.fs hx
      | none => rw [hx] at hy; simp at hy; exact opds_fs hev hy
    · simp at hd'; subst hd'
      rw [Nat.blt_eq] at hn
      exact hn
  · simp only [Step.outF, lk_cons]
  · rfl

theorem Vw.here {V : Vw} (hV : V.Ok) {β : Env} {w : World} {F : Foot} (hs : Star ([(V.k, V.t)].map fun p => p.2.r β) w F) : V.At β w := hV β w F (Star_one.1 hs)
theorem cell_load1 {T : TypeId} {z : Value} (h : Ty1 P T z) {w : World} {b off : Nat} {v : Value} (hv : w.cell? ⟨b, off, none⟩ = some v) :
    (Instr.loadAt T (.pointer (some ⟨b, off, none⟩))).run P w = .ok v w := by
  unfold Instr.loadAt Instr.sureAddr
  simp only [Sem.run_bind, Sem.run_pure, Result.andThen_ok]
  unfold loadVar
  rw [run_bind_ok (h.agg w)]
  simp only [Bool.false_eq_true, if_false, load, Sem.run, hv]
theorem cell_loadS {T : TypeId} {n : Nat} {fl : List (Nat × Nat × TypeId)} {zs : List Value} (h : TyS P T n fl zs) {w : World} {b off : Nat} {ys : List Value} (hl : ys.length = n) (hv : ∀ j u, ys[j]? = some u → w.cell? ⟨b, off + j, none⟩ = some u) :
    (Instr.loadAt T (.pointer (some ⟨b, off, none⟩))).run P w = .ok (.agg ys.toArray) w := by
  unfold Instr.loadAt Instr.sureAddr
  simp only [Sem.run_bind, Sem.run_pure, Result.andThen_ok]
  unfold loadVar
  rw [run_bind_ok (h.agg w)]
  simp only [if_true]
  rw [run_bind_ok (h.size w)]
  have := run_loadCells_list (P := P) w ⟨b, off, none⟩ ys (fun j v hj => by
    have e : (⟨b, off, none⟩ : Addr).add j = ⟨b, off + j, none⟩ := by unfold Addr.add; split <;> simp_all
    rw [e]; exact hv j v hj)
  rw [hl] at this
  rw [run_bind_ok this]; rfl

theorem Run.lenV (V : Vw) {d : Nat} {x : Operand} {t : TypeId} {ty : TypeId} {pos : String} {after : Array Edge} {g : Option (Nat × Bool)} {gr : FL} {e : TypeId} (hV : V.Ok) (hg : Gd ops ⟨some d, .call ⟨.builtin .len, #[x], #[t]⟩, ty, pos, after, g⟩ fs gr)
    (hx : ev fs x = some (.a (.c V.s))) (hl : lkT L V.k = some V.t) (hu : P.underlying t = some (.slice e)) (hn : Nat.blt d n = true)
    (h : Run P n ops rest ((d, SV.i V.m) :: fs) L ss fs' L') : Run P n ops (⟨some d, .call ⟨.builtin .len, #[x], #[t]⟩, ty, pos, after, g⟩ :: rest) fs L (⟨gr ++ opds [(x, .a (.c V.s))], some d, SV.i V.m, [(V.k, V.t)], [], [], []⟩ :: ss) fs' L' :=
  Run.pureR [(x, .a (.c V.s))] (SV.i V.m) [(V.k, V.t)] rfl hg (fun p hp => by simp at hp; subst hp; exact hx) (fun p hp => by simp at hp; subst hp; exact hl) (by simp) hn (fun β ρ w F hs hρ => by
    have h1 : ρ x = V.s.den β := hρ (x, .a (.c V.s)) (by simp)
    obtain ⟨_, ao, cap, h3, _⟩ := V.here hV hs
    simp only [execOp, resolve, Sem.run_bind, Sem.run_pure, Result.andThen_ok, invoke, List.map_toArray, List.map_cons, List.map_nil, h1, h3]
    exact lenS hu _ w) h
theorem Run.idxV (V : Vw) (off : Nat) {d : Nat} {t : TypeId} {x i : Operand} {ty : TypeId} {pos : String} {after : Array Edge} {g : Option (Nat × Bool)} {gr : FL} {e : TypeId} {ix : Int} (hV : V.Ok) (hg : Gd ops ⟨some d, .indexAddr t x i, ty, pos, after, g⟩ fs gr)
    (hx : ev fs x = some (.a (.c V.s))) (hi : ev fs i = some (SV.i ix)) (hl : lkT L V.k = some V.t) (hu : P.underlying t = some (.slice e)) (hsz : ∀ w : World, (sizeOf e).run P w = .ok V.size w) (hsp : Nat.blt 0 V.size = true) (h0 : 0 ≤ ix) (h1 : ix < V.m) (ho : ix.toNat * V.size = off) (hn : Nat.blt d n = true)
    (h : Run P n ops rest ((d, .a (.c (V.pt off))) :: fs) L ss fs' L') : Run P n ops (⟨some d, .indexAddr t x i, ty, pos, after, g⟩ :: rest) fs L (⟨gr ++ opds [(x, .a (.c V.s)), (i, SV.i ix)], some d, .a (.c (V.pt off)), [(V.k, V.t)], [], [], []⟩ :: ss) fs' L' :=
  Run.pureR [(x, .a (.c V.s)), (i, SV.i ix)] (.a (.c (V.pt off))) [(V.k, V.t)] rfl hg (fun p hp => by simp at hp; rcases hp with rfl | rfl <;> assumption) (fun p hp => by simp at hp; subst hp; exact hl) (by simp) hn (fun β ρ w F hs hρ => by
    have e1 : ρ x = V.s.den β := hρ (x, .a (.c V.s)) (by simp)
    have e2 : ρ i = .int .i64 ix := hρ (i, SV.i ix) (by simp)
    obtain ⟨hxl, ao, cap, hv, hp⟩ := V.here hV hs
    obtain ⟨b, o, rfl, hpt, _⟩ := hp (by omega)
    rw [Nat.blt_eq] at hsp
    have hlt : off < V.m * V.size := by
      rw [← ho]
      have : ix.toNat + 1 ≤ V.m := by omega
      have := Nat.mul_le_mul_right V.size this
      rw [Nat.add_mul] at this; omega
    have hr : (Instr.indexAt t (.slice (some ⟨b, o, none⟩) V.m cap) (.int .i64 ix)).run P w = .ok (ptr b (o + off)) w := by
      unfold Instr.indexAt
      simp only [asIntOf, Sem.run_bind, Sem.run_pure, Result.andThen_ok, run_und hu, hsz, h0, h1, and_self, if_true]
      subst ho
      simp only [ptr, Addr.add]
      by_cases hz : ix.toNat * V.size = 0
      · simp [hz]
      · simp [hz]
    have e3 : ρ x = .slice (some ⟨b, o, none⟩) V.m cap := by rw [e1, hv]
    simp only [execOp, e3, e2]
    rw [run_bind_ok hr]
    show _ = Result.ok (Next.value ((V.pt off).den β)) w
    rw [hpt off hlt]; rfl) h
theorem Run.fieldV (Y : Tys P) (V : Vw) (off : Nat) {d : Nat} {s : TypeId} {x : Operand} {f : Nat} {ty : TypeId} {pos : String} {after : Array Edge} {g : Option (Nat × Bool)} {gr : FL} {N fo fsz : Nat} {ft : TypeId} {fl : List (Nat × Nat × TypeId)} {zs : List Value} (hV : V.Ok) (hg : Gd ops ⟨some d, .fieldAddr s x f, ty, pos, after, g⟩ fs gr)
    (hx : ev fs x = some (.a (.c (V.pt off)))) (hl : lkT L V.k = some V.t) (hm : off + fo < V.m * V.size) (hT : Y.f s = .st N fl zs) (hf : fl[f]? = some (fo, fsz, ft)) (hn : Nat.blt d n = true)
    (h : Run P n ops rest ((d, .a (.c (V.pt (off + fo)))) :: fs) L ss fs' L') : Run P n ops (⟨some d, .fieldAddr s x f, ty, pos, after, g⟩ :: rest) fs L (⟨gr ++ opds [(x, .a (.c (V.pt off)))], some d, .a (.c (V.pt (off + fo))), [(V.k, V.t)], [], [], []⟩ :: ss) fs' L' :=
  Run.pureR [(x, .a (.c (V.pt off)))] (.a (.c (V.pt (off + fo)))) [(V.k, V.t)] rfl hg (fun p hp => by simp at hp; subst hp; exact hx) (fun p hp => by simp at hp; subst hp; exact hl) (by simp) hn (fun β ρ w F hs hρ => by
    have e1 : ρ x = (V.pt off).den β := hρ (x, .a (.c (V.pt off))) (by simp)
    obtain ⟨hxl, ao, cap, hv, hp⟩ := V.here hV hs
    have hpos : 0 < V.m := by
      rcases Nat.eq_zero_or_pos V.m with h | h
      · rw [h, Nat.zero_mul] at hm; omega
      · exact h
    obtain ⟨b, o, rfl, hpt, _⟩ := hp hpos
    have hS : TyS P s N fl zs := by have := Y.ok s; rw [hT] at this; exact this
    rw [hpt off (by omega)] at e1
    simp only [execOp, e1, ptr]
    rw [run_bind_ok (hS.fld f fo fsz ft b (o + off) w hf)]
    show _ = Result.ok (Next.value ((V.pt (off + fo)).den β)) w
    rw [hpt (off + fo) hm, ptr, Nat.add_assoc]; rfl) h
theorem Run.nilV (V : Vw) (off : Nat) {d : Nat} {x : Operand} {ty : TypeId} {pos : String} {after : Array Edge} {g : Option (Nat × Bool)} {gr : FL} (hV : V.Ok) (hg : Gd ops ⟨some d, .nilCheck x, ty, pos, after, g⟩ fs gr)
    (hx : ev fs x = some (.a (.c (V.pt off)))) (hl : lkT L V.k = some V.t) (hm : off < V.m * V.size) (hn : Nat.blt d n = true)
    (h : Run P n ops rest ((d, .a (.c (V.pt off))) :: fs) L ss fs' L') : Run P n ops (⟨some d, .nilCheck x, ty, pos, after, g⟩ :: rest) fs L (⟨gr ++ opds [(x, .a (.c (V.pt off)))], some d, .a (.c (V.pt off)), [(V.k, V.t)], [], [], []⟩ :: ss) fs' L' :=
  Run.pureR [(x, .a (.c (V.pt off)))] (.a (.c (V.pt off))) [(V.k, V.t)] rfl hg (fun p hp => by simp at hp; subst hp; exact hx) (fun p hp => by simp at hp; subst hp; exact hl) (by simp) hn (fun β ρ w F hs hρ => by
    have e1 : ρ x = (V.pt off).den β := hρ (x, .a (.c (V.pt off))) (by simp)
    obtain ⟨hxl, ao, cap, hv, hp⟩ := V.here hV hs
    have hpos : 0 < V.m := by
      rcases Nat.eq_zero_or_pos V.m with h | h
      · rw [h, Nat.zero_mul] at hm; omega
      · exact h
    obtain ⟨b, o, rfl, hpt, _⟩ := hp hpos
    show _ = Result.ok (Next.value ((V.pt off).den β)) w
    rw [hpt off hm] at e1 ⊢
    simp only [execOp, e1, ptr]; rfl) h
/-- A pointer into a slice against nil. -/
theorem Run.eqnilV (V : Vw) (off : Nat) {d : Nat} {op : BinOp} {t ty' : TypeId} {x z : Operand} {ty : TypeId} {pos : String} {after : Array Edge} {g : Option (Nat × Bool)} {gr : FL} {B : Bool} (hV : V.Ok) (hg : Gd ops ⟨some d, .binOp op t x z ty', ty, pos, after, g⟩ fs gr)
    (hx : ev fs x = some (.a (.c (V.pt off)))) (hz : ev fs z = some (SV.raw (.pointer none))) (hl : lkT L V.k = some V.t) (hm : off < V.m * V.size) (hr : ∀ a w, (do eqGuard op t x z (.pointer (some a)) (.pointer none); binOp op t (.pointer (some a)) (.pointer none) : Sem Value).run P w = .ok (.bool B) w) (hn : Nat.blt d n = true)
    (h : Run P n ops rest ((d, SV.b B) :: fs) L ss fs' L') : Run P n ops (⟨some d, .binOp op t x z ty', ty, pos, after, g⟩ :: rest) fs L (⟨gr ++ opds [(x, .a (.c (V.pt off))), (z, SV.raw (.pointer none))], some d, SV.b B, [(V.k, V.t)], [], [], []⟩ :: ss) fs' L' :=
  Run.pureR [(x, .a (.c (V.pt off))), (z, SV.raw (.pointer none))] (SV.b B) [(V.k, V.t)] rfl hg (fun p hp => by simp at hp; rcases hp with rfl | rfl <;> assumption) (fun p hp => by simp at hp; subst hp; exact hl) (by simp) hn (fun β ρ w F hs hρ => by
    have h1 : ρ x = (V.pt off).den β := hρ (x, .a (.c (V.pt off))) (by simp)
    have h2 : ρ z = .pointer none := hρ (z, SV.raw (.pointer none)) (by simp)
    obtain ⟨hxl, ao, cap, hv, hp⟩ := V.here hV hs
    have hpos : 0 < V.m := by
      rcases Nat.eq_zero_or_pos V.m with h | h
      · rw [h, Nat.zero_mul] at hm; omega
      · exact h
    obtain ⟨b, o, rfl, hpt, _⟩ := hp hpos
    rw [hpt off hm] at h1
    simp only [execOp, h1, h2, ptr]
    rw [run_bind_ok (hr _ w)]; rfl) h
theorem Run.load1V (Y : Tys P) (V : Vw) (off : Nat) {d : Nat} {T' : TypeId} {x : Operand} {ty : TypeId} {pos : String} {after : Array Edge} {g : Option (Nat × Bool)} {gr : FL} {z v : Value} (hV : V.Ok) (hg : Gd ops ⟨some d, .load T' x, ty, pos, after, g⟩ fs gr)
    (hx : ev fs x = some (.a (.c (V.pt off)))) (hl : lkT L V.k = some V.t) (hT : Y.f T' = .one z) (hv : V.xs[off]? = some v) (hn : Nat.blt d n = true)
    (h : Run P n ops rest ((d, SV.raw v) :: fs) L ss fs' L') : Run P n ops (⟨some d, .load T' x, ty, pos, after, g⟩ :: rest) fs L (⟨gr ++ opds [(x, .a (.c (V.pt off)))], some d, SV.raw v, [(V.k, V.t)], [], [], []⟩ :: ss) fs' L' :=
  Run.pureR [(x, .a (.c (V.pt off)))] (SV.raw v) [(V.k, V.t)] rfl hg (fun p hp => by simp at hp; subst hp; exact hx) (fun p hp => by simp at hp; subst hp; exact hl) (by simp) hn (fun β ρ w F hs hρ => by
    have e1 : ρ x = (V.pt off).den β := hρ (x, .a (.c (V.pt off))) (by simp)
    obtain ⟨hxl, ao, cap, hs', hp⟩ := V.here hV hs
    have hlt := (List.getElem?_eq_some_iff.1 hv).1
    rw [hxl] at hlt
    have hpos : 0 < V.m := by
      rcases Nat.eq_zero_or_pos V.m with h | h
      · rw [h, Nat.zero_mul] at hlt; omega
      · exact h
    obtain ⟨b, o, rfl, hpt, hc⟩ := hp hpos
    have hty : Ty1 P T' z := by have := Y.ok T'; rw [hT] at this; exact this
    rw [hpt off hlt] at e1
    simp only [execOp, e1, ptr]
    rw [run_bind_ok (cell_load1 hty (hc off v hv))]; rfl) h
theorem Run.loadSV (Y : Tys P) (V : Vw) (off : Nat) (ys : List Value) {d : Nat} {T' : TypeId} {x : Operand} {ty : TypeId} {pos : String} {after : Array Edge} {g : Option (Nat × Bool)} {gr : FL} {N : Nat} {fl : List (Nat × Nat × TypeId)} {zs : List Value} (hV : V.Ok) (hg : Gd ops ⟨some d, .load T' x, ty, pos, after, g⟩ fs gr)
    (hx : ev fs x = some (.a (.c (V.pt off)))) (hl : lkT L V.k = some V.t) (hT : Y.f T' = .st N fl zs) (hv : (V.xs.drop off).take N = ys) (hN : Nat.blt 0 N = true) (hle : off + N ≤ V.xs.length) (hn : Nat.blt d n = true)
    (h : Run P n ops rest ((d, .a (.agg (ys.map .v))) :: fs) L ss fs' L') : Run P n ops (⟨some d, .load T' x, ty, pos, after, g⟩ :: rest) fs L (⟨gr ++ opds [(x, .a (.c (V.pt off)))], some d, .a (.agg (ys.map .v)), [(V.k, V.t)], [], [], []⟩ :: ss) fs' L' :=
  Run.pureR [(x, .a (.c (V.pt off)))] (.a (.agg (ys.map .v))) [(V.k, V.t)] rfl hg (fun p hp => by simp at hp; subst hp; exact hx) (fun p hp => by simp at hp; subst hp; exact hl) (by simp) hn (fun β ρ w F hs hρ => by
    have e1 : ρ x = (V.pt off).den β := hρ (x, .a (.c (V.pt off))) (by simp)
    obtain ⟨hxl, ao, cap, hs', hp⟩ := V.here hV hs
    rw [Nat.blt_eq] at hN
    have hlt : off < V.m * V.size := by omega
    have hpos : 0 < V.m := by
      rcases Nat.eq_zero_or_pos V.m with h | h
      · rw [h, Nat.zero_mul] at hlt; omega
      · exact h
    obtain ⟨b, o, rfl, hpt, hc⟩ := hp hpos
    have hty : TyS P T' N fl zs := by have := Y.ok T'; rw [hT] at this; exact this
    rw [hpt off hlt] at e1
    simp only [execOp, e1, ptr]
    have hyl : ys.length = N := by rw [← hv]; simp; omega
    rw [run_bind_ok (cell_loadS hty hyl (b := b) (off := o + off) (fun j u hj => by
      rw [Nat.add_assoc]
      refine hc (off + j) u ?_
      rw [← hv, List.getElem?_take, List.getElem?_drop] at hj
      split at hj
      · exact hj
      · cases hj))]
    simp only [SV.den, Av.den, List.map_map, Function.comp_def, Cl.den, List.map_id_fun', id]; rfl) h
/-- A pointer into a row is one. -/
theorem rp_ptr {β : Env} {k : Nat} {T : TypeId} {size m : Nat} {xs : List Value} {w : World} {F : Foot} (hs : Star ([(k, row k T size m xs)].map fun p => p.2.r β) w F) (hm : 0 < m) :
    ∃ g cap cur, (β k).v = .slice (some ⟨g, 0, none⟩) m cap ∧ w.heap[g]? = some (.cells cur T (0, 0)) ∧ m ≤ cap ∧ cur.size = cap * size ∧ cur.toList.take (m * size) = xs ∧ (∀ x, F x ↔ x = g) ∧ cap ≤ maxLen := by
  have h2 := Star_one.1 hs
  obtain ⟨b, cap, cur, hv, hg, h1, h5, h3, h4⟩ := ownsRow_cases h2.2 hm
  refine ⟨b, cap, cur, by rw [← one1_row h2.2]; exact hv, hg, h1, h3, h4, fun x => ?_, h5⟩
  rw [h2.1 x, hv]
  simp [Value.ownBlock]; exact ⟨Eq.symm, Eq.symm⟩
theorem toArr (cur : Array Value) : cur = cur.toList.toArray := by simp
theorem take_get {l : List Value} {k i : Nat} {v : Value} (h : (l.take k)[i]? = some v) : l[i]? = some v := by
  rw [List.getElem?_take] at h; split at h
  · exact h
  · cases h
theorem take_splice {α : Type} (l : List α) (N off : Nat) (ys : List α) (h : off + ys.length ≤ N) (hN : N ≤ l.length) : (l.take off ++ ys ++ l.drop (off + ys.length)).take N = (l.take N).take off ++ ys ++ (l.take N).drop (off + ys.length) := by
  have e : (l.take off ++ ys).length = off + ys.length := by simp; omega
  rw [List.take_append, List.take_of_length_le (by omega), e, List.take_take, Nat.min_eq_left (by omega), List.drop_take]
theorem Run.rpStore (Y : Tys P) (ys xs' : List Value) {T' : TypeId} {x v : Operand} {ty : TypeId} {pos : String} {after : Array Edge} {g : Option (Nat × Bool)} {gr : FL} {k off : Nat} {y : Av} {ti : TyI} {T : TypeId} {size m : Nat} {xs : List Value} (hg : Gd ops ⟨none, .store T' x v, ty, pos, after, g⟩ fs gr)
    (hx : ev fs x = some (.a (.c (.rp k off)))) (hy : ev fs v = some (.a y)) (hl : lkT L k = some (row k T size m xs)) (hm : 0 < m) (hY : Y.f T' = ti) (hc : y.cl = ys.map .v) (hT : ys.length = tsize ti) (hnz : Nat.blt 0 (tsize ti) = true) (h1 : ∀ z ∈ ys, z.oneCell' = true) (hle : off + ys.length ≤ xs.length)
    (hxs : xs.take off ++ ys ++ xs.drop (off + ys.length) = xs')
    (h : Run P n ops rest fs ((k, some (row k T size m xs')) :: L) ss fs' L') : Run P n ops (⟨none, .store T' x v, ty, pos, after, g⟩ :: rest) fs L (⟨gr ++ opds [(x, .a (.c (.rp k off))), (v, .a y)], none, SV.raw undef, [], [(k, row k T size m xs)], [(k, row k T size m xs')], []⟩ :: ss) fs' L' := by
  have hev : ∀ p ∈ [(x, SV.a (.c (.rp k off))), (v, .a y)], ev fs p.1 = some p.2 := fun p hp => by simp at hp; rcases hp with rfl | rfl <;> assumption
  subst hY
  have hs : ∀ w : World, (sizeOf T').run P w = .ok ys.length w := by
    intro w
    have := Y.ok T'
    rw [hT]
    rw [Nat.blt_eq] at hnz
    cases hq : Y.f T' with
    | one z => rw [hq] at this; exact this.size w
    | st N fl zs => rw [hq] at this; exact this.size w
    | none => rw [hq] at hnz; simp [tsize] at hnz
  refine Run.cons ?_ ?_ ?_ (fun j => ?_) h
  · intro β a w G K Q hrs hsz hst hK
    have hw := hg.wanted hrs hsz
    have e1 : a.eval x = rowPtr off (β k).v := opds_eval hg hev hrs (x, .a (.c (.rp k off))) (by simp)
    have e2 : a.eval v = y.den β := opds_eval hg hev hrs (v, .a y) (by simp)
    have hst' : Star ([(k, row k T size m xs)].map fun p => p.2.r β) w G := hst
    obtain ⟨b, cap, cur, hv', hg', h2, h3, h4, hF, hcm⟩ := rp_ptr hst' hm
    have hd : (y.den β).cells = ys.toArray := by
      rw [Av.den_cells (by rw [hc]; simp [Cl.ok1]; exact h1) β, hc]
      simp [Function.comp_def, Cl.den]
    have hlen : xs.length ≤ cur.toList.length := by rw [← h4]; simp; omega
    have hg2 := hg'
    rw [toArr cur] at hg2
    have h5 := run_storeC hs hg2 (off := off) (v := y.den β) (ys := ys) hd rfl (by omega) h1
    unfold opW Oper.wp
    rw [if_pos hw]
    simp only [execOp, e1, e2, hv', rowPtr, ptr]
    rw [run_bind_ok h5]
    refine hK β _ G (fun _ _ => rfl) (Star_one.2 ⟨?_, ?_⟩) (fun b hb => .inl hb) ((storeMod hg2 _).weaken (fun b _ hb => (hF b).2 hb))
    · exact (Star_one.1 hst').1
    · have h0 := (Star_one.1 hst').2
      have e3 : one1 (β k).v = .slice (some ⟨b, 0, none⟩) m cap := by rw [one1_row h0]; exact hv'
      rw [e3]
      refine ⟨?_, .inr ⟨b, cap, _, rfl, Nat.zero_le _, setRow_heap w b cur _ _ _ hg', h2, hcm, ?_, ?_⟩⟩
      · have := h0.1
        rw [← hxs]; simp; omega
      · simp; simp at hlen; omega
      · rw [← hxs, ← h4]
        have hxl : xs.length = m * size := h0.1
        exact take_splice _ _ _ _ (by omega) (by omega)
  · refine ⟨fun t y hy => ?_, fun d' hd' => by simp at hd', fun p hp => by simp at hp; subst hp; exact hl, by simp, by simp, fun p hp => by simp at hp; subst hp; exact .inl (by simp), fun k hk => by simp at hk, fun _ _ _ _ _ h => by simp at h, fun _ _ _ _ _ _ h => by simp at h⟩
    rw [lk_append] at hy
    cases hx' : lk gr t with
    | some z => rw [hx'] at hy; simp at hy; subst hy; exact hg.fs hx'
    | none => rw [hx'] at hy; simp at hy; exact opds_fs hev hy
  · simp only [Step.outF]
  · rw [lkT_cons, Step.outM_eq]
    by_cases e : j = k
    · subst e; simp [lkP]
    · simp [lkP, e, upd]

/-- What a slice's elements are. -/
def elB (P : Program) (t e size bytes : Nat) : Bool := match P.underlying t, P.info? e with
  | some (.slice e'), some i => e' == e && i.size == size && i.bytes == bytes && size != 0 && (match i.zero with | some z => z.cells.size == size && z.cells.all Value.oneCell' | none => false)
  | _, _ => false
structure El (P : Program) (t e size bytes : Nat) : Prop where
  und : P.underlying t = some (.slice e)
  ex : ∃ i z, P.info? e = some i ∧ i.zero = some z ∧ i.size = size ∧ i.bytes = bytes ∧ z.cells.size = size
  pos : 0 < size
theorem el_of {P : Program} {t e size bytes : Nat} (h : elB P t e size bytes = true) : El P t e size bytes := by
  unfold elB at h
  split at h
  · rename_i e' i hu hi
    simp only [Bool.and_eq_true, beq_iff_eq, bne_iff_ne] at h
    obtain ⟨⟨⟨⟨h1, h2⟩, h3⟩, h4⟩, h5⟩ := h
    subst h1
    split at h5
    · rename_i z hz
      simp only [Bool.and_eq_true, beq_iff_eq] at h5
      exact ⟨hu, ⟨i, z, hi, hz, h2, h3, h5.1⟩, by omega⟩
    · cases h5
  · cases h
theorem El.size_run {t e size bytes : Nat} (h : El P t e size bytes) (w : World) : (sizeOf e).run P w = .ok size w := by
  obtain ⟨i, z, h1, _, h2, _⟩ := h.ex
  unfold sizeOf
  rw [run_bind_ok (run_info h1 w), h2]; rfl

theorem drewMod (F : Foot) (w : World) (o : Obj) : Mod F w (w.drew.alloc o) :=
  ⟨rfl, rfl, rfl, by simp, fun k hk _ => by rw [Go.RowKit.Below.heap_alloc _ _ _ (by simpa using hk)]; rfl⟩
theorem zeroCells_size (z : Array Value) (n : Nat) : (Builtin.zeroCells z n).size = n * z.size := by simp [Builtin.zeroCells]

/-- append onto a row of the call's own: the row is the longer one; its block the old one, or a new one. -/
theorem append_row {t e size bytes : Nat} (hE : El P t e size bytes) {w : World} {v : Value} {m : Nat} {xs : List Value} (hown : w.ownsRow 0 e size v m xs) {a : Addr} {q c ty : Nat} {news : List Value} (hl : news.length = q * size) (hnews : ∀ j u, news[j]? = some u → w.cell? (a.add j) = some u) (h1 : ∀ u ∈ news, u.oneCell' = true) (hq : 0 < q)
    (h63 : m + q ≤ maxLen) (hbytes : (m + q) * bytes ≤ 140737488355328) :
    ∃ v' w', (Builtin.append_ #[t, t] ty #[v, .slice (some a) q c]).run P w = .ok v' w' ∧ w'.ownsRow 0 e size v' (m + q) (xs ++ news) ∧ Mod (fun x => v.ownBlock = some x) w w' ∧ (∀ b, v'.ownBlock = some b → v.ownBlock = some b ∨ w.heap.size ≤ b) ∧ v'.oneCell' = true := by
  obtain ⟨i, z, hi, hz, rfl, rfl, hzs⟩ := hE.ex
  have hsmall : m + q ≤ 9223372036854775807 := by simp only [maxLen] at h63; omega
  have hlen : (xs ++ news).length = (m + q) * i.size := by rw [List.length_append, hown.1, hl, Nat.add_mul]
  have grown : ∀ old : Nat, ∀ cap', m + q ≤ cap' → cap' ≤ maxLen → (w.drew.alloc (.cells (xs.toArray ++ news.toArray ++ Builtin.zeroCells z.cells (cap' - (m + q))) e)).ownsRow 0 e i.size (.slice (some ⟨w.heap.size, 0, none⟩) (m + q) cap') (m + q) (xs ++ news) := by
    intro old cap' hge hle
    refine ⟨hlen, .inr ⟨w.heap.size, cap', _, rfl, Nat.zero_le _, heap_alloc_new w.drew _, hge, hle, ?_, ?_⟩⟩
    · simp only [Array.size_append, List.size_toArray, zeroCells_size, hzs, hown.1, hl, ← Nat.add_mul]
      congr 1; omega
    · simp only [Array.toList_append]
      rw [← hlen]
      exact List.take_left
  rcases hown.2 with ⟨rfl, rfl⟩ | ⟨g, cap, cur, rfl, _, hg, hnc, hcm, hcs, htake⟩
  · have hx : xs = [] := List.eq_nil_of_length_eq_zero (by simpa using hown.1)
    subst hx
    have hr := run_append_nil (P := P) w t ty e i z hE.und hi hz a q c news hl hnews hq (by omega) (by simp only [Nat.zero_add] at hbytes; omega)
    have hgr := grown 0 (grownCap w q 0 e) (by simpa using grownCap_ge w q 0 e) (grownCap_le_maxLen w q 0 e (by omega))
    simp only [Nat.zero_add, List.nil_append] at hgr ⊢
    refine ⟨_, _, hr, ?_, drewMod _ _ _, fun b hb => .inr (by simp [Value.ownBlock] at hb; omega), rfl⟩
    simpa using hgr
  · by_cases hroom : m + q ≤ cap
    · have hfit : m * i.size + news.length ≤ cur.size := by rw [hl, hcs, ← Nat.add_mul]; exact Nat.mul_le_mul_right _ hroom
      have hr := run_append_room (P := P) w t ty e i hE.und hi g m cap cur hg a q c news hl hnews h1 hroom hfit
      refine ⟨_, _, hr, ⟨hlen, .inr ⟨g, cap, _, rfl, Nat.zero_le _, setRow_heap w g cur _ e _ hg, hroom, hcm, ?_, ?_⟩⟩, ?_, fun b hb => .inl hb, rfl⟩
      · simp only [List.size_toArray, List.length_append, List.length_take, List.length_drop, Array.length_toList]
        omega
      · rw [htake, ← hlen]
        exact List.take_left
      · exact ⟨rfl, rfl, rfl, by simp [World.setRow], fun k _ hk => setRow_other w g k _ (fun e => hk (by simp [Value.ownBlock, e]))⟩
    · have holds : ∀ j u, xs[j]? = some u → w.cell? ((⟨g, 0, none⟩ : Addr).add j) = some u := hown.cells (g := g) rfl
      have hr := run_append_grow (P := P) w t ty e i z hE.und hi hz ⟨g, 0, none⟩ m cap xs hown.1 holds a q c news hl hnews (by omega) (by omega) (growslice_fits (by omega) hbytes)
      refine ⟨_, _, hr, grown cap _ (grownCap_ge _ _ _ _) (grownCap_le_maxLen _ _ _ _ h63), drewMod _ _ _, fun b hb => .inr (by simp [Value.ownBlock] at hb; omega), rfl⟩

/-- append of nothing. -/
theorem append_row0 {t e size bytes : Nat} (hE : El P t e size bytes) {w : World} {v : Value} {m : Nat} {xs : List Value} (hown : w.ownsRow 0 e size v m xs) (ao : Option Addr) (c ty : Nat) :
    (Builtin.append_ #[t, t] ty #[v, .slice ao 0 c]).run P w = .ok v w := by
  obtain ⟨i, z, hi, hz, rfl, rfl, hzs⟩ := hE.ex
  have hf : (Builtin.firstCells i.size 0 (.slice ao 0 c)).run P w = .ok #[] w := by
    cases ao <;> simp [Builtin.firstCells, loadCells, loadCellsFrom]
  rcases hown.2 with ⟨rfl, rfl⟩ | ⟨g, cap, cur, rfl, _, _, hnc, _⟩
  · simp [Builtin.append_, run_underlying hE.und, sizeOf, typeInfo, hi, Builtin.lenOf, hf]
  · simp [Builtin.append_, run_underlying hE.und, sizeOf, typeInfo, hi, Builtin.lenOf, hf, hnc, storeCells]

/-- `append(s, ..)`: s a row of the call's own, what is appended a view of another token. -/
theorem Run.append {d : Nat} (k2 : Nat) (V : Vw) {s x : Operand} {t e size bytes : Nat} {ty : TypeId} {pos : String} {after : Array Edge} {g : Option (Nat × Bool)} {gr : FL} {k m : Nat} {xs : List Value} (hE : El P t e size bytes) (hV : V.Ok) (hg : Gd ops ⟨some d, .call ⟨.builtin .append, #[s, x], #[t, t]⟩, ty, pos, after, g⟩ fs gr)
    (hs : ev fs s = some (.a (.c (.nv k)))) (hx : ev fs x = some (.a (.c V.s))) (hl : lkT L k = some (row k e size m xs)) (hb : lkT L V.k = some V.t) (hsz : V.size = size) (h1 : ∀ u ∈ V.xs, u.oneCell' = true)
    (h63 : m + V.m ≤ maxLen) (hbytes : (m + V.m) * bytes ≤ 140737488355328) (hne : Nat.beq V.k k = false) (hl2 : lkT L k2 = none) (hne2 : Nat.beq k2 k = false) (hne3 : Nat.beq V.k k2 = false) (hfr : frB [k2] fs ((k, none) :: L) = true) (hn : Nat.blt d n = true)
    (h : Run P n ops rest ((d, .a (.c (.nv k2))) :: fs) ((k2, some (row k2 e size (m + V.m) (xs ++ V.xs))) :: (k, none) :: L) ss fs' L') : Run P n ops (⟨some d, .call ⟨.builtin .append, #[s, x], #[t, t]⟩, ty, pos, after, g⟩ :: rest) fs L
      (⟨gr ++ opds [(s, .a (.c (.nv k))), (x, .a (.c V.s))], some d, .a (.c (.nv k2)), [(V.k, V.t)], [(k, row k e size m xs)], [(k2, row k2 e size (m + V.m) (xs ++ V.xs))], [k2]⟩ :: ss) fs' L' := by
  obtain ⟨f1, f2, f3⟩ := frB_spec hfr
  have hev : ∀ p ∈ [(s, SV.a (.c (.nv k))), (x, .a (.c V.s))], ev fs p.1 = some p.2 := fun p hp => by simp at hp; rcases hp with rfl | rfl <;> assumption
  have nkb : V.k ≠ k := fun e => by rw [e] at hne; simp at hne
  have nk2 : k2 ≠ k := fun e => by subst e; simp at hne2
  have nkb2 : V.k ≠ k2 := fun e => by rw [e] at hne3; simp at hne3
  refine Run.cons ?_ ?_ ?_ (fun j => ?_) h
  · intro β a w G K Q hrs hsz' hst hK
    have hw := hg.wanted hrs hsz'
    have e1 : a.eval s = one1 (β k).v := opds_eval hg hev hrs (s, .a (.c (.nv k))) (by simp)
    have e2 : a.eval x = V.s.den β := opds_eval hg hev hrs (x, .a (.c V.s)) (by simp)
    obtain ⟨F1, F2, eF, dF, hb1, hr2⟩ := hst
    have hr3 := Star_one.1 hr2
    obtain ⟨hVl, ao, c, hVs, hVp⟩ := hV β w F1 hb1
    have happ : ∃ v' w', (Builtin.append_ #[t, t] ty #[one1 (β k).v, V.s.den β]).run P w = .ok v' w' ∧ w'.ownsRow 0 e size v' (m + V.m) (xs ++ V.xs) ∧ Mod (fun x => (one1 (β k).v).ownBlock = some x) w w' ∧ (∀ b, v'.ownBlock = some b → (one1 (β k).v).ownBlock = some b ∨ w.heap.size ≤ b) ∧ v'.oneCell' = true := by
      rw [hVs]
      by_cases hq : 0 < V.m
      · obtain ⟨b, o, rfl, _, hcell⟩ := hVp hq
        refine append_row (P := P) hE hr3.2 (by rw [hVl, hsz]) (fun j u hj => ?_) h1 hq h63 hbytes
        have : (⟨b, o, none⟩ : Addr).add j = ⟨b, o + j, none⟩ := by unfold Addr.add; split <;> simp_all
        rw [this]; exact hcell j u hj
      · have h0 : V.m = 0 := by omega
        have hx0 : V.xs = [] := List.eq_nil_of_length_eq_zero (by rw [hVl, h0]; simp)
        rw [h0, hx0, Nat.add_zero, List.append_nil]
        refine ⟨_, w, append_row0 hE hr3.2 ao c ty, hr3.2, Mod.refl _ _, fun b hb => .inl hb, ?_⟩
        exact Cl.ok1_den (x := .nv k) rfl β
    obtain ⟨v', w', hrun, hown, hmod, hown2, hone⟩ := happ
    unfold opW Oper.wp
    rw [if_pos hw]
    have hrun2 : (execOp a.eval ⟨some d, .call ⟨.builtin .append, #[s, x], #[t, t]⟩, ty, pos, after, g⟩).run P w = .ok (.value v') w' := by
      simp only [execOp, resolve, Sem.run_bind, Sem.run_pure, Result.andThen_ok, invoke, List.map_toArray, List.map_cons, List.map_nil, e1, e2]
      unfold builtin
      rw [run_bind_ok hrun]; rfl
    rw [hrun2]
    have hks : ∀ j, j ∉ [k2] → upd β k2 ⟨0, v'⟩ j = β j := fun j hj => upd_ne _ _ (by simpa using hj)
    have hF2 : ∀ b, (one1 (β k).v).ownBlock = some b → F2 b := fun b hb => (hr3.1 b).2 hb
    have o1 : one1 v' = v' := by unfold one1; rw [hone]
    have hVd : V.t.r (upd β k2 ⟨0, v'⟩) = V.t.r β := V.t.sup (fun j hj => hks j (f3 V.k V.t (by rw [lkT_cons, upd_ne _ _ nkb]; exact hb) j hj))
    have := hK (upd β k2 ⟨0, v'⟩) w' (fun b => F1 b ∨ v'.ownBlock = some b) hks ?_ ?_ (hmod.weaken (fun b _ hb => (eF b).2 (.inr (hF2 b hb))))
    · have e : (SV.a (.c (.nv k2))).den (upd β k2 ⟨0, v'⟩) = v' := by simp [SV.den, Av.den, Cl.den, o1]
      rw [e] at this
      rw [Oper.upon_value]; exact this
    · have hb1' : (V.t.r β).holds w F1 := hb1
      refine ⟨F1, fun b => v'.ownBlock = some b, fun b => Iff.rfl, ?_, ?_, Star_one.2 ⟨fun x => ?_, ?_⟩⟩
      · intro b hb hv
        rcases hown2 b hv with h | h
        · exact dF b hb (hF2 b h)
        · exact Nat.lt_irrefl _ (Nat.lt_of_lt_of_le ((V.t.r β).lt hb1' hb) h)
      · show (V.t.r (upd β k2 ⟨0, v'⟩)).holds w' F1
        rw [hVd]
        exact (V.t.r β).loc (fun b hb => hmod.block b ((V.t.r β).lt hb1' hb) (fun h => dF b hb (hF2 b h))) hb1'
      · simp [o1]
      · simp [o1]; exact hown
    · rintro b (hb | hb)
      · exact .inl ((eF b).2 (.inl hb))
      · rcases hown2 b hb with h | h
        · exact .inl ((eF b).2 (.inr (hF2 b h)))
        · exact .inr h
  · refine ⟨fun t y hy => ?_, fun d' hd' => ?_, fun p hp => ?_, ?_, ?_, fun p hp => ?_, f1, f2, fun j t hj hp => ?_⟩
    · rw [lk_append] at hy
      cases hx' : lk gr t with
      | some z => rw [hx'] at hy; simp at hy; subst hy; exact hg.fs hx'
      | none => rw [hx'] at hy; simp at hy; exact opds_fs hev hy
    · simp at hd'; subst hd'
      rw [Nat.blt_eq] at hn
      exact hn
    · simp at hp; rcases hp with rfl | rfl
      · exact hb
      · exact hl
    · simp [nkb]
    · simp [nkb2]
    · simp at hp; subst hp; exact .inr hl2
    · refine f3 j t ?_
      rw [lkT_cons, upd_ne _ _ (fun e => hp _ List.mem_cons_self e.symm)]; exact hj
  · simp only [Step.outF, lk_cons]
  · rw [lkT_cons, lkT_cons, Step.outM_eq]
    by_cases e : j = k2
    · subst e; simp [lkP]
    · by_cases e' : j = k
      · subst e'; simp [lkP, e, upd]
      · simp [lkP, e, e', upd]
end
end Go.Proofs.Ytheopcgjdfckmaa.Sx

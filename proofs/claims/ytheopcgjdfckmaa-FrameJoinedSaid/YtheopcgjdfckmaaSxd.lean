/- The steps of single operations; codes; entering and leaving a function. -/
import Derived.Test.YtheopcgjdfckmaaSxc
import Derived.Laws.Cells
import Derived.Laws.CopyRow
import Derived.Laws.Tables
namespace Go.Proofs.Ytheopcgjdfckmaa.Sx
open Go
set_option linter.unusedVariables false

/-! ### 6. Blocks of cells -/
theorem cellsApp (l : List Cl) (β : Env) : (l.map (Cl.den β)).length = l.length := by simp
def blkRes (b : Nat) (cs : List Value) (T : TypeId) : Res where
  holds w F := (∀ x, F x ↔ x = b) ∧ w.heap[b]? = some (.cells cs.toArray T (0, 0))
  loc hw h := ⟨h.1, (hw b ((h.1 b).2 rfl)).trans h.2⟩
  lt h hb := by
    rename_i w F x
    have := (h.1 x).1 hb
    subst this
    exact (Array.getElem?_eq_some_iff.1 h.2).1
def blk (k : Nat) (cs : List Cl) (T : TypeId) : Tok where
  ks := k :: cs.flatMap Cl.ks
  r β := blkRes (β k).b (cs.map (Cl.den β)) T
  sup h := by
    rename_i β β'
    have e : cs.map (Cl.den β) = cs.map (Cl.den β') := List.map_congr_left (fun x hx => Cl.den_congr x (fun j hj => h j (List.mem_cons_of_mem _ (List.mem_flatMap.2 ⟨x, hx, hj⟩))))
    simp only [e, h k List.mem_cons_self]

/-! ### 7. What types are -/
inductive TyI where
  | one (z : Value)
  | st (n : Nat) (fl : List (Nat × Nat × TypeId)) (zs : List Value)
  | none
def tyB (P : Program) (T : TypeId) : TyI → Bool
  | .one z => match P.info? T, P.underlying T with
    | some i, some d => (match d with | .struct _ | .array _ _ => false | _ => true) && i.size == 1 && (match i.zero, z with
      | some (.int k n), .int k' n' => k == k' && n == n'
      | some (.bool b), .bool b' => b == b'
      | some (.pointer .none), .pointer .none => true
      | some (.slice .none 0 0), .slice .none 0 0 => true
      | some (.map .none), .map .none => true
      | some .nilFunc, .nilFunc => true
      | some .nilIface, .nilIface => true
      | some (.string s), .string s' => s.data.toList == s'.data.toList
      | _, _ => false)
    | _, _ => false
  | .st n fl zs => match P.info? T, P.underlying T with
    | some i, some (.struct fs) => i.size == n && zs.length == n && fl.length == fs.size && (List.range fl.length).all (fun j => match fl[j]?, fs[j]? with
        | some (o, s, ft), some f => f.offset == o && s != 0 && f.type == ft && (match P.info? f.type with | some i' => i'.size == s | _ => false)
        | _, _ => false) && (match i.zero with
        | some (.agg a) => a.size == n && (List.range n).all (fun j => match a[j]?, zs[j]? with
          | some (.int k n), some (.int k' n') => k == k' && n == n'
          | some (.bool b), some (.bool b') => b == b'
          | some (.pointer .none), some (.pointer .none) => true
          | some (.slice .none 0 0), some (.slice .none 0 0) => true
          | some (.map .none), some (.map .none) => true
          | some .nilFunc, some .nilFunc => true
          | some .nilIface, some .nilIface => true
          | some (.string s), some (.string s') => s.data.toList == s'.data.toList
          | _, _ => false)
        | _ => false)
    | some i, some (.array _ e) => i.size == n && zs.length == n && fl.length == 0 && (P.info? e).isSome && (match i.zero with
        | some (.agg a) => a.size == n && (List.range n).all (fun j => match a[j]?, zs[j]? with
          | some (.int k n), some (.int k' n') => k == k' && n == n'
          | some (.bool b), some (.bool b') => b == b'
          | some (.pointer .none), some (.pointer .none) => true
          | some (.slice .none 0 0), some (.slice .none 0 0) => true
          | some (.map .none), some (.map .none) => true
          | some .nilFunc, some .nilFunc => true
          | some .nilIface, some .nilIface => true
          | some (.string s), some (.string s') => s.data.toList == s'.data.toList
          | _, _ => false)
        | _ => false)
    | _, _ => false
  | .none => true

/-- A type of one cell. -/
structure Ty1 (P : Program) (T : TypeId) (z : Value) : Prop where
  agg : ∀ w : World, (isAgg T).run P w = .ok false w
  size : ∀ w : World, (sizeOf T).run P w = .ok 1 w
  zero : ∀ w : World, (zeroValue T).run P w = .ok z w
  zc : z.cells = #[z]
/-- A struct type. -/
structure TyS (P : Program) (T : TypeId) (n : Nat) (fl : List (Nat × Nat × TypeId)) (zs : List Value) : Prop where
  agg : ∀ w : World, (isAgg T).run P w = .ok true w
  size : ∀ w : World, (sizeOf T).run P w = .ok n w
  zero : ∀ w : World, (zeroValue T).run P w = .ok (.agg zs.toArray) w
  zl : zs.length = n
  und : fl ≠ [] → ∃ fs, P.underlying T = some (.struct fs) ∧ fs.size = fl.length ∧ ∀ (j o s : Nat) (ft : TypeId), fl[j]? = some (o, s, ft) → ∃ f, fs[j]? = some f ∧ f.offset = o ∧ s ≠ 0 ∧ f.type = ft ∧ ∀ w : World, (sizeOf f.type).run P w = .ok s w
  blt : ∀ (parts : List (Nat × Value)) (cells : Array Value), Instr.fill (fun i => (fl[i]?).map fun q => (q.1, q.2.1)) zs.toArray parts = some cells → P.built T parts = some cells
def TyOk (P : Program) (T : TypeId) : TyI → Prop
  | .one z => Ty1 P T z
  | .st n fl zs => TyS P T n fl zs
  | .none => True

theorem run_bind_ok {α β : Type} {P : Program} {x : Sem α} {f : α → Sem β} {w w' : World} {a : α} (h : x.run P w = .ok a w') : (x >>= f).run P w = (f a).run P w' := by
  rw [Sem.run_bind, h]; rfl
theorem run_info {P : Program} {T : TypeId} {i : TypeInfo} (h : P.info? T = some i) (w : World) : (typeInfo T).run P w = .ok i w := by
  unfold typeInfo program; rw [Sem.run_bind]; simp only [Sem.run, Result.andThen, h]; rfl
theorem run_und {P : Program} {T : TypeId} {d : TypeDesc} (h : P.underlying T = some d) (w : World) : (underlying T).run P w = .ok d w := by
  unfold underlying program; rw [Sem.run_bind]; simp only [Sem.run, Result.andThen, h]; rfl

theorem bytes_eq {s s' : ByteArray} (h : s.data = s'.data) : s = s' := by
  cases s; cases s'; simp at h; simp [h]
theorem mapM_fl (P : Program) : ∀ (l : List Field) (k : List (Nat × Nat × TypeId)), l.length = k.length → (∀ (j : Nat) (q : Nat × Nat × TypeId), k[j]? = some q → ∃ f i, l[j]? = some f ∧ P.info? f.type = some i ∧ f.offset = q.1 ∧ i.size = q.2.1) →
    l.mapM (fun f => (P.info? f.type).map fun i => (f.offset, i.size)) = some (k.map fun q => (q.1, q.2.1))
  | [], [], _, _ => rfl
  | [], _ :: _, h, _ => by simp at h
  | _ :: _, [], h, _ => by simp at h
  | f :: l, q :: k, h, hk => by
    obtain ⟨f', i, h1, h2, h3, h4⟩ := hk 0 q rfl
    simp at h1; subst h1
    have ih := mapM_fl P l k (by simpa using h) (fun j q hj => by simpa using hk (j + 1) q (by simpa using hj))
    simp [List.mapM_cons, h2, ih, h3, h4]
theorem tyOk_of {P : Program} {T : TypeId} {x : TyI} (h : tyB P T x = true) : TyOk P T x := by
  cases x with
  | none => trivial
  | one z =>
    simp only [tyB] at h
    split at h
    · rename_i i d hi hd
      simp only [Bool.and_eq_true, beq_iff_eq] at h
      obtain ⟨⟨h1, h2⟩, h3⟩ := h
      have hz : i.zero = some z ∧ z.cells = #[z] := by
        split at h3 <;> simp_all [Value.cells]
        rename_i h3; exact bytes_eq h3
      refine ⟨fun w => ?_, fun w => ?_, fun w => ?_, hz.2⟩
      · unfold isAgg
        rw [run_bind_ok (run_und hd w)]
        split at h1 <;> simp_all
      · unfold sizeOf
        rw [run_bind_ok (run_info hi w), h2]; rfl
      · unfold zeroValue
        rw [run_bind_ok (run_info hi w), hz.1]; rfl
    · cases h
  | st n fl zs =>
    simp only [tyB] at h
    split at h
    · rename_i i fs hi hd
      simp only [Bool.and_eq_true, beq_iff_eq] at h
      obtain ⟨⟨⟨⟨h1, h2⟩, h3⟩, h4⟩, h5⟩ := h
      have hz : i.zero = some (.agg zs.toArray) := by
        split at h5
        · rename_i a ha
          simp only [Bool.and_eq_true, beq_iff_eq] at h5
          rw [ha]
          congr 2
          apply Array.ext
          · simp [h5.1, h2]
          · intro j hj hj'
            have h6 := List.all_eq_true.1 h5.2 j (List.mem_range.2 (by omega))
            have e1 : a[j]? = some a[j] := by simp [hj]
            have e2 : zs[j]? = some zs[j] := by simp
            rw [e1, e2] at h6
            have : a[j] = zs[j] := by
              generalize a[j] = x at *
              generalize zs[j] = y at *
              clear e1 e2 h5
              split at h6 <;> simp_all
              rename_i h6; exact bytes_eq h6
            simpa using this
        · cases h5
      refine ⟨fun w => ?_, fun w => ?_, fun w => ?_, h2, fun _ => ⟨fs, hd, h3.symm, fun j o s ft hj => ?_⟩, fun parts cells hf => ?_⟩
      · unfold isAgg
        rw [run_bind_ok (run_und hd w)]; rfl
      · unfold sizeOf
        rw [run_bind_ok (run_info hi w), h1]; rfl
      · unfold zeroValue
        rw [run_bind_ok (run_info hi w), hz]; rfl
      · have hlt : j < fl.length := (List.getElem?_eq_some_iff.1 hj).1
        have h6 := List.all_eq_true.1 h4 j (List.mem_range.2 hlt)
        rw [hj] at h6
        cases hf : fs[j]? with
        | none => rw [hf] at h6; cases h6
        | some f =>
          rw [hf] at h6
          simp only [Bool.and_eq_true, beq_iff_eq, bne_iff_ne] at h6
          obtain ⟨⟨⟨h7, h8⟩, h10⟩, h9⟩ := h6
          cases hi' : P.info? f.type with
          | none => rw [hi'] at h9; cases h9
          | some i' =>
            rw [hi'] at h9
            simp only [beq_iff_eq] at h9
            exact ⟨f, rfl, h7, h8, h10, fun w => by unfold sizeOf; rw [run_bind_ok (run_info hi' w), h9]; rfl⟩
      · have hm := mapM_fl P fs.toList fl (by simpa using h3.symm) (fun j q hj => by
          have hlt : j < fl.length := (List.getElem?_eq_some_iff.1 hj).1
          have h6 := List.all_eq_true.1 h4 j (List.mem_range.2 hlt)
          rw [hj] at h6
          cases hf : fs[j]? with
          | none => rw [hf] at h6; cases h6
          | some f =>
            rw [hf] at h6
            simp only [Bool.and_eq_true, beq_iff_eq, bne_iff_ne] at h6
            obtain ⟨⟨⟨h7, h8⟩, h10⟩, h9⟩ := h6
            cases hi' : P.info? f.type with
            | none => rw [hi'] at h9; cases h9
            | some i' =>
              rw [hi'] at h9
              simp only [beq_iff_eq] at h9
              exact ⟨f, i', by simpa using hf, hi', h7, h9⟩)
        unfold Program.built
        simp only [hi, hd, hz, hm]
        rw [← hf]
        congr 1
        funext i
        simp
    · rename_i i l e hi hd
      simp only [Bool.and_eq_true, beq_iff_eq] at h
      obtain ⟨⟨⟨⟨h1, h2⟩, h3⟩, h4⟩, h5⟩ := h
      have hfl : fl = [] := List.eq_nil_of_length_eq_zero h3
      subst hfl
      have hz : i.zero = some (.agg zs.toArray) := by
        split at h5
        · rename_i a ha
          simp only [Bool.and_eq_true, beq_iff_eq] at h5
          rw [ha]
          congr 2
          apply Array.ext
          · simp [h5.1, h2]
          · intro j hj hj'
            have h6 := List.all_eq_true.1 h5.2 j (List.mem_range.2 (by omega))
            have e1 : a[j]? = some a[j] := by simp [hj]
            have e2 : zs[j]? = some zs[j] := by simp
            rw [e1, e2] at h6
            have : a[j] = zs[j] := by
              generalize a[j] = x at *
              generalize zs[j] = y at *
              clear e1 e2 h5
              split at h6 <;> simp_all
              rename_i h6; exact bytes_eq h6
            simpa using this
        · cases h5
      refine ⟨fun w => ?_, fun w => ?_, fun w => ?_, h2, fun h => absurd rfl h, fun parts cells hf => ?_⟩
      · unfold isAgg
        rw [run_bind_ok (run_und hd w)]; rfl
      · unfold sizeOf
        rw [run_bind_ok (run_info hi w), h1]; rfl
      · unfold zeroValue
        rw [run_bind_ok (run_info hi w), hz]; rfl
      · cases parts with
        | nil =>
          obtain ⟨ie, hie⟩ := Option.isSome_iff_exists.1 h4
          unfold Program.built
          simp only [hi, hd, hz, hie]
          rw [← hf]; rfl
        | cons p ps => simp [Instr.fill] at hf
    · cases h

theorem TyS.fld {P : Program} {T : TypeId} {n : Nat} {fl : List (Nat × Nat × TypeId)} {zs : List Value} (h : TyS P T n fl zs) (j o s : Nat) (ft : TypeId) (b off : Nat) (w : World) (hj : fl[j]? = some (o, s, ft)) :
    (Instr.fieldAt T (.pointer (some ⟨b, off, .none⟩)) j).run P w = .ok (.pointer (some ⟨b, off + o, .none⟩)) w := by
  obtain ⟨fs, hd, _, hf⟩ := h.und (by rintro rfl; simp at hj)
  obtain ⟨f, h1, h2, h3, _, h4⟩ := hf j o s ft hj
  unfold Instr.fieldAt
  rw [run_bind_ok (run_und hd w)]
  simp only [h1]
  unfold Instr.sureAddr fieldPlace
  simp only [Sem.run_bind, Sem.run_pure, Result.andThen_ok, h4, h3, if_false, Addr.add, h2]
  by_cases ho : o = 0
  · subst ho; rfl
  · rw [if_neg ho]

structure Tys (P : Program) where
  f : TypeId → TyI
  ok : ∀ T, TyOk P T (f T)


/-! ### 8. Steps of operations that leave memory alone -/
/-- What operands read. -/
def opd (p : Operand × SV) : FL := match p.1 with
  | .tmp t => [(t, p.2)]
  | _ => []
def opds (l : List (Operand × SV)) : FL := l.flatMap opd

theorem lk_append {α : Type} (l r : List (Nat × α)) (k : Nat) : lk (l ++ r) k = (lk l k).or (lk r k) := by
  induction l with
  | nil => simp [lk]
  | cons p l ih => simp only [List.cons_append, lk]; split <;> simp [ih]

theorem opds_fs {fs : FL} {l : List (Operand × SV)} (h : ∀ p ∈ l, ev fs p.1 = some p.2) {t : Nat} {x : SV} (hx : lk (opds l) t = some x) : lk fs t = some x := by
  have := lk_mem hx
  simp only [opds, List.mem_flatMap] at this
  obtain ⟨p, hp, hm⟩ := this
  unfold opd at hm
  split at hm
  · rename_i t' ht
    simp at hm
    obtain ⟨rfl, rfl⟩ := hm
    have := h p hp
    rw [ht] at this; exact this
  · cases hm
theorem opds_mem {fs : FL} {l : List (Operand × SV)} (h : ∀ p ∈ l, ev fs p.1 = some p.2) {p : Operand × SV} (hp : p ∈ l) {t : Nat} (ht : p.1 = .tmp t) : lk (opds l) t = some p.2 := by
  have hfs := h p hp
  rw [ht] at hfs
  have some : (lk (opds l) t).isSome := by
    clear hfs h
    induction l with
    | nil => cases hp
    | cons q l ih =>
      simp only [opds, List.flatMap_cons, lk_append]
      rcases List.mem_cons.1 hp with rfl | hp
      · simp [opd, ht, lk]
      · have := ih hp
        simp only [opds] at this
        cases hq : lk (opd q) t <;> simp [this]
  obtain ⟨x, hx⟩ := Option.isSome_iff_exists.1 some
  rw [hx, ← opds_fs h hx]; exact hfs

/-- The guard lets the operation run: there is none, or it reads what it wants. -/
def Gd (ops : Array Oper) (o : Oper) (fs gr : FL) : Prop :=
  (o.guard = none ∧ gr = []) ∨ ∃ j want t, o.guard = some (j, want) ∧ (ops[j]?).bind (·.dst) = some t ∧ lk fs t = some (SV.b want) ∧ gr = [(t, SV.b want)]
theorem gd0 {ops : Array Oper} {o : Oper} {fs : FL} (h : o.guard = none) : Gd ops o fs [] := .inl ⟨h, rfl⟩
theorem gd1 {ops : Array Oper} {o : Oper} {fs : FL} {j : Nat} {want b : Bool} {t : Nat} (h : o.guard = some (j, want)) (hd : (ops[j]?).bind (·.dst) = some t) (hl : lk fs t = some (SV.b b)) (hb : b = want) : Gd ops o fs [(t, SV.b want)] :=
  .inr ⟨j, want, t, h, hd, by rw [hl, hb], rfl⟩

theorem Gd.fs {ops : Array Oper} {o : Oper} {fs gr : FL} (h : Gd ops o fs gr) {t : Nat} {x : SV} (hx : lk gr t = some x) : lk fs t = some x := by
  rcases h with ⟨_, rfl⟩ | ⟨j, want, t', _, _, hl, rfl⟩
  · cases hx
  · have := lk_mem hx
    simp at this
    obtain ⟨rfl, rfl⟩ := this
    exact hl
theorem Gd.wanted {ops : Array Oper} {o : Oper} {fs gr rs : FL} (h : Gd ops o fs gr) {β : Env} {a : Act} (hr : ∀ t x, lk (gr ++ rs) t = some x → a.tmps.getD t undef = x.den β) (hs : ∀ t, (lk (gr ++ rs) t).isSome → t < a.tmps.size) :
    Region.wanted o (yielded ops a.tmps) = true := by
  rcases h with ⟨h, rfl⟩ | ⟨j, want, t, h, hd, hl, rfl⟩
  · simp [Region.wanted, h]
  · have e1 : lk ([(t, SV.b want)] ++ rs) t = some (SV.b want) := by simp [lk]
    have e2 := hr t _ e1
    have e3 := hs t (by rw [e1]; rfl)
    simp only [Region.wanted, h, yielded, hd, Option.bind_some, beq_iff_eq]
    have e4 : a.tmps[t]? = some (.bool want) := by
      have : a.tmps[t]? = some a.tmps[t] := by simp [e3]
      rw [this]
      simp [Array.getD_eq_getD_getElem?, e3] at e2
      rw [e2]; rfl
    rw [e4]

/-- Operands hold what they hold. -/
theorem opds_eval {fs gr : FL} {ops : Array Oper} {o : Oper} {l : List (Operand × SV)} (hg : Gd ops o fs gr) (h : ∀ p ∈ l, ev fs p.1 = some p.2) {β : Env} {a : Act}
    (hr : ∀ t x, lk (gr ++ opds l) t = some x → a.tmps.getD t undef = x.den β) : ∀ p ∈ l, a.eval p.1 = p.2.den β := by
  intro p hp
  have he := h p hp
  cases hq : p.1 with
  | tmp t =>
    have e := opds_mem h hp hq
    refine hr t p.2 ?_
    rw [lk_append]
    cases hx : lk gr t with
    | none => simpa using e
    | some y =>
      have e1 := hg.fs hx
      have e2 := opds_fs h e
      rw [e1] at e2
      simp only [Option.some_or]
      exact e2
  | const v => rw [hq] at he; simp only [ev, Option.some.injEq] at he; rw [← he]; rfl
  | func f => rw [hq] at he; simp only [ev, Option.some.injEq] at he; rw [← he]; rfl
  | global g => rw [hq] at he; simp only [ev, Option.some.injEq] at he; rw [← he]; rfl

section
variable {P : Program} {n : Nat} {ops : Array Oper} {rest : List Oper} {fs fs' : FL} {L L' : TL} {ss : List Step}

/-- An operation that yields a value and leaves memory alone. -/
theorem Run.pure {o : Oper} {d : Nat} {gr : FL} (l : List (Operand × SV)) (x : SV) (hd : o.dst = some d) (hg : Gd ops o fs gr) (hev : ∀ p ∈ l, ev fs p.1 = some p.2) (hn : Nat.blt d n = true)
    (hr : ∀ (β : Env) (ρ : Operand → Value) (w : World), (∀ p ∈ l, ρ p.1 = p.2.den β) → (execOp ρ o).run P w = .ok (.value (x.den β)) w)
    (h : Run P n ops rest ((d, x) :: fs) L ss fs' L') : Run P n ops (o :: rest) fs L (⟨gr ++ opds l, some d, x, [], [], [], []⟩ :: ss) fs' L' := by
  refine Run.cons ?_ ?_ ?_ (fun k => ?_) h
  · intro β a w G K Q hrs hsz hst hK
    have hw := hg.wanted hrs hsz
    unfold opW Oper.wp
    rw [if_pos hw, hr β a.eval w (opds_eval hg hev hrs), Oper.upon_value, hd]
    exact hK β w G (fun _ _ => rfl) hst (fun b hb => .inl hb) (Mod.refl _ _)
  · refine ⟨fun t y hy => ?_, fun d' hd' => ?_, fun p hp => by simp at hp, by simp, by simp, fun p hp => by simp at hp, fun k hk => by simp at hk, fun _ _ _ _ _ h => by simp at h, fun _ _ _ _ _ _ h => by simp at h⟩
    · rw [lk_append] at hy
      cases hx : lk gr t with
      | some z => rw [hx] at hy; simp at hy; subst hy; exact hg.fs hx
      | none => rw [hx] at hy; simp at hy; exact opds_fs hev hy
    · simp at hd'; subst hd'
      rw [Nat.blt_eq] at hn
      exact hn
  · simp only [Step.outF, lk_cons]
  · rfl

theorem Run.move {d : Nat} {op : Op} {x : Operand} {T : TypeId} {pos : String} {after : Array Edge} {g : Option (Nat × Bool)} {gr : FL} {y : SV} (hop : op = .move x ∨ op = .assign x) (hg : Gd ops ⟨some d, op, T, pos, after, g⟩ fs gr) (hx : ev fs x = some y) (hn : Nat.blt d n = true)
    (h : Run P n ops rest ((d, y) :: fs) L ss fs' L') : Run P n ops (⟨some d, op, T, pos, after, g⟩ :: rest) fs L (⟨gr ++ opds [(x, y)], some d, y, [], [], [], []⟩ :: ss) fs' L' :=
  Run.pure [(x, y)] y rfl hg (fun p hp => by simp at hp; subst hp; exact hx) hn (fun β ρ w hρ => by
    have := hρ (x, y) (by simp)
    rcases hop with rfl | rfl <;> (simp only [execOp, this]; rfl)) h
theorem Run.pickT {d : Nat} {c x z : Operand} {T : TypeId} {pos : String} {after : Array Edge} {g : Option (Nat × Bool)} {gr : FL} {b : Bool} {y : SV} (hg : Gd ops ⟨some d, .pick c x z, T, pos, after, g⟩ fs gr) (hc : ev fs c = some (SV.b b)) (hb : b = true)
    (hx : ev fs x = some y) (hn : Nat.blt d n = true)
    (h : Run P n ops rest ((d, y) :: fs) L ss fs' L') : Run P n ops (⟨some d, .pick c x z, T, pos, after, g⟩ :: rest) fs L (⟨gr ++ opds [(c, SV.b b), (x, y)], some d, y, [], [], [], []⟩ :: ss) fs' L' :=
  Run.pure [(c, SV.b b), (x, y)] y rfl hg (fun p hp => by simp at hp; rcases hp with rfl | rfl <;> assumption) hn (fun β ρ w hρ => by
    have h1 : ρ c = .bool b := hρ (c, SV.b b) (by simp)
    have h2 : ρ x = y.den β := hρ (x, y) (by simp)
    subst hb
    simp only [execOp, Sem.run_bind, h1, asBool, Sem.run_pure, Result.andThen_ok, h2]; rfl) h
theorem Run.pickF {d : Nat} {c x z : Operand} {T : TypeId} {pos : String} {after : Array Edge} {g : Option (Nat × Bool)} {gr : FL} {b : Bool} {y : SV} (hg : Gd ops ⟨some d, .pick c x z, T, pos, after, g⟩ fs gr) (hc : ev fs c = some (SV.b b)) (hb : b = false)
    (hx : ev fs z = some y) (hn : Nat.blt d n = true)
    (h : Run P n ops rest ((d, y) :: fs) L ss fs' L') : Run P n ops (⟨some d, .pick c x z, T, pos, after, g⟩ :: rest) fs L (⟨gr ++ opds [(c, SV.b b), (z, y)], some d, y, [], [], [], []⟩ :: ss) fs' L' :=
  Run.pure [(c, SV.b b), (z, y)] y rfl hg (fun p hp => by simp at hp; rcases hp with rfl | rfl <;> assumption) hn (fun β ρ w hρ => by
    have h1 : ρ c = .bool b := hρ (c, SV.b b) (by simp)
    have h2 : ρ z = y.den β := hρ (z, y) (by simp)
    subst hb
    simp only [execOp, Sem.run_bind, h1, asBool, Sem.run_pure, Result.andThen_ok, h2]; rfl) h
/-- An operator on two values without names. -/
theorem Run.bin {d : Nat} {op : BinOp} {t ty : TypeId} {x z : Operand} {T : TypeId} {pos : String} {after : Array Edge} {g : Option (Nat × Bool)} {gr : FL} {X Z V : Value} (hg : Gd ops ⟨some d, .binOp op t x z ty, T, pos, after, g⟩ fs gr)
    (hx : ev fs x = some (SV.raw X)) (hz : ev fs z = some (SV.raw Z)) (hr : ∀ w, (do eqGuard op t x z X Z; binOp op t X Z : Sem Value).run P w = .ok V w) (hn : Nat.blt d n = true)
    (h : Run P n ops rest ((d, SV.raw V) :: fs) L ss fs' L') : Run P n ops (⟨some d, .binOp op t x z ty, T, pos, after, g⟩ :: rest) fs L (⟨gr ++ opds [(x, SV.raw X), (z, SV.raw Z)], some d, SV.raw V, [], [], [], []⟩ :: ss) fs' L' :=
  Run.pure [(x, SV.raw X), (z, SV.raw Z)] (SV.raw V) rfl hg (fun p hp => by simp at hp; rcases hp with rfl | rfl <;> assumption) hn (fun β ρ w hρ => by
    have h1 : ρ x = X := hρ (x, SV.raw X) (by simp)
    have h2 : ρ z = Z := hρ (z, SV.raw Z) (by simp)
    simp only [execOp, h1, h2]
    rw [run_bind_ok (hr w)]; rfl) h
theorem Run.un {d : Nat} {op : UnOp} {t : TypeId} {x : Operand} {T : TypeId} {pos : String} {after : Array Edge} {g : Option (Nat × Bool)} {gr : FL} {X V : Value} (hg : Gd ops ⟨some d, .unOp op t x, T, pos, after, g⟩ fs gr)
    (hx : ev fs x = some (SV.raw X)) (hr : ∀ w, (Op.unary op X).run P w = .ok V w) (hn : Nat.blt d n = true)
    (h : Run P n ops rest ((d, SV.raw V) :: fs) L ss fs' L') : Run P n ops (⟨some d, .unOp op t x, T, pos, after, g⟩ :: rest) fs L (⟨gr ++ opds [(x, SV.raw X)], some d, SV.raw V, [], [], [], []⟩ :: ss) fs' L' :=
  Run.pure [(x, SV.raw X)] (SV.raw V) rfl hg (fun p hp => by simp at hp; subst hp; exact hx) hn (fun β ρ w hρ => by
    have h1 : ρ x = X := hρ (x, SV.raw X) (by simp)
    simp only [execOp, h1]
    rw [run_bind_ok (hr w)]; rfl) h
/-- A conversion of a value without names. -/
theorem Run.conv {d : Nat} {t t' : TypeId} {x : Operand} {T : TypeId} {pos : String} {after : Array Edge} {g : Option (Nat × Bool)} {gr : FL} {X V : Value} (hg : Gd ops ⟨some d, .convert t t' x, T, pos, after, g⟩ fs gr)
    (hx : ev fs x = some (SV.raw X)) (hr : ∀ w, (convert t t' X).run P w = .ok V w) (hn : Nat.blt d n = true)
    (h : Run P n ops rest ((d, SV.raw V) :: fs) L ss fs' L') : Run P n ops (⟨some d, .convert t t' x, T, pos, after, g⟩ :: rest) fs L (⟨gr ++ opds [(x, SV.raw X)], some d, SV.raw V, [], [], [], []⟩ :: ss) fs' L' :=
  Run.pure [(x, SV.raw X)] (SV.raw V) rfl hg (fun p hp => by simp at hp; subst hp; exact hx) hn (fun β ρ w hρ => by
    have h1 : ρ x = X := hρ (x, SV.raw X) (by simp)
    simp only [execOp, h1]
    rw [run_bind_ok (hr w)]; rfl) h
/-- A pointer into a named block against nil. -/
theorem Run.eqnil {d : Nat} {op : BinOp} {t ty : TypeId} {x z : Operand} {T : TypeId} {pos : String} {after : Array Edge} {g : Option (Nat × Bool)} {gr : FL} {k off : Nat} {V : Bool} (hg : Gd ops ⟨some d, .binOp op t x z ty, T, pos, after, g⟩ fs gr)
    (hx : ev fs x = some (SV.p k off)) (hz : ev fs z = some (SV.raw (.pointer none))) (hr : ∀ a w, (do eqGuard op t x z (.pointer (some a)) (.pointer none); binOp op t (.pointer (some a)) (.pointer none) : Sem Value).run P w = .ok (.bool V) w) (hn : Nat.blt d n = true)
    (h : Run P n ops rest ((d, SV.b V) :: fs) L ss fs' L') : Run P n ops (⟨some d, .binOp op t x z ty, T, pos, after, g⟩ :: rest) fs L (⟨gr ++ opds [(x, SV.p k off), (z, SV.raw (.pointer none))], some d, SV.b V, [], [], [], []⟩ :: ss) fs' L' :=
  Run.pure [(x, SV.p k off), (z, SV.raw (.pointer none))] (SV.b V) rfl hg (fun p hp => by simp at hp; rcases hp with rfl | rfl <;> assumption) hn (fun β ρ w hρ => by
    have h1 : ρ x = .pointer (some ⟨(β k).b, off, none⟩) := hρ (x, SV.p k off) (by simp)
    have h2 : ρ z = .pointer none := hρ (z, SV.raw (.pointer none)) (by simp)
    simp only [execOp, h1, h2]
    rw [run_bind_ok (hr _ w)]; rfl) h
theorem Run.nilCheck {d : Nat} {x : Operand} {T : TypeId} {pos : String} {after : Array Edge} {g : Option (Nat × Bool)} {gr : FL} {k off : Nat} (hg : Gd ops ⟨some d, .nilCheck x, T, pos, after, g⟩ fs gr)
    (hx : ev fs x = some (SV.p k off)) (hn : Nat.blt d n = true)
    (h : Run P n ops rest ((d, SV.p k off) :: fs) L ss fs' L') : Run P n ops (⟨some d, .nilCheck x, T, pos, after, g⟩ :: rest) fs L (⟨gr ++ opds [(x, SV.p k off)], some d, SV.p k off, [], [], [], []⟩ :: ss) fs' L' :=
  Run.pure [(x, SV.p k off)] (SV.p k off) rfl hg (fun p hp => by simp at hp; subst hp; exact hx) hn (fun β ρ w hρ => by
    have h1 : ρ x = .pointer (some ⟨(β k).b, off, none⟩) := hρ (x, SV.p k off) (by simp)
    simp only [execOp, h1]; rfl) h
theorem Run.fieldAddr (Y : Tys P) {d : Nat} {s : TypeId} {x : Operand} {f : Nat} {T : TypeId} {pos : String} {after : Array Edge} {g : Option (Nat × Bool)} {gr : FL} {k off N fo fsz : Nat} {ft : TypeId} {fl : List (Nat × Nat × TypeId)} {zs : List Value} (hg : Gd ops ⟨some d, .fieldAddr s x f, T, pos, after, g⟩ fs gr)
    (hx : ev fs x = some (SV.p k off)) (hT : Y.f s = .st N fl zs) (hf : fl[f]? = some (fo, fsz, ft)) (hn : Nat.blt d n = true)
    (h : Run P n ops rest ((d, SV.p k (off + fo)) :: fs) L ss fs' L') : Run P n ops (⟨some d, .fieldAddr s x f, T, pos, after, g⟩ :: rest) fs L (⟨gr ++ opds [(x, SV.p k off)], some d, SV.p k (off + fo), [], [], [], []⟩ :: ss) fs' L' :=
  Run.pure [(x, SV.p k off)] (SV.p k (off + fo)) rfl hg (fun p hp => by simp at hp; subst hp; exact hx) hn (fun β ρ w hρ => by
    have h1 : ρ x = .pointer (some ⟨(β k).b, off, none⟩) := hρ (x, SV.p k off) (by simp)
    have hS : TyS P s N fl zs := by have := Y.ok s; rw [hT] at this; exact this
    simp only [execOp, h1]
    rw [run_bind_ok (hS.fld f fo fsz ft (β k).b off w hf)]; rfl) h
theorem Run.extract {d : Nat} {x : Operand} {i : Nat} {T : TypeId} {pos : String} {after : Array Edge} {g : Option (Nat × Bool)} {gr : FL} {l : List Av} {y : Av} (hg : Gd ops ⟨some d, .extract x i, T, pos, after, g⟩ fs gr)
    (hx : ev fs x = some (.tup l)) (hy : l[i]? = some y) (hn : Nat.blt d n = true)
    (h : Run P n ops rest ((d, .a y) :: fs) L ss fs' L') : Run P n ops (⟨some d, .extract x i, T, pos, after, g⟩ :: rest) fs L (⟨gr ++ opds [(x, .tup l)], some d, .a y, [], [], [], []⟩ :: ss) fs' L' :=
  Run.pure [(x, .tup l)] (.a y) rfl hg (fun p hp => by simp at hp; subst hp; exact hx) hn (fun β ρ w hρ => by
    have h1 : ρ x = .tuple (l.map (Av.den β)).toArray := hρ (x, .tup l) (by simp)
    simp only [execOp, h1, Instr.extract, List.getElem?_toArray, List.getElem?_map, hy, Option.map_some]; rfl) h
theorem Run.mkIface (Y : Tys P) {d : Nat} {s : TypeId} {x : Operand} {T : TypeId} {pos : String} {after : Array Edge} {g : Option (Nat × Bool)} {gr : FL} {y : Av} (hg : Gd ops ⟨some d, .makeInterface s x, T, pos, after, g⟩ fs gr)
    (hx : ev fs x = some (.a y)) (hr : ∀ X w, (Instr.makeInterface s X).run P w = .ok (.iface s X) w) (hn : Nat.blt d n = true)
    (h : Run P n ops rest ((d, .ifc s y) :: fs) L ss fs' L') : Run P n ops (⟨some d, .makeInterface s x, T, pos, after, g⟩ :: rest) fs L (⟨gr ++ opds [(x, .a y)], some d, .ifc s y, [], [], [], []⟩ :: ss) fs' L' :=
  Run.pure [(x, .a y)] (.ifc s y) rfl hg (fun p hp => by simp at hp; subst hp; exact hx) hn (fun β ρ w hρ => by
    have h1 : ρ x = y.den β := hρ (x, .a y) (by simp)
    simp only [execOp, h1]
    rw [run_bind_ok (hr _ w)]; rfl) h
/-- Guarded, and its guard does not want it. -/
theorem Run.skip {o : Oper} {d : Nat} {j : Nat} {want b : Bool} {t : Nat} (hd : o.dst = some d) (hgd : o.guard = some (j, want)) (hdj : (ops[j]?).bind (·.dst) = some t) (hl : lk fs t = some (SV.b b)) (hb : b = !want) (hn : Nat.blt d n = true)
    (h : Run P n ops rest ((d, SV.raw undef) :: fs) L ss fs' L') : Run P n ops (o :: rest) fs L (⟨[(t, SV.b b)], some d, SV.raw undef, [], [], [], []⟩ :: ss) fs' L' := by
  refine Run.cons ?_ ?_ ?_ (fun k => ?_) h
  · intro β a w G K Q hrs hsz hst hK
    have e1 : lk [(t, SV.b b)] t = some (SV.b b) := by simp [lk]
    have e2 := hrs t _ e1
    have e3 := hsz t (by rw [e1]; rfl)
    have hw : Region.wanted o (yielded ops a.tmps) = false := by
      simp only [Region.wanted, hgd, yielded, hdj, Option.bind_some]
      have e4 : a.tmps[t]? = some (.bool b) := by
        have : a.tmps[t]? = some a.tmps[t] := by simp [e3]
        rw [this]
        simp [Array.getD_eq_getD_getElem?, e3] at e2
        rw [e2]; rfl
      rw [e4, hb]; cases want <;> rfl
    unfold opW
    rw [hw, hd]
    exact hK β w G (fun _ _ => rfl) hst (fun b hb => .inl hb) (Mod.refl _ _)
  · refine ⟨fun t' y hy => ?_, fun d' hd' => ?_, fun p hp => by simp at hp, by simp, by simp, fun p hp => by simp at hp, fun k hk => by simp at hk, fun _ _ _ _ _ h => by simp at h, fun _ _ _ _ _ _ h => by simp at h⟩
    · have := lk_mem hy
      simp at this
      obtain ⟨rfl, rfl⟩ := this
      exact hl
    · simp at hd'; subst hd'
      rw [Nat.blt_eq] at hn
      exact hn
  · simp only [Step.outF, lk_cons]
  · rfl
end
end Go.Proofs.Ytheopcgjdfckmaa.Sx

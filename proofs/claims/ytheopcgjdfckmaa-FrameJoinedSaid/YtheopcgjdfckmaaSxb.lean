/- Values over names, frames, steps of operations, regions in the order of the text. -/
import Derived.Test.YtheopcgjdfckmaaSxa
import Derived.Laws.Sem
namespace Go.Proofs.Ytheopcgjdfckmaa.Sx
open Go
set_option linter.unusedVariables false

/-! ### 2. Values over names -/
/-- A value of one cell: one that no name stands in; a pointer into a named block; a slice of one; a function with captured pointers; a named value; a pointer into a named slice. -/
inductive Cl where
  | v (x : Value)
  | p (k off : Nat)
  | sl (k off len cap : Nat)
  | fn (f : Fn) (ks : List Nat)
  | nv (k : Nat)
  | rp (k off : Nat)
  | rs (k l h s : Nat)
/-- A variable's value. -/
inductive Av where
  | c (x : Cl)
  | agg (l : List Cl)
/-- A slot's value. -/
inductive SV where
  | a (x : Av)
  | tup (l : List Av)
  | ifc (t : TypeId) (x : Av)

def ptr (b off : Nat) : Value := .pointer (some ⟨b, off, none⟩)
/-- A pointer into what a slice value leads to. -/
def rowPtr (off : Nat) : Value → Value
  | .slice (some a) _ _ => ptr a.block off
  | _ => .bool false
/-- A part of a slice. -/
def partOf (l h s : Nat) : Value → Value
  | .slice a _ cap => .slice (if cap = l then a else a.map (·.add (l * s))) (h - l) (cap - l)
  | _ => .bool false
/-- A value of one cell, for sure. -/
def one1 (v : Value) : Value := match v.oneCell' with
  | true => v
  | false => .bool false
def Cl.den (β : Env) : Cl → Value
  | .v x => x
  | .p k off => .pointer (some ⟨(β k).b, off, none⟩)
  | .sl k off len cap => .slice (some ⟨(β k).b, off, none⟩) len cap
  | .fn f ks => .func f #[] (ks.map fun k => ptr (β k).b 0).toArray
  | .nv k => one1 (β k).v
  | .rp k off => rowPtr off (β k).v
  | .rs k l h s => partOf l h s (β k).v
def Cl.ks : Cl → List Nat
  | .v _ => []
  | .p k _ => [k]
  | .sl k _ _ _ => [k]
  | .fn _ ks => ks
  | .nv k => [k]
  | .rp k _ => [k]
  | .rs k _ _ _ => [k]
def Av.den (β : Env) : Av → Value
  | .c x => x.den β
  | .agg l => .agg (l.map (Cl.den β)).toArray
def Av.ks : Av → List Nat
  | .c x => x.ks
  | .agg l => l.flatMap Cl.ks
def SV.den (β : Env) : SV → Value
  | .a x => x.den β
  | .tup l => .tuple (l.map (Av.den β)).toArray
  | .ifc t x => .iface t (x.den β)
def SV.ks : SV → List Nat
  | .a x => x.ks
  | .tup l => l.flatMap Av.ks
  | .ifc _ x => x.ks
abbrev SV.i (x : Int) : SV := .a (.c (.v (.int .i64 x)))
abbrev SV.b (x : Bool) : SV := .a (.c (.v (.bool x)))
abbrev SV.raw (x : Value) : SV := .a (.c (.v x))
abbrev SV.p (k off : Nat) : SV := .a (.c (.p k off))
abbrev SV.agg (l : List Cl) : SV := .a (.agg l)
abbrev Cl.i (x : Int) : Cl := .v (.int .i64 x)
abbrev Cl.b (x : Bool) : Cl := .v (.bool x)

theorem Cl.den_congr {β β' : Env} : ∀ (x : Cl), (∀ k ∈ x.ks, β k = β' k) → x.den β = x.den β'
  | .v _, _ => rfl
  | .p k off, h => by simp [Cl.den, h k (by simp [Cl.ks])]
  | .sl k off len cap, h => by simp [Cl.den, h k (by simp [Cl.ks])]
  | .fn f ks, h => by
    have e : ks.map (fun k => ptr (β k).b 0) = ks.map (fun k => ptr (β' k).b 0) := List.map_congr_left (fun k hk => by rw [h k hk])
    simp only [Cl.den, e]
  | .nv k, h => by simp [Cl.den, h k (by simp [Cl.ks])]
  | .rp k off, h => by simp [Cl.den, h k (by simp [Cl.ks])]
  | .rs k l h' s, h => by simp [Cl.den, h k (by simp [Cl.ks])]
theorem Av.den_congr {β β' : Env} : ∀ (x : Av), (∀ k ∈ x.ks, β k = β' k) → x.den β = x.den β'
  | .c x, h => Cl.den_congr x h
  | .agg l, h => by
    have e : l.map (Cl.den β) = l.map (Cl.den β') := List.map_congr_left (fun x hx => Cl.den_congr x (fun k hk => h k (List.mem_flatMap.2 ⟨x, hx, hk⟩)))
    simp only [Av.den, e]
theorem SV.den_congr {β β' : Env} : ∀ (x : SV), (∀ k ∈ x.ks, β k = β' k) → x.den β = x.den β'
  | .a x, h => Av.den_congr x h
  | .tup l, h => by
    have e : l.map (Av.den β) = l.map (Av.den β') := List.map_congr_left (fun x hx => Av.den_congr x (fun k hk => h k (List.mem_flatMap.2 ⟨x, hx, hk⟩)))
    simp only [SV.den, e]
  | .ifc t x, h => by simp only [SV.den, Av.den_congr x h]

/-! ### 3. Frames and tokens as lists -/
def lk {α : Type} : List (Nat × α) → Nat → Option α
  | [], _ => none
  | p :: r, k => match Nat.beq p.1 k with
    | true => some p.2
    | false => lk r k
theorem lk_cons {α : Type} (k : Nat) (x : α) (l : List (Nat × α)) : lk ((k, x) :: l) = upd (lk l) k (some x) := by
  funext j
  simp only [lk, upd]
  by_cases h : j = k
  · subst h; simp
  · have : Nat.beq k j = false := by
      cases hb : Nat.beq k j with
      | false => rfl
      | true => exact absurd (Nat.eq_of_beq_eq_true hb).symm h
    simp [this, h]
theorem lk_mem {α : Type} {k : Nat} {x : α} : ∀ {l : List (Nat × α)}, lk l k = some x → (k, x) ∈ l
  | p :: r, h => by
    simp only [lk] at h
    split at h
    · rename_i hb
      have := Nat.eq_of_beq_eq_true hb
      simp at h; subst h; subst this; exact List.mem_cons_self
    · exact List.mem_cons_of_mem _ (lk_mem h)
abbrev FL := List (Nat × SV)
abbrev TL := List (Nat × Option Tok)
def lkT (L : TL) (k : Nat) : Option Tok := (lk L k).join
theorem lkT_cons (k : Nat) (x : Option Tok) (L : TL) : lkT ((k, x) :: L) = upd (lkT L) k x := by
  funext j
  simp only [lkT, lk_cons, upd]
  split <;> simp
theorem lkT_mem {L : TL} {k : Nat} {t : Tok} (h : lkT L k = some t) : (k, some t) ∈ L := by
  unfold lkT at h
  cases hk : lk L k with
  | none => rw [hk] at h; cases h
  | some o => rw [hk] at h; simp only [Option.join] at h; subst h; exact lk_mem hk

/-- What an operand holds. -/
def ev (fs : FL) : Operand → Option SV
  | .tmp t => lk fs t
  | .const v => some (.a (.c (.v v)))
  | .func f => some (.a (.c (.v (.func (.func f) #[] #[]))))
  | .global g => some (.a (.c (.v (.pointer (some ⟨g, 0, none⟩)))))

/-! ### 4. Steps -/
structure Step where
  rs : FL
  ws : Option Nat
  xv : SV
  tr : List (Nat × Tok)
  ti : List (Nat × Tok)
  to : List (Nat × Tok)
  fr : List Nat

/-- The operation is carried out: from what it reads, and its tokens, to what it leaves. -/
def opW (P : Program) (ops : Array Oper) (Q : Exit → Act → World → Prop) (o : Oper) (K : Act → World → Prop) (a : Act) (w : World) : Prop :=
  if Region.wanted o (yielded ops a.tmps) then o.wp P a w K Q else K (a.put o.dst undef) w

def Valid (P : Program) (ops : Array Oper) (o : Oper) (s : Step) : Prop :=
  ∀ (β : Env) (a : Act) (w : World) (G : Foot) (K : Act → World → Prop) (Q : Exit → Act → World → Prop),
    (∀ t x, lk s.rs t = some x → a.tmps.getD t undef = x.den β) → (∀ t, (lk s.rs t).isSome → t < a.tmps.size) →
    Star ((s.tr ++ s.ti).map fun p => p.2.r β) w G →
    (∀ (β' : Env) (w' : World) (G' : Foot), (∀ k, k ∉ s.fr → β' k = β k) → Star ((s.tr ++ s.to).map fun p => p.2.r β') w' G' → (∀ b, G' b → G b ∨ w.heap.size ≤ b) → Mod G w w' →
      K (a.put s.ws (s.xv.den β')) w') →
    opW P ops Q o K a w

structure Ctx where
  W : World
  F0 : Foot
  β0 : Env
  n : Nat

def Holds (C : Ctx) (f : Nat → Option SV) (m : Nat → Option Tok) (a : Act) (w : World) : Prop :=
  ∃ (β : Env) (F : Foot), (∀ k, k < 20 → β k = C.β0 k) ∧ (∀ t x, f t = some x → a.tmps.getD t undef = x.den β) ∧ (∀ t, (f t).isSome → t < a.tmps.size) ∧ a.tmps.size = C.n ∧ a.defers = [] ∧
    StarM m β w F ∧ (∀ b, F b → C.F0 b ∨ C.W.heap.size ≤ b) ∧ Mod C.F0 C.W w

/-- The step fits a state. -/
structure Fits (n : Nat) (f : Nat → Option SV) (m : Nat → Option Tok) (s : Step) : Prop where
  rs : ∀ t x, lk s.rs t = some x → f t = some x
  ws : ∀ d, s.ws = some d → d < n
  tk : ∀ p ∈ s.tr ++ s.ti, m p.1 = some p.2
  nd : ((s.tr ++ s.ti).map (·.1)).Nodup
  nd' : ((s.tr ++ s.to).map (·.1)).Nodup
  out : ∀ p ∈ s.to, p.1 ∈ s.ti.map (·.1) ∨ m p.1 = none
  fr : ∀ k ∈ s.fr, 20 ≤ k
  frf : ∀ t x, f t = some x → ∀ j ∈ x.ks, j ∉ s.fr
  frm : ∀ k t, m k = some t → (∀ p ∈ s.ti, p.1 ≠ k) → ∀ j ∈ t.ks, j ∉ s.fr

def Step.outF (s : Step) (f : Nat → Option SV) : Nat → Option SV := match s.ws with
  | some d => upd f d (some s.xv)
  | none => f
def Step.outM (s : Step) (m : Nat → Option Tok) : Nat → Option Tok := puts (takes m (s.ti.map (·.1))) s.to

theorem getD_put {a : Act} {d : Option Nat} {v : Value} {t : Nat} (ht : ∀ k, d = some k → k ≠ t) : (a.put d v).tmps.getD t undef = a.tmps.getD t undef := by
  cases d with
  | none => rfl
  | some k => simp [Act.put, Array.getD_eq_getD_getElem?, ht k rfl]
theorem getD_put_same {a : Act} {k : Nat} {v : Value} (hk : k < a.tmps.size) : (a.put (some k) v).tmps.getD k undef = v := by
  simp [Act.put, hk]
theorem put_size (a : Act) (d : Option Nat) (v : Value) : (a.put d v).tmps.size = a.tmps.size := by
  cases d <;> simp [Act.put]
theorem put_defers (a : Act) (d : Option Nat) (v : Value) : (a.put d v).defers = a.defers := by
  cases d <;> rfl

/-- Of several tokens of one id the first one counts. -/
def lkP : List (Nat × Tok) → Nat → Option Tok
  | [], _ => none
  | p :: r, k => if k = p.1 then some p.2 else lkP r k
theorem puts_eq (m : Nat → Option Tok) : ∀ (l : List (Nat × Tok)) (k : Nat), puts m l k = (lkP l k).or (m k)
  | [], k => by simp [puts, lkP]
  | (j, t) :: r, k => by
    simp only [puts, lkP, upd]
    by_cases h : k = j
    · simp [h]
    · simp [h, puts_eq m r k]
theorem lkP_none {k : Nat} : ∀ {l : List (Nat × Tok)}, k ∉ l.map (·.1) → lkP l k = none
  | [], _ => rfl
  | p :: r, h => by
    simp only [List.map_cons, List.mem_cons, not_or] at h
    simp only [lkP, if_neg h.1, lkP_none h.2]
theorem lkP_mem {k : Nat} {t : Tok} : ∀ {l : List (Nat × Tok)}, (k, t) ∈ l → (l.map (·.1)).Nodup → lkP l k = some t
  | p :: r, h, hn => by
    simp only [List.map_cons, List.nodup_cons] at hn
    rcases List.mem_cons.1 h with rfl | h
    · simp [lkP]
    · have : k ≠ p.1 := by rintro rfl; exact hn.1 (List.mem_map_of_mem (f := (·.1)) h)
      simp only [lkP, if_neg this]
      exact lkP_mem h hn.2
theorem lkP_append (l r : List (Nat × Tok)) (k : Nat) : lkP (l ++ r) k = (lkP l k).or (lkP r k) := by
  induction l with
  | nil => simp [lkP]
  | cons p l ih =>
    simp only [List.cons_append, lkP]
    by_cases h : k = p.1
    · simp [h]
    · simp [h, ih]
theorem takes_eq (m : Nat → Option Tok) (l : List Nat) (k : Nat) : takes m l k = if k ∈ l then none else m k := by
  by_cases h : k ∈ l
  · rw [if_pos h, takes_mem l k h]
  · rw [if_neg h, takes_ne l k h]

theorem Step.outM_eq (s : Step) (m : Nat → Option Tok) (k : Nat) : s.outM m k = (lkP s.to k).or (if k ∈ s.ti.map (·.1) then none else m k) := by
  unfold Step.outM; rw [puts_eq, takes_eq]

/-- What is read comes back. -/
theorem outM_tr {n : Nat} {f : Nat → Option SV} {m : Nat → Option Tok} {s : Step} (hf : Fits n f m s) (k : Nat) :
    s.outM m k = puts (takes m ((s.tr ++ s.ti).map (·.1))) (s.tr ++ s.to) k := by
  rw [Step.outM_eq, puts_eq, takes_eq, lkP_append]
  by_cases h : k ∈ s.tr.map (·.1)
  · obtain ⟨⟨k', t⟩, hp, rfl⟩ := List.mem_map.1 h
    have hnd := hf.nd'
    rw [List.map_append] at hnd
    have h1 := lkP_mem hp (List.nodup_append.1 hnd).1
    have h2 : lkP s.to k' = none := lkP_none (fun h' => (List.nodup_append.1 hnd).2.2 _ h _ h' rfl)
    have hnd2 := hf.nd
    rw [List.map_append] at hnd2
    have h3 : k' ∉ s.ti.map (·.1) := fun h' => (List.nodup_append.1 hnd2).2.2 _ h _ h' rfl
    simp only [h1, h2, if_neg h3]
    rw [hf.tk _ (List.mem_append_left _ hp)]
    simp
  · rw [lkP_none h]
    simp only [List.map_append, List.mem_append, h, false_or, Option.none_or]

/-- A step from a state to the next. -/
theorem step_state {C : Ctx} {P : Program} {ops : Array Oper} {o : Oper} {s : Step} {f : Nat → Option SV} {m : Nat → Option Tok} {a : Act} {w : World} {K : Act → World → Prop} {Q : Exit → Act → World → Prop}
    (hv : Valid P ops o s) (hf : Fits C.n f m s) (h : Holds C f m a w) (hK : ∀ a' w', Holds C (s.outF f) (s.outM m) a' w' → K a' w') : opW P ops Q o K a w := by
  obtain ⟨β, F, hβ, hfs, hlt, hn, hd, hs, hF, hM⟩ := h
  obtain ⟨F1, F2, e, dj, h1, h2⟩ := hs.takes hf.tk hf.nd
  refine hv β a w F1 K Q (fun t x hx => hfs t x (hf.rs t x hx)) (fun t ht => ?_) h1 (fun β' w' G' hb hs' hG' hM' => hK _ _ ?_)
  · obtain ⟨x, hx⟩ := Option.isSome_iff_exists.1 ht
    exact hlt t (by rw [hf.rs t x hx]; rfl)
  have hF1 : ∀ b, F1 b → F b := fun b hb => (e b).2 (.inl hb)
  have hF2 : ∀ b, F2 b → F b := fun b hb => (e b).2 (.inr hb)
  have hlt2 : ∀ b, F2 b → b < w.heap.size := fun b hb => h2.lt hb
  -- the rest, in the new world, under the new names
  have h3 : StarM (takes m ((s.tr ++ s.ti).map (·.1))) β' w' F2 := by
    refine (h2.loc (fun b hb => hM'.block b (hlt2 b hb) (fun h => dj b h hb))).env (fun k t hk j hj => ?_)
    have hk0 : k ∉ (s.tr ++ s.ti).map (·.1) := fun hm => by rw [takes_mem _ _ hm] at hk; cases hk
    rw [takes_ne _ _ hk0] at hk
    exact (hb j (hf.frm k t hk (fun p hp he => hk0 (by rw [← he]; exact List.mem_map_of_mem (List.mem_append_right _ hp))) j hj)).symm
  have dj' : ∀ b, G' b → ¬ F2 b := fun b hb h2' => (hG' b hb).elim (fun h => dj b h h2') (fun h => Nat.lt_irrefl _ (Nat.lt_of_lt_of_le (hlt2 b h2') h))
  have h4 : StarM (s.outM m) β' w' (fun b => G' b ∨ F2 b) := by
    refine StarM.congr ?_ (outM_tr hf)
    refine StarM.puts (l := s.tr ++ s.to) h3 (fun p hp => ?_) hf.nd' hs' dj' (fun b => Iff.rfl)
    rcases List.mem_append.1 hp with hp | hp
    · exact takes_mem _ _ (List.mem_map_of_mem (List.mem_append_left _ hp))
    · rcases hf.out p hp with h | h
      · exact takes_mem _ _ (by rw [List.map_append]; exact List.mem_append_right _ h)
      · exact takes_none _ _ h
  refine ⟨β', fun b => G' b ∨ F2 b, fun k hk => ?_, ?_, ?_, (put_size _ _ _).trans hn, (put_defers _ _ _).trans hd, h4, ?_, ?_⟩
  · rw [hb k (fun hm => Nat.lt_irrefl _ (Nat.lt_of_lt_of_le hk (hf.fr k hm))), hβ k hk]
  · intro t x hx
    have old : ∀ x, f t = some x → a.tmps.getD t undef = x.den β' := fun x hx => by
      rw [hfs t x hx]
      exact SV.den_congr x (fun k hk => (hb k (hf.frf t x hx k hk)).symm)
    cases hw : s.ws with
    | none => simp only [Step.outF, hw] at hx; exact (getD_put (fun k h => by cases h)).trans (old x hx)
    | some d =>
      simp only [Step.outF, hw, upd] at hx
      by_cases ed : t = d
      · subst ed
        simp at hx; subst hx
        exact getD_put_same (by rw [hn]; exact hf.ws _ hw)
      · rw [if_neg ed] at hx
        exact (getD_put (fun k h => by cases h; exact Ne.symm ed)).trans (old x hx)
  · intro t ht
    rw [put_size]
    cases hw : s.ws with
    | none => simp only [Step.outF, hw] at ht; exact hlt t ht
    | some d =>
      simp only [Step.outF, hw, upd] at ht
      by_cases ed : t = d
      · subst ed; rw [hn]; exact hf.ws _ hw
      · rw [if_neg ed] at ht; exact hlt t ht
  · rintro b (hb' | hb')
    · rcases hG' b hb' with h | h
      · exact hF b (hF1 b h)
      · exact .inr (Nat.le_trans hM.size h)
    · exact hF b (hF2 b hb')
  · exact hM.trans hM' (fun k hk => hF k (hF1 k hk))

/-! ### 5. Operations in the order of the text -/
inductive Run (P : Program) (n : Nat) (ops : Array Oper) : List Oper → FL → TL → List Step → FL → TL → Prop
  | nil {fs : FL} {L : TL} : Run P n ops [] fs L [] fs L
  | cons {o : Oper} {rest : List Oper} {s : Step} {ss : List Step} {fs fs1 fs' : FL} {L L1 L' : TL} (hv : Valid P ops o s) (hf : Fits n (lk fs) (lkT L) s)
      (h1 : lk fs1 = s.outF (lk fs)) (h2 : ∀ k, lkT L1 k = s.outM (lkT L) k) (h : Run P n ops rest fs1 L1 ss fs' L') : Run P n ops (o :: rest) fs L (s :: ss) fs' L'

theorem opW_list {P : Program} {ops : Array Oper} {Q : Exit → Act → World → Prop} {o : Oper} {rest : List Oper} {a : Act} {w : World} (h : opW P ops Q o (wpList P ops Q rest) a w) : wpList P ops Q (o :: rest) a w := by
  unfold wpList; unfold opW at h
  split
  · rename_i hw; rw [if_pos hw] at h; exact .inl h
  · rename_i hw; rw [if_neg hw] at h; exact h

theorem Run.sound {C : Ctx} {P : Program} {ops : Array Oper} {Q : Exit → Act → World → Prop} {l : List Oper} {fs fs' : FL} {L L' : TL} {ss : List Step} (h : Run P C.n ops l fs L ss fs' L') :
    ∀ {a : Act} {w : World}, Holds C (lk fs) (lkT L) a w → (∀ a' w', Holds C (lk fs') (lkT L') a' w' → Q .normal a' w') → wpList P ops Q l a w := by
  induction h with
  | nil => intro a w hh hq; exact hq _ _ hh
  | cons hv hf h1 h2 _ ih =>
    intro a w hh hq
    refine opW_list (step_state hv hf hh (fun a' w' hh' => ih ?_ hq))
    have e2 := funext h2
    rw [h1, e2]; exact hh'

end Go.Proofs.Ytheopcgjdfckmaa.Sx

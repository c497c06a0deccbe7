/- A small calculus for walks over own memory: tokens with footprints, frames as lists of slots, steps of operations. Proved once, over any program. -/
import Derived.Orders
import Derived.Tactics
import Derived.RowKit3
import Derived.Below
namespace Go.Proofs.Ytheopcgjdfckmaa.Sx
open Go
set_option linter.unusedVariables false

/-! ### 1. Footprints and resources -/
abbrev Foot := Nat → Prop

/-- Outside F all old blocks are as they were. -/
structure Mod (F : Foot) (w w' : World) : Prop where
  os : w'.os = w.os
  tape : w'.tape = w.tape
  output : w'.output = w.output
  size : w.heap.size ≤ w'.heap.size
  block : ∀ k, k < w.heap.size → ¬ F k → w'.heap[k]? = w.heap[k]?

theorem Mod.refl (F : Foot) (w : World) : Mod F w w := ⟨rfl, rfl, rfl, Nat.le_refl _, fun _ _ _ => rfl⟩
theorem Mod.trans {F F' : Foot} {a b c : World} (h : Mod F a b) (h' : Mod F' b c) (hs : ∀ k, F' k → F k ∨ a.heap.size ≤ k) : Mod F a c :=
  ⟨h'.os.trans h.os, h'.tape.trans h.tape, h'.output.trans h.output, Nat.le_trans h.size h'.size, fun k hk hn =>
    (h'.block k (Nat.lt_of_lt_of_le hk h.size) (fun hF => (hs k hF).elim hn (fun hle => Nat.lt_irrefl _ (Nat.lt_of_lt_of_le hk hle)))).trans (h.block k hk hn)⟩
theorem Mod.weaken {F F' : Foot} {a b : World} (h : Mod F a b) (hs : ∀ k, k < a.heap.size → F k → F' k) : Mod F' a b :=
  ⟨h.os, h.tape, h.output, h.size, fun k hk hn => h.block k hk (fun hF => hn (hs k hk hF))⟩
theorem Mod.drew (F : Foot) (w : World) : Mod F w { w with drawn := w.drawn + 1 } := ⟨rfl, rfl, rfl, Nat.le_refl _, fun _ _ _ => rfl⟩
theorem Mod.below {w w' : World} (h : Mod (fun _ => False) w w') : Go.RowKit.Below w.heap.size w w' :=
  ⟨h.os, h.tape, h.output, h.size, fun k hk => h.block k hk (fun h => h)⟩
theorem Mod.of_below {F : Foot} {w w' : World} (h : Go.RowKit.Below w.heap.size w w') : Mod F w w' :=
  ⟨h.os, h.tape, h.output, h.size, fun k hk _ => h.block k hk⟩

/-- A resource: what some blocks hold. It speaks of the blocks of its footprint alone. -/
structure Res where
  holds : World → Foot → Prop
  loc : ∀ {w w' : World} {F : Foot}, (∀ b, F b → w'.heap[b]? = w.heap[b]?) → holds w F → holds w' F
  lt : ∀ {w : World} {F : Foot} {b : Nat}, holds w F → F b → b < w.heap.size

/-- What a name stands for: a block, or a value. -/
structure Nm where
  b : Nat
  v : Value
abbrev Env := Nat → Nm

/-- A token: a resource over names; only the names of ks count. -/
structure Tok where
  ks : List Nat
  r : Env → Res
  sup : ∀ {β β' : Env}, (∀ k ∈ ks, β k = β' k) → r β = r β'

/-- Tokens by their ids, each with a footprint of its own. -/
def StarM (m : Nat → Option Tok) (β : Env) (w : World) (F : Foot) : Prop :=
  ∃ φ : Nat → Foot, (∀ k t, m k = some t → (t.r β).holds w (φ k)) ∧ (∀ k, m k = none → ∀ b, ¬ φ k b) ∧
    (∀ j k, j ≠ k → ∀ b, φ j b → ¬ φ k b) ∧ (∀ b, F b ↔ ∃ k, φ k b)

/-- Resources side by side. -/
def Star : List Res → World → Foot → Prop
  | [], _, F => ∀ b, ¬ F b
  | r :: L, w, F => ∃ F1 F2 : Foot, (∀ b, F b ↔ F1 b ∨ F2 b) ∧ (∀ b, F1 b → ¬ F2 b) ∧ r.holds w F1 ∧ Star L w F2

def upd {α : Type} (m : Nat → α) (k : Nat) (v : α) : Nat → α := fun j => if j = k then v else m j
@[simp] theorem upd_same {α : Type} (m : Nat → α) (k : Nat) (v : α) : upd m k v k = v := by simp [upd]
theorem upd_ne {α : Type} (m : Nat → α) {k j : Nat} (v : α) (h : j ≠ k) : upd m k v j = m j := by simp [upd, h]

theorem StarM.lt {m : Nat → Option Tok} {β : Env} {w : World} {F : Foot} (h : StarM m β w F) {b : Nat} (hb : F b) : b < w.heap.size := by
  obtain ⟨φ, h1, h2, h3, h4⟩ := h
  obtain ⟨k, hk⟩ := (h4 b).1 hb
  cases hm : m k with
  | none => exact absurd hk (h2 k hm b)
  | some t => exact (t.r β).lt (h1 k t hm) hk

theorem StarM.loc {m : Nat → Option Tok} {β : Env} {w w' : World} {F : Foot} (h : StarM m β w F) (hw : ∀ b, F b → w'.heap[b]? = w.heap[b]?) : StarM m β w' F := by
  obtain ⟨φ, h1, h2, h3, h4⟩ := h
  exact ⟨φ, fun k t hm => (t.r β).loc (fun b hb => hw b ((h4 b).2 ⟨k, hb⟩)) (h1 k t hm), h2, h3, h4⟩

theorem StarM.env {m : Nat → Option Tok} {β β' : Env} {w : World} {F : Foot} (h : StarM m β w F) (hβ : ∀ k t, m k = some t → ∀ j ∈ t.ks, β j = β' j) : StarM m β' w F := by
  obtain ⟨φ, h1, h2, h3, h4⟩ := h
  exact ⟨φ, fun k t hm => by rw [← t.sup (hβ k t hm)]; exact h1 k t hm, h2, h3, h4⟩

theorem StarM.congr {m m' : Nat → Option Tok} {β : Env} {w : World} {F : Foot} (h : StarM m β w F) (hm : ∀ k, m' k = m k) : StarM m' β w F := by
  have : m' = m := funext hm
  subst this; exact h

/-- Tokens may be let go. -/
theorem StarM.sub {m m' : Nat → Option Tok} {β : Env} {w : World} {F : Foot} (h : StarM m β w F) (hm : ∀ k t, m' k = some t → m k = some t) : ∃ F', (∀ b, F' b → F b) ∧ StarM m' β w F' := by
  obtain ⟨φ, h1, h2, h3, h4⟩ := h
  refine ⟨fun b => ∃ k, (m' k).isSome ∧ φ k b, fun b ⟨k, _, hk⟩ => (h4 b).2 ⟨k, hk⟩, fun k b => (m' k).isSome ∧ φ k b, ?_, ?_, ?_, ?_⟩
  · intro k t hk
    have e : (fun b => (m' k).isSome ∧ φ k b) = φ k := by funext b; simp [hk]
    show (t.r β).holds w (fun b => (m' k).isSome ∧ φ k b)
    rw [e]; exact h1 k t (hm k t hk)
  · intro k hk b hb; simp [hk] at hb
  · intro j k hjk b hj hk; exact h3 j k hjk b hj.2 hk.2
  · intro b; exact Iff.rfl

theorem StarM.take {m : Nat → Option Tok} {β : Env} {w : World} {F : Foot} (h : StarM m β w F) {k : Nat} {t : Tok} (hk : m k = some t) :
    ∃ F1 F2 : Foot, (∀ b, F b ↔ F1 b ∨ F2 b) ∧ (∀ b, F1 b → ¬ F2 b) ∧ (t.r β).holds w F1 ∧ StarM (upd m k none) β w F2 := by
  obtain ⟨φ, h1, h2, h3, h4⟩ := h
  refine ⟨φ k, fun b => ∃ j, j ≠ k ∧ φ j b, ?_, ?_, h1 k t hk, fun j b => j ≠ k ∧ φ j b, ?_, ?_, ?_, ?_⟩
  · intro b
    rw [h4 b]
    constructor
    · rintro ⟨j, hj⟩
      by_cases e : j = k
      · subst e; exact .inl hj
      · exact .inr ⟨j, e, hj⟩
    · rintro (h | ⟨j, _, hj⟩)
      · exact ⟨k, h⟩
      · exact ⟨j, hj⟩
  · rintro b hb ⟨j, hj, hjb⟩; exact h3 j k hj b hjb hb
  · intro j t' hj
    by_cases e : j = k
    · subst e; simp at hj
    · rw [upd_ne _ _ e] at hj
      have : (fun b => j ≠ k ∧ φ j b) = φ j := by funext b; simp [e]
      show (t'.r β).holds w (fun b => j ≠ k ∧ φ j b)
      rw [this]; exact h1 j t' hj
  · intro j hj b hb
    by_cases e : j = k
    · exact hb.1 e
    · rw [upd_ne _ _ e] at hj; exact h2 j hj b hb.2
  · intro i j hij b hi hj; exact h3 i j hij b hi.2 hj.2
  · intro b; exact Iff.rfl

theorem StarM.put {m : Nat → Option Tok} {β : Env} {w : World} {F1 F2 F : Foot} {k : Nat} {t : Tok} (h : StarM m β w F2) (hk : m k = none) (ht : (t.r β).holds w F1)
    (hd : ∀ b, F1 b → ¬ F2 b) (hF : ∀ b, F b ↔ F1 b ∨ F2 b) : StarM (upd m k (some t)) β w F := by
  obtain ⟨φ, h1, h2, h3, h4⟩ := h
  refine ⟨upd φ k F1, ?_, ?_, ?_, ?_⟩
  · intro j t' hj
    by_cases e : j = k
    · subst e; simp at hj; subst hj; simpa using ht
    · rw [upd_ne _ _ e] at hj ⊢; exact h1 j t' hj
  · intro j hj b
    by_cases e : j = k
    · subst e; simp at hj
    · rw [upd_ne _ _ e] at hj ⊢; exact h2 j hj b
  · intro i j hij b hi hj
    by_cases e : i = k
    · subst e
      rw [upd_ne _ _ (Ne.symm hij)] at hj
      rw [upd_same] at hi
      exact hd b hi ((h4 b).2 ⟨j, hj⟩)
    · rw [upd_ne _ _ e] at hi
      by_cases e' : j = k
      · subst e'; rw [upd_same] at hj; exact hd b hj ((h4 b).2 ⟨i, hi⟩)
      · rw [upd_ne _ _ e'] at hj; exact h3 i j hij b hi hj
  · intro b
    rw [hF b, h4 b]
    constructor
    · rintro (h | ⟨j, hj⟩)
      · exact ⟨k, by simpa using h⟩
      · have e : j ≠ k := by rintro rfl; exact h2 j hk b hj
        exact ⟨j, by rw [upd_ne _ _ e]; exact hj⟩
    · rintro ⟨j, hj⟩
      by_cases e : j = k
      · subst e; rw [upd_same] at hj; exact .inl hj
      · rw [upd_ne _ _ e] at hj; exact .inr ⟨j, hj⟩

/-- Some ids taken out, in order. -/
def takes (m : Nat → Option Tok) : List Nat → Nat → Option Tok
  | [] => m
  | k :: r => takes (upd m k none) r
/-- Some tokens put in. -/
def puts (m : Nat → Option Tok) : List (Nat × Tok) → Nat → Option Tok
  | [] => m
  | (k, t) :: r => upd (puts m r) k (some t)

theorem takes_none {m : Nat → Option Tok} : ∀ (l : List Nat) (k : Nat), m k = none → takes m l k = none
  | [], _, h => h
  | j :: r, k, h => takes_none r k (by by_cases e : k = j <;> simp [upd, e, h])
theorem takes_mem {m : Nat → Option Tok} : ∀ (l : List Nat) (k : Nat), k ∈ l → takes m l k = none
  | j :: r, k, h => by
    rcases List.mem_cons.1 h with rfl | h
    · exact takes_none r k (by simp)
    · exact takes_mem r k h
theorem takes_ne {m : Nat → Option Tok} : ∀ (l : List Nat) (k : Nat), k ∉ l → takes m l k = m k
  | [], _, _ => rfl
  | j :: r, k, h => by
    simp only [List.mem_cons, not_or] at h
    rw [takes, takes_ne r k h.2, upd_ne _ _ h.1]

theorem StarM.takes {β : Env} {w : World} : ∀ {l : List (Nat × Tok)} {m : Nat → Option Tok} {F : Foot}, StarM m β w F → (∀ p ∈ l, m p.1 = some p.2) → (l.map (·.1)).Nodup →
    ∃ F1 F2 : Foot, (∀ b, F b ↔ F1 b ∨ F2 b) ∧ (∀ b, F1 b → ¬ F2 b) ∧ Star (l.map fun p => p.2.r β) w F1 ∧ StarM (Sx.takes m (l.map (·.1))) β w F2
  | [], m, F, h, _, _ => ⟨fun _ => False, F, fun b => by simp, fun b hb => hb.elim, fun b hb => hb, h⟩
  | (k, t) :: r, m, F, h, hl, hn => by
    simp only [List.map_cons, List.nodup_cons] at hn
    obtain ⟨F1, F2, e, d, ht, h2⟩ := h.take (hl (k, t) List.mem_cons_self)
    obtain ⟨G1, G2, e', d', hs, h3⟩ := StarM.takes (l := r) h2 (fun p hp => by
      rw [upd_ne _ _ (by rintro rfl; exact hn.1 (List.mem_map_of_mem (f := (·.1)) hp))]
      exact hl p (List.mem_cons_of_mem _ hp)) hn.2
    refine ⟨fun b => F1 b ∨ G1 b, G2, fun b => by rw [e b, e' b, or_assoc], ?_, ⟨F1, G1, fun b => Iff.rfl, fun b hb hg => d b hb ((e' b).2 (.inl hg)), ht, hs⟩, h3⟩
    rintro b (hb | hb) hg
    · exact d b hb ((e' b).2 (.inr hg))
    · exact d' b hb hg

theorem StarM.puts {β : Env} {w : World} : ∀ {l : List (Nat × Tok)} {m : Nat → Option Tok} {F1 F2 F : Foot}, StarM m β w F2 → (∀ p ∈ l, m p.1 = none) → (l.map (·.1)).Nodup →
    Star (l.map fun p => p.2.r β) w F1 → (∀ b, F1 b → ¬ F2 b) → (∀ b, F b ↔ F1 b ∨ F2 b) → StarM (Sx.puts m l) β w F
  | [], m, F1, F2, F, h, _, _, hs, _, hF => by
    have : F = F2 := funext fun b => propext (by rw [hF b]; exact ⟨fun h => h.elim (fun h' => absurd h' (hs b)) id, .inr⟩)
    subst this; exact h
  | (k, t) :: r, m, F1, F2, F, h, hl, hn, hs, hd, hF => by
    simp only [List.map_cons, List.nodup_cons] at hn
    obtain ⟨A, B, e, d, ht, hr⟩ := hs
    have h1 : StarM (Sx.puts m r) β w (fun b => B b ∨ F2 b) :=
      StarM.puts (l := r) h (fun p hp => hl p (List.mem_cons_of_mem _ hp)) hn.2 hr (fun b hb => hd b ((e b).2 (.inr hb))) (fun b => Iff.rfl)
    have hk : Sx.puts m r k = none := by
      have key : ∀ (r : List (Nat × Tok)), k ∉ r.map (·.1) → m k = none → Sx.puts m r k = none := by
        intro r
        induction r with
        | nil => intro _ h; exact h
        | cons p r ih =>
          intro hn h
          simp only [List.map_cons, List.mem_cons, not_or] at hn
          rw [Sx.puts, upd_ne _ _ hn.1]; exact ih hn.2 h
      exact key r hn.1 (hl (k, t) List.mem_cons_self)
    refine h1.put hk ht ?_ ?_
    · rintro b hb (hb' | hb')
      · exact d b hb hb'
      · exact hd b ((e b).2 (.inl hb)) hb'
    · intro b; rw [hF b, e b, or_assoc]

theorem Star.lt : ∀ {L : List Res} {w : World} {F : Foot}, Star L w F → ∀ {b : Nat}, F b → b < w.heap.size
  | [], _, _, h, b, hb => absurd hb (h b)
  | r :: L, w, F, ⟨F1, F2, e, _, hr, hs⟩, b, hb => ((e b).1 hb).elim (r.lt hr) (Star.lt hs)

theorem Star.loc : ∀ {L : List Res} {w w' : World} {F : Foot}, Star L w F → (∀ b, F b → w'.heap[b]? = w.heap[b]?) → Star L w' F
  | [], _, _, _, h, _ => h
  | r :: L, w, w', F, ⟨F1, F2, e, d, hr, hs⟩, hw => ⟨F1, F2, e, d, r.loc (fun b hb => hw b ((e b).2 (.inl hb))) hr, Star.loc hs (fun b hb => hw b ((e b).2 (.inr hb)))⟩

end Go.Proofs.Ytheopcgjdfckmaa.Sx

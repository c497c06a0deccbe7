/- What a caller hands over, opened: numbers, bools, structs of them, slices of such. -/
import Derived.Test.YtheopcgjdfckmaaSxm
import Derived.OpenShut
import Derived.ChangeArms
import Derived.ChangeOld
import Derived.DataReads
import Derived.Lib.SmallJoins
namespace Go.Proofs.Ytheopcgjdfckmaa.Sx
open Go
set_option linter.unusedVariables false

/-- A type's cells, one by one: some k: a number of kind k; none: a bool. -/
def kindsGo (P : Program) (rec : TypeId → Option (List (Option IntKind))) : Nat → List Field → Option (List (Option IntKind))
  | _, [] => some []
  | o, f :: r => match f.offset == o, rec f.type with
    | true, some l => match (P.cellsOf f.type == l.length : Bool), kindsGo P rec (o + l.length) r with
      | true, some m => some (l ++ m)
      | _, _ => none
    | _, _ => none
def kindsOf (P : Program) : Nat → TypeId → Option (List (Option IntKind))
  | 0, _ => none
  | d + 1, T => match P.underlying T with
    | some (.int k) => some [some k]
    | some .bool => some [none]
    | some (.struct fs) => match kindsGo P (kindsOf P d) 0 fs.toList with
      | some l => if P.cellsOf T == l.length then some l else none
      | none => none
    | _ => none
def okKind : Option IntKind → Value → Prop
  | some k, v => ∃ n, v = .int k n ∧ (Lit.int k n).wf = true
  | none, v => ∃ b, v = .bool b
def okKinds : List (Option IntKind) → List Value → Prop
  | [], [] => True
  | k :: ks, v :: vs => okKind k v ∧ okKinds ks vs
  | _, _ => False
theorem okKinds_append {ks ks' : List (Option IntKind)} : ∀ {a b : List Value}, okKinds ks a → okKinds ks' b → okKinds (ks ++ ks') (a ++ b) := by
  induction ks with
  | nil => intro a b h h'; cases a with
    | nil => exact h'
    | cons _ _ => exact h.elim
  | cons k ks ih => intro a b h h'; cases a with
    | nil => exact h.elim
    | cons v vs => exact ⟨h.1, ih h.2 h'⟩
theorem okKinds_len : ∀ {ks : List (Option IntKind)} {vs : List Value}, okKinds ks vs → vs.length = ks.length
  | [], [], _ => rfl
  | k :: ks, v :: vs, h => by simp [okKinds_len h.2]
  | [], _ :: _, h => h.elim
  | _ :: _, [], h => h.elim

section
variable {H : Type} {enc : TypeId × Value → H} {P : Program} {w : World} {base : Nat} {spare : Nat → Bool} {held : Bool}
theorem trod_kinds : ∀ (d fuel : Nat) (t : TypeId) (cs : List Value) (x : DataW H × List MemPlace) (ks : List (Option IntKind)), kindsOf P d t = some ks → DataW.trod enc P w base spare held fuel t cs = some x → okKinds ks cs
  | 0, _, _, _, _, _, h, _ => by cases h
  | d + 1, fuel, t, cs, x, ks, hk, h => by
    simp only [kindsOf] at hk
    split at hk
    · rename_i k hu
      cases hk
      obtain ⟨n, rfl, _, hw⟩ := DataW.trod_int hu h
      exact ⟨⟨n, rfl, hw⟩, trivial⟩
    · rename_i hu
      cases hk
      obtain ⟨b, rfl, _⟩ := DataW.trod_bool hu h
      exact ⟨⟨b, rfl⟩, trivial⟩
    · rename_i fs hu
      split at hk
      · rename_i l hl
        split at hk
        · rename_i hc
          cases hk
          obtain ⟨xs, n, _, _, hlen, hxl, hxs⟩ := DataW.trod_struct hu h
          have key : ∀ (fl : List Field) (o : Nat) (l : List (Option IntKind)), (∀ f ∈ fl, ∃ y, DataW.trod enc P w base spare held n f.type ((cs.drop f.offset).take (P.cellsOf f.type)) = some y) → kindsGo P (kindsOf P d) o fl = some l → o + l.length = cs.length → okKinds l (cs.drop o) := by
            intro fl
            induction fl with
            | nil =>
              intro o l _ h1 h3
              cases h1
              have : cs.drop o = [] := List.drop_eq_nil_of_le (by simp at h3; omega)
              rw [this]; trivial
            | cons f fl ih =>
              intro o l h2 h1 h3
              simp only [kindsGo] at h1
              split at h1
              · rename_i l1 hb hl1
                split at h1
                · rename_i m hm1 hm
                  cases h1
                  simp only [beq_iff_eq] at hb hm1
                  obtain ⟨y, hy⟩ := h2 f List.mem_cons_self
                  have h4 := trod_kinds d n f.type _ y l1 hl1 hy
                  have h5 := ih (o + l1.length) m (fun f hf => h2 f (List.mem_cons_of_mem _ hf)) hm (by rw [List.length_append] at h3; omega)
                  rw [hb, hm1] at h4
                  have e : cs.drop o = (cs.drop o).take l1.length ++ cs.drop (o + l1.length) := by rw [← List.drop_drop, List.take_append_drop]
                  rw [e]
                  exact okKinds_append h4 h5
                · cases h1
              · cases h1
          have hc' : P.cellsOf t = ks.length := by simpa using hc
          have := key fs.toList 0 ks (fun f hf => by
            obtain ⟨i, hi⟩ := List.getElem?_of_mem hf
            have hi' : fs[i]? = some f := by simpa using hi
            rw [hxs i f hi']
            have : i < xs.length := by rw [hxl]; exact (Array.getElem?_eq_some_iff.1 hi').1
            exact ⟨_, List.getElem?_eq_getElem this⟩) hl (by omega)
          simpa using this
        · cases hk
      · cases hk
    · cases hk

/-- A value of numbers and bools, opened. -/
theorem open_flat {t : TypeId} {v : Value} {d : DataW H} {p : List MemPlace} {D : Nat} {ks : List (Option IntKind)} (hk : kindsOf P D t = some ks) (h : DataW.Trod enc P w base spare held t v d p) : okKinds ks v.cells.toList := by
  obtain ⟨fuel, hf⟩ := h
  exact trod_kinds D fuel t _ _ ks hk hf

/-- A slice of such, opened: a list of things. -/
theorem open_list {α : Type} {f : α → List Value} {s : Nat} {Q : α → Prop} {t e : TypeId} {v : Value} {d : DataW H} {p : List MemPlace} {D : Nat} {ks : List (Option IntKind)} (hu : P.underlying t = some (.slice e)) (hk : kindsOf P D e = some ks) (hs : P.cellsOf e = s) (hpos : 0 < s) (hf : ∀ c, (f c).length = s)
    (hdec : ∀ cs, okKinds ks cs → ∃ x, cs = f x ∧ Q x) (hv : v.cells = #[v]) (h : DataW.Trod enc P w base spare held t v d p) :
    ∃ (l : List α) (b o : Nat), (∀ x ∈ l, Q x) ∧ (∃ ao cap, v = .slice ao l.length cap ∧ l.length ≤ cap ∧ (0 < l.length → ao = some ⟨b, o, none⟩)) ∧ (0 < l.length → b < w.heap.size) ∧ (∀ j u, (l.flatMap f)[j]? = some u → w.cell? ⟨b, o + j, none⟩ = some u) ∧ l.length ≤ maxLen := by
  obtain ⟨fuel, hf'⟩ := h
  rw [hv] at hf'
  rcases DataW.trod_slice hu hf' with ⟨h1, _⟩ | ⟨a, len, cap, elems, rest, n, _, h1, _, hb, hlc, hcm, hel, hcells, _, _⟩
  · simp at h1
    subst h1
    exact ⟨[], 0, 0, fun x hx => (by cases hx), ⟨none, 0, rfl, Nat.le_refl _, fun h => (by simp at h)⟩, fun h => (by simp at h), fun j u hj => (by simp at hj), by simp⟩
  · simp at h1
    subst h1
    have each : ∀ i, i < len → ∃ x, Q x ∧ w.cells? base (a.add (i * s)) s = some (f x) := by
      intro i hi
      have h2 := hcells i hi
      rw [List.getElem?_eq_getElem (by omega)] at h2
      rw [hs] at h2
      cases hc : w.cells? base (a.add (i * s)) s with
      | none => rw [hc] at h2; cases h2
      | some cs =>
        rw [hc] at h2
        obtain ⟨x, hx, hq⟩ := hdec cs (trod_kinds D n e cs _ ks hk h2)
        exact ⟨x, hq, by rw [hx]⟩
    have list : ∀ m, m ≤ len → ∃ l : List α, l.length = m ∧ (∀ x ∈ l, Q x) ∧ ∀ i x, l[i]? = some x → w.cells? base (a.add (i * s)) s = some (f x) := by
      intro m
      induction m with
      | zero => intro _; exact ⟨[], rfl, fun x hx => (by cases hx), fun i x hx => (by simp at hx)⟩
      | succ m ih =>
        intro hm
        obtain ⟨l, h1, h2, h3⟩ := ih (by omega)
        obtain ⟨x, hq, hx⟩ := each m (by omega)
        refine ⟨l ++ [x], by simp [h1], fun y hy => ?_, fun i y hy => ?_⟩
        · rcases List.mem_append.1 hy with hy | hy
          · exact h2 y hy
          · simp at hy; subst hy; exact hq
        · rw [List.getElem?_append] at hy
          split at hy
          · exact h3 i y hy
          · rename_i hge
            have : i - l.length = 0 := by
              have := (List.getElem?_eq_some_iff.1 hy).1
              simp at this; omega
            rw [this] at hy
            simp at hy; subst hy
            have : i = m := by omega
            rw [this]; exact hx
    obtain ⟨l, hl, hQ, hx⟩ := list len (Nat.le_refl _)
    subst hl
    by_cases h0 : 0 < l.length
    · have hx0 := hx 0 l[0] (List.getElem?_eq_getElem h0)
      have hadd0 : a.add (0 * s) = a := by simp [Addr.add]
      rw [hadd0] at hx0
      have hcell := World.cells?_some hx0
      have hspot : a.spot = none := by
        have hlen0 := hf l[0]
        have h4 := hcell.2.2 0 (by omega)
        have ha0 : a.add 0 = a := by simp [Addr.add]
        rw [ha0] at h4
        unfold World.cell? at h4
        split at h4
        · split at h4
          · rw [List.getElem?_eq_getElem (by omega)] at h4; cases h4
          · rename_i hns; simpa using hns
        · rw [List.getElem?_eq_getElem (by omega)] at h4; cases h4
      obtain ⟨b, o, sp⟩ := a
      simp only at hspot
      subst hspot
      refine ⟨l, b, o, hQ, ⟨_, cap, rfl, hlc, fun _ => rfl⟩, fun _ => World.cells?_block hx0 hpos, fun j u hj => ?_, by omega⟩
      have hjl : j < l.length * s := by rw [← chunk_len hf]; exact (List.getElem?_eq_some_iff.1 hj).1
      have hi : j / s < l.length := by rw [Nat.div_lt_iff_lt_mul hpos]; exact hjl
      have hxi := hx (j / s) l[j / s] (List.getElem?_eq_getElem hi)
      have hc2 := World.cells?_some hxi
      have hm := Nat.mod_lt j hpos
      have h5 := hc2.2.2 (j % s) hm
      have hjd : j / s * s + j % s = j := by rw [Nat.mul_comm]; exact Nat.div_add_mod j s
      have hadd : ((⟨b, o, none⟩ : Addr).add (j / s * s)).add (j % s) = ⟨b, o + j, none⟩ := by
        unfold Addr.add
        split <;> split <;> simp_all <;> omega
      rw [hadd] at h5
      rw [h5]
      have := chunk_get hf (List.getElem?_eq_getElem hi : l[j / s]? = _) (o := j % s) (v := (f l[j / s])[j % s]'(by rw [hf]; exact hm)) (List.getElem?_eq_getElem _)
      rw [hjd, hj] at this
      rw [List.getElem?_eq_getElem (by rw [hf]; exact hm)]
      exact this.symm
    · have h0' : l = [] := List.eq_nil_of_length_eq_zero (by omega)
      subst h0'
      exact ⟨[], 0, 0, fun x hx => (by cases hx), ⟨_, cap, rfl, Nat.zero_le _, fun h => (by simp at h)⟩, fun h => (by simp at h), fun j u hj => (by simp at hj), by simp⟩
end
def kwf (k : IntKind) (n : Int) : Prop := (Lit.int k n).wf = true
def i64ok (n : Int) : Prop := (Lit.int .i64 n).wf = true
theorem okK1 {k : Option IntKind} {cs : List Value} (h : okKinds [k] cs) : ∃ v, cs = [v] ∧ okKind k v := by
  cases cs with
  | nil => exact h.elim
  | cons v r => cases r with
    | nil => exact ⟨v, rfl, h.1⟩
    | cons _ _ => exact h.2.elim
theorem okKc {k : Option IntKind} {ks : List (Option IntKind)} {cs : List Value} (h : okKinds (k :: ks) cs) : ∃ v r, cs = v :: r ∧ okKind k v ∧ okKinds ks r := by
  cases cs with
  | nil => exact h.elim
  | cons v r => exact ⟨v, r, rfl, h.1, h.2⟩
theorem intDec (cs : List Value) (h : okKinds [some .i64] cs) : ∃ x, cs = intE x ∧ i64ok x := by
  obtain ⟨v, rfl, n, rfl, hw⟩ := okK1 h
  exact ⟨n, rfl, hw⟩
theorem itemDec (cs : List Value) (h : okKinds [some .i64, some .i64] cs) : ∃ x, cs = itemE x ∧ (i64ok x.key ∧ i64ok x.id) := by
  obtain ⟨u, r, rfl, ⟨a, rfl, ha⟩, h2⟩ := okKc h
  obtain ⟨v, rfl, b, rfl, hb⟩ := okK1 h2
  exact ⟨⟨a, b⟩, rfl, ha, hb⟩
def u8E (x : Int) : List Value := [.int .u8 x]
theorem u8E_len : ∀ x : Int, (u8E x).length = 1 := fun _ => rfl
theorem u8E_one : ∀ x : Int, (u8E x).all Value.oneCell' = true := fun _ => rfl
theorem u8Dec (cs : List Value) (h : okKinds [some .u8] cs) : ∃ x, cs = u8E x ∧ (Lit.int .u8 x).wf = true := by
  obtain ⟨v, rfl, n, rfl, hw⟩ := okK1 h
  exact ⟨n, rfl, hw⟩
end Go.Proofs.Ytheopcgjdfckmaa.Sx

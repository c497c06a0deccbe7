/- My texts that the proof of BridgeVisits rests on, part 2: a calculus of walks, the walks, and the plain law. -/
import Derived.OpenShut
import Derived.ChangeArms
import Derived.ChangeOld
import Derived.DataReads
import Derived.Lib.SmallJoins
import Derived.LaidEqlPtr
import Derived.Laws.BytesArg
import Derived.Laws.Strings
import Derived.Lib.AppendZerosOnto
import Derived.Laws.MakeOwn
import Derived.Laws.Cover3
import Derived.Test.YthcehagablploaaProg
import Derived.KernelRfl
import Derived.Test.YthcehagablploaaBva
set_option linter.unusedVariables false
set_option linter.unusedSimpArgs false
namespace Go.Proofs.Ythcehagablploaa.Sx
open Go
theorem ret_i {x y : Int} (h : x = y) : retOf [Av.c (Cl.v (.int .i64 x))] = SV.i y := by rw [h]; rfl
theorem set_get {α : Type} {l : List α} {i : Nat} {c c' : α} (h : l[i]? = some c) : (l.set i c')[i]? = some c' := by
  obtain ⟨hlt, _⟩ := List.getElem?_eq_some_iff.1 h
  simp [hlt]
theorem lrow_ren {f : Nat → Nat} {α : Type} {k k' : Nat} {T s : Nat} {e : α → List Value} {l : List α} (hk : f k' = k) : RenT f (lrow k' T e s l) (lrow k T e s l) := row_ren hk
structure Cell (α : Type) where
  v : α
  gen : Int
  live : Bool
structure Pool (α : Type) where
  cells : List (Cell α)
  free : List Int
  cap : Int
  held : Int
  vis : Int
def Pool.next {α : Type} (z : α) (p : Pool α) : Int × Pool α := match p.free.getLast? with
  | some i => (i, { p with free := p.free.dropLast })
  | none => ((p.cells.length : Int), { p with cells := p.cells ++ [⟨z, 0, false⟩] })
def lookC {α : Type} (cells : List (Cell α)) (i g : Int) : Option (Cell α) :=
  if i < 0 then none else match cells[i.toNat]? with
    | some c => if c.live = true ∧ c.gen = g then some c else none
    | none => none
theorem lookC_some {α : Type} {cells : List (Cell α)} {i g : Int} {c : Cell α} (h : lookC cells i g = some c) : ∃ n : Nat, i = n ∧ cells[n]? = some c ∧ c.live = true ∧ c.gen = g := by
  unfold lookC at h
  split at h
  · cases h
  · split at h
    · rename_i c' hc
      split at h
      · rename_i hl
        cases h
        exact ⟨i.toNat, by omega, hc, hl.1, hl.2⟩
      · cases h
    · cases h
def Pool.hit {α : Type} (p : Pool α) : Pool α := { p with vis := IntKind.i64.wrap (p.vis + 1) }
def Pool.get {α : Type} (z : α) (p : Pool α) (i g : Int) : (α × Bool) × Pool α := match lookC p.cells i g with
  | some c => ((c.v, true), p.hit)
  | none => ((z, false), p)
def Pool.set {α : Type} (p : Pool α) (i g : Int) (v : α) : Bool × Pool α := match lookC p.cells i g with
  | some c => (true, { p with cells := p.cells.set i.toNat { c with v := v }, vis := IntKind.i64.wrap (p.vis + 1) })
  | none => (false, p)
def Pool.lay {α : Type} (p : Pool α) (n : Nat) (c : Cell α) (v : α) : Pool α := { p with cells := p.cells.set n ⟨v, IntKind.i64.wrap (c.gen + 1), true⟩, held := IntKind.i64.wrap (p.held + 1) }
def cellE {α : Type} (e : α → List Value) (c : Cell α) : List Value := e c.v ++ [.int .i64 c.gen, .bool c.live]
def intE (x : Int) : List Value := [.int .i64 x]
theorem intE_len : ∀ x : Int, (intE x).length = 1 := fun _ => rfl
theorem cellE_len {α : Type} {e : α → List Value} {n : Nat} (h : ∀ x, (e x).length = n) (c : Cell α) : (cellE e c).length = n + 2 := by simp [cellE, h]
theorem cellE_one {α : Type} {e : α → List Value} (h : ∀ x, (e x).all Value.oneCell' = true) (c : Cell α) : (cellE e c).all Value.oneCell' = true := by
  simp only [cellE, List.all_append, h, Bool.true_and]; rfl
def blk5 (b : Nat) (vc vf : Value) (c h v : Int) (T : TypeId) : Res := blkRes b [vc, vf, .int .i64 c, .int .i64 h, .int .i64 v] T
def poolParts {α : Type} (b : Nat) (vc vf : Value) (T Tc Ti s : Nat) (f : Cell α → List Value) (p : Pool α) : List Res :=
  [blk5 b vc vf p.cap p.held p.vis T, rowRes vc Tc s p.cells.length (p.cells.flatMap f), rowRes vf Ti 1 p.free.length (p.free.flatMap intE)]
def poolRes {α : Type} (b : Nat) (T Tc Ti s : Nat) (f : Cell α → List Value) (p : Pool α) : Res where
  holds w F := ∃ vc vf : Value, vc.oneCell' = true ∧ vf.oneCell' = true ∧ Star (poolParts b vc vf T Tc Ti s f p) w F
  loc hw h := by
    obtain ⟨vc, vf, h1, h2, h3⟩ := h
    exact ⟨vc, vf, h1, h2, h3.loc hw⟩
  lt h hb := by
    obtain ⟨vc, vf, h1, h2, h3⟩ := h
    exact h3.lt hb
def pool {α : Type} (k : Nat) (T Tc Ti s : Nat) (f : Cell α → List Value) (p : Pool α) : Tok where
  ks := [k]
  r β := poolRes (β k).b T Tc Ti s f p
  sup h := by rename_i β β'; rw [h k (by simp)]
theorem pool_ren {f : Nat → Nat} {α : Type} {k k' T Tc Ti s : Nat} {e : Cell α → List Value} {p : Pool α} (hk : f k' = k) : RenT f (pool k' T Tc Ti s e p) (pool k T Tc Ti s e p) := by
  intro β; subst hk; rfl
theorem pool_open {α : Type} {k k1 k2 T Tc Ti s : Nat} {f : Cell α → List Value} {p : Pool α} (h1 : k ≠ k1) (h2 : k ≠ k2) (h3 : k1 ≠ k2) :
    Ent [(k, pool k T Tc Ti s f p)] [(k, blk k [.nv k1, .nv k2, .i p.cap, .i p.held, .i p.vis] T), (k1, lrow k1 Tc f s p.cells), (k2, lrow k2 Ti intE 1 p.free)] [k1, k2] := by
  intro β w F hs
  obtain ⟨vc, vf, hc, hf, h⟩ := Star_one.1 hs
  have oc : one1 vc = vc := by unfold one1; rw [hc]
  have of : one1 vf = vf := by unfold one1; rw [hf]
  refine ⟨upd (upd β k1 ⟨0, vc⟩) k2 ⟨0, vf⟩, fun j hj => ?_, F, fun _ hb => hb, ?_⟩
  · simp only [List.mem_cons, List.not_mem_nil, or_false, not_or] at hj
    rw [upd_ne _ _ hj.2, upd_ne _ _ hj.1]
  · have e : ([(k, blk k [.nv k1, .nv k2, .i p.cap, .i p.held, .i p.vis] T), (k1, lrow k1 Tc f s p.cells), (k2, lrow k2 Ti intE 1 p.free)].map fun q => q.2.r (upd (upd β k1 ⟨0, vc⟩) k2 ⟨0, vf⟩)) = poolParts (β k).b vc vf T Tc Ti s f p := by
      simp only [List.map_cons, List.map_nil, blk, lrow, row, poolParts, blk5, Cl.den, upd_same, upd_ne _ _ h1, upd_ne _ _ h2, upd_ne _ _ h3, oc, of]
    rw [e]; exact h
theorem pool_close {α : Type} {k k1 k2 T Tc Ti s : Nat} {f : Cell α → List Value} (cells : List (Cell α)) (free : List Int) (cap held vis : Int) :
    Ent [(k, blk k [.nv k1, .nv k2, .i cap, .i held, .i vis] T), (k1, lrow k1 Tc f s cells), (k2, lrow k2 Ti intE 1 free)] [(k, pool k T Tc Ti s f ⟨cells, free, cap, held, vis⟩)] [] := by
  intro β w F hs
  refine ⟨β, fun _ _ => rfl, F, fun _ hb => hb, Star_one.2 ⟨one1 (β k1).v, one1 (β k2).v, Cl.ok1_den (x := .nv k1) rfl β, Cl.ok1_den (x := .nv k2) rfl β, hs⟩⟩
theorem pool_nil {α : Type} {k T Tc Ti s : Nat} {f : Cell α → List Value} (cap held vis : Int) :
    Ent [(k, blk k [.v (.slice none 0 0), .v (.slice none 0 0), .i cap, .i held, .i vis] T)] [(k, pool k T Tc Ti s f ⟨[], [], cap, held, vis⟩)] [] := by
  intro β w F hs
  have hb := Star_one.1 hs
  refine ⟨β, fun _ _ => rfl, F, fun _ hb => hb, Star_one.2 ⟨.slice none 0 0, .slice none 0 0, rfl, rfl, F, fun _ => False, fun b => by simp, fun _ _ h => h, hb, fun _ => False, fun _ => False, fun b => by simp, fun _ h => h.elim, ⟨fun b => by simp [Value.ownBlock], by simp, .inl ⟨rfl, rfl⟩⟩, fun _ => False, fun _ => False, fun b => by simp, fun _ h => h.elim, ⟨fun b => by simp [Value.ownBlock], by simp, .inl ⟨rfl, rfl⟩⟩, fun _ h => h⟩⟩
def capOf (c : Int) : Int := if 16777216 < (if 0 > c then 0 else c) then 16777216 else if 0 > c then 0 else c
structure PoolOk {α : Type} (N : Nat) (p : Pool α) : Prop where
  cells : p.cells.length ≤ N
  free : p.free.length ≤ N
  inn : ∀ i ∈ p.free, 0 ≤ i ∧ i.toNat < p.cells.length
def Pool.put {α : Type} (z : α) (p : Pool α) (v : α) : ((Int × Int) × Bool) × Pool α :=
  if p.held = p.cap then (((0, 0), false), p) else match (p.next z).2.cells[(p.next z).1.toNat]? with
    | some c => ((((p.next z).1, IntKind.i64.wrap (c.gen + 1)), true), (p.next z).2.lay (p.next z).1.toNat c v)
    | none => (((0, 0), false), p)
section
variable {α : Type} {z : α} {p : Pool α} {N : Nat}
theorem PoolOk.next (h : PoolOk N p) : PoolOk (N + 1) (p.next z).2 ∧ 0 ≤ (p.next z).1 ∧ ∃ c, (p.next z).2.cells[(p.next z).1.toNat]? = some c := by
  unfold Pool.next
  cases hl : p.free.getLast? with
  | none =>
    refine ⟨⟨by simpa using h.cells, Nat.le_succ_of_le h.free, fun i hi => ?_⟩, by simp, ⟨⟨z, 0, false⟩, by simp⟩⟩
    have := h.inn i hi
    refine ⟨this.1, ?_⟩
    simp; omega
  | some i =>
    have hm : i ∈ p.free := List.mem_of_getLast? hl
    have := h.inn i hm
    refine ⟨⟨Nat.le_succ_of_le h.cells, by simp; have := h.free; omega, fun j hj => h.inn j (by rw [List.dropLast_eq_take] at hj; exact List.mem_of_mem_take hj)⟩, this.1, ⟨_, List.getElem?_eq_getElem this.2⟩⟩
end
def noEnv : Env := fun _ => ⟨0, undef⟩
end Go.Proofs.Ythcehagablploaa.Sx
namespace Go.Proofs.Ythcehagablploaa.Sx
open Go
def kindsGo (P : Program) (rec : TypeId → Option (List (Option IntKind))) : Nat → List Field → Option (List (Option IntKind))
  | _, [] => some []
  | o, f :: r => match f.offset == o, rec f.type with
    | true, some l => match (P.cellsOf f.type == l.length : Bool), kindsGo P rec (o + l.length) r with
      | true, some m => some (l ++ m)
      | _, _ => none
    | _, _ => none
def kindsOf (P : Program) : Nat → TypeId → Option (List (Option IntKind))
  | 0, _ => none
  | d + 1, T => match P.underlying T with
    | some (.int k) => some [some k]
    | some .bool => some [none]
    | some (.struct fs) => match kindsGo P (kindsOf P d) 0 fs.toList with
      | some l => if P.cellsOf T == l.length then some l else none
      | none => none
    | _ => none
def okKind : Option IntKind → Value → Prop
  | some k, v => ∃ n, v = .int k n ∧ (Lit.int k n).wf = true
  | none, v => ∃ b, v = .bool b
def okKinds : List (Option IntKind) → List Value → Prop
  | [], [] => True
  | k :: ks, v :: vs => okKind k v ∧ okKinds ks vs
  | _, _ => False
theorem okKinds_append {ks ks' : List (Option IntKind)} : ∀ {a b : List Value}, okKinds ks a → okKinds ks' b → okKinds (ks ++ ks') (a ++ b) := by
  induction ks with
  | nil => intro a b h h'; cases a with
    | nil => exact h'
    | cons _ _ => exact h.elim
  | cons k ks ih => intro a b h h'; cases a with
    | nil => exact h.elim
    | cons v vs => exact ⟨h.1, ih h.2 h'⟩
section
variable {H : Type} {enc : TypeId × Value → H} {P : Program} {w : World} {base : Nat} {spare : Nat → Bool} {held : Bool}
theorem trod_kinds : ∀ (d fuel : Nat) (t : TypeId) (cs : List Value) (x : DataW H × List MemPlace) (ks : List (Option IntKind)), kindsOf P d t = some ks → DataW.trod enc P w base spare held fuel t cs = some x → okKinds ks cs
  | 0, _, _, _, _, _, h, _ => by cases h
  | d + 1, fuel, t, cs, x, ks, hk, h => by
    simp only [kindsOf] at hk
    split at hk
    · rename_i k hu
      cases hk
      obtain ⟨n, rfl, _, hw⟩ := DataW.trod_int hu h
      exact ⟨⟨n, rfl, hw⟩, trivial⟩
    · rename_i hu
      cases hk
      obtain ⟨b, rfl, _⟩ := DataW.trod_bool hu h
      exact ⟨⟨b, rfl⟩, trivial⟩
    · rename_i fs hu
      split at hk
      · rename_i l hl
        split at hk
        · rename_i hc
          cases hk
          obtain ⟨xs, n, _, _, hlen, hxl, hxs⟩ := DataW.trod_struct hu h
          have key : ∀ (fl : List Field) (o : Nat) (l : List (Option IntKind)), (∀ f ∈ fl, ∃ y, DataW.trod enc P w base spare held n f.type ((cs.drop f.offset).take (P.cellsOf f.type)) = some y) → kindsGo P (kindsOf P d) o fl = some l → o + l.length = cs.length → okKinds l (cs.drop o) := by
            intro fl
            induction fl with
            | nil =>
              intro o l _ h1 h3
              cases h1
              have : cs.drop o = [] := List.drop_eq_nil_of_le (by simp at h3; omega)
              rw [this]; trivial
            | cons f fl ih =>
              intro o l h2 h1 h3
              simp only [kindsGo] at h1
              split at h1
              · rename_i l1 hb hl1
                split at h1
                · rename_i m hm1 hm
                  cases h1
                  simp only [beq_iff_eq] at hb hm1
                  obtain ⟨y, hy⟩ := h2 f List.mem_cons_self
                  have h4 := trod_kinds d n f.type _ y l1 hl1 hy
                  have h5 := ih (o + l1.length) m (fun f hf => h2 f (List.mem_cons_of_mem _ hf)) hm (by rw [List.length_append] at h3; omega)
                  rw [hb, hm1] at h4
                  have e : cs.drop o = (cs.drop o).take l1.length ++ cs.drop (o + l1.length) := by rw [← List.drop_drop, List.take_append_drop]
                  rw [e]
                  exact okKinds_append h4 h5
                · cases h1
              · cases h1
          have hc' : P.cellsOf t = ks.length := by simpa using hc
          have := key fs.toList 0 ks (fun f hf => by
            obtain ⟨i, hi⟩ := List.getElem?_of_mem hf
            have hi' : fs[i]? = some f := by simpa using hi
            rw [hxs i f hi']
            have : i < xs.length := by rw [hxl]; exact (Array.getElem?_eq_some_iff.1 hi').1
            exact ⟨_, List.getElem?_eq_getElem this⟩) hl (by omega)
          simpa using this
        · cases hk
      · cases hk
    · cases hk
theorem open_list {α : Type} {f : α → List Value} {s : Nat} {Q : α → Prop} {t e : TypeId} {v : Value} {d : DataW H} {p : List MemPlace} {D : Nat} {ks : List (Option IntKind)} (hu : P.underlying t = some (.slice e)) (hk : kindsOf P D e = some ks) (hs : P.cellsOf e = s) (hpos : 0 < s) (hf : ∀ c, (f c).length = s)
    (hdec : ∀ cs, okKinds ks cs → ∃ x, cs = f x ∧ Q x) (hv : v.cells = #[v]) (h : DataW.Trod enc P w base spare held t v d p) :
    ∃ (l : List α) (b o : Nat), (∀ x ∈ l, Q x) ∧ (∃ ao cap, v = .slice ao l.length cap ∧ l.length ≤ cap ∧ (0 < l.length → ao = some ⟨b, o, none⟩)) ∧ (0 < l.length → b < w.heap.size) ∧ (∀ j u, (l.flatMap f)[j]? = some u → w.cell? ⟨b, o + j, none⟩ = some u) ∧ l.length ≤ maxLen := by
  obtain ⟨fuel, hf'⟩ := h
  rw [hv] at hf'
  rcases DataW.trod_slice hu hf' with ⟨h1, _⟩ | ⟨a, len, cap, elems, rest, n, _, h1, _, hb, hlc, hcm, hel, hcells, _, _⟩
  · simp at h1
    subst h1
    exact ⟨[], 0, 0, fun x hx => (by cases hx), ⟨none, 0, rfl, Nat.le_refl _, fun h => (by simp at h)⟩, fun h => (by simp at h), fun j u hj => (by simp at hj), by simp⟩
  · simp at h1
    subst h1
    have each : ∀ i, i < len → ∃ x, Q x ∧ w.cells? base (a.add (i * s)) s = some (f x) := by
      intro i hi
      have h2 := hcells i hi
      rw [List.getElem?_eq_getElem (by omega)] at h2
      rw [hs] at h2
      cases hc : w.cells? base (a.add (i * s)) s with
      | none => rw [hc] at h2; cases h2
      | some cs =>
        rw [hc] at h2
        obtain ⟨x, hx, hq⟩ := hdec cs (trod_kinds D n e cs _ ks hk h2)
        exact ⟨x, hq, by rw [hx]⟩
    have list : ∀ m, m ≤ len → ∃ l : List α, l.length = m ∧ (∀ x ∈ l, Q x) ∧ ∀ i x, l[i]? = some x → w.cells? base (a.add (i * s)) s = some (f x) := by
      intro m
      induction m with
      | zero => intro _; exact ⟨[], rfl, fun x hx => (by cases hx), fun i x hx => (by simp at hx)⟩
      | succ m ih =>
        intro hm
        obtain ⟨l, h1, h2, h3⟩ := ih (by omega)
        obtain ⟨x, hq, hx⟩ := each m (by omega)
        refine ⟨l ++ [x], by simp [h1], fun y hy => ?_, fun i y hy => ?_⟩
        · rcases List.mem_append.1 hy with hy | hy
          · exact h2 y hy
          · simp at hy; subst hy; exact hq
        · rw [List.getElem?_append] at hy
          split at hy
          · exact h3 i y hy
          · rename_i hge
            have : i - l.length = 0 := by
              have := (List.getElem?_eq_some_iff.1 hy).1
              simp at this; omega
            rw [this] at hy
            simp at hy; subst hy
            have : i = m := by omega
            rw [this]; exact hx
    obtain ⟨l, hl, hQ, hx⟩ := list len (Nat.le_refl _)
    subst hl
    by_cases h0 : 0 < l.length
    · have hx0 := hx 0 l[0] (List.getElem?_eq_getElem h0)
      have hadd0 : a.add (0 * s) = a := by simp [Addr.add]
      rw [hadd0] at hx0
      have hcell := World.cells?_some hx0
      have hspot : a.spot = none := by
        have hlen0 := hf l[0]
        have h4 := hcell.2.2 0 (by omega)
        have ha0 : a.add 0 = a := by simp [Addr.add]
        rw [ha0] at h4
        unfold World.cell? at h4
        split at h4
        · split at h4
          · rw [List.getElem?_eq_getElem (by omega)] at h4; cases h4
          · rename_i hns; simpa using hns
        · rw [List.getElem?_eq_getElem (by omega)] at h4; cases h4
      obtain ⟨b, o, sp⟩ := a
      simp only at hspot
      subst hspot
      refine ⟨l, b, o, hQ, ⟨_, cap, rfl, hlc, fun _ => rfl⟩, fun _ => World.cells?_block hx0 hpos, fun j u hj => ?_, by omega⟩
      have hjl : j < l.length * s := by rw [← chunk_len hf]; exact (List.getElem?_eq_some_iff.1 hj).1
      have hi : j / s < l.length := by rw [Nat.div_lt_iff_lt_mul hpos]; exact hjl
      have hxi := hx (j / s) l[j / s] (List.getElem?_eq_getElem hi)
      have hc2 := World.cells?_some hxi
      have hm := Nat.mod_lt j hpos
      have h5 := hc2.2.2 (j % s) hm
      have hjd : j / s * s + j % s = j := by rw [Nat.mul_comm]; exact Nat.div_add_mod j s
      have hadd : ((⟨b, o, none⟩ : Addr).add (j / s * s)).add (j % s) = ⟨b, o + j, none⟩ := by
        unfold Addr.add
        split <;> split <;> simp_all <;> omega
      rw [hadd] at h5
      rw [h5]
      have := chunk_get hf (List.getElem?_eq_getElem hi : l[j / s]? = _) (o := j % s) (v := (f l[j / s])[j % s]'(by rw [hf]; exact hm)) (List.getElem?_eq_getElem _)
      rw [hjd, hj] at this
      rw [List.getElem?_eq_getElem (by rw [hf]; exact hm)]
      exact this.symm
    · have h0' : l = [] := List.eq_nil_of_length_eq_zero (by omega)
      subst h0'
      exact ⟨[], 0, 0, fun x hx => (by cases hx), ⟨_, cap, rfl, Nat.zero_le _, fun h => (by simp at h)⟩, fun h => (by simp at h), fun j u hj => (by simp at hj), by simp⟩
end
def kwf (k : IntKind) (n : Int) : Prop := (Lit.int k n).wf = true
theorem okK1 {k : Option IntKind} {cs : List Value} (h : okKinds [k] cs) : ∃ v, cs = [v] ∧ okKind k v := by
  cases cs with
  | nil => exact h.elim
  | cons v r => cases r with
    | nil => exact ⟨v, rfl, h.1⟩
    | cons _ _ => exact h.2.elim
theorem okKc {k : Option IntKind} {ks : List (Option IntKind)} {cs : List Value} (h : okKinds (k :: ks) cs) : ∃ v r, cs = v :: r ∧ okKind k v ∧ okKinds ks r := by
  cases cs with
  | nil => exact h.elim
  | cons v r => exact ⟨v, r, rfl, h.1, h.2⟩
end Go.Proofs.Ythcehagablploaa.Sx
namespace Go.Proofs.Ythcehagablploaa.Sx
open Go
def rdRes (S : Foot) (W0 : World) : Res where
  holds w F := (∀ b, F b ↔ S b) ∧ ∀ b, S b → b < w.heap.size ∧ w.heap[b]? = W0.heap[b]?
  loc := by
    intro w w' F hw h
    refine ⟨h.1, fun b hb => ?_⟩
    have h1 := h.2 b hb
    have h2 := hw b ((h.1 b).2 hb)
    refine ⟨?_, h2.trans h1.2⟩
    rw [Array.getElem?_eq_getElem h1.1] at h2
    exact (Array.getElem?_eq_some_iff.1 h2).1
  lt := by
    intro w F b h hb
    exact (h.2 b ((h.1 b).1 hb)).1
def rd (S : Foot) (W0 : World) : Tok where
  ks := []
  r _ := rdRes S W0
  sup _ := rfl
structure LAt {α : Type} (S : Foot) (W0 : World) (v : Value) (b o : Nat) (e : α → List Value) (s : Nat) (l : List α) : Prop where
  len : ∀ c, (e c).length = s
  pos : 0 < s
  sl : ∃ ao cap, v = .slice ao l.length cap ∧ l.length ≤ cap ∧ (0 < l.length → ao = some ⟨b, o, none⟩)
  inn : 0 < l.length → S b
  cells : ∀ j u, (l.flatMap e)[j]? = some u → W0.cell? ⟨b, o + j, none⟩ = some u
def LArg {α : Type} (S : Foot) (W0 : World) (v : Value) (e : α → List Value) (s : Nat) (l : List α) : Prop := ∃ b o, LAt S W0 v b o e s l
def rV {α : Type} (k : Nat) (S : Foot) (W0 : World) (v : Value) (b o : Nat) (e : α → List Value) (s : Nat) (l : List α) : Vw := ⟨k, rd S W0, .v v, fun off => .v (ptr b (o + off)), l.length, s, l.flatMap e⟩
structure Vw.IsC {α : Type} (V : Vw) (e : α → List Value) (l : List α) : Prop where
  is : V.Is e l
  cap : ∀ (β : Env) (w : World) (F : Foot), (V.t.r β).holds w F → ∀ ao m cap, V.s.den β = .slice ao m cap → m ≤ cap
section
variable {α : Type} {e : α → List Value} {s : Nat} {l : List α} {S : Foot} {W0 : World} {v : Value} {b o : Nat}
theorem LAt.is (h : LAt S W0 v b o e s l) (k : Nat) : (rV k S W0 v b o e s l).Is e l := by
  refine ⟨rfl, rfl, h.len, h.pos, ?_⟩
  intro β w F hw
  obtain ⟨ao, cap, h1, h2, h3⟩ := h.sl
  refine ⟨chunk_len h.len l, ao, cap, h1, fun hm => ⟨b, o, h3 hm, fun _ _ => rfl, fun j u hj => ?_⟩⟩
  have h4 := hw.2 b (h.inn hm)
  have := h.cells j u hj
  simp only [World.cell?] at this ⊢
  rw [h4.2]; exact this
theorem LAt.isC (h : LAt S W0 v b o e s l) (k : Nat) : (rV k S W0 v b o e s l).IsC e l := by
  refine ⟨h.is k, fun β w F _ ao m cap hd => ?_⟩
  obtain ⟨ao', cap', h1, h2, h3⟩ := h.sl
  have : Value.slice ao m cap = .slice ao' l.length cap' := hd.symm.trans h1
  cases this; exact h2
theorem lrowV_isC {k : Nat} {T : TypeId} (hf : ∀ c, (e c).length = s) (hs : 0 < s) : (lrowV k T e s l).IsC e l := by
  refine ⟨lrowV_is hf hs, fun β w F hw ao m cap hd => ?_⟩
  have h2 : w.ownsRow 0 T s (one1 (β k).v) l.length (l.flatMap e) := hw.2
  have hd' : one1 (β k).v = .slice ao m cap := hd
  rw [hd'] at h2
  rcases h2.2 with ⟨h0, h4⟩ | ⟨g, cap', cur, hv, _, _, hc, _⟩
  · cases h0; omega
  · cases hv; exact hc
theorem Vw.inn {V : Vw} (hV : V.Ok) {β : Env} {w : World} {F : Foot} (h : (V.t.r β).holds w F) {b o cap : Nat} (hd : V.s.den β = .slice (some ⟨b, o, none⟩) V.m cap) (hm : 0 < V.m) (hs : 0 < V.size) : F b := by
  refine Classical.byContradiction fun hn => ?_
  have h1 : (V.t.r β).holds (w.setRow b #[]) F := (V.t.r β).loc (fun k hk => setRow_other w b k _ (fun e => hn (e ▸ hk))) h
  obtain ⟨hx, ao, cap', h2, h3⟩ := hV β _ F h1
  rw [hd] at h2
  cases h2
  obtain ⟨b', o', h4, _, h5⟩ := h3 hm
  cases h4
  have hpos : 0 < V.xs.length := by rw [hx]; exact Nat.mul_pos hm hs
  have h6 := h5 0 V.xs[0] (List.getElem?_eq_getElem hpos)
  obtain ⟨hx0, ao0, cap0, h20, h30⟩ := hV β w F h
  rw [hd] at h20
  cases h20
  obtain ⟨b1, o1, h41, _, h51⟩ := h30 hm
  cases h41
  have h61 := h51 0 V.xs[0] (List.getElem?_eq_getElem hpos)
  simp only [World.cell?] at h61 h6
  cases hc : w.heap[b]? with
  | none => rw [hc] at h61; cases h61
  | some ob =>
    rw [hc] at h61
    cases ob with
    | cells cur T tg =>
      have := setRow_heap w b _ #[] _ _ hc
      rw [this] at h6
      simp at h6
    | _ => cases h61
theorem Star_mem : ∀ {L : List Res} {w : World} {F : Foot} {r : Res}, Star L w F → r ∈ L → ∃ F1 : Foot, (∀ b, F1 b → F b) ∧ r.holds w F1
  | r0 :: L, w, F, r, ⟨F1, F2, e, d, hr, hs⟩, hm => by
    rcases List.mem_cons.1 hm with rfl | hm
    · exact ⟨F1, fun b hb => (e b).2 (.inl hb), hr⟩
    · obtain ⟨G, h1, h2⟩ := Star_mem hs hm
      exact ⟨G, fun b hb => (e b).2 (.inr (h1 b hb)), h2⟩
theorem Vw.IsC.larg {V : Vw} (h : V.IsC e l) {tr : List (Nat × Tok)} (hm : ∃ k, (k, V.t) ∈ tr) {β : Env} {w : World} {S : Foot} (hs : Star (tr.map fun p => p.2.r β) w S) : LArg S w (V.s.den β) e V.size l := by
  obtain ⟨k, hm⟩ := hm
  obtain ⟨F1, hsub, h1⟩ := Star_mem hs (List.mem_map_of_mem (f := fun p : Nat × Tok => p.2.r β) hm)
  obtain ⟨hx, ao, cap, h2, h3⟩ := h.is.ok β w F1 h1
  have hc := h.cap β w F1 h1 ao V.m cap h2
  have hm' := h.is.m
  by_cases h0 : 0 < V.m
  · obtain ⟨b, o, rfl, hp, hcl⟩ := h3 h0
    exact ⟨b, o, h.is.len, h.is.pos, ⟨_, cap, by rw [h2, hm'], by omega, fun _ => rfl⟩, fun _ => hsub b (Vw.inn h.is.ok h1 h2 h0 h.is.pos), fun j u hj => hcl j u (by rw [h.is.xs]; exact hj)⟩
  · have hl : l = [] := List.eq_nil_of_length_eq_zero (by omega)
    subst hl
    exact ⟨0, 0, h.is.len, h.is.pos, ⟨_, cap, by rw [h2, hm'], by simp, fun h => by simp at h⟩, fun h => by simp at h, fun j u hj => by simp at hj⟩
end
theorem Star_append {A B : List Res} : ∀ {w : World} {F : Foot}, Star (A ++ B) w F ↔ ∃ F1 F2 : Foot, (∀ b, F b ↔ F1 b ∨ F2 b) ∧ (∀ b, F1 b → ¬ F2 b) ∧ Star A w F1 ∧ Star B w F2 := by
  induction A with
  | nil =>
    intro w F
    constructor
    · intro h; exact ⟨fun _ => False, F, fun b => by simp, fun _ h => h.elim, fun _ h => h, h⟩
    · rintro ⟨F1, F2, e, d, h1, h2⟩
      have : F = F2 := funext fun b => propext (by rw [e b]; exact ⟨fun h => h.elim (fun h' => absurd h' (h1 b)) id, .inr⟩)
      rw [this]; exact h2
  | cons r A ih =>
    intro w F
    constructor
    · rintro ⟨G1, G2, e, d, hr, hs⟩
      obtain ⟨F1, F2, e', d', h1, h2⟩ := ih.1 hs
      refine ⟨fun b => G1 b ∨ F1 b, F2, fun b => by rw [e b, e' b, or_assoc], ?_, ⟨G1, F1, fun b => Iff.rfl, fun b hb hf => d b hb ((e' b).2 (.inl hf)), hr, h1⟩, h2⟩
      rintro b (hb | hb) hf
      · exact d b hb ((e' b).2 (.inr hf))
      · exact d' b hb hf
    · rintro ⟨F1, F2, e, d, ⟨G1, G2, e', d', hr, h1⟩, h2⟩
      refine ⟨G1, fun b => G2 b ∨ F2 b, fun b => by rw [e b, e' b, or_assoc], ?_, hr, ih.2 ⟨G2, F2, fun b => Iff.rfl, fun b hb hf => d b ((e' b).2 (.inr hb)) hf, h1, h2⟩⟩
      rintro b hb (hf | hf)
      · exact d' b hb hf
      · exact d b ((e' b).2 (.inl hb)) hf
section
variable {P : Program} {n : Nat} {ops : Array Oper} {rest : List Oper} {fs fs' : FL} {L L' : TL} {ss : List Step}
theorem Run.callV {d : Nat} {c : Call} {ty : TypeId} {pos : String} {after : Array Edge} {g : Option (Nat × Bool)} {gr : FL} {f : FuncId} {args : List SV} {ret : SV} {fr : List Nat} (l : List (Operand × SV)) (tr ti to : List (Nat × Tok)) (args' : Env → List SV)
    (ha : ∀ β, (args' β).map (SV.den β) = args.map (SV.den β))
    (hs : ∀ (β : Env) (w : World) (S : Foot), Star (tr.map fun p => p.2.r β) w S → SCon P f (args' β) ((0, rd S w) :: ti) ret ((0, rd S w) :: to) fr)
    (hc : ToFn P c ty l f args) (hg : Gd ops ⟨some d, .call c, ty, pos, after, g⟩ fs gr) (hev : ∀ p ∈ l, ev fs p.1 = some p.2)
    (htk : ∀ p ∈ tr ++ ti, lkT L p.1 = some p.2) (hnd : ((tr ++ ti).map (·.1)).Nodup) (hnd' : ((tr ++ to).map (·.1)).Nodup) (hsub : ∀ p ∈ ti, p.1 ∈ to.map (·.1)) (hout : ∀ p ∈ to, p.1 ∈ ti.map (·.1) ∨ lkT L p.1 = none)
    (hfr : frB fr fs L = true) (hn : Nat.blt d n = true)
    (h : Run P n ops rest ((d, ret) :: fs) (to.map (fun p => (p.1, some p.2)) ++ L) ss fs' L') : Run P n ops (⟨some d, .call c, ty, pos, after, g⟩ :: rest) fs L (⟨gr ++ opds l, some d, ret, tr, ti, to, fr⟩ :: ss) fs' L' := by
  obtain ⟨f1, f2, f3⟩ := frB_spec hfr
  refine Run.cons ?_ ?_ ?_ (fun j => ?_) h
  · intro β a w G K Q hrs hsz hst hK
    have hw := hg.wanted hrs hsz
    unfold opW Oper.wp
    rw [if_pos hw]
    have h1 := hc β a.eval w (opds_eval hg hev hrs)
    simp only [execOp]
    rw [h1, Oper.upon_enter]
    rw [List.map_append] at hst
    obtain ⟨S, F2, e, dj, hS, hT⟩ := Star_append.1 hst
    have hin : Star (((0, rd S w) :: ti).map fun p => p.2.r β) w G := ⟨S, F2, e, dj, ⟨fun b => Iff.rfl, fun b hb => ⟨hS.lt hb, rfl⟩⟩, hT⟩
    have hcall := hs β w S hS β w G hin
    rw [ha] at hcall
    refine hcall.mono (fun e' w' he => ?_)
    obtain ⟨β', hb, rfl, F', h2, h3, h4⟩ := he
    obtain ⟨S', F3, eF, dF, hS', hT'⟩ := h2
    have hS2 : Star (tr.map fun p => p.2.r β') w' S := by
      have : (tr.map fun p => p.2.r β') = tr.map fun p => p.2.r β := List.map_congr_left (fun p hp => (p.2.sup (fun k hk => hb k (f3 p.1 p.2 (htk p (List.mem_append_left _ hp)) k hk))))
      rw [this]
      exact hS.loc (fun b hb => (hS'.2 b hb).2)
    refine hK β' w' F' hb ?_ h3 h4
    rw [List.map_append]
    have eS : ∀ b, S' b ↔ S b := hS'.1
    exact Star_append.2 ⟨S, F3, fun b => by rw [eF b, eS b], fun b h1 h2 => dF b ((eS b).2 h1) h2, hS2, hT'⟩
  · refine ⟨fun t z hz => ?_, fun d' hd' => ?_, htk, hnd, hnd', hout, f1, f2, fun j t hj _ => f3 j t hj⟩
    · rw [lk_append] at hz
      cases hx' : lk gr t with
      | some z' => rw [hx'] at hz; simp at hz; subst hz; exact hg.fs hx'
      | none => rw [hx'] at hz; simp at hz; exact opds_fs hev hz
    · simp at hd'; subst hd'
      rw [Nat.blt_eq] at hn
      exact hn
  · simp only [Step.outF, lk_cons]
  · rw [Step.outM_eq]
    have e1 : ∀ (to : List (Nat × Tok)), lkT (to.map (fun p => (p.1, some p.2)) ++ L) j = (lkP to j).or (lkT L j) := by
      intro to
      induction to with
      | nil => simp [lkP]
      | cons p to ih =>
        rw [List.map_cons, List.cons_append, lkT_cons]
        simp only [upd, lkP]
        split <;> simp [ih]
    rw [e1]
    cases hp : lkP to j with
    | some x => rfl
    | none =>
      simp only [Option.none_or]
      rw [if_neg]
      intro hm
      obtain ⟨p, hp', rfl⟩ := List.mem_map.1 hm
      obtain ⟨q, hq, e⟩ := List.mem_map.1 (hsub p hp')
      have : ∀ l : List (Nat × Tok), q ∈ l → lkP l p.1 ≠ none := by
        intro l
        induction l with
        | nil => intro h; cases h
        | cons r l ih =>
          intro h
          simp only [lkP]
          split
          · simp
          · rename_i hne
            rcases List.mem_cons.1 h with rfl | h
            · exact absurd e.symm hne
            · exact ih h
      exact this to hq hp
theorem K.callV {K : List Step → FL → TL → Prop} {d : Nat} {c : Call} {ty : TypeId} {pos : String} {after : Array Edge} {g : Option (Nat × Bool)} {gr : FL} {f : FuncId} {args : List SV} {ret : SV} {fr : List Nat} (l : List (Operand × SV)) (tr ti to : List (Nat × Tok)) (args' : Env → List SV)
    (hs : ∀ (β : Env) (w : World) (S : Foot), Star (tr.map fun p => p.2.r β) w S → SCon P f (args' β) ((0, rd S w) :: ti) ret ((0, rd S w) :: to) fr)
    (hc : ToFn P c ty l f args) (hg : Gd ops ⟨some d, .call c, ty, pos, after, g⟩ fs gr) (hev : AllE fs l) (ha : ∀ β, (args' β).map (SV.den β) = args.map (SV.den β))
    (htk : AllT L (tr ++ ti)) (hnd : ndB ((tr ++ ti).map (·.1)) = true) (hnd' : ndB ((tr ++ to).map (·.1)) = true) (hsub : ti.all (fun p => (to.map (·.1)).contains p.1) = true) (hout : to.all (fun p => (ti.map (·.1)).contains p.1 || (lkT L p.1).isNone) = true)
    (hfr : frB fr fs L = true) (hn : Nat.blt d n = true)
    (h : RunK P n ops rest ((d, ret) :: fs) (to.map (fun p => (p.1, some p.2)) ++ L) (fun ss fs' L' => K (⟨gr ++ opds l, some d, ret, tr, ti, to, fr⟩ :: ss) fs' L')) : RunK P n ops (⟨some d, .call c, ty, pos, after, g⟩ :: rest) fs L K :=
  RunK.of (fun _ _ _ h => Run.callV l tr ti to args' ha hs hc hg hev.spec htk.spec (ndB_spec hnd) (ndB_spec hnd') (fun p hp => by simpa using List.all_eq_true.1 hsub p hp) (fun p hp => by
    have := List.all_eq_true.1 hout p hp
    rw [Bool.or_eq_true] at this
    rcases this with h | h
    · exact .inl (by simpa using h)
    · exact .inr (by simpa using h)) hfr hn h) h
theorem Run.skipU {o : Oper} {d : Nat} {j : Nat} {want : Bool} {t : Nat} (hd : o.dst = some d) (hgd : o.guard = some (j, want)) (hdj : (ops[j]?).bind (·.dst) = some t) (hl : lk fs t = some (SV.raw undef)) (hn : Nat.blt d n = true)
    (h : Run P n ops rest ((d, SV.raw undef) :: fs) L ss fs' L') : Run P n ops (o :: rest) fs L (⟨[(t, SV.raw undef)], some d, SV.raw undef, [], [], [], []⟩ :: ss) fs' L' := by
  refine Run.cons ?_ ?_ ?_ (fun k => ?_) h
  · intro β a w G K Q hrs hsz hst hK
    have e1 : lk [(t, SV.raw undef)] t = some (SV.raw undef) := by simp [lk]
    have e2 := hrs t _ e1
    have e3 := hsz t (by rw [e1]; rfl)
    have hw : Region.wanted o (yielded ops a.tmps) = false := by
      simp only [Region.wanted, hgd, yielded, hdj, Option.bind_some]
      have e4 : a.tmps[t]? = some undef := by
        have : a.tmps[t]? = some a.tmps[t] := by simp [e3]
        rw [this]
        simp [Array.getD_eq_getD_getElem?, e3] at e2
        rw [e2]; rfl
      rw [e4]; cases want <;> rfl
    unfold opW
    rw [hw, hd]
    exact hK β w G (fun _ _ => rfl) hst (fun b hb => .inl hb) (Mod.refl _ _)
  · refine ⟨fun t' y hy => ?_, fun d' hd' => ?_, fun p hp => by simp at hp, by simp, by simp, fun p hp => by simp at hp, fun k hk => by simp at hk, fun _ _ _ _ _ h => by simp at h, fun _ _ _ _ _ _ h => by simp at h⟩
    · have := lk_mem hy
      simp at this
      obtain ⟨rfl, rfl⟩ := this
      exact hl
    · simp at hd'; subst hd'
      rw [Nat.blt_eq] at hn
      exact hn
  · simp only [Step.outF, lk_cons]
  · rfl
theorem K.skipU {K : List Step → FL → TL → Prop} {o : Oper} {d : Nat} {j : Nat} {want : Bool} {t : Nat} (hd : o.dst = some d) (hgd : o.guard = some (j, want)) (hdj : (ops[j]?).bind (·.dst) = some t) (hl : lk fs t = some (SV.raw undef)) (hn : Nat.blt d n = true)
    (h : RunK P n ops rest ((d, SV.raw undef) :: fs) L (fun ss fs' L' => K (⟨[(t, SV.raw undef)], some d, SV.raw undef, [], [], [], []⟩ :: ss) fs' L')) : RunK P n ops (o :: rest) fs L K :=
  RunK.of (fun _ _ _ h => Run.skipU hd hgd hdj hl hn h) h
end
def arrB (P : Program) (T len e s : Nat) (zs : List Value) : Bool := match P.underlying T, P.info? e, P.info? T with
  | some (.array l e'), some ie, some it => l == len && e' == e && ie.size == s && (match it.zero with
    | some (.agg a) => a.size == zs.length && (List.range zs.length).all (fun j => match a[j]?, zs[j]? with
      | some (.int k n), some (.int k' n') => k == k' && n == n'
      | some (.bool b), some (.bool b') => b == b'
      | _, _ => false)
    | _ => false)
  | _, _, _ => false
section
variable {P : Program} {n : Nat} {ops : Array Oper} {rest : List Oper} {fs fs' : FL} {L L' : TL} {ss : List Step}
end
def methB (P : Program) (T : TypeId) (nm : String) (f : FuncId) : Bool := match P.info? T, P.underlying T with
  | some i, some d => (match d with | .pointer _ => false | _ => true) && (match i.methods.find? (·.name == nm) with
    | some m => m.path.isEmpty && (match m.func with | some (g, b) => g == f && !b | none => false)
    | none => false)
  | _, _ => false
theorem meth_of {P : Program} {T : TypeId} {nm : String} {f : FuncId} (h : methB P T nm f = true) (v : Value) (w : World) : (method (P.types.size + Made.depth) T v nm).run P w = .ok (f, v) w := by
  unfold methB at h
  split at h
  · rename_i i d hi hd
    rw [Bool.and_eq_true] at h
    obtain ⟨h1, h2⟩ := h
    split at h2
    · rename_i m hm
      rw [Bool.and_eq_true] at h2
      obtain ⟨h3, h4⟩ := h2
      have hp : m.path.toList = [] := by simpa using h3
      split at h4
      · rename_i g b hf
        rw [Bool.and_eq_true, beq_iff_eq, Bool.not_eq_true'] at h4
        obtain ⟨rfl, rfl⟩ := h4
        obtain ⟨n, hn⟩ : ∃ n, P.types.size + Made.depth = n + 1 := ⟨P.types.size + Made.depth - 1, by unfold Made.depth; omega⟩
        rw [hn]
        unfold method
        rw [run_bind_ok (run_info hi w)]
        simp only [hm, hp, follow, hf]
        unfold receiverAt
        simp only [Sem.run_bind, Sem.run_pure, Result.andThen_ok]
        rw [show (underlying T).run P w = .ok d w from run_und hd w]
        simp only [Result.andThen_ok]
        cases d <;> first | rfl | (exfalso; simp at h1; done)
      · cases h4
    · cases h2
  · cases h
abbrev w64 (x : Int) : Int := IntKind.i64.wrap x
abbrev gmin (a b : Int) : Int := if b < a then b else a
abbrev gmax (a b : Int) : Int := if b > a then b else a
section
variable {α β : Type} {c : Bool} {A B : Option α} {r : α}
theorem bif_t (H : (bif c then A else B) = some r) (h : c = true) : A = some r := by rw [h] at H; exact H
theorem bif_f (H : (bif c then A else B) = some r) (h : c = false) : B = some r := by rw [h] at H; exact H
theorem grd {p : Prop} [Decidable p] (H : (bif decide p then A else none) = some r) : p ∧ A = some r := by
  by_cases h : p
  · simp only [h, decide_true, cond_true] at H; exact ⟨h, H⟩
  · simp only [h, decide_false, cond_false] at H; cases H
theorem bnd {o : Option β} {f : β → Option α} (H : o.bind f = some r) : ∃ x, o = some x ∧ f x = some r := Option.bind_eq_some_iff.1 H
def atL (l : List β) (i : Int) : Option β := bif decide (i < 0) then none else l[i.toNat]?
theorem atL_get {l : List β} {i : Int} {x : β} (h : atL l i = some x) : l[i.toNat]? = some x := by
  unfold atL at h
  by_cases h0 : i < 0
  · simp [h0] at h
  · simpa [h0] using h
theorem atL_nn {l : List β} {i : Int} {x : β} (h : atL l i = some x) : i = ((i.toNat : Nat) : Int) := by
  unfold atL at h
  by_cases h0 : i < 0
  · simp [h0] at h
  · omega
end
theorem inj_pairs : ∀ {l : List (Nat × Nat)}, (l.map (·.2)).Nodup → ∀ {p q : Nat × Nat}, p ∈ l → q ∈ l → p.2 = q.2 → p = q
  | x :: l, h, p, q, hp, hq, e => by
    simp only [List.map_cons, List.nodup_cons] at h
    rcases List.mem_cons.1 hp with h1 | h1 <;> rcases List.mem_cons.1 hq with h2 | h2
    · rw [h1, h2]
    · exact absurd (by rw [← h1, e]; exact List.mem_map_of_mem h2) h.1
    · exact absurd (by rw [← h2, ← e]; exact List.mem_map_of_mem h1) h.1
    · exact inj_pairs h.2 h1 h2 e
theorem rn_mem {ρ : List (Nat × Nat)} (hn : ndB (ρ.map (·.1)) = true) {p : Nat × Nat} (hp : p ∈ ρ) : rn ρ p.1 = p.2 := by
  have key : ∀ {l : List (Nat × Nat)}, (l.map (·.1)).Nodup → p ∈ l → lk l p.1 = some p.2 := by
    intro l
    induction l with
    | nil => intro _ h; cases h
    | cons q l ih =>
      intro hn h
      simp only [List.map_cons, List.nodup_cons] at hn
      rcases List.mem_cons.1 h with rfl | h
      · simp [lk]
      · have : q.1 ≠ p.1 := fun e => hn.1 (by rw [e]; exact List.mem_map_of_mem (f := (·.1)) h)
        have hb : Nat.beq q.1 p.1 = false := by
          cases hb : Nat.beq q.1 p.1 with
          | false => rfl
          | true => exact absurd (Nat.eq_of_beq_eq_true hb) this
        simp only [lk, hb]
        exact ih hn.2 h
  unfold rn
  rw [key (ndB_spec hn) hp]
theorem rn_inj {ρ : List (Nat × Nat)} (hd : ndB (ρ.map (·.2)) = true) (hn : ndB (ρ.map (·.1)) = true) {j k : Nat} (hj : j ∈ ρ.map (·.1)) (hk : k ∈ ρ.map (·.1)) (e : rn ρ j = rn ρ k) : j = k := by
  obtain ⟨p, hp, rfl⟩ := List.mem_map.1 hj
  obtain ⟨q, hq, rfl⟩ := List.mem_map.1 hk
  rw [rn_mem hn hp, rn_mem hn hq] at e
  exact congrArg Prod.fst (inj_pairs (ndB_spec hd) hp hq e)
theorem rn_ks {ρ : List (Nat × Nat)} {ks fr : List Nat} (hd : ndB (ρ.map (·.2)) = true) (hn : ndB (ρ.map (·.1)) = true) (hk : ks.all (fun k => (ρ.map (·.1)).contains k) = true) (hf : fr.all (fun k => (ρ.map (·.1)).contains k) = true) : ∀ k ∈ ks, k ∉ fr → rn ρ k ∉ fr.map (rn ρ) := by
  intro k hkm hkf hm
  obtain ⟨j, hj, e⟩ := List.mem_map.1 hm
  have h1 := List.all_eq_true.1 hk k hkm
  have h2 := List.all_eq_true.1 hf j hj
  simp only [List.contains_iff_mem] at h1 h2
  have := rn_inj hd hn h2 h1 e
  exact hkf (this ▸ hj)
theorem rn_nd {ρ : List (Nat × Nat)} {fr : List Nat} (hd : ndB (ρ.map (·.2)) = true) (hn : ndB (ρ.map (·.1)) = true) (hf : (ndB fr && fr.all (fun k => (ρ.map (·.1)).contains k)) = true) : (fr.map (rn ρ)).Nodup := by
  rw [Bool.and_eq_true] at hf
  have h0 := ndB_spec hf.1
  have hm : ∀ k ∈ fr, k ∈ ρ.map (·.1) := fun k hk => by
    have := List.all_eq_true.1 hf.2 k hk
    simpa only [List.contains_iff_mem] using this
  clear hf
  induction fr with
  | nil => simp
  | cons k fr ih =>
    simp only [List.nodup_cons] at h0
    simp only [List.map_cons, List.nodup_cons]
    refine ⟨fun h => ?_, ih h0.2 (fun j hj => hm j (List.mem_cons_of_mem _ hj))⟩
    obtain ⟨j, hj, e⟩ := List.mem_map.1 h
    have := rn_inj hd hn (hm j (List.mem_cons_of_mem _ hj)) (hm k List.mem_cons_self) e
    exact h0.1 (this ▸ hj)
section
variable {α β γ : Type} {f : α → Option γ} {g : β → Option γ} {r : γ}
theorem sum_l {a : α} (H : Sum.elim f g (Sum.inl a) = some r) : f a = some r := H
theorem sum_r {b : β} (H : Sum.elim f g (Sum.inr b) = some r) : g b = some r := H
end
theorem ap_m {a b : Nat} (h : a + b < 4294967296) : a + b ≤ maxLen := by simp only [maxLen]; omega
theorem ap_b {a b c : Nat} (h : a + b < 4294967296) (hc : c ≤ 32768) : (a + b) * c ≤ 140737488355328 :=
  Nat.le_trans (Nat.mul_le_mul (Nat.le_of_lt h) hc) (by decide)
theorem tn_len {b : Int} {n : Nat} (h : b ≤ (n : Int)) : b.toNat ≤ n := by omega
section
variable {α : Type} {z : α} {p : Pool α}
end
def pOk {α : Type} (p : Pool α) : Prop := p.cells.length < 4294967295 ∧ p.free.length < 4294967295 ∧ ∀ i ∈ p.free, 0 ≤ i ∧ i.toNat < p.cells.length
instance {α : Type} (p : Pool α) : Decidable (pOk p) := by unfold pOk; infer_instance
theorem pOk.ok {α : Type} {p : Pool α} (h : pOk p) (v : Int) : PoolOk 4294967294 { p with vis := v } := ⟨by have := h.1; simp only; omega, by have := h.2.1; simp only; omega, h.2.2⟩
def pGet {α : Type} (z : α) (p : Pool α) (i g : Int) : Option (α × Bool) := bif decide (pOk p) then some (p.get z i g).1 else none
def pSet {α : Type} (p : Pool α) (i g : Int) (v : α) : Option (Bool × Pool α) := bif decide (pOk p) then some (p.set i g v) else none
def pPut {α : Type} (z : α) (p : Pool α) (v : α) : Option (((Int × Int) × Bool) × Pool α) := bif decide (pOk p) then some (p.put z v) else none
theorem SCon.lawRd {P : Program} {f : FuncId} {args : List SV} {fr : List Nat} {w : World} (h : SCon P f args [(0, rd (fun b => b < w.heap.size) w)] (SV.b true) [(0, rd (fun b => b < w.heap.size) w)] fr) :
    Calls P f (args.map (SV.den noEnv)).toArray w (fun e w' => e = .returned (.bool true) ∧ Go.RowKit.Below w.heap.size w w') := by
  refine (h noEnv w (fun b => b < w.heap.size) (Star_one.2 ⟨fun b => Iff.rfl, fun b hb => ⟨hb, rfl⟩⟩)).mono fun e w' => ?_
  rintro ⟨β', _, he, F', hs, _, hM⟩
  have := Star_one.1 hs
  exact ⟨he, hM.os, hM.tape, hM.output, hM.size, fun k hk => (this.2 k hk).2⟩
end Go.Proofs.Ythcehagablploaa.Sx
namespace Go.Proofs.Ythcehagablploaa.Sx
open Go
def vblk (k : Nat) (vs : List Value) (T : TypeId) : Tok where
  ks := [k]
  r β := blkRes (β k).b vs T
  sup h := by rename_i β β'; rw [h k (by simp)]
theorem vblk_ren {f : Nat → Nat} {k k' : Nat} {vs : List Value} {T : TypeId} (hk : f k' = k) : RenT f (vblk k' vs T) (vblk k vs T) := by
  intro β; subst hk; rfl
section
variable {P : Program} {n : Nat} {ops : Array Oper} {rest : List Oper} {fs fs' : FL} {L L' : TL} {ss : List Step}
theorem Run.mkFn1 {d f : Nat} {x : Operand} {ty : TypeId} {pos : String} {after : Array Edge} {g : Option (Nat × Bool)} {gr : FL} {k : Nat} (hg : Gd ops ⟨some d, .makeFunc (.func f) #[] #[x], ty, pos, after, g⟩ fs gr)
    (hx : ev fs x = some (SV.p k 0)) (hn : Nat.blt d n = true)
    (h : Run P n ops rest ((d, .a (.c (.fn (.func f) [k]))) :: fs) L ss fs' L') : Run P n ops (⟨some d, .makeFunc (.func f) #[] #[x], ty, pos, after, g⟩ :: rest) fs L (⟨gr ++ opds [(x, SV.p k 0)], some d, .a (.c (.fn (.func f) [k])), [], [], [], []⟩ :: ss) fs' L' :=
  Run.pure [(x, SV.p k 0)] (.a (.c (.fn (.func f) [k]))) rfl hg (fun p hp => by simp at hp; subst hp; exact hx) hn (fun β ρ w hρ => by
    have h1 : ρ x = .pointer (some ⟨(β k).b, 0, none⟩) := hρ (x, SV.p k 0) (by simp)
    simp only [execOp, List.map_toArray, List.map_cons, List.map_nil, h1]; rfl) h
theorem K.mkFn1 {K : List Step → FL → TL → Prop} {d f : Nat} {x : Operand} {ty : TypeId} {pos : String} {after : Array Edge} {g : Option (Nat × Bool)} {gr : FL} {k : Nat} (hg : Gd ops ⟨some d, .makeFunc (.func f) #[] #[x], ty, pos, after, g⟩ fs gr)
    (hx : ev fs x = some (SV.p k 0)) (hn : Nat.blt d n = true)
    (h : RunK P n ops rest ((d, .a (.c (.fn (.func f) [k]))) :: fs) L (fun ss fs' L' => K (⟨gr ++ opds [(x, SV.p k 0)], some d, .a (.c (.fn (.func f) [k])), [], [], [], []⟩ :: ss) fs' L')) : RunK P n ops (⟨some d, .makeFunc (.func f) #[] #[x], ty, pos, after, g⟩ :: rest) fs L K :=
  RunK.of (fun _ _ _ h => Run.mkFn1 hg hx hn h) h
end
end Go.Proofs.Ythcehagablploaa.Sx
namespace Go.Proofs.Ythcehagablploaa.Sx
open Go
section
variable {P : Program} {T te : TypeId} {x z : Operand} {j : TypeInfo}
end
section
variable {P : Program} {n : Nat} {ops : Array Oper} {rest : List Oper} {fs fs' : FL} {L L' : TL} {ss : List Step} {K : List Step → FL → TL → Prop}
end
section
variable {P : Program} {T te : TypeId} {x z : Operand}
end
end Go.Proofs.Ythcehagablploaa.Sx
namespace Go.Proofs.Ythcehagablploaa.Sx
open Go
section
variable {P : Program} {t ty : TypeId} {x z : Operand}
end
section
variable {P : Program} {n : Nat} {ops : Array Oper} {rest : List Oper} {fs fs' : FL} {L L' : TL} {ss : List Step}
end
end Go.Proofs.Ythcehagablploaa.Sx
namespace Go.Proofs.Ythcehagablploaa.Sx
open Go
section
variable {α : Type} {f : α → List Value} {s : Nat} {l : List α}
end
section
variable {P : Program} {n : Nat} {ops : Array Oper} {rest : List Oper} {fs fs' : FL} {L L' : TL} {ss : List Step}
end
end Go.Proofs.Ythcehagablploaa.Sx
namespace Go.Proofs.Ythcehagablploaa.Sx
open Go
section
variable {C : Ctx} {fs : FL} {L : TL} {R : Act → World → Prop} {α : Type}
end
section
variable {P : Program} {n : Nat} {ops : Array Oper} {rest : List Oper} {fs : FL} {L : TL} {K : List Step → FL → TL → Prop}
theorem g0 {d : Option Nat} {op : Op} {T : TypeId} {pos : String} {after : Array Edge} : Gd ops ⟨d, op, T, pos, after, none⟩ fs [] := gd0 rfl
theorem g1 {d : Option Nat} {op : Op} {T : TypeId} {pos : String} {after : Array Edge} {j : Nat} {want b : Bool} {t : Nat} (hd : (ops[j]?).bind (·.dst) = some t) (hl : lk fs t = some (SV.b b)) (hb : b = want) : Gd ops ⟨d, op, T, pos, after, some (j, want)⟩ fs [(t, SV.b want)] := gd1 rfl hd hl hb
theorem K.mv {d : Nat} {x : Operand} {T : TypeId} {pos : String} {after : Array Edge} {y : SV} (hx : ev fs x = some y) (hn : Nat.blt d n = true)
    (h : RunK P n ops rest ((d, y) :: fs) L (fun ss fs' L' => K (⟨[] ++ opds [(x, y)], some d, y, [], [], [], []⟩ :: ss) fs' L')) : RunK P n ops (⟨some d, .move x, T, pos, after, none⟩ :: rest) fs L K := Sx.K.move (.inl rfl) g0 hx hn h
theorem K.as {d : Nat} {x : Operand} {T : TypeId} {pos : String} {after : Array Edge} {y : SV} (hx : ev fs x = some y) (hn : Nat.blt d n = true)
    (h : RunK P n ops rest ((d, y) :: fs) L (fun ss fs' L' => K (⟨[] ++ opds [(x, y)], some d, y, [], [], [], []⟩ :: ss) fs' L')) : RunK P n ops (⟨some d, .assign x, T, pos, after, none⟩ :: rest) fs L K := Sx.K.move (.inr rfl) g0 hx hn h
theorem K.sk {op : Op} {d : Nat} {T : TypeId} {pos : String} {after : Array Edge} {j : Nat} {want b : Bool} {t : Nat} (hdj : (ops[j]?).bind (·.dst) = some t) (hl : lk fs t = some (SV.b b)) (hb : b = !want) (hn : Nat.blt d n = true)
    (h : RunK P n ops rest ((d, SV.raw undef) :: fs) L (fun ss fs' L' => K (⟨[(t, SV.b b)], some d, SV.raw undef, [], [], [], []⟩ :: ss) fs' L')) : RunK P n ops (⟨some d, op, T, pos, after, some (j, want)⟩ :: rest) fs L K := Sx.K.skip rfl rfl hdj hl hb hn h
end
theorem la {α : Type} {e : α → List Value} {s : Nat} {l : List α} {k : Nat} {T : TypeId} {tr : List (Nat × Tok)} {β : Env} {w : World} {S : Foot} (j : Nat) (hj : tr[j]? = some (k, lrow k T e s l)) (hf : ∀ c, (e c).length = s) (hs : Nat.blt 0 s = true) (h : Star (tr.map fun p => p.2.r β) w S) : LArg S w ((lrowV k T e s l).s.den β) e s l :=
  (lrowV_isC hf (Nat.blt_eq ▸ hs)).larg ⟨k, List.mem_of_getElem? hj⟩ h
def avOf : Option SV → Av
  | some (.a y) => y
  | _ => .agg []
def isAv : Option SV → Bool
  | some (.a _) => true
  | _ => false
def getT (L : TL) : List Nat → List (Nat × Tok)
  | [] => []
  | k :: ks => match lkT L k with
    | some t => (k, t) :: getT L ks
    | none => getT L ks
theorem getT_all {L : TL} : ∀ ks, AllT L (getT L ks)
  | [] => trivial
  | k :: ks => by
    unfold getT
    split
    · rename_i t h; exact ⟨h, getT_all ks⟩
    · exact getT_all ks
theorem allR_of {Y : TypeId → TyI} {fs : FL} {L : TL} : ∀ ts : List Nat, ts.all (fun t => isAv (lk fs t)) = true → AllR Y fs L (ts.map fun t => (.tmp t, avOf (lk fs t)))
  | [], _ => trivial
  | t :: ts, h => by
    simp only [List.all_cons, Bool.and_eq_true] at h
    refine ⟨?_, allR_of ts h.2⟩
    obtain ⟨y, hy⟩ : ∃ y, lk fs t = some (.a y) := by
      have h1 := h.1
      cases hl : lk fs t with
      | none => rw [hl] at h1; cases h1
      | some x =>
        cases x with
        | a y => exact ⟨y, rfl⟩
        | _ => rw [hl] at h1; cases h1
    have e : avOf (lk fs t) = y := by rw [hy]; rfl
    show ResIs Y fs L (.tmp t) (avOf (lk fs t))
    rw [e]; exact .tmp hy
section
variable {fs : FL} {L : TL} {P : Program} {fn : Func} {to : List (Nat × Tok)} {ret : SV} {fr : List Nat} {F0 : Foot} {W : World} {β0 : Env} {N : Nat}
theorem At.dt (Y : Tys P) {e : Exit} (hx : e = .ret ∨ e = .normal) (ts : List Nat) (hr : fn.results = (ts.map ResultVar.tmp).toArray) (ha : ts.all (fun t => isAv (lk fs t)) = true) (hto : getT L (to.map (·.1)) = to) (he : retOf (ts.map fun t => avOf (lk fs t)) = ret)
    (hnd : ndB (to.map (·.1)) = true) (hfr : fr.all (fun k => Nat.ble 20 k) = true) (hks : ksB (ret.ks ++ to.flatMap (·.2.ks)) fr = true) :
    At ⟨W, F0, β0, N, []⟩ fs L (bodyPost P fn (Ret F0 W fr β0 ret to) e) := by
  have e1 : (ts.map fun t => ((.tmp t : ResultVar), avOf (lk fs t))).map (·.1) = ts.map ResultVar.tmp := by simp [Function.comp_def]
  have e2 : (ts.map fun t => ((.tmp t : ResultVar), avOf (lk fs t))).map (·.2) = ts.map fun t => avOf (lk fs t) := by simp [Function.comp_def]
  refine At.done (to' := getT L (to.map (·.1))) Y (ts.map fun t => (.tmp t, avOf (lk fs t))) ?_ (allR_of ts ha) (getT_all _) hto ?_ ?_ hfr ?_ hx
  · rw [e1]; exact hr
  · rw [e2]; exact he
  · rw [hto]; exact hnd
  · rw [e2, he, hto]; exact hks
theorem At.dr (Y : Tys P) (ts : List Nat) (hr : fn.results = (ts.map ResultVar.tmp).toArray) (ha : ts.all (fun t => isAv (lk fs t)) = true) (hto : getT L (to.map (·.1)) = to) (he : retOf (ts.map fun t => avOf (lk fs t)) = ret)
    (hnd : ndB (to.map (·.1)) = true) (hfr : fr.all (fun k => Nat.ble 20 k) = true) (hks : ksB (ret.ks ++ to.flatMap (·.2.ks)) fr = true) :
    At ⟨W, F0, β0, N, []⟩ fs L (bodyPost P fn (Ret F0 W fr β0 ret to) .ret) := At.dt Y (.inl rfl) ts hr ha hto he hnd hfr hks
end
theorem oi {α : Type} {a b : α} (h : some a = some b) : b = a := (Option.some.inj h).symm
def JP (C : Ctx) {σ : Type} (Fs : σ → FL) (Tl : σ → List (Nat × Tok)) : Act → World → Prop := fun a w => ∃ s', Holds C (lk (Fs s')) (lkT ((Tl s').map fun p => (p.1, some p.2))) a w
def LP (C : Ctx) {σ : Type} (Fs : σ → FL) (Tl : σ → List (Nat × Tok)) (μ : σ → Nat) (s : σ) : Act → World → Prop := fun a w => ∃ s', μ s' < μ s ∧ Holds C (lk (Fs s')) (lkT ((Tl s').map fun p => (p.1, some p.2))) a w
section
variable {C : Ctx} {P : Program} {fs : FL} {L : TL} {Q : Exit → Act → World → Prop}
theorem G.sJ {σ : Type} (Fs : σ → FL) (Tl : σ → List (Nat × Tok)) {x y : Code} (h : G C P fs L x (Exit.then (JP C Fs Tl) Q)) (hy : ∀ s : σ, G C P (Fs s) ((Tl s).map fun p => (p.1, some p.2)) y Q) : G C P fs L (.seq x y) Q := G.seqJ Fs Tl h hy
theorem At.jd {σ : Type} {Fs : σ → FL} {Tl : σ → List (Nat × Tok)} (s' : σ) (ρ : List (Nat × Nat)) (ts : List Tok) (hρ : ρ.all (fun p => Nat.ble 20 p.1) = true) (hf : RenF (rn ρ) fs (Fs s')) (hl : RenL (rn ρ) L (Tl s') ts) (hnd : ndB (((Tl s').map (·.1)).map (rn ρ)) = true) :
    At C fs L (Exit.then (JP C Fs Tl) Q .normal) := At.joined s' ρ ts hρ hf hl hnd
theorem G.lp {σ : Type} (Fs : σ → FL) (Tl : σ → List (Nat × Tok)) (μ : σ → Nat) (s0 : σ) {c : Code} (h0 : At C fs L (fun a w => Holds C (lk (Fs s0)) (lkT ((Tl s0).map fun p => (p.1, some p.2))) a w))
    (hr : ∀ s : σ, G C P (Fs s) ((Tl s).map fun p => (p.1, some p.2)) c (Exit.then (LP C Fs Tl μ s) Q)) : G C P fs L (.loop c) Q := G.loop Fs Tl μ s0 h0 hr
theorem At.ag {σ : Type} {Fs : σ → FL} {Tl : σ → List (Nat × Tok)} {μ : σ → Nat} {s : σ} (s' : σ) (ρ : List (Nat × Nat)) (ts : List Tok) (hμ : μ s' < μ s) (hρ : ρ.all (fun p => Nat.ble 20 p.1) = true) (hf : RenF (rn ρ) fs (Fs s')) (hl : RenL (rn ρ) L (Tl s') ts) (hnd : ndB (((Tl s').map (·.1)).map (rn ρ)) = true) :
    At C fs L (Exit.then (LP C Fs Tl μ s) Q .normal) := At.again s' ρ ts hμ hρ hf hl hnd
end
def evD (fs : FL) (o : Operand) : SV := (ev fs o).getD (SV.raw undef)
def opl (fs : FL) (az : Array Operand) : List (Operand × SV) := az.toList.map fun o => (o, evD fs o)
def fnl (f : FuncId) (fs : FL) (az : Array Operand) : List (Operand × SV) := (.func f, SV.raw (.func (.func f) #[] #[])) :: opl fs az
theorem fnl_all {f : FuncId} {fs : FL} {az : Array Operand} (h : az.toList.all (fun o => (ev fs o).isSome) = true) : AllE fs (fnl f fs az) := by
  refine ⟨rfl, ?_⟩
  unfold opl
  generalize az.toList = l at *
  induction l with
  | nil => trivial
  | cons o l ih =>
    simp only [List.all_cons, Bool.and_eq_true] at h
    refine ⟨?_, ih h.2⟩
    obtain ⟨x, hx⟩ := Option.isSome_iff_exists.1 h.1
    show ev fs o = some (evD fs o)
    simp [evD, hx]
theorem fnl_to {P : Program} {f : FuncId} {fs : FL} {az : Array Operand} {ats : Array TypeId} {ty : TypeId} (hf : fnB P f = true) : ToFn P ⟨.value (.func f), az, ats⟩ ty (fnl f fs az) f ((opl fs az).map (·.2)) :=
  toFn_func hf (by unfold opl; simp [Function.comp_def])
theorem getT_of {L : TL} {tr : List (Nat × Tok)} (h : getT L (tr.map (·.1)) = tr) : AllT L tr := h ▸ getT_all _
section
variable {P : Program} {n : Nat} {ops : Array Oper} {rest : List Oper} {fs : FL} {L : TL} {K : List Step → FL → TL → Prop} {d : Nat} {az : Array Operand} {ats : Array TypeId} {ty : TypeId} {pos : String} {after : Array Edge} {g : Option (Nat × Bool)} {gr : FL} {f : FuncId} {args : List SV} {ret : SV} {tr ti to : List (Nat × Tok)} {fr : List Nat} {args' : Env → List SV}
theorem K.cR (hf : fnB P f = true) (hs : SCon P f args tr ret tr fr) (hg : Gd ops ⟨some d, .call ⟨.value (.func f), az, ats⟩, ty, pos, after, g⟩ fs gr) (ha : (opl fs az).map (·.2) = args) (hev : az.toList.all (fun o => (ev fs o).isSome) = true) (htk : getT L (tr.map (·.1)) = tr) (hb : (ndB (tr.map (·.1)) && (frB fr fs L && Nat.blt d n)) = true)
    (h : RunK P n ops rest ((d, ret) :: fs) L (fun ss fs' L' => K (⟨gr ++ opds (fnl f fs az), some d, ret, tr, [], [], fr⟩ :: ss) fs' L')) : RunK P n ops (⟨some d, .call ⟨.value (.func f), az, ats⟩, ty, pos, after, g⟩ :: rest) fs L K := by
  subst ha
  simp only [Bool.and_eq_true] at hb
  exact Sx.K.callR (fnl f fs az) hs (fnl_to hf) hg (fnl_all hev) (getT_of htk) hb.1 hb.2.1 hb.2.2 h
theorem K.c0 (hf : fnB P f = true) (hs : SCon P f args ti ret to fr) (hg : Gd ops ⟨some d, .call ⟨.value (.func f), az, ats⟩, ty, pos, after, g⟩ fs gr) (ha : (opl fs az).map (·.2) = args) (hev : az.toList.all (fun o => (ev fs o).isSome) = true) (htk : getT L (ti.map (·.1)) = ti)
    (hb : (ndB (ti.map (·.1)) && (ndB (to.map (·.1)) && (ti.all (fun p => (to.map (·.1)).contains p.1) && (to.all (fun p => (ti.map (·.1)).contains p.1 || (lkT L p.1).isNone) && (frB fr fs L && Nat.blt d n))))) = true)
    (h : RunK P n ops rest ((d, ret) :: fs) (to.map (fun p => (p.1, some p.2)) ++ L) (fun ss fs' L' => K (⟨gr ++ opds (fnl f fs az), some d, ret, [], ti, to, fr⟩ :: ss) fs' L')) : RunK P n ops (⟨some d, .call ⟨.value (.func f), az, ats⟩, ty, pos, after, g⟩ :: rest) fs L K := by
  subst ha
  simp only [Bool.and_eq_true] at hb
  exact Sx.K.call0 (fnl f fs az) hs (fnl_to hf) hg (fnl_all hev) (getT_of htk) hb.1 hb.2.1 hb.2.2.1 hb.2.2.2.1 hb.2.2.2.2.1 hb.2.2.2.2.2 h
theorem K.cV (hf : fnB P f = true) (ks : List Nat) (hs : ∀ (β : Env) (w : World) (S : Foot), Star ((getT L ks).map fun p => p.2.r β) w S → SCon P f (args' β) ((0, rd S w) :: ti) ret ((0, rd S w) :: to) fr) (hg : Gd ops ⟨some d, .call ⟨.value (.func f), az, ats⟩, ty, pos, after, g⟩ fs gr) (ha : ∀ β, (args' β).map (SV.den β) = ((opl fs az).map (·.2)).map (SV.den β))
    (hev : az.toList.all (fun o => (ev fs o).isSome) = true) (htk : getT L (ti.map (·.1)) = ti)
    (hb : (ndB ((getT L ks ++ ti).map (·.1)) && (ndB ((getT L ks ++ to).map (·.1)) && (ti.all (fun p => (to.map (·.1)).contains p.1) && (to.all (fun p => (ti.map (·.1)).contains p.1 || (lkT L p.1).isNone) && (frB fr fs L && Nat.blt d n))))) = true)
    (h : RunK P n ops rest ((d, ret) :: fs) (to.map (fun p => (p.1, some p.2)) ++ L) (fun ss fs' L' => K (⟨gr ++ opds (fnl f fs az), some d, ret, getT L ks, ti, to, fr⟩ :: ss) fs' L')) : RunK P n ops (⟨some d, .call ⟨.value (.func f), az, ats⟩, ty, pos, after, g⟩ :: rest) fs L K := by
  simp only [Bool.and_eq_true] at hb
  have ht : AllT L (getT L ks ++ ti) := by
    have : ∀ l : List (Nat × Tok), AllT L l → AllT L (l ++ ti) := fun l => by
      induction l with
      | nil => intro _; exact getT_of htk
      | cons p l ih => intro h; exact ⟨h.1, ih h.2⟩
    exact this _ (getT_all _)
  exact Sx.K.callV (fnl f fs az) (getT L ks) ti to args' hs (fnl_to hf) hg (fnl_all hev) ha ht hb.1 hb.2.1 hb.2.2.1 hb.2.2.2.1 hb.2.2.2.2.1 hb.2.2.2.2.2 h
end
section
variable {C : Ctx} {P : Program} {fs : FL} {L : TL} {Q Q' : Exit → Act → World → Prop}
theorem At.ns {x z : Code} (h : G C P fs L x (Exit.then (fun a w => z.wp P Q a w) Q)) : At C fs L (Exit.then (fun a w => (Code.seq x z).wp P Q a w) Q' .normal) := At.next (G.seq h)
theorem At.nr {z : Code} {id : Nat} {l : List Oper} (h : RunK P C.n l.toArray l fs L (fun _ fs' L' => At C fs' L' (Exit.then (fun a w => z.wp P Q a w) Q .normal))) : At C fs L (Exit.then (fun a w => (Code.seq (.region id l.toArray false) z).wp P Q a w) Q' .normal) := At.ns (G.rg h)
end
end Go.Proofs.Ythcehagablploaa.Sx
namespace Go.Proofs.Ythcehagablploaa.Sx
open Go
section
variable {P : Program} {n : Nat} {ops : Array Oper} {rest : List Oper} {fs fs' : FL} {L L' : TL} {ss : List Step}
end
end Go.Proofs.Ythcehagablploaa.Sx
namespace Go.Proofs.Ythcehagablploaa.Sx
open Go
section
variable {α : Type} {e : α → List Value} {s : Nat} {S : Foot} {W0 : World}
end
section
variable {P : Program} {n : Nat} {ops : Array Oper} {rest : List Oper} {fs fs' : FL} {L L' : TL} {ss : List Step}
end
section
variable {H : Type} {enc : TypeId × Value → H} {P : Program} {w : World} {base : Nat} {spare : Nat → Bool} {held : Bool}
end
end Go.Proofs.Ythcehagablploaa.Sx
namespace Go.Proofs.Ythcehagablploaa
open Go Go.Proofs.Ythcehagablploaa.Sx
def tysF : TypeId → TyI
  | 1 => .one (.nilFunc)
  | 2 => .one (.int .i64 0)
  | 3 => .one (.int .i64 0)
  | 4 => .one (.bool false)
  | 5 => .one (.int .u8 0)
  | 6 => .one (.int .u8 0)
  | 7 => .st 4 [(0, 1, 2), (1, 1, 3), (2, 1, 4), (3, 1, 6)] [.int .i64 0, .int .i64 0, .bool false, .int .u8 0]
  | 8 => .st 4 [(0, 1, 2), (1, 1, 3), (2, 1, 4), (3, 1, 6)] [.int .i64 0, .int .i64 0, .bool false, .int .u8 0]
  | 9 => .one (.string ⟨#[]⟩)
  | 10 => .one (.string ⟨#[]⟩)
  | 11 => .one (.string ⟨#[]⟩)
  | 12 => .one (.int .u64 0)
  | 13 => .st 2 [(0, 1, 9), (1, 1, 12)] [.string ⟨#[]⟩, .int .u64 0]
  | 14 => .st 2 [(0, 1, 9), (1, 1, 12)] [.string ⟨#[]⟩, .int .u64 0]
  | 15 => .one (.pointer .none)
  | 16 => .one (.pointer .none)
  | 17 => .one (.pointer .none)
  | 18 => .st 1 [(0, 1, 17)] [.pointer .none]
  | 19 => .st 1 [(0, 1, 17)] [.pointer .none]
  | 20 => .one (.nilIface)
  | 21 => .one (.int .i32 0)
  | 22 => .one (.slice .none 0 0)
  | 23 => .one (.nilFunc)
  | 24 => .one (.nilFunc)
  | 25 => .one (.nilFunc)
  | 26 => .one (.pointer .none)
  | 27 => .one (.nilFunc)
  | 28 => .one (.nilFunc)
  | 29 => .one (.nilFunc)
  | 30 => .one (.nilFunc)
  | 31 => .one (.nilFunc)
  | 32 => .st 2 [(0, 1, 3), (1, 1, 3)] [.int .i64 0, .int .i64 0]
  | 33 => .st 2 [(0, 1, 3), (1, 1, 3)] [.int .i64 0, .int .i64 0]
  | 34 => .st 4 [(0, 1, 3), (1, 1, 4), (2, 2, 33)] [.int .i64 0, .bool false, .int .i64 0, .int .i64 0]
  | 35 => .st 4 [(0, 1, 3), (1, 1, 4), (2, 2, 33)] [.int .i64 0, .bool false, .int .i64 0, .int .i64 0]
  | 36 => .st 3 [(0, 1, 4), (1, 2, 33)] [.bool false, .int .i64 0, .int .i64 0]
  | 37 => .st 3 [(0, 1, 4), (1, 2, 33)] [.bool false, .int .i64 0, .int .i64 0]
  | 38 => .st 8 [(0, 4, 35), (4, 1, 4), (5, 3, 37)] [.int .i64 0, .bool false, .int .i64 0, .int .i64 0, .bool false, .bool false, .int .i64 0, .int .i64 0]
  | 39 => .st 8 [(0, 4, 35), (4, 1, 4), (5, 3, 37)] [.int .i64 0, .bool false, .int .i64 0, .int .i64 0, .bool false, .bool false, .int .i64 0, .int .i64 0]
  | 40 => .st 3 [(0, 1, 3), (1, 1, 3), (2, 1, 3)] [.int .i64 0, .int .i64 0, .int .i64 0]
  | 41 => .st 3 [(0, 1, 3), (1, 1, 3), (2, 1, 3)] [.int .i64 0, .int .i64 0, .int .i64 0]
  | 42 => .st 16 [(0, 3, 41), (3, 3, 41), (6, 1, 3), (7, 1, 3), (8, 2, 33), (10, 3, 37), (13, 3, 37)] [.int .i64 0, .int .i64 0, .int .i64 0, .int .i64 0, .int .i64 0, .int .i64 0, .int .i64 0, .int .i64 0, .int .i64 0, .int .i64 0, .bool false, .int .i64 0, .int .i64 0, .bool false, .int .i64 0, .int .i64 0]
  | 43 => .st 16 [(0, 3, 41), (3, 3, 41), (6, 1, 3), (7, 1, 3), (8, 2, 33), (10, 3, 37), (13, 3, 37)] [.int .i64 0, .int .i64 0, .int .i64 0, .int .i64 0, .int .i64 0, .int .i64 0, .int .i64 0, .int .i64 0, .int .i64 0, .int .i64 0, .bool false, .int .i64 0, .int .i64 0, .bool false, .int .i64 0, .int .i64 0]
  | 44 => .one (.nilFunc)
  | 45 => .one (.nilFunc)
  | 46 => .one (.nilFunc)
  | 47 => .one (.nilFunc)
  | 48 => .one (.nilFunc)
  | 49 => .one (.nilFunc)
  | 50 => .one (.nilFunc)
  | 51 => .one (.nilFunc)
  | 52 => .st 8 [(0, 4, 35), (4, 1, 4), (5, 3, 37)] [.int .i64 0, .bool false, .int .i64 0, .int .i64 0, .bool false, .bool false, .int .i64 0, .int .i64 0]
  | 53 => .one (.nilFunc)
  | 54 => .one (.nilFunc)
  | 55 => .one (.int .u16 0)
  | 56 => .one (.nilFunc)
  | 57 => .one (.nilFunc)
  | 58 => .one (.nilFunc)
  | 59 => .one (.nilFunc)
  | 60 => .one (.slice .none 0 0)
  | 61 => .one (.nilFunc)
  | 62 => .one (.nilFunc)
  | 63 => .one (.nilFunc)
  | 64 => .one (.nilFunc)
  | 65 => .one (.nilFunc)
  | 66 => .one (.nilFunc)
  | 67 => .st 2 [(0, 1, 3), (1, 1, 3)] [.int .i64 0, .int .i64 0]
  | 68 => .st 2 [(0, 1, 3), (1, 1, 3)] [.int .i64 0, .int .i64 0]
  | 69 => .st 29 [(0, 8, 39), (8, 2, 68), (10, 2, 68), (12, 1, 3), (13, 16, 43)] [.int .i64 0, .bool false, .int .i64 0, .int .i64 0, .bool false, .bool false, .int .i64 0, .int .i64 0, .int .i64 0, .int .i64 0, .int .i64 0, .int .i64 0, .int .i64 0, .int .i64 0, .int .i64 0, .int .i64 0, .int .i64 0, .int .i64 0, .int .i64 0, .int .i64 0, .int .i64 0, .int .i64 0, .int .i64 0, .bool false, .int .i64 0, .int .i64 0, .bool false, .int .i64 0, .int .i64 0]
  | 70 => .st 29 [(0, 8, 39), (8, 2, 68), (10, 2, 68), (12, 1, 3), (13, 16, 43)] [.int .i64 0, .bool false, .int .i64 0, .int .i64 0, .bool false, .bool false, .int .i64 0, .int .i64 0, .int .i64 0, .int .i64 0, .int .i64 0, .int .i64 0, .int .i64 0, .int .i64 0, .int .i64 0, .int .i64 0, .int .i64 0, .int .i64 0, .int .i64 0, .int .i64 0, .int .i64 0, .int .i64 0, .int .i64 0, .bool false, .int .i64 0, .int .i64 0, .bool false, .int .i64 0, .int .i64 0]
  | 71 => .one (.nilFunc)
  | 72 => .one (.pointer .none)
  | 73 => .st 3 [(0, 1, 72), (1, 2, 68)] [.pointer .none, .int .i64 0, .int .i64 0]
  | 74 => .st 3 [(0, 1, 72), (1, 2, 68)] [.pointer .none, .int .i64 0, .int .i64 0]
  | 75 => .one (.slice .none 0 0)
  | 76 => .one (.nilFunc)
  | 78 => .one (.nilFunc)
  | 79 => .one (.nilFunc)
  | 80 => .one (.nilFunc)
  | 81 => .one (.nilFunc)
  | 82 => .one (.nilFunc)
  | 84 => .one (.nilFunc)
  | 86 => .one (.nilFunc)
  | 87 => .one (.nilFunc)
  | 89 => .one (.nilFunc)
  | 90 => .one (.nilFunc)
  | 91 => .one (.slice .none 0 0)
  | 92 => .st 5 [(0, 1, 91), (1, 1, 60), (2, 1, 3), (3, 1, 3), (4, 1, 3)] [.slice .none 0 0, .slice .none 0 0, .int .i64 0, .int .i64 0, .int .i64 0]
  | 93 => .st 5 [(0, 1, 91), (1, 1, 60), (2, 1, 3), (3, 1, 3), (4, 1, 3)] [.slice .none 0 0, .slice .none 0 0, .int .i64 0, .int .i64 0, .int .i64 0]
  | 94 => .one (.nilFunc)
  | 95 => .one (.nilFunc)
  | 96 => .one (.nilFunc)
  | 97 => .one (.nilFunc)
  | 98 => .one (.nilFunc)
  | 99 => .one (.nilFunc)
  | 100 => .one (.nilFunc)
  | 101 => .one (.pointer .none)
  | 102 => .one (.nilFunc)
  | 103 => .st 31 [(0, 29, 70), (29, 1, 3), (30, 1, 4)] [.int .i64 0, .bool false, .int .i64 0, .int .i64 0, .bool false, .bool false, .int .i64 0, .int .i64 0, .int .i64 0, .int .i64 0, .int .i64 0, .int .i64 0, .int .i64 0, .int .i64 0, .int .i64 0, .int .i64 0, .int .i64 0, .int .i64 0, .int .i64 0, .int .i64 0, .int .i64 0, .int .i64 0, .int .i64 0, .bool false, .int .i64 0, .int .i64 0, .bool false, .int .i64 0, .int .i64 0, .int .i64 0, .bool false]
  | 104 => .st 31 [(0, 29, 70), (29, 1, 3), (30, 1, 4)] [.int .i64 0, .bool false, .int .i64 0, .int .i64 0, .bool false, .bool false, .int .i64 0, .int .i64 0, .int .i64 0, .int .i64 0, .int .i64 0, .int .i64 0, .int .i64 0, .int .i64 0, .int .i64 0, .int .i64 0, .int .i64 0, .int .i64 0, .int .i64 0, .int .i64 0, .int .i64 0, .int .i64 0, .int .i64 0, .bool false, .int .i64 0, .int .i64 0, .bool false, .int .i64 0, .int .i64 0, .int .i64 0, .bool false]
  | 105 => .one (.nilFunc)
  | 106 => .one (.nilFunc)
  | 107 => .one (.nilFunc)
  | 108 => .st 4 [(0, 1, 17), (1, 1, 17), (2, 1, 17), (3, 1, 9)] [.pointer .none, .pointer .none, .pointer .none, .string ⟨#[]⟩]
  | 109 => .st 4 [(0, 1, 17), (1, 1, 17), (2, 1, 17), (3, 1, 9)] [.pointer .none, .pointer .none, .pointer .none, .string ⟨#[]⟩]
  | 113 => .one (.int .u32 0)
  | 114 => .one (.int .u8 0)
  | 115 => .one (.int .u8 0)
  | 116 => .one (.nilFunc)
  | 117 => .one (.pointer .none)
  | 118 => .one (.int .i32 0)
  | 119 => .one (.int .i32 0)
  | 120 => .st 11 [(0, 1, 12), (1, 1, 12), (2, 1, 113), (3, 1, 114), (4, 1, 5), (5, 1, 5), (6, 1, 115), (7, 1, 116), (8, 1, 117), (9, 1, 118), (10, 1, 119)] [.int .u64 0, .int .u64 0, .int .u32 0, .int .u8 0, .int .u8 0, .int .u8 0, .int .u8 0, .nilFunc, .pointer .none, .int .i32 0, .int .i32 0]
  | 121 => .st 11 [(0, 1, 12), (1, 1, 12), (2, 1, 113), (3, 1, 114), (4, 1, 5), (5, 1, 5), (6, 1, 115), (7, 1, 116), (8, 1, 117), (9, 1, 118), (10, 1, 119)] [.int .u64 0, .int .u64 0, .int .u32 0, .int .u8 0, .int .u8 0, .int .u8 0, .int .u8 0, .nilFunc, .pointer .none, .int .i32 0, .int .i32 0]
  | 122 => .one (.nilFunc)
  | 123 => .one (.nilFunc)
  | 124 => .one (.nilFunc)
  | 125 => .one (.nilFunc)
  | 126 => .one (.nilFunc)
  | 127 => .one (.nilFunc)
  | 128 => .one (.nilFunc)
  | 129 => .one (.nilFunc)
  | 130 => .one (.pointer .none)
  | _ => .none
theorem tysB : (List.range 131).all (fun T => tyB Try.prog T (tysF T)) = true := by kernel_rfl
def Y : Tys Try.prog := ⟨fun T => match Nat.blt T 131 with | true => tysF T | false => .none, fun T => by
  cases h : Nat.blt T 131 with
  | true =>
    rw [Nat.blt_eq] at h
    exact tyOk_of (List.all_eq_true.1 tysB T (List.mem_range.2 h))
  | false => trivial⟩
def cfL : List Nat := [3, 4, 5, 6, 7, 8, 9, 10, 11, 12, 13, 14, 15, 16, 17, 18, 19, 20, 21, 22, 23, 24, 25, 26, 27, 28, 29, 30, 31, 32, 33, 34, 35, 36, 37, 38, 39, 40, 41, 42, 43, 44, 45, 46, 47, 48, 49, 50, 51, 52, 53, 54, 55, 56, 57, 58, 59, 60, 61, 62, 63, 64, 65, 66, 67, 68, 69, 70, 71, 72, 73, 74, 75, 76, 77, 78, 95, 96, 97, 98, 99, 100, 101, 102, 103, 104, 105]
theorem cfB : cfL.all (fun f => fnB Try.prog f) = true := by kernel_rfl
theorem cf (f : Nat) (h : cfL.contains f = true) : fnB Try.prog f = true := List.all_eq_true.1 cfB f (by simpa using h)
theorem mixed : Try.prog.follows .mixedOrders = true := by kernel_rfl
theorem t1 : Y.f 1 = .one (.nilFunc) := by kernel_rfl
theorem t2 : Y.f 2 = .one (.int .i64 0) := by kernel_rfl
theorem t3 : Y.f 3 = .one (.int .i64 0) := by kernel_rfl
theorem t4 : Y.f 4 = .one (.bool false) := by kernel_rfl
theorem t33 : Y.f 33 = .st 2 [(0, 1, 3), (1, 1, 3)] [.int .i64 0, .int .i64 0] := by kernel_rfl
theorem t35 : Y.f 35 = .st 4 [(0, 1, 3), (1, 1, 4), (2, 2, 33)] [.int .i64 0, .bool false, .int .i64 0, .int .i64 0] := by kernel_rfl
theorem t37 : Y.f 37 = .st 3 [(0, 1, 4), (1, 2, 33)] [.bool false, .int .i64 0, .int .i64 0] := by kernel_rfl
theorem t39 : Y.f 39 = .st 8 [(0, 4, 35), (4, 1, 4), (5, 3, 37)] [.int .i64 0, .bool false, .int .i64 0, .int .i64 0, .bool false, .bool false, .int .i64 0, .int .i64 0] := by kernel_rfl
theorem t41 : Y.f 41 = .st 3 [(0, 1, 3), (1, 1, 3), (2, 1, 3)] [.int .i64 0, .int .i64 0, .int .i64 0] := by kernel_rfl
theorem t43 : Y.f 43 = .st 16 [(0, 3, 41), (3, 3, 41), (6, 1, 3), (7, 1, 3), (8, 2, 33), (10, 3, 37), (13, 3, 37)] [.int .i64 0, .int .i64 0, .int .i64 0, .int .i64 0, .int .i64 0, .int .i64 0, .int .i64 0, .int .i64 0, .int .i64 0, .int .i64 0, .bool false, .int .i64 0, .int .i64 0, .bool false, .int .i64 0, .int .i64 0] := by kernel_rfl
theorem t52 : Y.f 52 = .st 8 [(0, 4, 35), (4, 1, 4), (5, 3, 37)] [.int .i64 0, .bool false, .int .i64 0, .int .i64 0, .bool false, .bool false, .int .i64 0, .int .i64 0] := by kernel_rfl
theorem t60 : Y.f 60 = .one (.slice .none 0 0) := by kernel_rfl
theorem t68 : Y.f 68 = .st 2 [(0, 1, 3), (1, 1, 3)] [.int .i64 0, .int .i64 0] := by kernel_rfl
theorem t70 : Y.f 70 = .st 29 [(0, 8, 39), (8, 2, 68), (10, 2, 68), (12, 1, 3), (13, 16, 43)] [.int .i64 0, .bool false, .int .i64 0, .int .i64 0, .bool false, .bool false, .int .i64 0, .int .i64 0, .int .i64 0, .int .i64 0, .int .i64 0, .int .i64 0, .int .i64 0, .int .i64 0, .int .i64 0, .int .i64 0, .int .i64 0, .int .i64 0, .int .i64 0, .int .i64 0, .int .i64 0, .int .i64 0, .int .i64 0, .bool false, .int .i64 0, .int .i64 0, .bool false, .int .i64 0, .int .i64 0] := by kernel_rfl
theorem t72 : Y.f 72 = .one (.pointer .none) := by kernel_rfl
theorem t74 : Y.f 74 = .st 3 [(0, 1, 72), (1, 2, 68)] [.pointer .none, .int .i64 0, .int .i64 0] := by kernel_rfl
theorem t91 : Y.f 91 = .one (.slice .none 0 0) := by kernel_rfl
theorem t93 : Y.f 93 = .st 5 [(0, 1, 91), (1, 1, 60), (2, 1, 3), (3, 1, 3), (4, 1, 3)] [.slice .none 0 0, .slice .none 0 0, .int .i64 0, .int .i64 0, .int .i64 0] := by kernel_rfl
theorem t104 : Y.f 104 = .st 31 [(0, 29, 70), (29, 1, 3), (30, 1, 4)] [.int .i64 0, .bool false, .int .i64 0, .int .i64 0, .bool false, .bool false, .int .i64 0, .int .i64 0, .int .i64 0, .int .i64 0, .int .i64 0, .int .i64 0, .int .i64 0, .int .i64 0, .int .i64 0, .int .i64 0, .int .i64 0, .int .i64 0, .int .i64 0, .int .i64 0, .int .i64 0, .int .i64 0, .int .i64 0, .bool false, .int .i64 0, .int .i64 0, .bool false, .int .i64 0, .int .i64 0, .int .i64 0, .bool false] := by kernel_rfl
theorem el22 : El Try.prog 22 52 8 64 := el_of (by kernel_rfl)
theorem el60 : El Try.prog 60 3 1 8 := el_of (by kernel_rfl)
theorem el91 : El Try.prog 91 104 31 248 := el_of (by kernel_rfl)
end Go.Proofs.Ythcehagablploaa
namespace Go.Proofs.Ythcehagablploaa
open Go Go.Proofs.Ythcehagablploaa.Sx
structure TItem where
  key : Int
  id : Int
structure TOp where
  time : Int
  insert : Bool
  item : TItem
structure TTook where
  found : Bool
  item : TItem
structure TMark where
  op : TOp
  here : Bool
  took : TTook
structure TTide where
  n : Int
  sum : Int
  low : Int
structure TSwell where
  count : TTide
  weight : TTide
  deletes : Int
  free : Int
  most : TItem
  gone : TTook
  least : TTook
structure TRef where
  index : Int
  gen : Int
structure TNode (E A : Type) where
  e : E
  left : TRef
  right : TRef
  size : Int
  sum : A
def eTNode_TMark_TSwell (x : TNode TMark TSwell) : List Value := [.int .i64 x.e.op.time, .bool x.e.op.insert, .int .i64 x.e.op.item.key, .int .i64 x.e.op.item.id, .bool x.e.here, .bool x.e.took.found, .int .i64 x.e.took.item.key, .int .i64 x.e.took.item.id, .int .i64 x.left.index, .int .i64 x.left.gen, .int .i64 x.right.index, .int .i64 x.right.gen, .int .i64 x.size, .int .i64 x.sum.count.n, .int .i64 x.sum.count.sum, .int .i64 x.sum.count.low, .int .i64 x.sum.weight.n, .int .i64 x.sum.weight.sum, .int .i64 x.sum.weight.low, .int .i64 x.sum.deletes, .int .i64 x.sum.free, .int .i64 x.sum.most.key, .int .i64 x.sum.most.id, .bool x.sum.gone.found, .int .i64 x.sum.gone.item.key, .int .i64 x.sum.gone.item.id, .bool x.sum.least.found, .int .i64 x.sum.least.item.key, .int .i64 x.sum.least.item.id]
theorem eTNode_TMark_TSwell_len : ∀ x, (eTNode_TMark_TSwell x).length = 29 := fun _ => rfl
theorem eTNode_TMark_TSwell_one : ∀ x, (eTNode_TMark_TSwell x).all Value.oneCell' = true := fun _ => rfl
abbrev zTItem : TItem := ⟨0, 0⟩
abbrev zTOp : TOp := ⟨0, false, zTItem⟩
abbrev zTTook : TTook := ⟨false, zTItem⟩
abbrev zTMark : TMark := ⟨zTOp, false, zTTook⟩
abbrev zTTide : TTide := ⟨0, 0, 0⟩
abbrev zTSwell : TSwell := ⟨zTTide, zTTide, 0, 0, zTItem, zTTook, zTTook⟩
structure TR08Mark where
  op : TOp
  here : Bool
  took : TTook
def eTR08Mark (x : TR08Mark) : List Value := [.int .i64 x.op.time, .bool x.op.insert, .int .i64 x.op.item.key, .int .i64 x.op.item.id, .bool x.here, .bool x.took.found, .int .i64 x.took.item.key, .int .i64 x.took.item.id]
theorem eTR08Mark_len : ∀ x, (eTR08Mark x).length = 8 := fun _ => rfl
theorem eTR08Mark_one : ∀ x, (eTR08Mark x).all Value.oneCell' = true := fun _ => rfl
abbrev zTRef : TRef := ⟨0, 0⟩
def eTTide (x : TTide) : List Value := [.int .i64 x.n, .int .i64 x.sum, .int .i64 x.low]
def eTMark (x : TMark) : List Value := [.int .i64 x.op.time, .bool x.op.insert, .int .i64 x.op.item.key, .int .i64 x.op.item.id, .bool x.here, .bool x.took.found, .int .i64 x.took.item.key, .int .i64 x.took.item.id]
def eTRef (x : TRef) : List Value := [.int .i64 x.index, .int .i64 x.gen]
def eTSwell (x : TSwell) : List Value := [.int .i64 x.count.n, .int .i64 x.count.sum, .int .i64 x.count.low, .int .i64 x.weight.n, .int .i64 x.weight.sum, .int .i64 x.weight.low, .int .i64 x.deletes, .int .i64 x.free, .int .i64 x.most.key, .int .i64 x.most.id, .bool x.gone.found, .int .i64 x.gone.item.key, .int .i64 x.gone.item.id, .bool x.least.found, .int .i64 x.least.item.key, .int .i64 x.least.item.id]
def eTItem (x : TItem) : List Value := [.int .i64 x.key, .int .i64 x.id]
def eTTook (x : TTook) : List Value := [.bool x.found, .int .i64 x.item.key, .int .i64 x.item.id]
structure Ops (E A : Type) where
  cmp : Nat → E → E → Option Int
  sum : Nat → E → Option A
  plus : Nat → A → A → Option A
  zE : E
  zA : A
abbrev zNode {E A : Type} (O : Ops E A) : TNode E A := ⟨O.zE, ⟨0, 0⟩, ⟨0, 0⟩, 0, O.zA⟩
def Tree_New.f {E A : Type} (O : Ops E A) (k : Nat) (a0 : Int) : Option (TRef × Pool (TNode E A)) := some (zTRef, (⟨[], [], capOf a0, 0, 0⟩ : Pool (TNode E A)))
def Tree_get.f {E A : Type} (O : Ops E A) (k : Nat) (p1 : Pool (TNode E A)) (a1 : TRef) : Option (TNode E A) := bif (a1.gen == 0) then (some (zNode O)) else ((pGet (zNode O) p1 a1.index a1.gen).bind fun x1 => some x1.1)
def Tree_weight.f {E A : Type} (O : Ops E A) (k : Nat) (p1 : Pool (TNode E A)) (a1 : TRef) : Option (Int) := (Tree_get.f O k p1 a1).bind fun x1 => some (w64 (x1.size + 1))
def Tree_lay.f {E A : Type} (O : Ops E A) (k : Nat) (p1 : Pool (TNode E A)) (a1 : TRef) (a2 : TRef) (a3 : TRef) : Option (TRef × Pool (TNode E A)) := (Tree_get.f O k p1 a1).bind fun x1 => (Tree_get.f O k p1 a2).bind fun x2 => (Tree_get.f O k p1 a3).bind fun x3 => (O.sum k x1.e).bind fun x4 => (O.plus k x2.sum x4).bind fun x5 => (O.plus k x5 x3.sum).bind fun x6 => (pSet p1 a1.index a1.gen (TNode.mk x1.e a2 a3 (w64 ((w64 (x2.size + 1)) + x3.size)) x6)).bind fun x7 => some (a1, x7.2)
def Tree_turnRight.f {E A : Type} (O : Ops E A) (k : Nat) (p1 : Pool (TNode E A)) (a1 : TRef) : Option (TRef × Pool (TNode E A)) := (Tree_get.f O k p1 a1).bind fun x1 => (Tree_get.f O k p1 x1.left).bind fun x2 => (Tree_lay.f O k p1 a1 x2.right x1.right).bind fun x3 => (Tree_lay.f O k x3.2 x1.left x2.left a1).bind fun x4 => some (x4.1, x4.2)
def Tree_turnLeft.f {E A : Type} (O : Ops E A) (k : Nat) (p1 : Pool (TNode E A)) (a1 : TRef) : Option (TRef × Pool (TNode E A)) := (Tree_get.f O k p1 a1).bind fun x1 => (Tree_get.f O k p1 x1.right).bind fun x2 => (Tree_lay.f O k p1 a1 x1.left x2.left).bind fun x3 => (Tree_lay.f O k x3.2 x1.right a1 x2.right).bind fun x4 => some (x4.1, x4.2)
def Tree_balance.f {E A : Type} (O : Ops E A) (k : Nat) (p1 : Pool (TNode E A)) (a1 : TRef) : Option (TRef × Pool (TNode E A)) := (Tree_get.f O k p1 a1).bind fun x1 => (Tree_weight.f O k p1 x1.left).bind fun x2 => (Tree_weight.f O k p1 x1.right).bind fun x3 => bif (decide (x3 > (w64 (3 * x2)))) then ((Tree_get.f O k p1 x1.right).bind fun x4 => (Tree_weight.f O k p1 x4.left).bind fun x5 => (Tree_weight.f O k p1 x4.right).bind fun x6 => bif (decide (x5 ≥ (w64 (2 * x6)))) then ((Tree_turnRight.f O k p1 x1.right).bind fun x7 => (Tree_lay.f O k x7.2 a1 x1.left x7.1).bind fun x8 => (Tree_turnLeft.f O k x8.2 a1).bind fun x9 => some (x9.1, x9.2)) else ((Tree_turnLeft.f O k p1 a1).bind fun x10 => some (x10.1, x10.2))) else (bif (decide (x2 > (w64 (3 * x3)))) then ((Tree_get.f O k p1 x1.left).bind fun x11 => (Tree_weight.f O k p1 x11.right).bind fun x12 => (Tree_weight.f O k p1 x11.left).bind fun x13 => bif (decide (x12 ≥ (w64 (2 * x13)))) then ((Tree_turnLeft.f O k p1 x1.left).bind fun x14 => (Tree_lay.f O k x14.2 a1 x14.1 x1.right).bind fun x15 => (Tree_turnRight.f O k x15.2 a1).bind fun x16 => some (x16.1, x16.2)) else ((Tree_turnRight.f O k p1 a1).bind fun x17 => some (x17.1, x17.2))) else (some (a1, p1)))
def Tree_link.r {E A : Type} (O : Ops E A) (k : Nat) : Nat → Pool (TNode E A) → TRef → TRef → TRef → Option (TRef × Pool (TNode E A))
  | 0, _, _, _, _ => none
  | n + 1, p1, a1, a2, a3 => (Tree_weight.f O k p1 a1).bind fun x1 => (Tree_weight.f O k p1 a3).bind fun x2 => bif (decide (x2 > (w64 (3 * x1)))) then ((Tree_get.f O k p1 a3).bind fun x3 => (Tree_link.r O k n p1 a1 a2 x3.left).bind fun x4 => (Tree_lay.f O k x4.2 a3 x4.1 x3.right).bind fun x5 => (Tree_balance.f O k x5.2 x5.1).bind fun x6 => some (x6.1, x6.2)) else (bif (decide (x1 > (w64 (3 * x2)))) then ((Tree_get.f O k p1 a1).bind fun x7 => (Tree_link.r O k n p1 x7.right a2 a3).bind fun x8 => (Tree_lay.f O k x8.2 a1 x7.left x8.1).bind fun x9 => (Tree_balance.f O k x9.2 x9.1).bind fun x10 => some (x10.1, x10.2)) else ((Tree_lay.f O k p1 a2 a1 a3).bind fun x11 => some (x11.1, x11.2)))
def Tree_link.f {E A : Type} (O : Ops E A) (k : Nat) (p1 : Pool (TNode E A)) (a1 : TRef) (a2 : TRef) (a3 : TRef) : Option (TRef × Pool (TNode E A)) := Tree_link.r O k k p1 a1 a2 a3
def Tree_put.r {E A : Type} (O : Ops E A) (k : Nat) : Nat → Pool (TNode E A) → TRef → E → Option (TRef × Bool × Pool (TNode E A))
  | 0, _, _, _ => none
  | n + 1, p1, a1, a2 => bif (a1.gen == 0) then ((O.sum k a2).bind fun x1 => (pPut (zNode O) p1 (TNode.mk a2 zTRef zTRef 1 x1)).bind fun x2 => some ((TRef.mk x2.1.1.1 x2.1.1.2), x2.1.2, x2.2)) else ((Tree_get.f O k p1 a1).bind fun x3 => (O.cmp k a2 x3.e).bind fun x4 => bif (decide (x4 < 0)) then ((Tree_put.r O k n p1 x3.left a2).bind fun x5 => bif (!x5.2.1) then (some (a1, false, x5.2.2)) else ((Tree_link.f O k x5.2.2 x5.1 a1 x3.right).bind fun x6 => some (x6.1, true, x6.2))) else (bif (decide (x4 > 0)) then ((Tree_put.r O k n p1 x3.right a2).bind fun x7 => bif (!x7.2.1) then (some (a1, false, x7.2.2)) else ((Tree_link.f O k x7.2.2 x3.left a1 x7.1).bind fun x8 => some (x8.1, true, x8.2))) else ((pSet p1 a1.index a1.gen (TNode.mk a2 x3.left x3.right x3.size x3.sum)).bind fun x9 => (Tree_lay.f O k x9.2 a1 x3.left x3.right).bind fun x10 => some (x10.1, true, x10.2))))
def Tree_Len.f {E A : Type} (O : Ops E A) (k : Nat) (p1 : Pool (TNode E A)) (rt0 : TRef) : Option (Int) := (Tree_get.f O k p1 rt0).bind fun x1 => some x1.size
def Tree_between.r {E A : Type} (O : Ops E A) (k : Nat) : Nat → Pool (TNode E A) → TRef → Int → Int → Option (A)
  | 0, _, _, _, _ => none
  | n + 1, p1, a1, a2, a3 => (Tree_get.f O k p1 a1).bind fun x1 => (bif (decide (a2 ≥ a3)) then (some (Sum.inl O.zA)) else (bif (decide (a2 ≥ x1.size)) then (some (Sum.inl O.zA)) else (bif (decide (a3 ≤ 0)) then (some (Sum.inl O.zA)) else (bif (x1.size == 0) then (some (Sum.inl O.zA)) else (some (Sum.inr ())))))).bind (Sum.elim (fun r => some r) (fun w2 => (bif (decide (a2 ≤ 0)) then (bif (decide (a3 ≥ x1.size)) then (some (Sum.inl x1.sum)) else (some (Sum.inr ()))) else (some (Sum.inr ()))).bind (Sum.elim (fun r => some r) (fun w3 => (Tree_get.f O k p1 x1.left).bind fun x4 => (Tree_between.r O k n p1 x1.left a2 a3).bind fun x5 => (bif (decide (a2 ≤ x4.size)) then (bif (decide (a3 > x4.size)) then ((O.sum k x1.e).bind fun x7 => (O.plus k x5 x7).bind fun x8 => some x8) else (some x5)) else (some x5)).bind fun x6 => (Tree_between.r O k n p1 x1.right (w64 ((w64 (a2 - x4.size)) - 1)) (w64 ((w64 (a3 - x4.size)) - 1))).bind fun x9 => (O.plus k x6 x9).bind fun x10 => some x10))))
def Tree_between.f {E A : Type} (O : Ops E A) (k : Nat) (p1 : Pool (TNode E A)) (a1 : TRef) (a2 : Int) (a3 : Int) : Option (A) := Tree_between.r O k k p1 a1 a2 a3
def Tree_Between.f {E A : Type} (O : Ops E A) (k : Nat) (p1 : Pool (TNode E A)) (rt0 : TRef) (a1 : Int) (a2 : Int) : Option (A) := (Tree_Len.f O k p1 rt0).bind fun x1 => (Tree_between.f O k p1 rt0 (gmin (gmax a1 0) x1) (gmin (gmax a2 0) x1)).bind fun x2 => some x2
def Tree_first.r {E A : Type} (O : Ops E A) (k : Nat) : Nat → Pool (TNode E A) → TRef → Int → A → (A → A → Option Bool) → Option (Int × A)
  | 0, _, _, _, _, _ => none
  | n + 1, p1, a1, a2, a3, fn4 => (Tree_get.f O k p1 a1).bind fun x1 => (bif (x1.size == 0) then ((O.plus k a3 x1.sum).bind fun x3 => some (Sum.inl ((-1), x3))) else (bif (decide (a2 ≥ x1.size)) then ((O.plus k a3 x1.sum).bind fun x4 => some (Sum.inl ((-1), x4))) else (bif (decide (a2 ≤ 0)) then ((fn4 a3 x1.sum).bind fun x5 => bif (!x5) then ((O.plus k a3 x1.sum).bind fun x6 => some (Sum.inl ((-1), x6))) else (some (Sum.inr ()))) else (some (Sum.inr ()))))).bind (Sum.elim (fun r => some r) (fun w2 => (Tree_get.f O k p1 x1.left).bind fun x7 => (Tree_first.r O k n p1 x1.left a2 a3 fn4).bind fun x8 => bif (decide (x8.1 ≥ 0)) then (some (x8.1, x8.2)) else ((O.sum k x1.e).bind fun x9 => (bif (decide (a2 ≤ x7.size)) then ((fn4 x8.2 x9).bind fun x11 => bif x11 then (some (Sum.inl (x7.size, x8.2))) else (some (Sum.inr ()))) else (some (Sum.inr ()))).bind (Sum.elim (fun r => some r) (fun w10 => (O.plus k x8.2 x9).bind fun x12 => (Tree_first.r O k n p1 x1.right (w64 ((w64 (a2 - x7.size)) - 1)) x12 fn4).bind fun x13 => bif (decide (x13.1 ≥ 0)) then (some ((w64 (x13.1 + (w64 (x7.size + 1)))), x13.2)) else (some (x13.1, x13.2)))))))
def Tree_first.f {E A : Type} (O : Ops E A) (k : Nat) (p1 : Pool (TNode E A)) (a1 : TRef) (a2 : Int) (a3 : A) (fn4 : A → A → Option Bool) : Option (Int × A) := Tree_first.r O k k p1 a1 a2 a3 fn4
def Tree_First.f {E A : Type} (O : Ops E A) (k : Nat) (p1 : Pool (TNode E A)) (rt0 : TRef) (a1 : Int) (fn2 : A → A → Option Bool) : Option (Int) := (Tree_Len.f O k p1 rt0).bind fun x1 => (Tree_first.f O k p1 rt0 (gmin (gmax a1 0) x1) O.zA fn2).bind fun x2 => some x2.1
def Tree_lastOf.r {E A : Type} (O : Ops E A) (k : Nat) : Nat → Pool (TNode E A) → TRef → Int → A → (A → A → Option Bool) → Option (Int)
  | 0, _, _, _, _, _ => none
  | n + 1, p1, a1, a2, a3, fn4 => (Tree_get.f O k p1 a1).bind fun x1 => (bif (x1.size == 0) then (some (Sum.inl (-1))) else (bif (decide (a2 ≤ 0)) then (some (Sum.inl (-1))) else (bif (decide (a2 ≥ x1.size)) then ((fn4 a3 x1.sum).bind fun x3 => bif (!x3) then (some (Sum.inl (-1))) else (some (Sum.inr ()))) else (some (Sum.inr ()))))).bind (Sum.elim (fun r => some r) (fun w2 => (Tree_get.f O k p1 x1.left).bind fun x4 => (O.plus k a3 x4.sum).bind fun x5 => (O.sum k x1.e).bind fun x6 => (O.plus k x5 x6).bind fun x7 => (Tree_lastOf.r O k n p1 x1.right (w64 ((w64 (a2 - x4.size)) - 1)) x7 fn4).bind fun x8 => bif (decide (x8 ≥ 0)) then (some (w64 ((w64 (x8 + x4.size)) + 1))) else (bif (decide (a2 > x4.size)) then ((fn4 x5 x6).bind fun x9 => bif x9 then (some x4.size) else ((Tree_lastOf.r O k n p1 x1.left a2 a3 fn4).bind fun x10 => some x10)) else ((Tree_lastOf.r O k n p1 x1.left a2 a3 fn4).bind fun x11 => some x11))))
def Tree_lastOf.f {E A : Type} (O : Ops E A) (k : Nat) (p1 : Pool (TNode E A)) (a1 : TRef) (a2 : Int) (a3 : A) (fn4 : A → A → Option Bool) : Option (Int) := Tree_lastOf.r O k k p1 a1 a2 a3 fn4
def Tree_Last.f {E A : Type} (O : Ops E A) (k : Nat) (p1 : Pool (TNode E A)) (rt0 : TRef) (a1 : Int) (fn2 : A → A → Option Bool) : Option (Int) := (Tree_Len.f O k p1 rt0).bind fun x1 => (Tree_lastOf.f O k p1 rt0 (gmin (gmax a1 0) x1) O.zA fn2).bind fun x2 => some x2
def Tree_Find.l0 {E A : Type} (O : Ops E A) (k : Nat) (p1 : Pool (TNode E A)) (a1 : E) : Nat → TRef → Option (Sum (E × Bool) (Unit))
  | 0, _ => none
  | n + 1, v1 => bif (v1.gen != 0) then ((Tree_get.f O k p1 v1).bind fun x2 => (O.cmp k a1 x2.e).bind fun x3 => bif (x3 == 0) then (some (Sum.inl (x2.e, true))) else (bif (decide (x3 < 0)) then (Tree_Find.l0 O k p1 a1 n x2.left) else (Tree_Find.l0 O k p1 a1 n x2.right))) else (some (Sum.inr ()))
def Tree_Find.f {E A : Type} (O : Ops E A) (k : Nat) (p1 : Pool (TNode E A)) (rt0 : TRef) (a1 : E) : Option (E × Bool) := (Tree_Find.l0 O k p1 a1 k rt0).bind (Sum.elim (fun r => some r) (fun w1 => some (O.zE, false)))
def Tree_Rank.l0 {E A : Type} (O : Ops E A) (k : Nat) (p1 : Pool (TNode E A)) (a1 : E) : Nat → (Int × TRef) → Option (Int)
  | 0, _ => none
  | n + 1, (v1, v2) => bif (v2.gen != 0) then ((Tree_get.f O k p1 v2).bind fun x2 => (O.cmp k a1 x2.e).bind fun x3 => bif (decide (x3 ≤ 0)) then (Tree_Rank.l0 O k p1 a1 n (v1, x2.left)) else ((Tree_weight.f O k p1 x2.left).bind fun x4 => Tree_Rank.l0 O k p1 a1 n ((w64 (v1 + x4)), x2.right))) else (some v1)
def Tree_Rank.f {E A : Type} (O : Ops E A) (k : Nat) (p1 : Pool (TNode E A)) (rt0 : TRef) (a1 : E) : Option (Int) := (Tree_Rank.l0 O k p1 a1 k (0, rt0)).bind fun x1 => some x1
def tide_Tide_Plus.f (k : Nat) (a0 : TTide) (a1 : TTide) : Option (TTide) := bif (a0.n == 0) then (some a1) else (bif (a1.n == 0) then (some a0) else (some (TTide.mk (w64 (a0.n + a1.n)) (w64 (a0.sum + a1.sum)) (gmin a0.low (w64 (a0.sum + a1.low))))))
def tide_Of.l0 (k : Nat) (l0 : List Int) : Nat → (TTide × Int) → Option (TTide)
  | 0, _ => none
  | n + 1, (v1, v2) => bif (decide (v2 < (l0.length : Int))) then ((atL l0 v2).bind fun x2 => (tide_Tide_Plus.f k v1 (TTide.mk 1 x2 x2)).bind fun x3 => tide_Of.l0 k l0 n (x3, (w64 (v2 + 1)))) else (some v1)
def tide_Of.f (k : Nat) (l0 : List Int) : Option (TTide) := (tide_Of.l0 k l0 k (zTTide, 0)).bind fun x1 => some x1
def wave_Mark_Sum.f (k : Nat) (a0 : TMark) : Option (TSwell) := ((bif a0.op.insert then (some a0.here) else (some false)).bind fun x2 => bif x2 then ((tide_Of.f k ([1] : List Int)).bind fun x3 => (tide_Of.f k ([0] : List Int)).bind fun x4 => some (Sum.inl (TSwell.mk x3 x4 0 0 zTItem zTTook (TTook.mk true a0.op.item)))) else (bif a0.op.insert then ((tide_Of.f k ([1] : List Int)).bind fun x5 => (tide_Of.f k ([1] : List Int)).bind fun x6 => some (Sum.inl (TSwell.mk x5 x6 0 0 zTItem (TTook.mk true a0.op.item) zTTook))) else (some (Sum.inr ())))).bind (Sum.elim (fun r => some r) (fun w1 => (tide_Of.f k ([(-1)] : List Int)).bind fun x7 => (tide_Of.f k ([(-1)] : List Int)).bind fun x8 => bif a0.took.found then (some (TSwell.mk x7 x8 1 0 a0.took.item zTTook zTTook)) else (some (TSwell.mk x7 x8 1 1 zTItem zTTook zTTook))))
def cmp_isNaN.f (k : Nat) (a0 : Int) : Option (Bool) := some (a0 != a0)
def cmp_Compare.f (k : Nat) (a0 : Int) (a1 : Int) : Option (Int) := (cmp_isNaN.f k a0).bind fun x1 => (cmp_isNaN.f k a1).bind fun x2 => bif x1 then (bif x2 then (some 0) else (some (-1))) else (bif x2 then (some 1) else (bif (decide (a0 < a1)) then (some (-1)) else (bif (decide (a0 > a1)) then (some 1) else (some 0))))
def wave_Mark_Compare.f (k : Nat) (a0 : TMark) (a1 : TMark) : Option (Int) := (cmp_Compare.f k a0.op.time a1.op.time).bind fun x1 => some x1
def wave_Swell_taken.f (k : Nat) (a0 : TSwell) : Option (TTook) := bif (a0.deletes == a0.free) then (some zTTook) else (some (TTook.mk true a0.most))
def cmp_Or.l0 (k : Nat) (l0 : List Int) : Nat → Int → Option (Sum (Int) (Unit))
  | 0, _ => none
  | n + 1, v1 => bif (decide (v1 < (l0.length : Int))) then ((atL l0 v1).bind fun x2 => bif (x2 != 0) then (some (Sum.inl x2)) else (cmp_Or.l0 k l0 n (w64 (v1 + 1)))) else (some (Sum.inr ()))
def cmp_Or.f (k : Nat) (l0 : List Int) : Option (Int) := (cmp_Or.l0 k l0 k 0).bind (Sum.elim (fun r => some r) (fun w1 => some 0))
def item_Compare.f (k : Nat) (a0 : TItem) (a1 : TItem) : Option (Int) := (cmp_Compare.f k a0.key a1.key).bind fun x1 => (cmp_Compare.f k a0.id a1.id).bind fun x2 => (cmp_Or.f k ([x1, x2] : List Int)).bind fun x3 => some x3
def wave_better.f (k : Nat) (a0 : Int) (a1 : TTook) (a2 : TTook) : Option (TTook) := bif (!a1.found) then (some a2) else (bif a2.found then ((item_Compare.f k a2.item a1.item).bind fun x1 => bif (decide ((w64 (a0 * x1)) < 0)) then (some a2) else (some a1)) else (some a1))
def wave_Swell_Plus.f (k : Nat) (a0 : TSwell) (a1 : TSwell) : Option (TSwell) := (tide_Tide_Plus.f k a0.count a1.count).bind fun x1 => (tide_Tide_Plus.f k a0.weight a1.weight).bind fun x2 => (wave_Swell_taken.f k a0).bind fun x3 => (wave_Swell_taken.f k a1).bind fun x4 => (wave_better.f k (-1) x3 x4).bind fun x5 => (wave_better.f k (-1) a0.gone a1.gone).bind fun x6 => (wave_better.f k 1 a0.least a1.least).bind fun x7 => some (TSwell.mk x1 x2 (w64 (a0.deletes + a1.deletes)) (w64 (a0.free + a1.free)) x5.item x6 x7)
abbrev opsM : Ops TMark TSwell := ⟨wave_Mark_Compare.f, wave_Mark_Sum.f, wave_Swell_Plus.f, zTMark, zTSwell⟩
abbrev zNodeM : TNode TMark TSwell := zNode opsM
def wave_New.f (k : Nat) (a0 : Int) : Option (TRef × Pool (TNode TMark TSwell)) := (Tree_New.f opsM k a0).bind fun x1 => some (x1.1, x1.2)
def bridge_clamp.f (k : Nat) (p1 : Pool (TNode TMark TSwell)) (rt0 : TRef) (a1 : Int) : Option (Int) := (Tree_Len.f opsM k p1 rt0).bind fun x1 => some (gmin (gmax a1 0) x1)
def bridge_Height.f (k : Nat) (p1 : Pool (TNode TMark TSwell)) (rt0 : TRef) (a1 : Int) (a2 : Int) : Option (Int) := (Tree_Between.f opsM k p1 rt0 0 a1).bind fun x1 => some (w64 (a2 + x1.weight.sum))
def bridge_low.f (k : Nat) (a0 : Int) : Option (Int) := some a0
def bridge_low_1.f (k : Nat) (a0 : TSwell) (a1 : TSwell) (c0 : Int) : Option (Bool) := bif (decide (a1.weight.n > 0)) then (some (decide ((w64 ((w64 (c0 + a0.weight.sum)) + a1.weight.low)) ≤ 0))) else (some false)
def bridge_Next.f (k : Nat) (p1 : Pool (TNode TMark TSwell)) (rt0 : TRef) (a1 : Int) (a2 : Int) : Option (Int) := (bridge_clamp.f k p1 rt0 a1).bind fun x1 => (bridge_Height.f k p1 rt0 x1 a2).bind fun x2 => bif (decide (x2 ≤ 0)) then (some x1) else ((bridge_low.f k a2).bind fun x3 => (Tree_First.f opsM k p1 rt0 x1 (fun z0 z1 => bridge_low_1.f k z0 z1 x3)).bind fun x4 => bif (decide (x4 ≥ 0)) then (some (w64 (x4 + 1))) else (some (-1)))
def bridge_Prior.f (k : Nat) (p1 : Pool (TNode TMark TSwell)) (rt0 : TRef) (a1 : Int) (a2 : Int) : Option (Int) := (bridge_clamp.f k p1 rt0 a1).bind fun x1 => (bridge_low.f k a2).bind fun x2 => (Tree_Last.f opsM k p1 rt0 x1 (fun z0 z1 => bridge_low_1.f k z0 z1 x2)).bind fun x3 => bif (decide (x3 ≥ 0)) then (some (w64 (x3 + 1))) else (bif (decide (a2 ≤ 0)) then (some 0) else (some (-1)))
def Lw10_small.f (k : Nat) (l0 : List TR08Mark) (a1 : Int) : Option (Bool) := bif (decide ((l0.length : Int) ≤ 60)) then (bif (decide (a1 ≥ (-1099511627776))) then (some (decide (a1 ≤ 1099511627776))) else (some false)) else (some false)
def R10_Timed.l1 (k : Nat) (l0 : List TR08Mark) (v1 : List TR08Mark) (v2 : Int) : Nat → Int → Option (Int)
  | 0, _ => none
  | n + 1, v101 => bif (decide (v101 < (v1.length : Int))) then ((atL v1 v101).bind fun x4 => (atL l0 v2).bind fun x5 => bif (decide (x4.op.time < x5.op.time)) then (R10_Timed.l1 k l0 v1 v2 n (w64 (v101 + 1))) else (some v101)) else (some v101)
def R10_Timed.l0 (k : Nat) (l0 : List TR08Mark) : Nat → (List TR08Mark × Int) → Option (List TR08Mark)
  | 0, _ => none
  | n + 1, (v1, v2) => bif (decide (v2 < (l0.length : Int))) then (((R10_Timed.l1 k l0 v1 v2 k 0).bind fun x3 => bif decide (0 ≤ x3 ∧ x3 ≤ (v1.length : Int)) then (bif decide (([] : List TR08Mark).length + ((v1.drop 0).take (((x3).toNat) - 0)).length < 4294967296) then ((atL l0 v2).bind fun x6 => bif decide ((([] : List TR08Mark) ++ ((v1.drop 0).take (((x3).toNat) - 0))).length + ([x6] : List TR08Mark).length < 4294967296) then (bif (decide (x3 < (v1.length : Int))) then ((atL v1 x3).bind fun x7 => bif (x7.op.time == x6.op.time) then (bif decide (0 ≤ (w64 (x3 + 1)) ∧ (w64 (x3 + 1)) ≤ (v1.length : Int)) then (bif decide (((([] : List TR08Mark) ++ ((v1.drop 0).take (((x3).toNat) - 0))) ++ ([x6] : List TR08Mark)).length + ((v1.drop (((w64 (x3 + 1))).toNat)).take (v1.length - (((w64 (x3 + 1))).toNat))).length < 4294967296) then (some (((([] : List TR08Mark) ++ ((v1.drop 0).take (((x3).toNat) - 0))) ++ ([x6] : List TR08Mark)) ++ ((v1.drop (((w64 (x3 + 1))).toNat)).take (v1.length - (((w64 (x3 + 1))).toNat))))) else none) else none) else (bif decide (0 ≤ x3 ∧ x3 ≤ (v1.length : Int)) then (bif decide (((([] : List TR08Mark) ++ ((v1.drop 0).take (((x3).toNat) - 0))) ++ ([x6] : List TR08Mark)).length + ((v1.drop ((x3).toNat)).take (v1.length - ((x3).toNat))).length < 4294967296) then (some (((([] : List TR08Mark) ++ ((v1.drop 0).take (((x3).toNat) - 0))) ++ ([x6] : List TR08Mark)) ++ ((v1.drop ((x3).toNat)).take (v1.length - ((x3).toNat))))) else none) else none)) else (bif decide (0 ≤ x3 ∧ x3 ≤ (v1.length : Int)) then (bif decide (((([] : List TR08Mark) ++ ((v1.drop 0).take (((x3).toNat) - 0))) ++ ([x6] : List TR08Mark)).length + ((v1.drop ((x3).toNat)).take (v1.length - ((x3).toNat))).length < 4294967296) then (some (((([] : List TR08Mark) ++ ((v1.drop 0).take (((x3).toNat) - 0))) ++ ([x6] : List TR08Mark)) ++ ((v1.drop ((x3).toNat)).take (v1.length - ((x3).toNat))))) else none) else none)) else none) else none) else none).bind fun x2 => R10_Timed.l0 k l0 n (x2, (w64 (v2 + 1)))) else (some v1)
def R10_Timed.f (k : Nat) (l0 : List TR08Mark) : Option (List TR08Mark) := (R10_Timed.l0 k l0 k (([] : List TR08Mark), 0)).bind fun x1 => some x1
def bridge_Best.f (k : Nat) (p1 : Pool (TNode TMark TSwell)) (rt0 : TRef) (a1 : Int) : Option (TTook) := (bridge_clamp.f k p1 rt0 a1).bind fun x1 => (Tree_Len.f opsM k p1 rt0).bind fun x2 => (Tree_Between.f opsM k p1 rt0 x1 x2).bind fun x3 => some x3.gone
def bridge_Least.f (k : Nat) (p1 : Pool (TNode TMark TSwell)) (rt0 : TRef) (a1 : Int) : Option (TTook) := (bridge_clamp.f k p1 rt0 a1).bind fun x1 => (Tree_Between.f opsM k p1 rt0 0 x1).bind fun x2 => some x2.least
def tide_Tide_Least.f (k : Nat) (a0 : TTide) (a1 : Int) : Option (Int) := bif (a0.n == 0) then (some a1) else (some (gmin a1 (w64 (a1 + a0.low))))
def legal_Low.f (k : Nat) (p1 : Pool (TNode TMark TSwell)) (rt0 : TRef) (a1 : Int) (a2 : Int) : Option (Int) := (Tree_Len.f opsM k p1 rt0).bind fun x1 => (Tree_Between.f opsM k p1 rt0 0 (gmin (gmax a1 0) x1)).bind fun x2 => (Tree_Between.f opsM k p1 rt0 (gmin (gmax a1 0) x1) (gmax (gmin (gmax a1 0) x1) (gmin (gmax a2 0) x1))).bind fun x3 => (tide_Tide_Least.f k x3.count x2.count.sum).bind fun x4 => some x4
def legal_Right.f (k : Nat) (p1 : Pool (TNode TMark TSwell)) (rt0 : TRef) : Option (Bool) := (Tree_Len.f opsM k p1 rt0).bind fun x1 => (legal_Low.f k p1 rt0 0 x1).bind fun x2 => some (decide (x2 ≥ 0))
def wave_Key.f (k : Nat) (a0 : Int) : Option (TMark) := some (TMark.mk (TOp.mk a0 false zTItem) false zTTook)
def legal_spare.f (k : Nat) (p1 : Pool (TNode TMark TSwell)) (rt0 : TRef) (a1 : Int) (a2 : Int) : Option (Bool) := (legal_Low.f k p1 rt0 a1 a2).bind fun x1 => some (decide (x1 > 0))
def legal_MayDelete.f (k : Nat) (p1 : Pool (TNode TMark TSwell)) (rt0 : TRef) (a1 : Int) : Option (Bool) := (wave_Key.f k a1).bind fun x1 => (Tree_Find.f opsM k p1 rt0 x1).bind fun x2 => bif x2.2 then (some false) else ((wave_Key.f k a1).bind fun x3 => (Tree_Rank.f opsM k p1 rt0 x3).bind fun x4 => (Tree_Len.f opsM k p1 rt0).bind fun x5 => (legal_spare.f k p1 rt0 x4 x5).bind fun x6 => some x6)
def legal_MayRevoke.f (k : Nat) (p1 : Pool (TNode TMark TSwell)) (rt0 : TRef) (a1 : Int) : Option (Bool) := (wave_Key.f k a1).bind fun x1 => (Tree_Find.f opsM k p1 rt0 x1).bind fun x2 => bif (!x2.2) then (some x2.2) else (bif (!x2.1.op.insert) then (some x2.2) else ((wave_Key.f k a1).bind fun x3 => (Tree_Rank.f opsM k p1 rt0 x3).bind fun x4 => (Tree_Len.f opsM k p1 rt0).bind fun x5 => (legal_spare.f k p1 rt0 (w64 (x4 + 1)) x5).bind fun x6 => some x6))
end Go.Proofs.Ythcehagablploaa
namespace Go.Proofs.Ythcehagablploaa
theorem R {α : Sort _} {a : α} : a = a := rfl
open Go Go.Proofs.Ythcehagablploaa.Sx
theorem me39_95 (v : Value) (w : World) : (method (Try.prog.types.size + Made.depth) 39 v "Compare").run Try.prog w = .ok (95, v) w := meth_of (by kernel_rfl) v w
theorem me39_96 (v : Value) (w : World) : (method (Try.prog.types.size + Made.depth) 39 v "Sum").run Try.prog w = .ok (96, v) w := meth_of (by kernel_rfl) v w
theorem me43_101 (v : Value) (w : World) : (method (Try.prog.types.size + Made.depth) 43 v "Plus").run Try.prog w = .ok (101, v) w := meth_of (by kernel_rfl) v w
abbrev tide_Tide_Plus_st (a0 : TTide) (a1 : TTide) (r : TTide) : Prop := SCon Try.prog 100 [.a (.agg ((eTTide a0).map .v)), .a (.agg ((eTTide a1).map .v))] [] (.a (.agg ((eTTide r).map .v))) [] []
theorem tide_Tide_Plus_con0 {k : Nat}  {a0 : TTide} {a1 : TTide} {r : TTide}  (H0 : tide_Tide_Plus.f k a0 a1 = some r) : tide_Tide_Plus_st a0 a1 r := by
 rw [tide_Tide_Plus.f] at H0
 refine spec_of [(0, _), (1, _)] [] 32 Try.func100 R Try.ntmps100 R R R R (fun β W F => ?_)
 refine G.seq <| G.rg <| K.box Y 100 _ g0 R R R R R R <| K.box Y 101 _ g0 R R R R R R <| K.alloc Y 102 _ g0 t41 R R R R R <| K.nil <| At.ns <| G.seq <| G.rg <| K.fieldAddr Y g0 R t41 R R <| K.load1 Y g0 R R t3 R R <| K.bin (V := .bool (a0.n == 0)) g0 R R (fun _ => R) R <| K.nil <| At.next <| G.cond R (fun h1 => ?_) (fun h1 => ?_)
 ·
  replace H0 := bif_t H0 h1
  refine G.seq <| G.rg <| K.loadS Y _ g0 R R t41 R R R <| K.store Y _ g0 R R R t41 R R R R R <| K.nil <| At.next <| G.ret <| At.over_ret <| At.done Y [(.cell 4 41, .agg [_, _, _])] R ⟨.st R R t41 R R, trivial⟩ (to' := []) trivial ?_ ?_ R R R (.inl R)
  · cases H0; rfl
  · cases H0; rfl
 ·
  replace H0 := bif_f H0 h1
  refine G.skip <| At.ns <| G.seq <| G.rg <| K.fieldAddr Y g0 R t41 R R <| K.load1 Y g0 R R t3 R R <| K.bin (V := .bool (a1.n == 0)) g0 R R (fun _ => R) R <| K.nil <| At.next <| G.cond R (fun h2 => ?_) (fun h2 => ?_)
  ·
   replace H0 := bif_t H0 h2
   refine G.seq <| G.rg <| K.loadS Y _ g0 R R t41 R R R <| K.store Y _ g0 R R R t41 R R R R R <| K.nil <| At.next <| G.ret <| At.over_ret <| At.done Y [(.cell 4 41, .agg [_, _, _])] R ⟨.st R R t41 R R, trivial⟩ (to' := []) trivial ?_ ?_ R R R (.inl R)
   · cases H0; rfl
   · cases H0; rfl
  ·
   replace H0 := bif_f H0 h2
   refine G.skip <| At.nr <| K.fieldAddr Y g0 R t41 R R <| K.load1 Y g0 R R t3 R R <| K.fieldAddr Y g0 R t41 R R <| K.load1 Y g0 R R t3 R R <| K.bin (V := .int .i64 (w64 (a0.n + a1.n))) g0 R R (fun _ => R) R <| K.fieldAddr Y g0 R t41 R R <| K.load1 Y g0 R R t3 R R <| K.fieldAddr Y g0 R t41 R R <| K.load1 Y g0 R R t3 R R <| K.bin (V := .int .i64 (w64 (a0.sum + a1.sum))) g0 R R (fun _ => R) R <| K.fieldAddr Y g0 R t41 R R <| K.load1 Y g0 R R t3 R R <| K.fieldAddr Y g0 R t41 R R <| K.load1 Y g0 R R t3 R R <| K.fieldAddr Y g0 R t41 R R <| K.load1 Y g0 R R t3 R R <| K.bin (V := .int .i64 (w64 (a0.sum + a1.low))) g0 R R (fun _ => R) R <| K.bi2 (V := .int .i64 (gmin a0.low (w64 (a0.sum + a1.low)))) g0 R R (fun _ _ => R) R <| K.build Y [(0, _), (1, _), (2, _)] [_, _, _] [((.tmp 17), _), ((.tmp 22), _), ((.tmp 30), _)] g0 (AllE.spec ⟨R, R, R, trivial⟩) R R t41 R R <| K.store Y _ g0 R R R t41 R R R R R <| K.nil <| At.next <| G.ret <| At.done Y [(.cell 4 41, .agg [_, _, _])] R ⟨.st R R t41 R R, trivial⟩ (to' := []) trivial ?_ ?_ R R R (.inl R)
   · cases H0; rfl
   · cases H0; rfl
theorem tide_Tide_Plus_con {k : Nat}  {a0 : TTide} {a1 : TTide} {r : TTide}  (H0 : tide_Tide_Plus.f k a0 a1 = some r) : tide_Tide_Plus_st a0 a1 r :=
 SCon.ren (rn []) (tide_Tide_Plus_con0 (k := k)   H0) trivial trivial (by simp) (by simp)
abbrev tide_Of_st (S : Foot) (W0 : World) (s0 : Value) (r : TTide) : Prop := SCon Try.prog 98 [SV.raw s0] [(0, rd S W0)] (.a (.agg ((eTTide r).map .v))) [(0, rd S W0)] []
theorem tide_Of_con0 {k : Nat}  {S : Foot} {W0 : World} {s0 : Value} {l0 : List Int} {r : TTide} (hL0 : LArg S W0 s0 intE 1 l0) (H0 : tide_Of.f k l0 = some r) : tide_Of_st S W0 s0 r := by
 rw [tide_Of.f] at H0
 obtain ⟨b0, o0, hI0⟩ := hL0
 refine spec_of [(0, _)] [(0, _)] 19 Try.func98 R Try.ntmps98 R R R R (fun β W F => ?_)
 refine G.seq <| G.rg <| K.alloc Y 100 _ g0 t41 R R R R R <| K.nil <| At.nr <| K.alloc Y 101 _ g0 t41 R R R R R <| K.nil <| At.next ?_
 obtain ⟨x1, H1, H0⟩ := bnd H0
 refine G.sJ (σ := { v : TTide // x1 = v }) (fun q => [(2, .a (.c (.p 102 0))), (3, .a (.c (.p 103 0)))]) (fun q => [(0, rd S W0), (102, blk 102 [.v (.int .i64 0), .v (.int .i64 0), .v (.int .i64 0)] 41), (103, blk 103 [.v (.int .i64 q.1.n), .v (.int .i64 q.1.sum), .v (.int .i64 q.1.low)] 41)]) ?_ ?_
 ·
  refine G.seq <| G.rg <| K.mv R R <| K.lenL (rV 0 S W0 s0 b0 o0 intE 1 l0) (hI0.is 0) g0 R R Try.underlying60 R <| K.mv R R <| K.nil <| At.next <| G.block <| G.lp (σ := { q : Nat × (TTide × Int) // tide_Of.l0 k l0 q.1 q.2 = some x1 }) (fun q => [(2, .a (.c (.p 108 0))), (3, .a (.c (.p 109 0))), (6, SV.raw s0), (7, .a (.c (.v (.int .i64 (l0.length : Int))))), (8, .a (.c (.v (.int .i64 q.1.2.2))))]) (fun q => [(0, rd S W0), (108, blk 108 [.v (.int .i64 0), .v (.int .i64 0), .v (.int .i64 0)] 41), (109, blk 109 [.v (.int .i64 q.1.2.1.n), .v (.int .i64 q.1.2.1.sum), .v (.int .i64 q.1.2.1.low)] 41)]) (fun q => q.1.1) ⟨(k, (zTTide, 0)), H1⟩ ?_ ?_
  · exact At.into [(108, 100), (109, 101)] [_, _, _] R ⟨R, R, R, R, R, trivial⟩ ⟨R, (fun _ => R), R, (blk_ren R R), R, (blk_ren R R), trivial⟩ R
  ·
   rintro ⟨⟨n0, v1, v2⟩, H1⟩
   show G _ _ [(2, .a (.c (.p 108 0))), (3, .a (.c (.p 109 0))), (6, SV.raw s0), (7, .a (.c (.v (.int .i64 (l0.length : Int))))), (8, .a (.c (.v (.int .i64 v2))))] [(0, some (rd S W0)), (108, some (blk 108 [.v (.int .i64 0), .v (.int .i64 0), .v (.int .i64 0)] 41)), (109, some (blk 109 [.v (.int .i64 v1.n), .v (.int .i64 v1.sum), .v (.int .i64 v1.low)] 41))] _ _
   cases n0 with
   | zero => exact absurd H1 (by simp [tide_Of.l0])
   | succ n0 =>
    have HL0 := H1
    rw [tide_Of.l0] at H1
    refine G.seq <| G.rg <| K.bin (V := .bool (decide (v2 < (l0.length : Int)))) g0 R R (fun _ => R) R <| K.nil <| At.ns <| G.cond R (fun h1 => ?_) (fun h1 => ?_)
    ·
     replace H1 := bif_t H1 h1
     refine G.skip <| At.ns <| G.block <| G.seq ?_
     obtain ⟨x2, hx2, H1⟩ := bnd H1
     refine G.rg <| K.idxL (rV 0 S W0 s0 b0 o0 intE 1 l0) ((v2).toNat) (hI0.is 0) (atL_get hx2) (atL_nn hx2) g0 R R R Try.underlying60 el60.size_run R <| K.load1L Y (rV 0 S W0 s0 b0 o0 intE 1 l0) ((v2).toNat) 0 (hI0.is 0) (atL_get hx2) g0 R R t3 R R <| K.as R R <| K.nil <| At.next ?_
     obtain ⟨x3, hx3, H1⟩ := bnd H1
     exact G.rg <| K.loadS Y _ g0 R R t41 R R R <| K.mv R R <| K.mv R R <| K.build Y [(0, _), (1, _), (2, _)] [_, _, _] [(_, _), ((.tmp 13), _), ((.tmp 14), _)] g0 (AllE.spec ⟨R, R, R, trivial⟩) R R t41 R R <| K.cR (cf 100 R) (tide_Tide_Plus_con hx3) g0 R R R R <| K.store Y _ g0 R R R t41 R R R R R <| K.nil <| At.block_normal <| At.next <| G.rg <| K.bin (V := .int .i64 (w64 (v2 + 1))) g0 R R (fun _ => R) R <| K.mv R R <| K.nil <| At.ag ⟨(n0, (x3, (w64 (v2 + 1)))), H1⟩ [] [_, _, _] (Nat.lt_succ_self _) R ⟨R, R, R, R, R, trivial⟩ ⟨R, (fun _ => R), R, (blk_ren R R), R, (blk_ren R R), trivial⟩ R
    ·
     replace H1 := bif_f H1 h1
     exact G.exit <| At.over_exit <| At.over_exit <| At.block_hit <| At.jd ⟨v1, oi H1⟩ [(102, 108), (103, 109)] [_, _, _] R ⟨R, R, trivial⟩ ⟨R, (fun _ => R), R, (blk_ren R R), R, (blk_ren R R), trivial⟩ R
 ·
  rintro ⟨_, rfl⟩
  show G _ _ [(2, .a (.c (.p 102 0))), (3, .a (.c (.p 103 0)))] [(0, some (rd S W0)), (102, some (blk 102 [.v (.int .i64 0), .v (.int .i64 0), .v (.int .i64 0)] 41)), (103, some (blk 103 [.v (.int .i64 x1.n), .v (.int .i64 x1.sum), .v (.int .i64 x1.low)] 41))] _ _
  refine G.seq <| G.rg <| K.loadS Y _ g0 R R t41 R R R <| K.store Y _ g0 R R R t41 R R R R R <| K.nil <| At.next <| G.ret <| At.done Y [(.cell 2 41, .agg [_, _, _])] R ⟨.st R R t41 R R, trivial⟩ (to' := [(0, _)]) ⟨R, trivial⟩ ?_ ?_ R R R (.inl R)
  · cases H0; rfl
  · cases H0; rfl
theorem tide_Of_con {k : Nat}  {S : Foot} {W0 : World} {s0 : Value} {l0 : List Int} {r : TTide} (hL0 : LArg S W0 s0 intE 1 l0) (H0 : tide_Of.f k l0 = some r) : tide_Of_st S W0 s0 r :=
 SCon.ren (rn []) (tide_Of_con0 (k := k)  hL0 H0) ⟨(fun _ => R), trivial⟩ ⟨(fun _ => R), trivial⟩ (by simp) (by simp)
abbrev wave_Mark_Sum_st (a0 : TMark) (r : TSwell) : Prop := SCon Try.prog 96 [.a (.agg ((eTMark a0).map .v))] [] (.a (.agg ((eTSwell r).map .v))) [] []
theorem wave_Mark_Sum_con0 {k : Nat}  {a0 : TMark} {r : TSwell}  (H0 : wave_Mark_Sum.f k a0 = some r) : wave_Mark_Sum_st a0 r := by
 rw [wave_Mark_Sum.f] at H0
 refine spec_of [(0, _)] [] 48 Try.func96 R Try.ntmps96 R R R R (fun β W F => ?_)
 refine G.seq <| G.rg <| K.box Y 100 _ g0 R R R R R R <| K.alloc Y 101 _ g0 t43 R R R R R <| K.nil <| At.next ?_
 obtain ⟨x1, H1, H0⟩ := bnd H0
 refine G.sJ (σ := { v : Unit // x1 = Sum.inr v }) (fun q => [(1, .a (.c (.p 102 0))), (2, .a (.c (.p 103 0)))]) (fun q => [(102, blk 102 [.v (.int .i64 a0.op.time), .v (.bool a0.op.insert), .v (.int .i64 a0.op.item.key), .v (.int .i64 a0.op.item.id), .v (.bool a0.here), .v (.bool a0.took.found), .v (.int .i64 a0.took.item.key), .v (.int .i64 a0.took.item.id)] 39), (103, blk 103 [.v (.int .i64 0), .v (.int .i64 0), .v (.int .i64 0), .v (.int .i64 0), .v (.int .i64 0), .v (.int .i64 0), .v (.int .i64 0), .v (.int .i64 0), .v (.int .i64 0), .v (.int .i64 0), .v (.bool false), .v (.int .i64 0), .v (.int .i64 0), .v (.bool false), .v (.int .i64 0), .v (.int .i64 0)] 43)]) ?_ ?_
 ·
  refine G.block ?_
  obtain ⟨x2, H2, H1⟩ := bnd H1
  refine G.sJ (σ := { v : Bool // x2 = v }) (fun q => [(1, .a (.c (.p 104 0))), (2, .a (.c (.p 105 0))), (4, .a (.c (.v (.bool q.1))))]) (fun q => [(104, blk 104 [.v (.int .i64 a0.op.time), .v (.bool a0.op.insert), .v (.int .i64 a0.op.item.key), .v (.int .i64 a0.op.item.id), .v (.bool a0.here), .v (.bool a0.took.found), .v (.int .i64 a0.took.item.key), .v (.int .i64 a0.took.item.id)] 39), (105, blk 105 [.v (.int .i64 0), .v (.int .i64 0), .v (.int .i64 0), .v (.int .i64 0), .v (.int .i64 0), .v (.int .i64 0), .v (.int .i64 0), .v (.int .i64 0), .v (.int .i64 0), .v (.int .i64 0), .v (.bool false), .v (.int .i64 0), .v (.int .i64 0), .v (.bool false), .v (.int .i64 0), .v (.int .i64 0)] 43)]) ?_ ?_
  ·
   rcases Bool.eq_false_or_eq_true a0.op.insert with h1 | h1
   ·
    replace H2 := bif_t H2 h1
    exact G.rg <| K.fieldAddr Y g0 R t39 R R <| K.fieldAddr Y g0 R t35 R R <| K.load1 Y g0 R R t4 R R <| K.mv R R <| K.fieldAddr Y (g1 R R h1) R t39 R R <| K.load1 Y (g1 R R h1) R R t4 R R <| K.pickT g0 R (h1) R R <| K.as R R <| K.nil <| At.jd ⟨a0.here, oi H2⟩ [(104, 100), (105, 101)] [_, _] R ⟨R, R, R, trivial⟩ ⟨R, (blk_ren R R), R, (blk_ren R R), trivial⟩ R
   ·
    replace H2 := bif_f H2 h1
    exact G.rg <| K.fieldAddr Y g0 R t39 R R <| K.fieldAddr Y g0 R t35 R R <| K.load1 Y g0 R R t4 R R <| K.mv R R <| K.sk R R h1 R <| K.sk R R h1 R <| K.pickF g0 R (h1) R R <| K.as R R <| K.nil <| At.jd ⟨false, oi H2⟩ [(104, 100), (105, 101)] [_, _] R ⟨R, R, R, trivial⟩ ⟨R, (blk_ren R R), R, (blk_ren R R), trivial⟩ R
  ·
   rintro ⟨_, rfl⟩
   show G _ _ [(1, .a (.c (.p 104 0))), (2, .a (.c (.p 105 0))), (4, .a (.c (.v (.bool x2))))] [(104, some (blk 104 [.v (.int .i64 a0.op.time), .v (.bool a0.op.insert), .v (.int .i64 a0.op.item.key), .v (.int .i64 a0.op.item.id), .v (.bool a0.here), .v (.bool a0.took.found), .v (.int .i64 a0.took.item.key), .v (.int .i64 a0.took.item.id)] 39)), (105, some (blk 105 [.v (.int .i64 0), .v (.int .i64 0), .v (.int .i64 0), .v (.int .i64 0), .v (.int .i64 0), .v (.int .i64 0), .v (.int .i64 0), .v (.int .i64 0), .v (.int .i64 0), .v (.int .i64 0), .v (.bool false), .v (.int .i64 0), .v (.int .i64 0), .v (.bool false), .v (.int .i64 0), .v (.int .i64 0)] 43))] _ _
   refine G.cond R (fun h2 => ?_) (fun h2 => ?_)
   ·
    replace H1 := bif_t H1 h2
    refine G.seq ?_
    obtain ⟨x3, hx3, H1⟩ := bnd H1
    obtain ⟨x4, hx4, H1⟩ := bnd H1
    refine G.rd mixed <| K.buildL Y 106 ([1] : List Int) [(0, _)] [(_, _)] intE_len g0 (AllE.spec ⟨R, trivial⟩) R R Try.underlying60 t3 R R R R R R R R <| K.cV (cf 98 R) [106] (fun β w S2 h => tide_Of_con (la 0 R intE_len R h) hx3) g0 (fun _ => R) R R R <| K.buildL Y 107 ([0] : List Int) [(0, _)] [(_, _)] intE_len g0 (AllE.spec ⟨R, trivial⟩) R R Try.underlying60 t3 R R R R R R R R <| K.cV (cf 98 R) [107] (fun β w S2 h => tide_Of_con (la 0 R intE_len R h) hx4) g0 (fun _ => R) R R R <| K.fieldAddr Y g0 R t39 R R <| K.fieldAddr Y g0 R t35 R R <| K.loadS Y _ g0 R R t33 R R R <| K.build Y [(0, _), (1, _)] [_, _, _] [(_, _), ((.tmp 18), _)] g0 (AllE.spec ⟨R, R, trivial⟩) R R t37 R R <| K.build Y [(0, _), (1, _), (6, _)] [_, _, _, _, _, _, _, _, _, _, _, _, _, _, _, _] [((.tmp 13), _), ((.tmp 15), _), ((.tmp 19), _)] g0 (AllE.spec ⟨R, R, R, trivial⟩) R R t43 R R <| K.store Y _ g0 R R R t43 R R R R R <| K.nil <| And.intro (by kernel_rfl) <| At.next <| G.ret <| At.block_ret <| At.over_ret ?_
    cases H1
    replace H0 := sum_l H0
    refine At.done Y [(.cell 2 43, .agg [_, _, _, _, _, _, _, _, _, _, _, _, _, _, _, _])] R ⟨.st R R t43 R R, trivial⟩ (to' := []) trivial ?_ ?_ R R R (.inl R)
    · cases H0; rfl
    · cases H0; rfl
   ·
    replace H1 := bif_f H1 h2
    refine G.seq <| G.rg <| K.fieldAddr Y g0 R t39 R R <| K.fieldAddr Y g0 R t35 R R <| K.load1 Y g0 R R t4 R R <| K.as R R <| K.nil <| At.next <| G.cond R (fun h3 => ?_) (fun h3 => ?_)
    ·
     replace H1 := bif_t H1 h3
     refine G.seq ?_
     obtain ⟨x5, hx5, H1⟩ := bnd H1
     obtain ⟨x6, hx6, H1⟩ := bnd H1
     refine G.rd mixed <| K.buildL Y 108 ([1] : List Int) [(0, _)] [(_, _)] intE_len g0 (AllE.spec ⟨R, trivial⟩) R R Try.underlying60 t3 R R R R R R R R <| K.cV (cf 98 R) [108] (fun β w S2 h => tide_Of_con (la 0 R intE_len R h) hx5) g0 (fun _ => R) R R R <| K.buildL Y 109 ([1] : List Int) [(0, _)] [(_, _)] intE_len g0 (AllE.spec ⟨R, trivial⟩) R R Try.underlying60 t3 R R R R R R R R <| K.cV (cf 98 R) [109] (fun β w S2 h => tide_Of_con (la 0 R intE_len R h) hx6) g0 (fun _ => R) R R R <| K.fieldAddr Y g0 R t39 R R <| K.fieldAddr Y g0 R t35 R R <| K.loadS Y _ g0 R R t33 R R R <| K.build Y [(0, _), (1, _)] [_, _, _] [(_, _), ((.tmp 31), _)] g0 (AllE.spec ⟨R, R, trivial⟩) R R t37 R R <| K.build Y [(0, _), (1, _), (5, _)] [_, _, _, _, _, _, _, _, _, _, _, _, _, _, _, _] [((.tmp 26), _), ((.tmp 28), _), ((.tmp 32), _)] g0 (AllE.spec ⟨R, R, R, trivial⟩) R R t43 R R <| K.store Y _ g0 R R R t43 R R R R R <| K.nil <| And.intro (by kernel_rfl) <| At.next <| G.ret <| At.block_ret <| At.over_ret ?_
     cases H1
     replace H0 := sum_l H0
     refine At.done Y [(.cell 2 43, .agg [_, _, _, _, _, _, _, _, _, _, _, _, _, _, _, _])] R ⟨.st R R t43 R R, trivial⟩ (to' := []) trivial ?_ ?_ R R R (.inl R)
     · cases H0; rfl
     · cases H0; rfl
    ·
     replace H1 := bif_f H1 h3
     exact G.skip <| At.block_normal <| At.jd ⟨(), oi H1⟩ [(102, 104), (103, 105)] [_, _] R ⟨R, R, trivial⟩ ⟨R, (blk_ren R R), R, (blk_ren R R), trivial⟩ R
 ·
  rintro ⟨w1, rfl⟩
  replace H0 := sum_r H0
  show G _ _ [(1, .a (.c (.p 102 0))), (2, .a (.c (.p 103 0)))] [(102, some (blk 102 [.v (.int .i64 a0.op.time), .v (.bool a0.op.insert), .v (.int .i64 a0.op.item.key), .v (.int .i64 a0.op.item.id), .v (.bool a0.here), .v (.bool a0.took.found), .v (.int .i64 a0.took.item.key), .v (.int .i64 a0.took.item.id)] 39)), (103, some (blk 103 [.v (.int .i64 0), .v (.int .i64 0), .v (.int .i64 0), .v (.int .i64 0), .v (.int .i64 0), .v (.int .i64 0), .v (.int .i64 0), .v (.int .i64 0), .v (.int .i64 0), .v (.int .i64 0), .v (.bool false), .v (.int .i64 0), .v (.int .i64 0), .v (.bool false), .v (.int .i64 0), .v (.int .i64 0)] 43))] _ _
  refine G.seq ?_
  obtain ⟨x7, hx7, H0⟩ := bnd H0
  obtain ⟨x8, hx8, H0⟩ := bnd H0
  refine G.rg <| K.buildL Y 110 ([(-1)] : List Int) [(0, _)] [(_, _)] intE_len g0 (AllE.spec ⟨R, trivial⟩) R R Try.underlying60 t3 R R R R R R R R <| K.cV (cf 98 R) [110] (fun β w S2 h => tide_Of_con (la 0 R intE_len R h) hx7) g0 (fun _ => R) R R R <| K.buildL Y 111 ([(-1)] : List Int) [(0, _)] [(_, _)] intE_len g0 (AllE.spec ⟨R, trivial⟩) R R Try.underlying60 t3 R R R R R R R R <| K.cV (cf 98 R) [111] (fun β w S2 h => tide_Of_con (la 0 R intE_len R h) hx8) g0 (fun _ => R) R R R <| K.build Y [(0, _), (1, _), (2, _)] [_, _, _, _, _, _, _, _, _, _, _, _, _, _, _, _] [((.tmp 35), _), ((.tmp 37), _), (_, _)] g0 (AllE.spec ⟨R, R, R, trivial⟩) R R t43 R R <| K.alloc Y 112 _ g0 t43 R R R R R <| K.store Y _ g0 R R R t43 R R R R R <| K.nil <| At.ns <| G.seq <| G.rg <| K.fieldAddr Y g0 R t39 R R <| K.fieldAddr Y g0 R t37 R R <| K.load1 Y g0 R R t4 R R <| K.nil <| At.next <| G.cond R (fun h4 => ?_) (fun h4 => ?_)
  ·
   replace H0 := bif_t H0 h4
   refine G.rg <| K.fieldAddr Y g0 R t39 R R <| K.fieldAddr Y g0 R t37 R R <| K.loadS Y _ g0 R R t33 R R R <| K.fieldAddr Y g0 R t43 R R <| K.store Y _ g0 R R R t33 R R R R R <| K.nil <| At.nr <| K.loadS Y _ g0 R R t43 R R R <| K.store Y _ g0 R R R t43 R R R R R <| K.nil <| At.next <| G.ret <| At.done Y [(.cell 2 43, .agg [_, _, _, _, _, _, _, _, _, _, _, _, _, _, _, _])] R ⟨.st R R t43 R R, trivial⟩ (to' := []) trivial ?_ ?_ R R R (.inl R)
   · cases H0; rfl
   · cases H0; rfl
  ·
   replace H0 := bif_f H0 h4
   refine G.rg <| K.fieldAddr Y g0 R t43 R R <| K.store Y _ g0 R R R t3 R R R R R <| K.nil <| At.nr <| K.loadS Y _ g0 R R t43 R R R <| K.store Y _ g0 R R R t43 R R R R R <| K.nil <| At.next <| G.ret <| At.done Y [(.cell 2 43, .agg [_, _, _, _, _, _, _, _, _, _, _, _, _, _, _, _])] R ⟨.st R R t43 R R, trivial⟩ (to' := []) trivial ?_ ?_ R R R (.inl R)
   · cases H0; rfl
   · cases H0; rfl
theorem wave_Mark_Sum_con {k : Nat}  {a0 : TMark} {r : TSwell}  (H0 : wave_Mark_Sum.f k a0 = some r) : wave_Mark_Sum_st a0 r :=
 SCon.ren (rn []) (wave_Mark_Sum_con0 (k := k)   H0) trivial trivial (by simp) (by simp)
abbrev cmp_isNaN_st (a0 : Int) (r : Bool) : Prop := SCon Try.prog 99 [.a (.c (.v (.int .i64 a0)))] [] (.a (.c (.v (.bool r)))) [] []
theorem cmp_isNaN_con0 {k : Nat}  {a0 : Int} {r : Bool}  (H0 : cmp_isNaN.f k a0 = some r) : cmp_isNaN_st a0 r := by
 rw [cmp_isNaN.f] at H0
 refine spec_of [(0, _)] [] 6 Try.func99 R Try.ntmps99 R R R R (fun β W F => ?_)
 exact G.seq <| G.rg <| K.as R R <| K.nil <| At.nr <| K.mv R R <| K.mv R R <| K.bin (V := .bool (a0 != a0)) g0 R R (fun _ => R) R <| K.as R R <| K.nil <| At.next <| G.ret <| At.dr Y [2] R R (by cases H0; rfl) (by cases H0; rfl) R R R
theorem cmp_isNaN_con {k : Nat}  {a0 : Int} {r : Bool}  (H0 : cmp_isNaN.f k a0 = some r) : cmp_isNaN_st a0 r :=
 SCon.ren (rn []) (cmp_isNaN_con0 (k := k)   H0) trivial trivial (by simp) (by simp)
abbrev cmp_Compare_st (a0 : Int) (a1 : Int) (r : Int) : Prop := SCon Try.prog 97 [.a (.c (.v (.int .i64 a0))), .a (.c (.v (.int .i64 a1)))] [] (.a (.c (.v (.int .i64 r)))) [] []
theorem cmp_Compare_con0 {k : Nat}  {a0 : Int} {a1 : Int} {r : Int}  (H0 : cmp_Compare.f k a0 a1 = some r) : cmp_Compare_st a0 a1 r := by
 rw [cmp_Compare.f] at H0
 refine spec_of [(0, _), (1, _)] [] 20 Try.func97 R Try.ntmps97 R R R R (fun β W F => ?_)
 refine G.seq <| G.rg <| K.as R R <| K.nil <| At.ns ?_
 obtain ⟨x1, hx1, H0⟩ := bnd H0
 refine G.rg <| K.mv R R <| K.cR (cf 99 R) (cmp_isNaN_con hx1) g0 R R R R <| K.as R R <| K.nil <| At.ns ?_
 obtain ⟨x2, hx2, H0⟩ := bnd H0
 refine G.rg <| K.mv R R <| K.cR (cf 99 R) (cmp_isNaN_con hx2) g0 R R R R <| K.as R R <| K.nil <| At.ns <| G.seq <| G.rg <| K.mv R R <| K.nil <| At.next <| G.cond R (fun h1 => ?_) (fun h1 => ?_)
 ·
  replace H0 := bif_t H0 h1
  refine G.seq <| G.seq <| G.rg <| K.mv R R <| K.nil <| At.next <| G.cond R (fun h2 => ?_) (fun h2 => ?_)
  ·
   replace H0 := bif_t H0 h2
   exact G.seq <| G.rg <| K.as R R <| K.nil <| At.next <| G.ret <| At.over_ret <| At.over_ret <| At.dr Y [4] R R (by cases H0; rfl) (by cases H0; rfl) R R R
  ·
   replace H0 := bif_f H0 h2
   exact G.skip <| At.nr <| K.as R R <| K.nil <| At.next <| G.ret <| At.over_ret <| At.dr Y [4] R R (by cases H0; rfl) (by cases H0; rfl) R R R
 ·
  replace H0 := bif_f H0 h1
  refine G.skip <| At.ns <| G.seq <| G.rg <| K.mv R R <| K.nil <| At.next <| G.cond R (fun h3 => ?_) (fun h3 => ?_)
  ·
   replace H0 := bif_t H0 h3
   exact G.seq <| G.rg <| K.as R R <| K.nil <| At.next <| G.ret <| At.over_ret <| At.dr Y [4] R R (by cases H0; rfl) (by cases H0; rfl) R R R
  ·
   replace H0 := bif_f H0 h3
   refine G.skip <| At.ns <| G.seq <| G.rg <| K.mv R R <| K.mv R R <| K.bin (V := .bool (decide (a0 < a1))) g0 R R (fun _ => R) R <| K.nil <| At.next <| G.cond R (fun h4 => ?_) (fun h4 => ?_)
   ·
    replace H0 := bif_t H0 h4
    exact G.seq <| G.rg <| K.as R R <| K.nil <| At.next <| G.ret <| At.over_ret <| At.dr Y [4] R R (by cases H0; rfl) (by cases H0; rfl) R R R
   ·
    replace H0 := bif_f H0 h4
    refine G.skip <| At.ns <| G.seq <| G.rg <| K.mv R R <| K.mv R R <| K.bin (V := .bool (decide (a0 > a1))) g0 R R (fun _ => R) R <| K.nil <| At.next <| G.cond R (fun h5 => ?_) (fun h5 => ?_)
    ·
     replace H0 := bif_t H0 h5
     exact G.seq <| G.rg <| K.as R R <| K.nil <| At.next <| G.ret <| At.over_ret <| At.dr Y [4] R R (by cases H0; rfl) (by cases H0; rfl) R R R
    ·
     replace H0 := bif_f H0 h5
     exact G.skip <| At.nr <| K.as R R <| K.nil <| At.next <| G.ret <| At.dr Y [4] R R (by cases H0; rfl) (by cases H0; rfl) R R R
theorem cmp_Compare_con {k : Nat}  {a0 : Int} {a1 : Int} {r : Int}  (H0 : cmp_Compare.f k a0 a1 = some r) : cmp_Compare_st a0 a1 r :=
 SCon.ren (rn []) (cmp_Compare_con0 (k := k)   H0) trivial trivial (by simp) (by simp)
abbrev wave_Mark_Compare_st (a0 : TMark) (a1 : TMark) (r : Int) : Prop := SCon Try.prog 95 [.a (.agg ((eTMark a0).map .v)), .a (.agg ((eTMark a1).map .v))] [] (.a (.c (.v (.int .i64 r)))) [] []
theorem wave_Mark_Compare_con0 {k : Nat}  {a0 : TMark} {a1 : TMark} {r : Int}  (H0 : wave_Mark_Compare.f k a0 a1 = some r) : wave_Mark_Compare_st a0 a1 r := by
 rw [wave_Mark_Compare.f] at H0
 refine spec_of [(0, _), (1, _)] [] 12 Try.func95 R Try.ntmps95 R R R R (fun β W F => ?_)
 refine G.seq <| G.rg <| K.box Y 100 _ g0 R R R R R R <| K.box Y 101 _ g0 R R R R R R <| K.as R R <| K.nil <| At.ns ?_
 obtain ⟨x1, hx1, H0⟩ := bnd H0
 exact G.rg <| K.fieldAddr Y g0 R t39 R R <| K.fieldAddr Y g0 R t35 R R <| K.load1 Y g0 R R t3 R R <| K.fieldAddr Y g0 R t39 R R <| K.fieldAddr Y g0 R t35 R R <| K.load1 Y g0 R R t3 R R <| K.cR (cf 97 R) (cmp_Compare_con hx1) g0 R R R R <| K.as R R <| K.nil <| At.next <| G.ret <| At.dr Y [4] R R (by cases H0; rfl) (by cases H0; rfl) R R R
theorem wave_Mark_Compare_con {k : Nat}  {a0 : TMark} {a1 : TMark} {r : Int}  (H0 : wave_Mark_Compare.f k a0 a1 = some r) : wave_Mark_Compare_st a0 a1 r :=
 SCon.ren (rn []) (wave_Mark_Compare_con0 (k := k)   H0) trivial trivial (by simp) (by simp)
abbrev wave_Swell_taken_st (a0 : TSwell) (r : TTook) : Prop := SCon Try.prog 102 [.a (.agg ((eTSwell a0).map .v))] [] (.a (.agg ((eTTook r).map .v))) [] []
theorem wave_Swell_taken_con0 {k : Nat}  {a0 : TSwell} {r : TTook}  (H0 : wave_Swell_taken.f k a0 = some r) : wave_Swell_taken_st a0 r := by
 rw [wave_Swell_taken.f] at H0
 refine spec_of [(0, _)] [] 12 Try.func102 R Try.ntmps102 R R R R (fun β W F => ?_)
 refine G.seq <| G.rg <| K.box Y 100 _ g0 R R R R R R <| K.alloc Y 101 _ g0 t37 R R R R R <| K.nil <| At.ns <| G.seq <| G.rg <| K.fieldAddr Y g0 R t43 R R <| K.load1 Y g0 R R t3 R R <| K.fieldAddr Y g0 R t43 R R <| K.load1 Y g0 R R t3 R R <| K.bin (V := .bool (a0.deletes == a0.free)) g0 R R (fun _ => R) R <| K.nil <| At.next <| G.cond R (fun h1 => ?_) (fun h1 => ?_)
 ·
  replace H0 := bif_t H0 h1
  refine G.seq <| G.rg <| K.build Y [] [_, _, _] [] g0 (AllE.spec trivial) R R t37 R R <| K.store Y _ g0 R R R t37 R R R R R <| K.nil <| At.next <| G.ret <| At.over_ret <| At.done Y [(.cell 2 37, .agg [_, _, _])] R ⟨.st R R t37 R R, trivial⟩ (to' := []) trivial ?_ ?_ R R R (.inl R)
  · cases H0; rfl
  · cases H0; rfl
 ·
  replace H0 := bif_f H0 h1
  refine G.skip <| At.nr <| K.fieldAddr Y g0 R t43 R R <| K.loadS Y _ g0 R R t33 R R R <| K.build Y [(0, _), (1, _)] [_, _, _] [(_, _), ((.tmp 10), _)] g0 (AllE.spec ⟨R, R, trivial⟩) R R t37 R R <| K.store Y _ g0 R R R t37 R R R R R <| K.nil <| At.next <| G.ret <| At.done Y [(.cell 2 37, .agg [_, _, _])] R ⟨.st R R t37 R R, trivial⟩ (to' := []) trivial ?_ ?_ R R R (.inl R)
  · cases H0; rfl
  · cases H0; rfl
theorem wave_Swell_taken_con {k : Nat}  {a0 : TSwell} {r : TTook}  (H0 : wave_Swell_taken.f k a0 = some r) : wave_Swell_taken_st a0 r :=
 SCon.ren (rn []) (wave_Swell_taken_con0 (k := k)   H0) trivial trivial (by simp) (by simp)
abbrev cmp_Or_st (S : Foot) (W0 : World) (s0 : Value) (r : Int) : Prop := SCon Try.prog 105 [SV.raw s0] [(0, rd S W0)] (.a (.c (.v (.int .i64 r)))) [(0, rd S W0)] []
theorem cmp_Or_con0 {k : Nat}  {S : Foot} {W0 : World} {s0 : Value} {l0 : List Int} {r : Int} (hL0 : LArg S W0 s0 intE 1 l0) (H0 : cmp_Or.f k l0 = some r) : cmp_Or_st S W0 s0 r := by
 rw [cmp_Or.f] at H0
 obtain ⟨b0, o0, hI0⟩ := hL0
 refine spec_of [(0, _)] [(0, _)] 18 Try.func105 R Try.ntmps105 R R R R (fun β W F => ?_)
 refine G.seq <| G.rg <| K.as R R <| K.nil <| At.nr <| K.as R R <| K.nil <| At.next ?_
 obtain ⟨x1, H1, H0⟩ := bnd H0
 refine G.sJ (σ := { v : Unit // x1 = Sum.inr v }) (fun q => [(3, .a (.c (.v (.int .i64 0))))]) (fun q => [(0, rd S W0)]) ?_ ?_
 ·
  refine G.seq <| G.rg <| K.mv R R <| K.lenL (rV 0 S W0 s0 b0 o0 intE 1 l0) (hI0.is 0) g0 R R Try.underlying60 R <| K.mv R R <| K.nil <| At.next <| G.block <| G.lp (σ := { q : Nat × (Int) // cmp_Or.l0 k l0 q.1 q.2 = some x1 }) (fun q => [(3, .a (.c (.v (.int .i64 0)))), (6, SV.raw s0), (7, .a (.c (.v (.int .i64 (l0.length : Int))))), (8, .a (.c (.v (.int .i64 q.1.2))))]) (fun q => [(0, rd S W0)]) (fun q => q.1.1) ⟨(k, 0), H1⟩ ?_ ?_
  · exact At.into [] [_] R ⟨R, R, R, R, trivial⟩ ⟨R, (fun _ => R), trivial⟩ R
  ·
   rintro ⟨⟨n0, v1⟩, H1⟩
   show G _ _ [(3, .a (.c (.v (.int .i64 0)))), (6, SV.raw s0), (7, .a (.c (.v (.int .i64 (l0.length : Int))))), (8, .a (.c (.v (.int .i64 v1))))] [(0, some (rd S W0))] _ _
   cases n0 with
   | zero => exact absurd H1 (by simp [cmp_Or.l0])
   | succ n0 =>
    have HL0 := H1
    rw [cmp_Or.l0] at H1
    refine G.seq <| G.rg <| K.bin (V := .bool (decide (v1 < (l0.length : Int)))) g0 R R (fun _ => R) R <| K.nil <| At.ns <| G.cond R (fun h1 => ?_) (fun h1 => ?_)
    ·
     replace H1 := bif_t H1 h1
     refine G.skip <| At.ns <| G.block <| G.seq ?_
     obtain ⟨x2, hx2, H1⟩ := bnd H1
     refine G.rg <| K.idxL (rV 0 S W0 s0 b0 o0 intE 1 l0) ((v1).toNat) (hI0.is 0) (atL_get hx2) (atL_nn hx2) g0 R R R Try.underlying60 el60.size_run R <| K.load1L Y (rV 0 S W0 s0 b0 o0 intE 1 l0) ((v1).toNat) 0 (hI0.is 0) (atL_get hx2) g0 R R t3 R R <| K.as R R <| K.nil <| At.nr <| K.mv R R <| K.mv R R <| K.bin (V := .bool (x2 != 0)) g0 R R (fun _ => R) R <| K.nil <| At.next <| G.cond R (fun h2 => ?_) (fun h2 => ?_)
     ·
      replace H1 := bif_t H1 h2
      refine G.seq <| G.rg <| K.mv R R <| K.as R R <| K.nil <| At.next <| G.ret <| At.block_ret <| At.over_ret <| At.over_ret <| At.block_ret <| At.over_ret ?_
      cases H1
      replace H0 := sum_l H0
      exact At.dr Y [2] R R (by cases H0; rfl) (by cases H0; rfl) R R R
     ·
      replace H1 := bif_f H1 h2
      exact G.skip <| At.block_normal <| At.next <| G.rg <| K.bin (V := .int .i64 (w64 (v1 + 1))) g0 R R (fun _ => R) R <| K.mv R R <| K.nil <| At.ag ⟨(n0, (w64 (v1 + 1))), H1⟩ [] [_] (Nat.lt_succ_self _) R ⟨R, R, R, R, trivial⟩ ⟨R, (fun _ => R), trivial⟩ R
    ·
     replace H1 := bif_f H1 h1
     exact G.exit <| At.over_exit <| At.over_exit <| At.block_hit <| At.jd ⟨(), oi H1⟩ [] [_] R ⟨R, trivial⟩ ⟨R, (fun _ => R), trivial⟩ R
 ·
  rintro ⟨w1, rfl⟩
  replace H0 := sum_r H0
  show G _ _ [(3, .a (.c (.v (.int .i64 0))))] [(0, some (rd S W0))] _ _
  exact G.seq <| G.rg <| K.mv R R <| K.as R R <| K.nil <| At.next <| G.ret <| At.dr Y [2] R R (by cases H0; rfl) (by cases H0; rfl) R R R
theorem cmp_Or_con {k : Nat}  {S : Foot} {W0 : World} {s0 : Value} {l0 : List Int} {r : Int} (hL0 : LArg S W0 s0 intE 1 l0) (H0 : cmp_Or.f k l0 = some r) : cmp_Or_st S W0 s0 r :=
 SCon.ren (rn []) (cmp_Or_con0 (k := k)  hL0 H0) ⟨(fun _ => R), trivial⟩ ⟨(fun _ => R), trivial⟩ (by simp) (by simp)
abbrev item_Compare_st (a0 : TItem) (a1 : TItem) (r : Int) : Prop := SCon Try.prog 104 [.a (.agg ((eTItem a0).map .v)), .a (.agg ((eTItem a1).map .v))] [] (.a (.c (.v (.int .i64 r)))) [] []
theorem item_Compare_con0 {k : Nat}  {a0 : TItem} {a1 : TItem} {r : Int}  (H0 : item_Compare.f k a0 a1 = some r) : item_Compare_st a0 a1 r := by
 rw [item_Compare.f] at H0
 refine spec_of [(0, _), (1, _)] [] 17 Try.func104 R Try.ntmps104 R R R R (fun β W F => ?_)
 refine G.seq <| G.rg <| K.box Y 100 _ g0 R R R R R R <| K.box Y 101 _ g0 R R R R R R <| K.as R R <| K.nil <| At.ns ?_
 obtain ⟨x1, hx1, H0⟩ := bnd H0
 obtain ⟨x2, hx2, H0⟩ := bnd H0
 obtain ⟨x3, hx3, H0⟩ := bnd H0
 exact G.rd mixed <| K.fieldAddr Y g0 R t33 R R <| K.load1 Y g0 R R t3 R R <| K.fieldAddr Y g0 R t33 R R <| K.load1 Y g0 R R t3 R R <| K.cR (cf 97 R) (cmp_Compare_con hx1) g0 R R R R <| K.fieldAddr Y g0 R t33 R R <| K.load1 Y g0 R R t3 R R <| K.fieldAddr Y g0 R t33 R R <| K.load1 Y g0 R R t3 R R <| K.cR (cf 97 R) (cmp_Compare_con hx2) g0 R R R R <| K.buildL Y 102 ([x1, x2] : List Int) [(0, _), (1, _)] [((.tmp 9), _), ((.tmp 14), _)] intE_len g0 (AllE.spec ⟨R, R, trivial⟩) R R Try.underlying60 t3 R R R R R R R R <| K.cV (cf 105 R) [102] (fun β w S2 h => cmp_Or_con (la 0 R intE_len R h) hx3) g0 (fun _ => R) R R R <| K.as R R <| K.nil <| And.intro (by kernel_rfl) <| At.next <| G.ret <| At.dr Y [4] R R (by cases H0; rfl) (by cases H0; rfl) R R R
theorem item_Compare_con {k : Nat}  {a0 : TItem} {a1 : TItem} {r : Int}  (H0 : item_Compare.f k a0 a1 = some r) : item_Compare_st a0 a1 r :=
 SCon.ren (rn []) (item_Compare_con0 (k := k)   H0) trivial trivial (by simp) (by simp)
abbrev wave_better_st (a0 : Int) (a1 : TTook) (a2 : TTook) (r : TTook) : Prop := SCon Try.prog 103 [.a (.c (.v (.int .i64 a0))), .a (.agg ((eTTook a1).map .v)), .a (.agg ((eTTook a2).map .v))] [] (.a (.agg ((eTTook r).map .v))) [] []
theorem wave_better_con0 {k : Nat}  {a0 : Int} {a1 : TTook} {a2 : TTook} {r : TTook}  (H0 : wave_better.f k a0 a1 a2 = some r) : wave_better_st a0 a1 a2 r := by
 rw [wave_better.f] at H0
 refine spec_of [(0, _), (1, _), (2, _)] [] 26 Try.func103 R Try.ntmps103 R R R R (fun β W F => ?_)
 refine G.seq <| G.rg <| K.box Y 100 _ g0 R R R R R R <| K.box Y 101 _ g0 R R R R R R <| K.alloc Y 102 _ g0 t37 R R R R R <| K.nil <| At.ns <| G.seq ?_
 rcases Bool.eq_false_or_eq_true (!a1.found) with h1 | h1
 ·
  replace H0 := bif_t H0 h1
  refine G.rg <| K.fieldAddr Y g0 R t37 R R <| K.load1 Y g0 R R t4 R R <| K.un (V := .bool (!a1.found)) g0 R (fun _ => R) R <| K.mv R R <| K.sk R R h1 R <| K.sk R R h1 R <| K.sk R R h1 R <| K.skipU R R R R R <| K.skipU R R R R R <| K.skipU R R R R R <| K.skipU R R R R R <| K.skipU R R R R R <| K.skipU R R R R R <| K.skipU R R R R R <| K.skipU R R R R R <| K.sk R R h1 R <| K.pickT g0 R (h1) R R <| K.nil <| At.next <| G.cond R (fun h2 => ?_) (fun h2 => ?_)
  ·
   refine G.seq <| G.rg <| K.loadS Y _ g0 R R t37 R R R <| K.store Y _ g0 R R R t37 R R R R R <| K.nil <| At.next <| G.ret <| At.over_ret <| At.done Y [(.cell 6 37, .agg [_, _, _])] R ⟨.st R R t37 R R, trivial⟩ (to' := []) trivial ?_ ?_ R R R (.inl R)
   · cases H0; rfl
   · cases H0; rfl
  · cases h2
 ·
  replace H0 := bif_f H0 h1
  rcases Bool.eq_false_or_eq_true a2.found with h3 | h3
  ·
   replace H0 := bif_t H0 h3
   obtain ⟨x1, hx1, H0⟩ := bnd H0
   refine G.rg <| K.fieldAddr Y g0 R t37 R R <| K.load1 Y g0 R R t4 R R <| K.un (V := .bool (!a1.found)) g0 R (fun _ => R) R <| K.mv R R <| K.fieldAddr Y (g1 R R h1) R t37 R R <| K.load1 Y (g1 R R h1) R R t4 R R <| K.move (.inl R) (g1 R R h1) R R <| K.move (.inl R) (g1 R R h3) R R <| K.fieldAddr Y (g1 R R h3) R t37 R R <| K.loadS Y _ (g1 R R h3) R R t33 R R R <| K.fieldAddr Y (g1 R R h3) R t37 R R <| K.loadS Y _ (g1 R R h3) R R t33 R R R <| K.cR (cf 104 R) (item_Compare_con hx1) (g1 R R h3) R R R R <| K.bin (V := .int .i64 (w64 (a0 * x1))) (g1 R R h3) R R (fun _ => R) R <| K.bin (V := .bool (decide ((w64 (a0 * x1)) < 0))) (g1 R R h3) R R (fun _ => R) R <| K.pickT (g1 R R h1) R (h3) R R <| K.pickF g0 R (h1) R R <| K.nil <| At.next <| G.cond R (fun h4 => ?_) (fun h4 => ?_)
   ·
    replace H0 := bif_t H0 h4
    refine G.seq <| G.rg <| K.loadS Y _ g0 R R t37 R R R <| K.store Y _ g0 R R R t37 R R R R R <| K.nil <| At.next <| G.ret <| At.over_ret <| At.done Y [(.cell 6 37, .agg [_, _, _])] R ⟨.st R R t37 R R, trivial⟩ (to' := []) trivial ?_ ?_ R R R (.inl R)
    · cases H0; rfl
    · cases H0; rfl
   ·
    replace H0 := bif_f H0 h4
    refine G.skip <| At.nr <| K.loadS Y _ g0 R R t37 R R R <| K.store Y _ g0 R R R t37 R R R R R <| K.nil <| At.next <| G.ret <| At.done Y [(.cell 6 37, .agg [_, _, _])] R ⟨.st R R t37 R R, trivial⟩ (to' := []) trivial ?_ ?_ R R R (.inl R)
    · cases H0; rfl
    · cases H0; rfl
  ·
   replace H0 := bif_f H0 h3
   refine G.rg <| K.fieldAddr Y g0 R t37 R R <| K.load1 Y g0 R R t4 R R <| K.un (V := .bool (!a1.found)) g0 R (fun _ => R) R <| K.mv R R <| K.fieldAddr Y (g1 R R h1) R t37 R R <| K.load1 Y (g1 R R h1) R R t4 R R <| K.move (.inl R) (g1 R R h1) R R <| K.sk R R h3 R <| K.sk R R h3 R <| K.sk R R h3 R <| K.sk R R h3 R <| K.sk R R h3 R <| K.sk R R h3 R <| K.sk R R h3 R <| K.sk R R h3 R <| K.pickF (g1 R R h1) R (h3) R R <| K.pickF g0 R (h1) R R <| K.nil <| At.next <| G.cond R (fun h5 => ?_) (fun h5 => ?_)
   · cases h5
   ·
    refine G.skip <| At.nr <| K.loadS Y _ g0 R R t37 R R R <| K.store Y _ g0 R R R t37 R R R R R <| K.nil <| At.next <| G.ret <| At.done Y [(.cell 6 37, .agg [_, _, _])] R ⟨.st R R t37 R R, trivial⟩ (to' := []) trivial ?_ ?_ R R R (.inl R)
    · cases H0; rfl
    · cases H0; rfl
theorem wave_better_con {k : Nat}  {a0 : Int} {a1 : TTook} {a2 : TTook} {r : TTook}  (H0 : wave_better.f k a0 a1 a2 = some r) : wave_better_st a0 a1 a2 r :=
 SCon.ren (rn []) (wave_better_con0 (k := k)   H0) trivial trivial (by simp) (by simp)
abbrev wave_Swell_Plus_st (a0 : TSwell) (a1 : TSwell) (r : TSwell) : Prop := SCon Try.prog 101 [.a (.agg ((eTSwell a0).map .v)), .a (.agg ((eTSwell a1).map .v))] [] (.a (.agg ((eTSwell r).map .v))) [] []
theorem wave_Swell_Plus_con0 {k : Nat}  {a0 : TSwell} {a1 : TSwell} {r : TSwell}  (H0 : wave_Swell_Plus.f k a0 a1 = some r) : wave_Swell_Plus_st a0 a1 r := by
 rw [wave_Swell_Plus.f] at H0
 refine spec_of [(0, _), (1, _)] [] 42 Try.func101 R Try.ntmps101 R R R R (fun β W F => ?_)
 refine G.seq <| G.rg <| K.box Y 100 _ g0 R R R R R R <| K.box Y 101 _ g0 R R R R R R <| K.alloc Y 102 _ g0 t43 R R R R R <| K.nil <| At.ns ?_
 obtain ⟨x1, hx1, H0⟩ := bnd H0
 obtain ⟨x2, hx2, H0⟩ := bnd H0
 obtain ⟨x3, hx3, H0⟩ := bnd H0
 obtain ⟨x4, hx4, H0⟩ := bnd H0
 obtain ⟨x5, hx5, H0⟩ := bnd H0
 obtain ⟨x6, hx6, H0⟩ := bnd H0
 obtain ⟨x7, hx7, H0⟩ := bnd H0
 refine G.rd mixed <| K.fieldAddr Y g0 R t43 R R <| K.loadS Y _ g0 R R t41 R R R <| K.fieldAddr Y g0 R t43 R R <| K.loadS Y _ g0 R R t41 R R R <| K.cR (cf 100 R) (tide_Tide_Plus_con hx1) g0 R R R R <| K.fieldAddr Y g0 R t43 R R <| K.loadS Y _ g0 R R t41 R R R <| K.fieldAddr Y g0 R t43 R R <| K.loadS Y _ g0 R R t41 R R R <| K.cR (cf 100 R) (tide_Tide_Plus_con hx2) g0 R R R R <| K.fieldAddr Y g0 R t43 R R <| K.load1 Y g0 R R t3 R R <| K.fieldAddr Y g0 R t43 R R <| K.load1 Y g0 R R t3 R R <| K.bin (V := .int .i64 (w64 (a0.deletes + a1.deletes))) g0 R R (fun _ => R) R <| K.fieldAddr Y g0 R t43 R R <| K.load1 Y g0 R R t3 R R <| K.fieldAddr Y g0 R t43 R R <| K.load1 Y g0 R R t3 R R <| K.bin (V := .int .i64 (w64 (a0.free + a1.free))) g0 R R (fun _ => R) R <| K.loadS Y _ g0 R R t43 R R R <| K.cR (cf 102 R) (wave_Swell_taken_con hx3) g0 R R R R <| K.loadS Y _ g0 R R t43 R R R <| K.cR (cf 102 R) (wave_Swell_taken_con hx4) g0 R R R R <| K.cR (cf 103 R) (wave_better_con hx5) g0 R R R R <| K.fieldS Y _ g0 R t37 R t33 R R <| K.fieldAddr Y g0 R t43 R R <| K.loadS Y _ g0 R R t37 R R R <| K.fieldAddr Y g0 R t43 R R <| K.loadS Y _ g0 R R t37 R R R <| K.cR (cf 103 R) (wave_better_con hx6) g0 R R R R <| K.fieldAddr Y g0 R t43 R R <| K.loadS Y _ g0 R R t37 R R R <| K.fieldAddr Y g0 R t43 R R <| K.loadS Y _ g0 R R t37 R R R <| K.cR (cf 103 R) (wave_better_con hx7) g0 R R R R <| K.build Y [(0, _), (1, _), (2, _), (3, _), (4, _), (5, _), (6, _)] [_, _, _, _, _, _, _, _, _, _, _, _, _, _, _, _] [((.tmp 9), _), ((.tmp 14), _), ((.tmp 19), _), ((.tmp 24), _), ((.tmp 30), _), ((.tmp 35), _), ((.tmp 40), _)] g0 (AllE.spec ⟨R, R, R, R, R, R, R, trivial⟩) R R t43 R R <| K.store Y _ g0 R R R t43 R R R R R <| K.nil <| And.intro (by kernel_rfl) <| At.next <| G.ret <| At.done Y [(.cell 4 43, .agg [_, _, _, _, _, _, _, _, _, _, _, _, _, _, _, _])] R ⟨.st R R t43 R R, trivial⟩ (to' := []) trivial ?_ ?_ R R R (.inl R)
 · cases H0; rfl
 · cases H0; rfl
theorem wave_Swell_Plus_con {k : Nat}  {a0 : TSwell} {a1 : TSwell} {r : TSwell}  (H0 : wave_Swell_Plus.f k a0 a1 = some r) : wave_Swell_Plus_st a0 a1 r :=
 SCon.ren (rn []) (wave_Swell_Plus_con0 (k := k)   H0) trivial trivial (by simp) (by simp)
end Go.Proofs.Ythcehagablploaa
namespace Go.Proofs.Ythcehagablploaa
open Go Go.Proofs.Ythcehagablploaa.Sx
abbrev fCM : Cell (TNode TMark TSwell) → List Value := cellE eTNode_TMark_TSwell
theorem fCM_len : ∀ c, (fCM c).length = 31 := cellE_len eTNode_TMark_TSwell_len
theorem fCM_one : ∀ c, (fCM c).all Value.oneCell' = true := cellE_one eTNode_TMark_TSwell_one
abbrev avM (x : (TNode TMark TSwell)) : Av := .agg ((eTNode_TMark_TSwell x).map .v)
abbrev poolM (k : Nat) (p : Pool (TNode TMark TSwell)) : Tok := pool k 93 104 3 31 fCM p
theorem nextM (p : Pool (TNode TMark TSwell)) (hc : p.cells.length < 4294967296) (hf : p.free.length < 4294967296) : SCon Try.prog 75 [SV.p 0 0] [(0, poolM 0 p)] (SV.i (p.next zNodeM).1) [(0, poolM 0 (p.next zNodeM).2)] [] := by
  obtain ⟨cells, free, cap, held, vis⟩ := p
  simp only at hc hf
  rcases List.eq_nil_or_concat free with h0 | ⟨l, x, h0⟩
  · subst h0
    refine spec_of [(0, _)] [(0, _)] 46 Try.func75 R Try.ntmps75 R R R R (fun β W F => ?_)
    refine G.ent [(0, _)] [(0, _), (21, _), (22, _)] [21, 22] (pool_open (by decide) (by decide) (by decide)) ⟨R, trivial⟩ R R R R <| G.seq <| G.rg <| K.as R R <| K.nil <| At.ns <| G.seq <| G.rg <| K.mv R R <| K.nilCheck g0 R R <| K.fieldAddr Y g0 R t93 R R <| K.load1 Y g0 R R t60 R R <| K.lenL (lrowV 22 3 intE 1 _) (lrowV_is intE_len (by decide)) g0 R R Try.underlying60 R <| K.bin g0 R R (fun _ => R) R <| K.as R R <| K.nil <| At.nr <| K.mv R R <| K.bin g0 R R (fun _ => R) R <| K.nil <| At.next <| G.cond R (fun h1 => ?_) (fun h1 => ?_)
    · exact absurd h1 (by simp [IntKind.wrap_i64] at * <;> omega)
    ·
      refine G.skip <| At.nr <| K.mv R R <| K.mv R R <| K.nilCheck g0 R R <| K.fieldAddr Y g0 R t93 R R <| K.load1 Y g0 R R t91 R R <| K.build Y [] [_, _, _, _, _, _, _, _, _, _, _, _, _, _, _, _, _, _, _, _, _, _, _, _, _, _, _, _, _, _, _] [] g0 (AllE.spec trivial) R R t104 R R <| K.buildL Y 136 [(⟨zNodeM, 0, false⟩ : Cell (TNode TMark TSwell))] [(0, _)] [((.tmp 35), _)] fCM_len g0 (AllE.spec ⟨R, trivial⟩) R R Try.underlying91 t104 R R R R R R R R <| K.appendL 137 (lrowV 136 104 fCM 31 _) _ el91 (lrowV_is fCM_len (by decide)) fCM_one g0 R R R R R (by simp only [List.length_cons, List.length_nil, maxLen]; omega) (by simp only [List.length_cons, List.length_nil, maxLen]; omega) R R R R R R <| K.nilCheck g0 R R <| K.fieldAddr Y g0 R t93 R R <| K.store Y _ g0 R R R t91 R R R R R <| K.nil <| At.nr <| K.mv R R <| K.nilCheck g0 R R <| K.fieldAddr Y g0 R t93 R R <| K.load1 Y g0 R R t91 R R <| K.lenL (lrowV 137 104 fCM 31 _) (lrowV_is fCM_len (by decide)) g0 R R Try.underlying91 R <| K.bin g0 R R (fun _ => R) R <| K.as R R <| K.nil <| At.next <| G.ret <| At.ent [(0, _), (137, _), (22, _)] [(0, poolM 0 ⟨_, _, _, _, _⟩)] [] (pool_close _ _ _ _ _) ⟨R, R, R, trivial⟩ R R R R <| At.done Y [(.tmp 2, .c _)] R ⟨.tmp R, trivial⟩ (to' := [(0, _)]) ⟨R, trivial⟩ ?_ ?_ R R R (.inl R)
      · simp [Pool.next, *]
      · exact ret_i (by simp [Pool.next, IntKind.wrap_i64]; omega)
  · rw [List.concat_eq_append] at h0; subst h0
    have hget : (l ++ [x])[l.length]? = some x := by simp
    refine spec_of [(0, _)] [(0, _)] 46 Try.func75 R Try.ntmps75 R R R R (fun β W F => ?_)
    refine G.ent [(0, _)] [(0, _), (21, _), (22, _)] [21, 22] (pool_open (by decide) (by decide) (by decide)) ⟨R, trivial⟩ R R R R <| G.seq <| G.rg <| K.as R R <| K.nil <| At.ns <| G.seq <| G.rg <| K.mv R R <| K.nilCheck g0 R R <| K.fieldAddr Y g0 R t93 R R <| K.load1 Y g0 R R t60 R R <| K.lenL (lrowV 22 3 intE 1 _) (lrowV_is intE_len (by decide)) g0 R R Try.underlying60 R <| K.bin g0 R R (fun _ => R) R <| K.as R R <| K.nil <| At.nr <| K.mv R R <| K.bin g0 R R (fun _ => R) R <| K.nil <| At.next <| G.cond R (fun h1 => ?_) (fun h1 => ?_)
    ·
      refine G.seq <| G.rg <| K.mv R R <| K.nilCheck g0 R R <| K.fieldAddr Y g0 R t93 R R <| K.load1 Y g0 R R t60 R R <| K.mv R R <| K.idxL (lrowV 22 3 intE 1 _) l.length (lrowV_is intE_len (by decide)) hget (by simp [IntKind.wrap_i64] at * <;> omega) g0 R R R Try.underlying60 el60.size_run R <| K.load1L Y (lrowV 22 3 intE 1 _) l.length 0 (lrowV_is intE_len (by decide)) hget g0 R R t3 R R <| K.as R R <| K.nil <| At.nr <| K.mv R R <| K.mv R R <| K.nilCheck g0 R R <| K.fieldAddr Y g0 R t93 R R <| K.load1 Y g0 R R t60 R R <| K.mv R R <| K.cutL 126 l.length intE_len g0 R (.at_ R (by simp [IntKind.wrap_i64] at * <;> omega) (by simp [IntKind.wrap_i64] at * <;> omega)) R Try.underlying60 el60.size_run (by simp) R R R R <| K.nilCheck g0 R R <| K.fieldAddr Y g0 R t93 R R <| K.store Y _ g0 R R R t60 R R R R R <| K.nil <| At.nr <| K.mv R R <| K.as R R <| K.nil <| At.next <| G.ret <| At.over_ret <| At.ent [(0, _), (21, _), (126, _)] [(0, poolM 0 ⟨_, _, _, _, _⟩)] [] (pool_close _ _ _ _ _) ⟨R, R, R, trivial⟩ R R R R <| At.done Y [(.tmp 2, .c _)] R ⟨.tmp R, trivial⟩ (to' := [(0, _)]) ⟨R, trivial⟩ ?_ ?_ R R R (.inl R)
      · simp [Pool.next, *]
      · exact ret_i (by simp [Pool.next])
    · exact absurd h1 (by simp [IntKind.wrap_i64] at * <;> omega)
theorem findSM {cells : List (Cell (TNode TMark TSwell))} {n : Nat} {c : Cell (TNode TMark TSwell)} (hg : cells[n]? = some c) (hl : c.live = true) (hlen : cells.length < 4294967296) (cap held vis : Int) : SCon Try.prog 73 [SV.p 0 0, SV.agg [.i (n : Int), .i c.gen]] [(0, blk 0 [.nv 1, .nv 2, .i cap, .i held, .i vis] 93), (1, lrow 1 104 fCM 31 cells)] (.a (.c (.rp 1 (n * 31)))) [(0, blk 0 [.nv 1, .nv 2, .i cap, .i held, .i (IntKind.i64.wrap (vis + 1))] 93), (1, lrow 1 104 fCM 31 cells)] [] := by
  have hlt := (List.getElem?_eq_some_iff.1 hg).1
  refine spec_of [(0, _), (1, _)] [(0, _), (1, _)] 48 Try.func73 R Try.ntmps73 R R R R (fun β W F => ?_)
  refine G.seq <| G.rg <| K.box Y 103 _ g0 R R R R R R <| K.as R R <| K.nil <| At.ns <| G.seq ?_
  have h1 : (decide ((n : Int) < 0)) = false := by simp [IntKind.wrap_i64] at * <;> omega
  refine G.rd mixed <| K.fieldAddr Y g0 R t68 R R <| K.load1 Y g0 R R t3 R R <| K.bin g0 R R (fun _ => R) R <| K.mv R R <| K.fieldAddr Y (g1 R R h1) R t68 R R <| K.load1 Y (g1 R R h1) R R t3 R R <| K.move (.inl R) (g1 R R h1) R R <| K.nilCheck (g1 R R h1) R R <| K.fieldAddr Y (g1 R R h1) R t93 R R <| K.load1 Y (g1 R R h1) R R t91 R R <| K.lenL (lrowV 1 104 fCM 31 _) (lrowV_is fCM_len (by decide)) (g1 R R h1) R R Try.underlying91 R <| K.bin (g1 R R h1) R R (fun _ => R) R <| K.pickF g0 R (h1) R R <| K.nil <| And.intro (by kernel_rfl) <| At.next <| G.cond R (fun h2 => ?_) (fun h2 => ?_)
  · exact absurd h2 (by simp [IntKind.wrap_i64] at * <;> omega)
  ·
    refine G.skip <| At.ns <| G.rd mixed <| K.mv R R <| K.nilCheck g0 R R <| K.fieldAddr Y g0 R t93 R R <| K.load1 Y g0 R R t91 R R <| K.fieldAddr Y g0 R t68 R R <| K.load1 Y g0 R R t3 R R <| K.idxL (lrowV 1 104 fCM 31 _) n (lrowV_is fCM_len (by decide)) hg R g0 R R R Try.underlying91 el91.size_run R <| K.as R R <| K.nil <| And.intro (by kernel_rfl) <| At.ns <| G.seq ?_
    have h3 : (!c.live) = false := by simp [hl]
    refine G.rd mixed <| K.mv R R <| K.nilL (lrowV 1 104 fCM 31 _) n 0 (lrowV_is fCM_len (by decide)) hg g0 R R R R <| K.fieldL Y (lrowV 1 104 fCM 31 _) n 0 30 (lrowV_is fCM_len (by decide)) hg g0 R R t104 R R R R <| K.load1L Y (lrowV 1 104 fCM 31 _) n 30 (lrowV_is fCM_len (by decide)) hg g0 R R t4 R R <| K.un g0 R (fun _ => R) R <| K.mv R R <| K.move (.inl R) (g1 R R h3) R R <| K.nilL (lrowV 1 104 fCM 31 _) n 0 (lrowV_is fCM_len (by decide)) hg (g1 R R h3) R R R R <| K.fieldL Y (lrowV 1 104 fCM 31 _) n 0 29 (lrowV_is fCM_len (by decide)) hg (g1 R R h3) R R t104 R R R R <| K.load1L Y (lrowV 1 104 fCM 31 _) n 29 (lrowV_is fCM_len (by decide)) hg (g1 R R h3) R R t3 R R <| K.fieldAddr Y (g1 R R h3) R t68 R R <| K.load1 Y (g1 R R h3) R R t3 R R <| K.bin (g1 R R h3) R R (fun _ => R) R <| K.pickF g0 R (h3) R R <| K.nil <| And.intro (by kernel_rfl) <| At.next <| G.cond R (fun h4 => ?_) (fun h4 => ?_)
    · exact absurd h4 (by simp)
    ·
      refine G.skip <| At.nr <| K.mv R R <| K.nilCheck g0 R R <| K.fieldAddr Y g0 R t93 R R <| K.load1 Y g0 R R t3 R R <| K.bin g0 R R (fun _ => R) R <| K.nilCheck g0 R R <| K.fieldAddr Y g0 R t93 R R <| K.store Y _ g0 R R R t3 R R R R R <| K.nil <| At.nr <| K.mv R R <| K.as R R <| K.nil <| At.next <| G.ret <| At.done Y [(.tmp 4, .c _)] R ⟨.tmp R, trivial⟩ (to' := [(0, _), (1, _)]) ⟨R, R, trivial⟩ ?_ ?_ R R R (.inl R)
      · rfl
      · rfl
theorem findNM {cells : List (Cell (TNode TMark TSwell))} {i g : Int} (hn : lookC cells i g = none) (hlen : cells.length < 4294967296) (cap held vis : Int) : SCon Try.prog 73 [SV.p 0 0, SV.agg [.i i, .i g]] [(0, blk 0 [.nv 1, .nv 2, .i cap, .i held, .i vis] 93), (1, lrow 1 104 fCM 31 cells)] (SV.raw (.pointer none)) [(0, blk 0 [.nv 1, .nv 2, .i cap, .i held, .i vis] 93), (1, lrow 1 104 fCM 31 cells)] [] := by
  refine spec_of [(0, _), (1, _)] [(0, _), (1, _)] 48 Try.func73 R Try.ntmps73 R R R R (fun β W F => ?_)
  refine G.seq <| G.rg <| K.box Y 103 _ g0 R R R R R R <| K.as R R <| K.nil <| At.ns <| G.seq ?_
  rcases Bool.eq_false_or_eq_true (decide (i < 0)) with h1 | h1
  ·
    refine G.rd mixed <| K.fieldAddr Y g0 R t68 R R <| K.load1 Y g0 R R t3 R R <| K.bin g0 R R (fun _ => R) R <| K.mv R R <| K.sk R R h1 R <| K.sk R R h1 R <| K.sk R R h1 R <| K.sk R R h1 R <| K.sk R R h1 R <| K.sk R R h1 R <| K.sk R R h1 R <| K.sk R R h1 R <| K.pickT g0 R (h1) R R <| K.nil <| And.intro (by kernel_rfl) <| At.next <| G.cond R (fun h2 => ?_) (fun h2 => ?_)
    ·
      refine G.seq <| G.rg <| K.as R R <| K.nil <| At.next <| G.ret <| At.over_ret <| At.done Y [(.tmp 4, .c _)] R ⟨.tmp R, trivial⟩ (to' := [(0, _), (1, _)]) ⟨R, R, trivial⟩ ?_ ?_ R R R (.inl R)
      · rfl
      · rfl
    · cases h2
  ·
    refine G.rd mixed <| K.fieldAddr Y g0 R t68 R R <| K.load1 Y g0 R R t3 R R <| K.bin g0 R R (fun _ => R) R <| K.mv R R <| K.fieldAddr Y (g1 R R h1) R t68 R R <| K.load1 Y (g1 R R h1) R R t3 R R <| K.move (.inl R) (g1 R R h1) R R <| K.nilCheck (g1 R R h1) R R <| K.fieldAddr Y (g1 R R h1) R t93 R R <| K.load1 Y (g1 R R h1) R R t91 R R <| K.lenL (lrowV 1 104 fCM 31 _) (lrowV_is fCM_len (by decide)) (g1 R R h1) R R Try.underlying91 R <| K.bin (g1 R R h1) R R (fun _ => R) R <| K.pickF g0 R (h1) R R <| K.nil <| And.intro (by kernel_rfl) <| At.next <| G.cond R (fun h3 => ?_) (fun h3 => ?_)
    ·
      refine G.seq <| G.rg <| K.as R R <| K.nil <| At.next <| G.ret <| At.over_ret <| At.done Y [(.tmp 4, .c _)] R ⟨.tmp R, trivial⟩ (to' := [(0, _), (1, _)]) ⟨R, R, trivial⟩ ?_ ?_ R R R (.inl R)
      · rfl
      · rfl
    ·
      refine G.skip <| At.ns ?_
      obtain ⟨c, hg⟩ : ∃ c, cells[i.toNat]? = some c := ⟨_, List.getElem?_eq_getElem (by simp [IntKind.wrap_i64] at * <;> omega)⟩
      refine G.rd mixed <| K.mv R R <| K.nilCheck g0 R R <| K.fieldAddr Y g0 R t93 R R <| K.load1 Y g0 R R t91 R R <| K.fieldAddr Y g0 R t68 R R <| K.load1 Y g0 R R t3 R R <| K.idxL (lrowV 1 104 fCM 31 _) i.toNat (lrowV_is fCM_len (by decide)) hg (by simp [IntKind.wrap_i64] at * <;> omega) g0 R R R Try.underlying91 el91.size_run R <| K.as R R <| K.nil <| And.intro (by kernel_rfl) <| At.ns <| G.seq ?_
      rcases Bool.eq_false_or_eq_true (!c.live) with h4 | h4
      ·
        refine G.rd mixed <| K.mv R R <| K.nilL (lrowV 1 104 fCM 31 _) i.toNat 0 (lrowV_is fCM_len (by decide)) hg g0 R R R R <| K.fieldL Y (lrowV 1 104 fCM 31 _) i.toNat 0 30 (lrowV_is fCM_len (by decide)) hg g0 R R t104 R R R R <| K.load1L Y (lrowV 1 104 fCM 31 _) i.toNat 30 (lrowV_is fCM_len (by decide)) hg g0 R R t4 R R <| K.un g0 R (fun _ => R) R <| K.mv R R <| K.sk R R h4 R <| K.sk R R h4 R <| K.sk R R h4 R <| K.sk R R h4 R <| K.sk R R h4 R <| K.sk R R h4 R <| K.sk R R h4 R <| K.pickT g0 R (h4) R R <| K.nil <| And.intro (by kernel_rfl) <| At.next <| G.cond R (fun h5 => ?_) (fun h5 => ?_)
        ·
          refine G.seq <| G.rg <| K.as R R <| K.nil <| At.next <| G.ret <| At.over_ret <| At.done Y [(.tmp 4, .c _)] R ⟨.tmp R, trivial⟩ (to' := [(0, _), (1, _)]) ⟨R, R, trivial⟩ ?_ ?_ R R R (.inl R)
          · rfl
          · rfl
        · cases h5
      ·
        refine G.rd mixed <| K.mv R R <| K.nilL (lrowV 1 104 fCM 31 _) i.toNat 0 (lrowV_is fCM_len (by decide)) hg g0 R R R R <| K.fieldL Y (lrowV 1 104 fCM 31 _) i.toNat 0 30 (lrowV_is fCM_len (by decide)) hg g0 R R t104 R R R R <| K.load1L Y (lrowV 1 104 fCM 31 _) i.toNat 30 (lrowV_is fCM_len (by decide)) hg g0 R R t4 R R <| K.un g0 R (fun _ => R) R <| K.mv R R <| K.move (.inl R) (g1 R R h4) R R <| K.nilL (lrowV 1 104 fCM 31 _) i.toNat 0 (lrowV_is fCM_len (by decide)) hg (g1 R R h4) R R R R <| K.fieldL Y (lrowV 1 104 fCM 31 _) i.toNat 0 29 (lrowV_is fCM_len (by decide)) hg (g1 R R h4) R R t104 R R R R <| K.load1L Y (lrowV 1 104 fCM 31 _) i.toNat 29 (lrowV_is fCM_len (by decide)) hg (g1 R R h4) R R t3 R R <| K.fieldAddr Y (g1 R R h4) R t68 R R <| K.load1 Y (g1 R R h4) R R t3 R R <| K.bin (g1 R R h4) R R (fun _ => R) R <| K.pickF g0 R (h4) R R <| K.nil <| And.intro (by kernel_rfl) <| At.next <| G.cond R (fun h6 => ?_) (fun h6 => ?_)
        ·
          refine G.seq <| G.rg <| K.as R R <| K.nil <| At.next <| G.ret <| At.over_ret <| At.done Y [(.tmp 4, .c _)] R ⟨.tmp R, trivial⟩ (to' := [(0, _), (1, _)]) ⟨R, R, trivial⟩ ?_ ?_ R R R (.inl R)
          · rfl
          · rfl
        · exact absurd h6 (by simp_all [lookC])
theorem findSM' {cells : List (Cell (TNode TMark TSwell))} {n : Nat} {c : Cell (TNode TMark TSwell)} (hg : cells[n]? = some c) (hl : c.live = true) (hlen : cells.length < 4294967296) (cap held vis : Int) (k0 k1 k2 : Nat) : SCon Try.prog 73 [SV.p k0 0, SV.agg [.i (n : Int), .i c.gen]]
    [(k0, blk k0 [.nv k1, .nv k2, .i cap, .i held, .i vis] 93), (k1, lrow k1 104 fCM 31 cells)] (.a (.c (.rp k1 (n * 31)))) [(k0, blk k0 [.nv k1, .nv k2, .i cap, .i held, .i (IntKind.i64.wrap (vis + 1))] 93), (k1, lrow k1 104 fCM 31 cells)] [] :=
  SCon.ren (rn [(0, k0), (1, k1), (2, k2)]) (findSM hg hl hlen cap held vis) ⟨blk_ren R R, lrow_ren R, trivial⟩ ⟨blk_ren R R, lrow_ren R, trivial⟩ (by simp) (by simp)
theorem findNM' {cells : List (Cell (TNode TMark TSwell))} {i g : Int} (hn : lookC cells i g = none) (hlen : cells.length < 4294967296) (cap held vis : Int) (k0 k1 k2 : Nat) : SCon Try.prog 73 [SV.p k0 0, SV.agg [.i i, .i g]]
    [(k0, blk k0 [.nv k1, .nv k2, .i cap, .i held, .i vis] 93), (k1, lrow k1 104 fCM 31 cells)] (SV.raw (.pointer none)) [(k0, blk k0 [.nv k1, .nv k2, .i cap, .i held, .i vis] 93), (k1, lrow k1 104 fCM 31 cells)] [] :=
  SCon.ren (rn [(0, k0), (1, k1), (2, k2)]) (findNM hn hlen cap held vis) ⟨blk_ren R R, lrow_ren R, trivial⟩ ⟨blk_ren R R, lrow_ren R, trivial⟩ (by simp) (by simp)
theorem getM (p : Pool (TNode TMark TSwell)) (i g : Int) (hlen : p.cells.length < 4294967296) (hfree : p.free.length < 4294967296) : SCon Try.prog 65 [SV.p 0 0, SV.agg [.i i, .i g]] [(0, poolM 0 p)] (.tup [avM (p.get zNodeM i g).1.1, .c (.b (p.get zNodeM i g).1.2)]) [(0, poolM 0 (p.get zNodeM i g).2)] [] := by
  obtain ⟨cells, free, cap, held, vis⟩ := p
  simp only at hlen hfree
  cases hlk : lookC cells i g with
  | none =>
    refine spec_of [(0, _), (1, _)] [(0, _)] 18 Try.func65 R Try.ntmps65 R R R R (fun β W F => ?_)
    refine G.ent [(0, _)] [(0, _), (21, _), (22, _)] [21, 22] (pool_open (by decide) (by decide) (by decide)) ⟨R, trivial⟩ R R R R <| G.seq <| G.rg <| K.box Y 103 _ g0 R R R R R R <| K.alloc Y 104 _ g0 t70 R R R R R <| K.as R R <| K.nil <| At.nr <| K.mv R R <| K.loadS Y _ g0 R R t68 R R R <| K.call0 [(.func 73, _), ((.tmp 8), _), ((.tmp 9), _)] (findNM' hlk hlen _ _ _ 0 21 22) (toFn_func (cf 73 R) R) g0 ⟨R, R, R, trivial⟩ ⟨R, R, trivial⟩ R R R R R R <| K.as R R <| K.nil <| At.ns <| G.seq <| G.rg <| K.mv R R <| K.bin g0 R R (pn_eql_none Try.underlying101) R <| K.nil <| At.next <| G.cond R (fun h1 => ?_) (fun h1 => ?_)
    ·
      refine G.seq <| G.rg <| K.alloc Y 107 _ g0 t70 R R R R R <| K.nil <| At.nr <| K.loadS Y _ g0 R R t70 R R R <| K.store Y _ g0 R R R t70 R R R R R <| K.as R R <| K.nil <| At.next <| G.ret <| At.over_ret <| At.ent [(0, _), (21, _), (22, _)] [(0, poolM 0 ⟨_, _, _, _, _⟩)] [] (pool_close _ _ _ _ _) ⟨R, R, R, trivial⟩ R R R R <| At.done Y [(.cell 4 70, .agg [_, _, _, _, _, _, _, _, _, _, _, _, _, _, _, _, _, _, _, _, _, _, _, _, _, _, _, _, _]), (.tmp 5, .c _)] R ⟨.st R R t70 R R, .tmp R, trivial⟩ (to' := [(0, _)]) ⟨R, trivial⟩ ?_ ?_ R R R (.inl R)
      · simp only [Pool.get, hlk]
      · simp only [Pool.get, hlk]; rfl
    · cases h1
  | some c =>
    obtain ⟨n, rfl, hg, hl, rfl⟩ := lookC_some hlk
    refine spec_of [(0, _), (1, _)] [(0, _)] 18 Try.func65 R Try.ntmps65 R R R R (fun β W F => ?_)
    refine G.ent [(0, _)] [(0, _), (21, _), (22, _)] [21, 22] (pool_open (by decide) (by decide) (by decide)) ⟨R, trivial⟩ R R R R <| G.seq <| G.rg <| K.box Y 103 _ g0 R R R R R R <| K.alloc Y 104 _ g0 t70 R R R R R <| K.as R R <| K.nil <| At.nr <| K.mv R R <| K.loadS Y _ g0 R R t68 R R R <| K.call0 [(.func 73, _), ((.tmp 8), _), ((.tmp 9), _)] (findSM' hg hl hlen _ _ _ 0 21 22) (toFn_func (cf 73 R) R) g0 ⟨R, R, R, trivial⟩ ⟨R, R, trivial⟩ R R R R R R <| K.as R R <| K.nil <| At.ns <| G.seq <| G.rg <| K.mv R R <| K.eqnilL (lrowV 21 104 fCM 31 _) n 0 (B := false) (lrowV_is fCM_len (by decide)) hg g0 R R R R (pn_eql_some Try.underlying101) R <| K.nil <| At.next <| G.cond R (fun h1 => ?_) (fun h1 => ?_)
    · cases h1
    ·
      refine G.skip <| At.nr <| K.mv R R <| K.nilL (lrowV 21 104 fCM 31 _) n 0 (lrowV_is fCM_len (by decide)) hg g0 R R R R <| K.fieldL Y (lrowV 21 104 fCM 31 _) n 0 0 (lrowV_is fCM_len (by decide)) hg g0 R R t104 R R R R <| K.loadSL Y (lrowV 21 104 fCM 31 _) n 0 [_, _, _, _, _, _, _, _, _, _, _, _, _, _, _, _, _, _, _, _, _, _, _, _, _, _, _, _, _] [_, _, _, _, _, _, _, _, _, _, _, _, _, _, _, _, _, _, _, _, _, _, _, _, _, _, _, _, _] (lrowV_is fCM_len (by decide)) hg g0 R R t70 R R R R R <| K.store Y _ g0 R R R t70 R R R R R <| K.as R R <| K.nil <| At.next <| G.ret <| At.ent [(0, _), (21, _), (22, _)] [(0, poolM 0 ⟨_, _, _, _, _⟩)] [] (pool_close _ _ _ _ _) ⟨R, R, R, trivial⟩ R R R R <| At.done Y [(.cell 4 70, .agg [_, _, _, _, _, _, _, _, _, _, _, _, _, _, _, _, _, _, _, _, _, _, _, _, _, _, _, _, _]), (.tmp 5, .c _)] R ⟨.st R R t70 R R, .tmp R, trivial⟩ (to' := [(0, _)]) ⟨R, trivial⟩ ?_ ?_ R R R (.inl R)
      · simp [Pool.get, hlk, Pool.hit]
      · simp only [Pool.get, hlk]; rfl
theorem setM (p : Pool (TNode TMark TSwell)) (i g : Int) (v : (TNode TMark TSwell)) (hlen : p.cells.length < 4294967296) (hfree : p.free.length < 4294967296) : SCon Try.prog 71 [SV.p 0 0, SV.agg [.i i, .i g], .a (avM v)] [(0, poolM 0 p)] (SV.b (p.set i g v).1) [(0, poolM 0 (p.set i g v).2)] [] := by
  obtain ⟨cells, free, cap, held, vis⟩ := p
  simp only at hlen hfree
  cases hlk : lookC cells i g with
  | none =>
    refine spec_of [(0, _), (1, _), (2, _)] [(0, _)] 19 Try.func71 R Try.ntmps71 R R R R (fun β W F => ?_)
    refine G.ent [(0, _)] [(0, _), (21, _), (22, _)] [21, 22] (pool_open (by decide) (by decide) (by decide)) ⟨R, trivial⟩ R R R R <| G.seq <| G.rg <| K.box Y 104 _ g0 R R R R R R <| K.box Y 105 _ g0 R R R R R R <| K.as R R <| K.nil <| At.nr <| K.mv R R <| K.loadS Y _ g0 R R t68 R R R <| K.call0 [(.func 73, _), ((.tmp 8), _), ((.tmp 9), _)] (findNM' hlk hlen _ _ _ 0 21 22) (toFn_func (cf 73 R) R) g0 ⟨R, R, R, trivial⟩ ⟨R, R, trivial⟩ R R R R R R <| K.as R R <| K.nil <| At.ns <| G.seq <| G.rg <| K.mv R R <| K.bin g0 R R (pn_neq_none Try.underlying101) R <| K.nil <| At.next <| G.cond R (fun h1 => ?_) (fun h1 => ?_)
    · cases h1
    ·
      refine G.skip <| At.nr <| K.mv R R <| K.bin g0 R R (pn_neq_none Try.underlying101) R <| K.as R R <| K.nil <| At.next <| G.ret <| At.ent [(0, _), (21, _), (22, _)] [(0, poolM 0 ⟨_, _, _, _, _⟩)] [] (pool_close _ _ _ _ _) ⟨R, R, R, trivial⟩ R R R R <| At.done Y [(.tmp 6, .c _)] R ⟨.tmp R, trivial⟩ (to' := [(0, _)]) ⟨R, trivial⟩ ?_ ?_ R R R (.inl R)
      · simp only [Pool.set, hlk]
      · simp only [Pool.set, hlk]; rfl
  | some c =>
    obtain ⟨n, rfl, hg, hl, rfl⟩ := lookC_some hlk
    refine spec_of [(0, _), (1, _), (2, _)] [(0, _)] 19 Try.func71 R Try.ntmps71 R R R R (fun β W F => ?_)
    refine G.ent [(0, _)] [(0, _), (21, _), (22, _)] [21, 22] (pool_open (by decide) (by decide) (by decide)) ⟨R, trivial⟩ R R R R <| G.seq <| G.rg <| K.box Y 104 _ g0 R R R R R R <| K.box Y 105 _ g0 R R R R R R <| K.as R R <| K.nil <| At.nr <| K.mv R R <| K.loadS Y _ g0 R R t68 R R R <| K.call0 [(.func 73, _), ((.tmp 8), _), ((.tmp 9), _)] (findSM' hg hl hlen _ _ _ 0 21 22) (toFn_func (cf 73 R) R) g0 ⟨R, R, R, trivial⟩ ⟨R, R, trivial⟩ R R R R R R <| K.as R R <| K.nil <| At.ns <| G.seq <| G.rg <| K.mv R R <| K.eqnilL (lrowV 21 104 fCM 31 _) n 0 (B := true) (lrowV_is fCM_len (by decide)) hg g0 R R R R (pn_neq_some Try.underlying101) R <| K.nil <| At.next <| G.cond R (fun h1 => ?_) (fun h1 => ?_)
    ·
      refine G.rg <| K.mv R R <| K.loadS Y _ g0 R R t70 R R R <| K.nilL (lrowV 21 104 fCM 31 _) n 0 (lrowV_is fCM_len (by decide)) hg g0 R R R R <| K.fieldL Y (lrowV 21 104 fCM 31 _) n 0 0 (lrowV_is fCM_len (by decide)) hg g0 R R t104 R R R R <| K.storeL Y n 0 [_, _, _, _, _, _, _, _, _, _, _, _, _, _, _, _, _, _, _, _, _, _, _, _, _, _, _, _, _] { c with v := v } fCM_len (by decide) hg g0 R R R t70 R R R R R R <| K.nil <| At.nr <| K.mv R R <| K.eqnilL (lrowV 21 104 fCM 31 _) n 0 (B := true) (lrowV_is fCM_len (by decide)) (set_get hg) g0 R R R R (pn_neq_some Try.underlying101) R <| K.as R R <| K.nil <| At.next <| G.ret <| At.ent [(0, _), (21, _), (22, _)] [(0, poolM 0 ⟨_, _, _, _, _⟩)] [] (pool_close _ _ _ _ _) ⟨R, R, R, trivial⟩ R R R R <| At.done Y [(.tmp 6, .c _)] R ⟨.tmp R, trivial⟩ (to' := [(0, _)]) ⟨R, trivial⟩ ?_ ?_ R R R (.inl R)
      · simp [Pool.set, hlk, Pool.hit]
      · simp only [Pool.set, hlk]; rfl
    · cases h1
theorem putFM (p : Pool (TNode TMark TSwell)) (v : (TNode TMark TSwell)) (hh : p.held = p.cap) : SCon Try.prog 69 [SV.p 0 0, .a (avM v)] [(0, poolM 0 p)] (.tup [.agg [.i 0, .i 0], .c (.b false)]) [(0, poolM 0 p)] [] := by
  obtain ⟨cells, free, cap, held, vis⟩ := p
  simp only at hh
  refine spec_of [(0, _), (1, _)] [(0, _)] 53 Try.func69 R Try.ntmps69 R R R R (fun β W F => ?_)
  refine G.ent [(0, _)] [(0, _), (21, _), (22, _)] [21, 22] (pool_open (by decide) (by decide) (by decide)) ⟨R, trivial⟩ R R R R <| G.seq <| G.rg <| K.box Y 103 _ g0 R R R R R R <| K.alloc Y 104 _ g0 t68 R R R R R <| K.as R R <| K.nil <| At.ns <| G.seq <| G.rd mixed <| K.mv R R <| K.nilCheck g0 R R <| K.fieldAddr Y g0 R t93 R R <| K.load1 Y g0 R R t3 R R <| K.mv R R <| K.nilCheck g0 R R <| K.fieldAddr Y g0 R t93 R R <| K.load1 Y g0 R R t3 R R <| K.bin g0 R R (fun _ => R) R <| K.nil <| And.intro (by kernel_rfl) <| At.next <| G.cond R (fun h1 => ?_) (fun h1 => ?_)
  ·
    refine G.seq <| G.rg <| K.build Y [] [_, _] [] g0 (AllE.spec trivial) R R t68 R R <| K.store Y _ g0 R R R t68 R R R R R <| K.as R R <| K.nil <| At.next <| G.ret <| At.over_ret <| At.ent [(0, _), (21, _), (22, _)] [(0, poolM 0 ⟨_, _, _, _, _⟩)] [] (pool_close _ _ _ _ _) ⟨R, R, R, trivial⟩ R R R R <| At.done Y [(.cell 4 68, .agg [_, _]), (.tmp 5, .c _)] R ⟨.st R R t68 R R, .tmp R, trivial⟩ (to' := [(0, _)]) ⟨R, trivial⟩ ?_ ?_ R R R (.inl R)
    · rfl
    · rfl
  · exact absurd h1 (by simp [hh])
theorem putTM (p : Pool (TNode TMark TSwell)) (v : (TNode TMark TSwell)) (hh : p.held ≠ p.cap) (hlen : p.cells.length < 4294967296) (hfree : p.free.length < 4294967296) {n : Nat} {c : Cell (TNode TMark TSwell)} (hn : (p.next zNodeM).1 = n) (hg : (p.next zNodeM).2.cells[n]? = some c) : SCon Try.prog 69 [SV.p 0 0, .a (avM v)] [(0, poolM 0 p)]
    (.tup [.agg [.i n, .i (IntKind.i64.wrap (c.gen + 1))], .c (.b true)]) [(0, poolM 0 ((p.next zNodeM).2.lay n c v))] [] := by
  obtain ⟨cells, free, cap, held, vis⟩ := p
  simp only at hh hlen hfree
  refine spec_of [(0, _), (1, _)] [(0, _)] 53 Try.func69 R Try.ntmps69 R R R R (fun β W F => ?_)
  refine G.ent [(0, _)] [(0, _), (21, _), (22, _)] [21, 22] (pool_open (by decide) (by decide) (by decide)) ⟨R, trivial⟩ R R R R <| G.seq <| G.rg <| K.box Y 103 _ g0 R R R R R R <| K.alloc Y 104 _ g0 t68 R R R R R <| K.as R R <| K.nil <| At.ns <| G.seq <| G.rd mixed <| K.mv R R <| K.nilCheck g0 R R <| K.fieldAddr Y g0 R t93 R R <| K.load1 Y g0 R R t3 R R <| K.mv R R <| K.nilCheck g0 R R <| K.fieldAddr Y g0 R t93 R R <| K.load1 Y g0 R R t3 R R <| K.bin g0 R R (fun _ => R) R <| K.nil <| And.intro (by kernel_rfl) <| At.next <| G.cond R (fun h1 => ?_) (fun h1 => ?_)
  · exact absurd h1 (by simp [hh])
  ·
    refine G.skip <| At.ns <| G.ent [(0, _), (21, _), (22, _)] [(0, poolM 0 ⟨_, _, _, _, _⟩)] [] (pool_close _ _ _ _ _) ⟨R, R, R, trivial⟩ R R R R <| G.rg <| K.mv R R <| K.call0 [(.func 75, _), ((.tmp 18), _)] (nextM _ hlen hfree) (toFn_func (cf 75 R) R) g0 ⟨R, R, trivial⟩ ⟨R, trivial⟩ R R R R R R <| K.as R R <| K.nil <| At.ns <| G.ent [(0, _)] [(0, _), (23, _), (24, _)] [23, 24] (pool_open (by decide) (by decide) (by decide)) ⟨R, trivial⟩ R R R R <| G.rg <| K.mv R R <| K.nilCheck g0 R R <| K.fieldAddr Y g0 R t93 R R <| K.load1 Y g0 R R t91 R R <| K.mv R R <| K.idxL (lrowV 23 104 fCM 31 _) n (lrowV_is fCM_len (by decide)) hg hn g0 R R R Try.underlying91 el91.size_run R <| K.as R R <| K.nil <| At.nr <| K.mv R R <| K.mv R R <| K.loadS Y _ g0 R R t70 R R R <| K.nilL (lrowV 23 104 fCM 31 _) n 0 (lrowV_is fCM_len (by decide)) hg g0 R R R R <| K.fieldL Y (lrowV 23 104 fCM 31 _) n 0 0 (lrowV_is fCM_len (by decide)) hg g0 R R t104 R R R R <| K.storeL Y n 0 [_, _, _, _, _, _, _, _, _, _, _, _, _, _, _, _, _, _, _, _, _, _, _, _, _, _, _, _, _] { c with v := v } fCM_len (by decide) hg g0 R R R t70 R R R R R R <| K.nilL (lrowV 23 104 fCM 31 _) n 0 (lrowV_is fCM_len (by decide)) (set_get hg) g0 R R R R <| K.fieldL Y (lrowV 23 104 fCM 31 _) n 0 30 (lrowV_is fCM_len (by decide)) (set_get hg) g0 R R t104 R R R R <| K.storeL Y n 30 [_] ⟨v, c.gen, true⟩ fCM_len (by decide) (set_get hg) g0 R R R t4 R R R R R R <| K.nil <| At.nr <| K.mv R R <| K.nilL (lrowV 23 104 fCM 31 _) n 0 (lrowV_is fCM_len (by decide)) (set_get (set_get hg)) g0 R R R R <| K.fieldL Y (lrowV 23 104 fCM 31 _) n 0 29 (lrowV_is fCM_len (by decide)) (set_get (set_get hg)) g0 R R t104 R R R R <| K.load1L Y (lrowV 23 104 fCM 31 _) n 29 (lrowV_is fCM_len (by decide)) (set_get (set_get hg)) g0 R R t3 R R <| K.bin g0 R R (fun _ => R) R <| K.nilL (lrowV 23 104 fCM 31 _) n 0 (lrowV_is fCM_len (by decide)) (set_get (set_get hg)) g0 R R R R <| K.fieldL Y (lrowV 23 104 fCM 31 _) n 0 29 (lrowV_is fCM_len (by decide)) (set_get (set_get hg)) g0 R R t104 R R R R <| K.storeL Y n 29 [_] ⟨v, IntKind.i64.wrap (c.gen + 1), true⟩ fCM_len (by decide) (set_get (set_get hg)) g0 R R R t3 R R R R R R <| K.nil <| At.nr <| K.mv R R <| K.nilCheck g0 R R <| K.fieldAddr Y g0 R t93 R R <| K.load1 Y g0 R R t3 R R <| K.bin g0 R R (fun _ => R) R <| K.nilCheck g0 R R <| K.fieldAddr Y g0 R t93 R R <| K.store Y _ g0 R R R t3 R R R R R <| K.nil <| At.nr <| K.mv R R <| K.mv R R <| K.nilL (lrowV 23 104 fCM 31 _) n 0 (lrowV_is fCM_len (by decide)) (set_get (set_get (set_get hg))) g0 R R R R <| K.fieldL Y (lrowV 23 104 fCM 31 _) n 0 29 (lrowV_is fCM_len (by decide)) (set_get (set_get (set_get hg))) g0 R R t104 R R R R <| K.load1L Y (lrowV 23 104 fCM 31 _) n 29 (lrowV_is fCM_len (by decide)) (set_get (set_get (set_get hg))) g0 R R t3 R R <| K.build Y [(0, _), (1, _)] [_, _] [((.tmp 47), _), ((.tmp 51), _)] g0 (AllE.spec ⟨R, R, trivial⟩) R R t68 R R <| K.store Y _ g0 R R R t68 R R R R R <| K.as R R <| K.nil <| At.next <| G.ret <| At.ent [(0, _), (23, _), (24, _)] [(0, poolM 0 ⟨_, _, _, _, _⟩)] [] (pool_close _ _ _ _ _) ⟨R, R, R, trivial⟩ R R R R <| At.done Y [(.cell 4 68, .agg [_, _]), (.tmp 5, .c _)] R ⟨.st R R t68 R R, .tmp R, trivial⟩ (to' := [(0, _)]) ⟨R, trivial⟩ ?_ ?_ R R R (.inl R)
    · simp [Pool.lay]
    · rw [hn]; rfl
theorem visitsM (p : Pool (TNode TMark TSwell)) : SCon Try.prog 52 [SV.p 0 0] [(0, poolM 0 p)] (SV.i p.vis) [(0, poolM 0 p)] [] := by
  obtain ⟨cells, free, cap, held, vis⟩ := p
  refine spec_of [(0, _)] [(0, _)] 7 Try.func52 R Try.ntmps52 R R R R (fun β W F => ?_)
  refine G.ent [(0, _)] [(0, _), (21, _), (22, _)] [21, 22] (pool_open (by decide) (by decide) (by decide)) ⟨R, trivial⟩ R R R R <| G.seq <| G.rg <| K.as R R <| K.nil <| At.nr <| K.mv R R <| K.nilCheck g0 R R <| K.fieldAddr Y g0 R t93 R R <| K.load1 Y g0 R R t3 R R <| K.as R R <| K.nil <| At.next <| G.ret <| At.ent [(0, _), (21, _), (22, _)] [(0, poolM 0 ⟨_, _, _, _, _⟩)] [] (pool_close _ _ _ _ _) ⟨R, R, R, trivial⟩ R R R R <| At.done Y [(.tmp 2, .c _)] R ⟨.tmp R, trivial⟩ (to' := [(0, _)]) ⟨R, trivial⟩ ?_ ?_ R R R (.inl R)
  · rfl
  · rfl
theorem newM_ (c : Int) : SCon Try.prog 68 [SV.i c] [] (SV.p 107 0) [(107, poolM 107 ⟨[], [], capOf c, 0, 0⟩)] [107] := by
  refine spec_of [(0, _)] [] 8 Try.func68 R Try.ntmps68 R R R R (fun β W F => ?_)
  refine G.seq <| G.rg <| K.as R R <| K.nil <| At.nr <| K.mv R R <| K.bi2 g0 R R (fun _ _ => R) R <| K.bi2 g0 R R (fun _ _ => R) R <| K.build Y [(2, _)] [_, _, _, _, _] [((.tmp 5), _)] g0 (AllE.spec ⟨R, trivial⟩) R R t93 R R <| K.box Y 107 _ g0 R R R R R R <| K.as R R <| K.nil <| At.next <| G.ret <| At.ent [(107, _)] [(107, poolM 107 ⟨_, _, _, _, _⟩)] [] (pool_nil _ _ _) ⟨R, trivial⟩ R R R R <| At.done Y [(.tmp 2, .c _)] R ⟨.tmp R, trivial⟩ (to' := [(107, _)]) ⟨R, trivial⟩ ?_ ?_ R R R (.inl R)
  · rfl
  · rfl
theorem newM (c : Int) (k : Nat) : SCon Try.prog 68 [SV.i c] [] (SV.p k 0) [(k, poolM k ⟨[], [], capOf c, 0, 0⟩)] [k] :=
  SCon.ren (rn [(107, k)]) (newM_ c) trivial ⟨pool_ren R, trivial⟩ (by simp) (by intro j hj hn; simp [SV.ks, Av.ks, Cl.ks, pool] at hj hn; exact absurd hj hn)
theorem putM_ {N : Nat} (p : Pool (TNode TMark TSwell)) (v : (TNode TMark TSwell)) (h : PoolOk N p) (hN : N < 4294967296) : SCon Try.prog 69 [SV.p 0 0, .a (avM v)] [(0, poolM 0 p)] (.tup [.agg [.i (p.put zNodeM v).1.1.1, .i (p.put zNodeM v).1.1.2], .c (.b (p.put zNodeM v).1.2)]) [(0, poolM 0 (p.put zNodeM v).2)] [] := by
  by_cases hh : p.held = p.cap
  · have e : p.put zNodeM v = (((0, 0), false), p) := by unfold Pool.put; rw [if_pos hh]
    rw [e]; exact putFM p v hh
  · obtain ⟨h1, h2, c, hc⟩ := h.next (z := zNodeM)
    have e : p.put zNodeM v = ((((p.next zNodeM).1, IntKind.i64.wrap (c.gen + 1)), true), (p.next zNodeM).2.lay (p.next zNodeM).1.toNat c v) := by unfold Pool.put; rw [if_neg hh, hc]
    have h3 : (p.next zNodeM).1 = ((p.next zNodeM).1.toNat : Int) := by omega
    have := putTM p v hh (Nat.lt_of_le_of_lt h.cells hN) (Nat.lt_of_le_of_lt h.free hN) h3 hc
    rw [← h3] at this
    rw [e]; exact this
theorem putM {N : Nat} (p : Pool (TNode TMark TSwell)) (v : (TNode TMark TSwell)) (h : PoolOk N p) (hN : N < 4294967296) (k : Nat) : SCon Try.prog 69 [SV.p k 0, .a (avM v)] [(k, poolM k p)] (.tup [.agg [.i (p.put zNodeM v).1.1.1, .i (p.put zNodeM v).1.1.2], .c (.b (p.put zNodeM v).1.2)]) [(k, poolM k (p.put zNodeM v).2)] [] :=
  SCon.ren (rn [(0, k)]) (putM_ p v h hN) ⟨pool_ren R, trivial⟩ ⟨pool_ren R, trivial⟩ (by simp) (by simp)
theorem getM' {N : Nat} (p : Pool (TNode TMark TSwell)) (i g : Int) (h : PoolOk N p) (hN : N < 4294967296) (k : Nat) : SCon Try.prog 65 [SV.p k 0, SV.agg [.i i, .i g]] [(k, poolM k p)] (.tup [avM (p.get zNodeM i g).1.1, .c (.b (p.get zNodeM i g).1.2)]) [(k, poolM k (p.get zNodeM i g).2)] [] :=
  SCon.ren (rn [(0, k)]) (getM p i g (Nat.lt_of_le_of_lt h.cells hN) (Nat.lt_of_le_of_lt h.free hN)) ⟨pool_ren R, trivial⟩ ⟨pool_ren R, trivial⟩ (by simp) (by simp)
theorem setM' {N : Nat} (p : Pool (TNode TMark TSwell)) (i g : Int) (v : (TNode TMark TSwell)) (h : PoolOk N p) (hN : N < 4294967296) (k : Nat) : SCon Try.prog 71 [SV.p k 0, SV.agg [.i i, .i g], .a (avM v)] [(k, poolM k p)] (SV.b (p.set i g v).1) [(k, poolM k (p.set i g v).2)] [] :=
  SCon.ren (rn [(0, k)]) (setM p i g v (Nat.lt_of_le_of_lt h.cells hN) (Nat.lt_of_le_of_lt h.free hN)) ⟨pool_ren R, trivial⟩ ⟨pool_ren R, trivial⟩ (by simp) (by simp)
theorem visitsM' (p : Pool (TNode TMark TSwell)) (k : Nat) : SCon Try.prog 52 [SV.p k 0] [(k, poolM k p)] (SV.i p.vis) [(k, poolM k p)] [] :=
  SCon.ren (rn [(0, k)]) (visitsM p) ⟨pool_ren R, trivial⟩ ⟨pool_ren R, trivial⟩ (by simp) (by simp)
end Go.Proofs.Ythcehagablploaa
namespace Go.Proofs.Ythcehagablploaa
open Go Go.Proofs.Ythcehagablploaa.Sx
end Go.Proofs.Ythcehagablploaa
namespace Go.Proofs.Ythcehagablploaa
open Go Go.Proofs.Ythcehagablploaa.Sx
abbrev bridge_low_st (a0 : Int) (r : Int) (m50 : Nat) : Prop := SCon Try.prog 48 [.a (.c (.v (.int .i64 a0)))] [] (.a (.c (.fn (.func 63) [m50]))) [(m50, blk m50 [.v (.int .i64 r)] 3)] [m50]
theorem bridge_low_con0 {k : Nat}  {a0 : Int} {r : Int}  (H0 : bridge_low.f k a0 = some r) : bridge_low_st a0 r 50 := by
 rw [bridge_low.f] at H0
 refine spec_of [(0, _)] [] 4 Try.func48 R Try.ntmps48 R R R R (fun β W F => ?_)
 exact G.seq <| G.rg <| K.box Y 100 _ g0 R R R R R R <| K.as R R <| K.nil <| At.nr <| K.mkFn1 g0 R R <| K.as R R <| K.nil <| At.next <| G.ret <| At.ren (fs' := [(2, .a (.c (.fn (.func 63) [50])))]) (tl := [(50, blk 50 [.v (.int .i64 a0)] 3)]) [(50, 100)] [_] R ⟨R, trivial⟩ ⟨R, (blk_ren R R), trivial⟩ R <| At.dr Y [2] R R (by cases H0; rfl) (by cases H0; rfl) R R R
theorem bridge_low_con {k : Nat}  {a0 : Int} {r : Int}  (H0 : bridge_low.f k a0 = some r) (m50 : Nat) (hd : ndB [m50] = true) : bridge_low_st a0 r m50 :=
 SCon.ren (rn [(50, m50)]) (bridge_low_con0 (k := k)   H0) trivial ⟨(blk_ren R R), trivial⟩ (rn_nd hd R R) (rn_ks hd R R R)
abbrev bridge_low_1_st (a0 : TSwell) (a1 : TSwell) (c0 : Int) (r : Bool) (m0 : Nat) : Prop := SCon Try.prog 63 [.a (.agg ((eTSwell a0).map .v)), .a (.agg ((eTSwell a1).map .v)), SV.p m0 0] [(m0, blk m0 [.v (.int .i64 c0)] 3)] (.a (.c (.v (.bool r)))) [(m0, blk m0 [.v (.int .i64 c0)] 3)] []
theorem bridge_low_1_con0 {k : Nat}  {a0 : TSwell} {a1 : TSwell} {c0 : Int} {r : Bool}  (H0 : bridge_low_1.f k a0 a1 c0 = some r) : bridge_low_1_st a0 a1 c0 r 0 := by
 rw [bridge_low_1.f] at H0
 refine spec_of [(0, _), (1, _), (2, _)] [(0, _)] 22 Try.func63 R Try.ntmps63 R R R R (fun β W F => ?_)
 refine G.seq <| G.rg <| K.box Y 100 _ g0 R R R R R R <| K.box Y 101 _ g0 R R R R R R <| K.as R R <| K.nil <| At.ns ?_
 rcases Bool.eq_false_or_eq_true (decide (a1.weight.n > 0)) with h1 | h1
 ·
  replace H0 := bif_t H0 h1
  exact G.rg <| K.fieldAddr Y g0 R t43 R R <| K.fieldAddr Y g0 R t41 R R <| K.load1 Y g0 R R t3 R R <| K.bin (V := .bool (decide (a1.weight.n > 0))) g0 R R (fun _ => R) R <| K.mv R R <| K.load1 Y (g1 R R h1) R R t3 R R <| K.fieldAddr Y (g1 R R h1) R t43 R R <| K.fieldAddr Y (g1 R R h1) R t41 R R <| K.load1 Y (g1 R R h1) R R t3 R R <| K.bin (V := .int .i64 (w64 (c0 + a0.weight.sum))) (g1 R R h1) R R (fun _ => R) R <| K.fieldAddr Y (g1 R R h1) R t43 R R <| K.fieldAddr Y (g1 R R h1) R t41 R R <| K.load1 Y (g1 R R h1) R R t3 R R <| K.bin (V := .int .i64 (w64 ((w64 (c0 + a0.weight.sum)) + a1.weight.low))) (g1 R R h1) R R (fun _ => R) R <| K.bin (V := .bool (decide ((w64 ((w64 (c0 + a0.weight.sum)) + a1.weight.low)) ≤ 0))) (g1 R R h1) R R (fun _ => R) R <| K.pickT g0 R (h1) R R <| K.as R R <| K.nil <| At.next <| G.ret <| At.dr Y [5] R R (by cases H0; rfl) (by cases H0; rfl) R R R
 ·
  replace H0 := bif_f H0 h1
  exact G.rg <| K.fieldAddr Y g0 R t43 R R <| K.fieldAddr Y g0 R t41 R R <| K.load1 Y g0 R R t3 R R <| K.bin (V := .bool (decide (a1.weight.n > 0))) g0 R R (fun _ => R) R <| K.mv R R <| K.sk R R h1 R <| K.sk R R h1 R <| K.sk R R h1 R <| K.sk R R h1 R <| K.sk R R h1 R <| K.sk R R h1 R <| K.sk R R h1 R <| K.sk R R h1 R <| K.sk R R h1 R <| K.sk R R h1 R <| K.pickF g0 R (h1) R R <| K.as R R <| K.nil <| At.next <| G.ret <| At.dr Y [5] R R (by cases H0; rfl) (by cases H0; rfl) R R R
theorem bridge_low_1_con {k : Nat}  {a0 : TSwell} {a1 : TSwell} {c0 : Int} {r : Bool}  (H0 : bridge_low_1.f k a0 a1 c0 = some r) (m0 : Nat) : bridge_low_1_st a0 a1 c0 r m0 :=
 SCon.ren (rn [(0, m0)]) (bridge_low_1_con0 (k := k)   H0) ⟨(blk_ren R R), trivial⟩ ⟨(blk_ren R R), trivial⟩ (by simp) (by simp)
abbrev Lw10_small_st (S : Foot) (W0 : World) (s0 : Value) (a1 : Int) (r : Bool) : Prop := SCon Try.prog 12 [SV.raw s0, .a (.c (.v (.int .i64 a1)))] [(0, rd S W0)] (.a (.c (.v (.bool r)))) [(0, rd S W0)] []
theorem Lw10_small_con0 {k : Nat}  {S : Foot} {W0 : World} {s0 : Value} {l0 : List TR08Mark} {a1 : Int} {r : Bool} (hL0 : LArg S W0 s0 eTR08Mark 8 l0) (H0 : Lw10_small.f k l0 a1 = some r) : Lw10_small_st S W0 s0 a1 r := by
 rw [Lw10_small.f] at H0
 obtain ⟨b0, o0, hI0⟩ := hL0
 refine spec_of [(0, _), (1, _)] [(0, _)] 16 Try.func12 R Try.ntmps12 R R R R (fun β W F => ?_)
 refine G.seq <| G.rg <| K.as R R <| K.nil <| At.ns ?_
 rcases Bool.eq_false_or_eq_true (decide ((l0.length : Int) ≤ 60)) with h1 | h1
 ·
  replace H0 := bif_t H0 h1
  rcases Bool.eq_false_or_eq_true (decide (a1 ≥ (-1099511627776))) with h2 | h2
  ·
   replace H0 := bif_t H0 h2
   exact G.rg <| K.mv R R <| K.lenL (rV 0 S W0 s0 b0 o0 eTR08Mark 8 l0) (hI0.is 0) g0 R R Try.underlying22 R <| K.bin (V := .bool (decide ((l0.length : Int) ≤ 60))) g0 R R (fun _ => R) R <| K.mv R R <| K.move (.inl R) (g1 R R h1) R R <| K.bin (V := .bool (decide (a1 ≥ (-1099511627776)))) (g1 R R h1) R R (fun _ => R) R <| K.pickT g0 R (h1) R R <| K.mv R R <| K.move (.inl R) (g1 R R h2) R R <| K.bin (V := .bool (decide (a1 ≤ 1099511627776))) (g1 R R h2) R R (fun _ => R) R <| K.pickT g0 R (h2) R R <| K.as R R <| K.nil <| At.next <| G.ret <| At.dr Y [4] R R (by cases H0; rfl) (by cases H0; rfl) R R R
  ·
   replace H0 := bif_f H0 h2
   exact G.rg <| K.mv R R <| K.lenL (rV 0 S W0 s0 b0 o0 eTR08Mark 8 l0) (hI0.is 0) g0 R R Try.underlying22 R <| K.bin (V := .bool (decide ((l0.length : Int) ≤ 60))) g0 R R (fun _ => R) R <| K.mv R R <| K.move (.inl R) (g1 R R h1) R R <| K.bin (V := .bool (decide (a1 ≥ (-1099511627776)))) (g1 R R h1) R R (fun _ => R) R <| K.pickT g0 R (h1) R R <| K.mv R R <| K.sk R R h2 R <| K.sk R R h2 R <| K.pickF g0 R (h2) R R <| K.as R R <| K.nil <| At.next <| G.ret <| At.dr Y [4] R R (by cases H0; rfl) (by cases H0; rfl) R R R
 ·
  replace H0 := bif_f H0 h1
  exact G.rg <| K.mv R R <| K.lenL (rV 0 S W0 s0 b0 o0 eTR08Mark 8 l0) (hI0.is 0) g0 R R Try.underlying22 R <| K.bin (V := .bool (decide ((l0.length : Int) ≤ 60))) g0 R R (fun _ => R) R <| K.mv R R <| K.sk R R h1 R <| K.sk R R h1 R <| K.pickF g0 R (h1) R R <| K.mv R R <| K.sk R R R R <| K.sk R R R R <| K.pickF g0 R (R) R R <| K.as R R <| K.nil <| At.next <| G.ret <| At.dr Y [4] R R (by cases H0; rfl) (by cases H0; rfl) R R R
theorem Lw10_small_con {k : Nat}  {S : Foot} {W0 : World} {s0 : Value} {l0 : List TR08Mark} {a1 : Int} {r : Bool} (hL0 : LArg S W0 s0 eTR08Mark 8 l0) (H0 : Lw10_small.f k l0 a1 = some r) : Lw10_small_st S W0 s0 a1 r :=
 SCon.ren (rn []) (Lw10_small_con0 (k := k)  hL0 H0) ⟨(fun _ => R), trivial⟩ ⟨(fun _ => R), trivial⟩ (by simp) (by simp)
abbrev R10_Timed_st (S : Foot) (W0 : World) (s0 : Value) (r : List TR08Mark) (m30 : Nat) : Prop := SCon Try.prog 16 [SV.raw s0] [(0, rd S W0)] (.a (.c (.nv m30))) [(0, rd S W0), (m30, lrow m30 52 eTR08Mark 8 r)] [m30]
set_option maxHeartbeats 4000000 in
theorem R10_Timed_con0 {k : Nat}  {S : Foot} {W0 : World} {s0 : Value} {l0 : List TR08Mark} {r : List TR08Mark} (hL0 : LArg S W0 s0 eTR08Mark 8 l0) (H0 : R10_Timed.f k l0 = some r) : R10_Timed_st S W0 s0 r 30 := by
 rw [R10_Timed.f] at H0
 obtain ⟨b0, o0, hI0⟩ := hL0
 refine spec_of [(0, _)] [(0, _)] 73 Try.func16 R Try.ntmps16 R R R R (fun β W F => ?_)
 refine G.seq <| G.rg <| K.nilRow 100 52 eTR08Mark 8 (.inl R) g0 R R R <| K.nil <| At.nr <| K.nilRow 101 52 eTR08Mark 8 (.inl R) g0 R R R <| K.nil <| At.next ?_
 obtain ⟨x1, H1, H0⟩ := bnd H0
 refine G.sJ (σ := { v : List TR08Mark // x1 = v }) (fun q => [(3, .a (.c (.nv 102)))]) (fun q => [(0, rd S W0), (102, lrow 102 52 eTR08Mark 8 q.1)]) ?_ ?_
 ·
  refine G.seq <| G.rg <| K.as R R <| K.nil <| At.next <| G.block <| G.lp (σ := { q : Nat × (List TR08Mark × Int) // R10_Timed.l0 k l0 q.1 q.2 = some x1 }) (fun q => [(0, SV.raw s0), (3, .a (.c (.nv 105))), (4, .a (.c (.v (.int .i64 q.1.2.2))))]) (fun q => [(0, rd S W0), (105, lrow 105 52 eTR08Mark 8 q.1.2.1)]) (fun q => q.1.1) ⟨(k, (([] : List TR08Mark), 0)), H1⟩ ?_ ?_
  · exact At.into [(105, 101)] [_, _] R ⟨R, R, R, trivial⟩ ⟨R, (fun _ => R), R, (lrow_ren R), trivial⟩ R
  ·
   rintro ⟨⟨n0, v1, v2⟩, H1⟩
   show G _ _ [(0, SV.raw s0), (3, .a (.c (.nv 105))), (4, .a (.c (.v (.int .i64 v2))))] [(0, some (rd S W0)), (105, some (lrow 105 52 eTR08Mark 8 v1))] _ _
   cases n0 with
   | zero => exact absurd H1 (by simp [R10_Timed.l0])
   | succ n0 =>
    have HL0 := H1
    rw [R10_Timed.l0] at H1
    refine G.seq <| G.seq <| G.rg <| K.mv R R <| K.mv R R <| K.lenL (rV 0 S W0 s0 b0 o0 eTR08Mark 8 l0) (hI0.is 0) g0 R R Try.underlying22 R <| K.bin (V := .bool (decide (v2 < (l0.length : Int)))) g0 R R (fun _ => R) R <| K.nil <| At.next <| G.cond R (fun h1 => ?_) (fun h1 => ?_)
    ·
     replace H1 := bif_t H1 h1
     refine G.skip <| At.next ?_
     obtain ⟨x2, H2, H1⟩ := bnd H1
     refine G.sJ (σ := { v : List TR08Mark // x2 = v }) (fun q => [(0, SV.raw s0), (3, .a (.c (.nv 106))), (4, .a (.c (.v (.int .i64 v2))))]) (fun q => [(0, rd S W0), (106, lrow 106 52 eTR08Mark 8 q.1)]) ?_ ?_
     ·
      refine G.block <| G.seq <| G.rg <| K.as R R <| K.nil <| At.next ?_
      obtain ⟨x3, H3, H2⟩ := bnd H2
      refine G.sJ (σ := { v : Int // x3 = v }) (fun q => [(0, SV.raw s0), (3, .a (.c (.nv 107))), (4, .a (.c (.v (.int .i64 v2)))), (5, .a (.c (.v (.int .i64 q.1))))]) (fun q => [(0, rd S W0), (107, lrow 107 52 eTR08Mark 8 v1)]) ?_ ?_
      ·
       refine G.block <| G.lp (σ := { q : Nat × (Int) // R10_Timed.l1 k l0 v1 v2 q.1 q.2 = some x3 }) (fun q => [(0, SV.raw s0), (3, .a (.c (.nv 110))), (4, .a (.c (.v (.int .i64 v2)))), (5, .a (.c (.v (.int .i64 q.1.2))))]) (fun q => [(0, rd S W0), (110, lrow 110 52 eTR08Mark 8 v1)]) (fun q => q.1.1) ⟨(k, 0), H3⟩ ?_ ?_
       · exact At.into [(110, 105)] [_, _] R ⟨R, R, R, R, trivial⟩ ⟨R, (fun _ => R), R, (lrow_ren R), trivial⟩ R
       ·
        rintro ⟨⟨n0, v101⟩, H3⟩
        show G _ _ [(0, SV.raw s0), (3, .a (.c (.nv 110))), (4, .a (.c (.v (.int .i64 v2)))), (5, .a (.c (.v (.int .i64 v101))))] [(0, some (rd S W0)), (110, some (lrow 110 52 eTR08Mark 8 v1))] _ _
        cases n0 with
        | zero => exact absurd H3 (by simp [R10_Timed.l1])
        | succ n0 =>
         have HL1 := H3
         rw [R10_Timed.l1] at H3
         refine G.seq <| G.seq ?_
         rcases Bool.eq_false_or_eq_true (decide (v101 < (v1.length : Int))) with h2 | h2
         ·
          replace H3 := bif_t H3 h2
          obtain ⟨x4, hx4, H3⟩ := bnd H3
          obtain ⟨x5, hx5, H3⟩ := bnd H3
          refine G.rd mixed <| K.mv R R <| K.mv R R <| K.lenL (lrowV 110 52 eTR08Mark 8 v1) (lrowV_is eTR08Mark_len (by decide)) g0 R R Try.underlying22 R <| K.bin (V := .bool (decide (v101 < (v1.length : Int)))) g0 R R (fun _ => R) R <| K.mv R R <| K.move (.inl R) (g1 R R h2) R R <| K.move (.inl R) (g1 R R h2) R R <| K.idxL (lrowV 110 52 eTR08Mark 8 v1) ((v101).toNat) (lrowV_is eTR08Mark_len (by decide)) (atL_get hx4) (atL_nn hx4) (g1 R R h2) R R R Try.underlying22 el22.size_run R <| K.fieldL Y (lrowV 110 52 eTR08Mark 8 v1) ((v101).toNat) 0 0 (lrowV_is eTR08Mark_len (by decide)) (atL_get hx4) (g1 R R h2) R R t52 R R R R <| K.fieldL Y (lrowV 110 52 eTR08Mark 8 v1) ((v101).toNat) 0 0 (lrowV_is eTR08Mark_len (by decide)) (atL_get hx4) (g1 R R h2) R R t35 R R R R <| K.load1L Y (lrowV 110 52 eTR08Mark 8 v1) ((v101).toNat) 0 (lrowV_is eTR08Mark_len (by decide)) (atL_get hx4) (g1 R R h2) R R t3 R R <| K.move (.inl R) (g1 R R h2) R R <| K.move (.inl R) (g1 R R h2) R R <| K.idxL (rV 0 S W0 s0 b0 o0 eTR08Mark 8 l0) ((v2).toNat) (hI0.is 0) (atL_get hx5) (atL_nn hx5) (g1 R R h2) R R R Try.underlying22 el22.size_run R <| K.fieldL Y (rV 0 S W0 s0 b0 o0 eTR08Mark 8 l0) ((v2).toNat) 0 0 (hI0.is 0) (atL_get hx5) (g1 R R h2) R R t52 R R R R <| K.fieldL Y (rV 0 S W0 s0 b0 o0 eTR08Mark 8 l0) ((v2).toNat) 0 0 (hI0.is 0) (atL_get hx5) (g1 R R h2) R R t35 R R R R <| K.load1L Y (rV 0 S W0 s0 b0 o0 eTR08Mark 8 l0) ((v2).toNat) 0 (hI0.is 0) (atL_get hx5) (g1 R R h2) R R t3 R R <| K.bin (V := .bool (decide (x4.op.time < x5.op.time))) (g1 R R h2) R R (fun _ => R) R <| K.pickT g0 R (h2) R R <| K.nil <| And.intro (by kernel_rfl) <| At.next <| G.cond R (fun h3 => ?_) (fun h3 => ?_)
          ·
           replace H3 := bif_t H3 h3
           exact G.skip <| At.next <| G.block <| G.rg <| K.mv R R <| K.bin (V := .int .i64 (w64 (v101 + 1))) g0 R R (fun _ => R) R <| K.as R R <| K.nil <| At.block_normal <| At.ag ⟨(n0, (w64 (v101 + 1))), H3⟩ [] [_, _] (Nat.lt_succ_self _) R ⟨R, R, R, R, trivial⟩ ⟨R, (fun _ => R), R, (lrow_ren R), trivial⟩ R
          ·
           replace H3 := bif_f H3 h3
           exact G.exit <| At.over_exit <| At.over_exit <| At.block_hit <| At.jd ⟨v101, oi H3⟩ [(107, 110)] [_, _] R ⟨R, R, R, R, trivial⟩ ⟨R, (fun _ => R), R, (lrow_ren R), trivial⟩ R
         ·
          replace H3 := bif_f H3 h2
          refine G.rd mixed <| K.mv R R <| K.mv R R <| K.lenL (lrowV 110 52 eTR08Mark 8 v1) (lrowV_is eTR08Mark_len (by decide)) g0 R R Try.underlying22 R <| K.bin (V := .bool (decide (v101 < (v1.length : Int)))) g0 R R (fun _ => R) R <| K.mv R R <| K.sk R R h2 R <| K.sk R R h2 R <| K.sk R R h2 R <| K.sk R R h2 R <| K.sk R R h2 R <| K.sk R R h2 R <| K.sk R R h2 R <| K.sk R R h2 R <| K.sk R R h2 R <| K.sk R R h2 R <| K.sk R R h2 R <| K.sk R R h2 R <| K.sk R R h2 R <| K.pickF g0 R (h2) R R <| K.nil <| And.intro (by kernel_rfl) <| At.next <| G.cond R (fun h4 => ?_) (fun h4 => ?_)
          · cases h4
          ·
           exact G.exit <| At.over_exit <| At.over_exit <| At.block_hit <| At.jd ⟨v101, oi H3⟩ [(107, 110)] [_, _] R ⟨R, R, R, R, trivial⟩ ⟨R, (fun _ => R), R, (lrow_ren R), trivial⟩ R
      ·
       rintro ⟨_, rfl⟩
       show G _ _ [(0, SV.raw s0), (3, .a (.c (.nv 107))), (4, .a (.c (.v (.int .i64 v2)))), (5, .a (.c (.v (.int .i64 x3))))] [(0, some (rd S W0)), (107, some (lrow 107 52 eTR08Mark 8 v1))] _ _
       refine G.seq <| G.rg <| K.nilRow 111 52 eTR08Mark 8 (.inl R) g0 R R R <| K.nil <| At.ns ?_
       obtain ⟨h5, H2⟩ := grd H2
       obtain ⟨h7, H2⟩ := grd H2
       refine G.rg <| K.mv R R <| K.mv R R <| K.mv R R <| K.partL 0 ((x3).toNat) g0 R .no (.at_ R h5.1 R) R Try.underlying22 el22.size_run (Nat.zero_le _) (tn_len h5.2) R <| K.appendL 112 (lsubV 107 52 eTR08Mark 8 v1 0 ((x3).toNat)) _ el22 (lsubV_is eTR08Mark_len (by decide) (Nat.zero_le _) (tn_len h5.2)) eTR08Mark_one g0 R R R R R (ap_m h7) (ap_b h7 (by decide)) R R R R R R <| K.as R R <| K.nil <| At.ns ?_
       obtain ⟨x6, hx6, H2⟩ := bnd H2
       obtain ⟨h8, H2⟩ := grd H2
       refine G.rg <| K.mv R R <| K.mv R R <| K.mv R R <| K.idxL (rV 0 S W0 s0 b0 o0 eTR08Mark 8 l0) ((v2).toNat) (hI0.is 0) (atL_get hx6) (atL_nn hx6) g0 R R R Try.underlying22 el22.size_run R <| K.loadSL Y (rV 0 S W0 s0 b0 o0 eTR08Mark 8 l0) ((v2).toNat) 0 [_, _, _, _, _, _, _, _] [_, _, _, _, _, _, _, _] (hI0.is 0) (atL_get hx6) g0 R R t52 R R R R R <| K.buildL Y 113 ([x6] : List TR08Mark) [(0, _)] [((.tmp 43), _)] eTR08Mark_len g0 (AllE.spec ⟨R, trivial⟩) R R Try.underlying22 t52 R R R R R R R R <| K.appendL 114 (lrowV 113 52 eTR08Mark 8 ([x6] : List TR08Mark)) _ el22 (lrowV_is eTR08Mark_len (by decide)) eTR08Mark_one g0 R R R R R (ap_m h8) (ap_b h8 (by decide)) R R R R R R <| K.as R R <| K.nil <| At.ns <| G.seq ?_
       rcases Bool.eq_false_or_eq_true (decide (x3 < (v1.length : Int))) with h9 | h9
       ·
        replace H2 := bif_t H2 h9
        obtain ⟨x7, hx7, H2⟩ := bnd H2
        refine G.rd mixed <| K.mv R R <| K.mv R R <| K.lenL (lrowV 107 52 eTR08Mark 8 v1) (lrowV_is eTR08Mark_len (by decide)) g0 R R Try.underlying22 R <| K.bin (V := .bool (decide (x3 < (v1.length : Int)))) g0 R R (fun _ => R) R <| K.mv R R <| K.move (.inl R) (g1 R R h9) R R <| K.move (.inl R) (g1 R R h9) R R <| K.idxL (lrowV 107 52 eTR08Mark 8 v1) ((x3).toNat) (lrowV_is eTR08Mark_len (by decide)) (atL_get hx7) (atL_nn hx7) (g1 R R h9) R R R Try.underlying22 el22.size_run R <| K.fieldL Y (lrowV 107 52 eTR08Mark 8 v1) ((x3).toNat) 0 0 (lrowV_is eTR08Mark_len (by decide)) (atL_get hx7) (g1 R R h9) R R t52 R R R R <| K.fieldL Y (lrowV 107 52 eTR08Mark 8 v1) ((x3).toNat) 0 0 (lrowV_is eTR08Mark_len (by decide)) (atL_get hx7) (g1 R R h9) R R t35 R R R R <| K.load1L Y (lrowV 107 52 eTR08Mark 8 v1) ((x3).toNat) 0 (lrowV_is eTR08Mark_len (by decide)) (atL_get hx7) (g1 R R h9) R R t3 R R <| K.move (.inl R) (g1 R R h9) R R <| K.move (.inl R) (g1 R R h9) R R <| K.idxL (rV 0 S W0 s0 b0 o0 eTR08Mark 8 l0) ((v2).toNat) (hI0.is 0) (atL_get hx6) (atL_nn hx6) (g1 R R h9) R R R Try.underlying22 el22.size_run R <| K.fieldL Y (rV 0 S W0 s0 b0 o0 eTR08Mark 8 l0) ((v2).toNat) 0 0 (hI0.is 0) (atL_get hx6) (g1 R R h9) R R t52 R R R R <| K.fieldL Y (rV 0 S W0 s0 b0 o0 eTR08Mark 8 l0) ((v2).toNat) 0 0 (hI0.is 0) (atL_get hx6) (g1 R R h9) R R t35 R R R R <| K.load1L Y (rV 0 S W0 s0 b0 o0 eTR08Mark 8 l0) ((v2).toNat) 0 (hI0.is 0) (atL_get hx6) (g1 R R h9) R R t3 R R <| K.bin (V := .bool (x7.op.time == x6.op.time)) (g1 R R h9) R R (fun _ => R) R <| K.pickT g0 R (h9) R R <| K.nil <| And.intro (by kernel_rfl) <| At.next <| G.cond R (fun h10 => ?_) (fun h10 => ?_)
        ·
         replace H2 := bif_t H2 h10
         refine G.rg <| K.mv R R <| K.bin (V := .int .i64 (w64 (x3 + 1))) g0 R R (fun _ => R) R <| K.as R R <| K.nil <| At.next ?_
         obtain ⟨h11, H2⟩ := grd H2
         obtain ⟨h13, H2⟩ := grd H2
         exact G.rg <| K.mv R R <| K.mv R R <| K.mv R R <| K.partL (((w64 (x3 + 1))).toNat) v1.length g0 R (.at_ R h11.1 R) .no R Try.underlying22 el22.size_run (tn_len h11.2) (Nat.le_refl _) R <| K.appendL 115 (lsubV 107 52 eTR08Mark 8 v1 (((w64 (x3 + 1))).toNat) v1.length) _ el22 (lsubV_is eTR08Mark_len (by decide) (tn_len h11.2) (Nat.le_refl _)) eTR08Mark_one g0 R R R R R (ap_m h13) (ap_b h13 (by decide)) R R R R R R <| K.as R R <| K.nil <| At.block_normal <| At.jd ⟨(((([] : List TR08Mark) ++ ((v1.drop 0).take (((x3).toNat) - 0))) ++ ([x6] : List TR08Mark)) ++ ((v1.drop (((w64 (x3 + 1))).toNat)).take (v1.length - (((w64 (x3 + 1))).toNat)))), oi H2⟩ [(106, 115)] [_, _] R ⟨R, R, R, trivial⟩ ⟨R, (fun _ => R), R, (lrow_ren R), trivial⟩ R
        ·
         replace H2 := bif_f H2 h10
         refine G.skip <| At.next ?_
         obtain ⟨h14, H2⟩ := grd H2
         obtain ⟨h16, H2⟩ := grd H2
         exact G.rg <| K.mv R R <| K.mv R R <| K.mv R R <| K.partL ((x3).toNat) v1.length g0 R (.at_ R h14.1 R) .no R Try.underlying22 el22.size_run (tn_len h14.2) (Nat.le_refl _) R <| K.appendL 116 (lsubV 107 52 eTR08Mark 8 v1 ((x3).toNat) v1.length) _ el22 (lsubV_is eTR08Mark_len (by decide) (tn_len h14.2) (Nat.le_refl _)) eTR08Mark_one g0 R R R R R (ap_m h16) (ap_b h16 (by decide)) R R R R R R <| K.as R R <| K.nil <| At.block_normal <| At.jd ⟨(((([] : List TR08Mark) ++ ((v1.drop 0).take (((x3).toNat) - 0))) ++ ([x6] : List TR08Mark)) ++ ((v1.drop ((x3).toNat)).take (v1.length - ((x3).toNat)))), oi H2⟩ [(106, 116)] [_, _] R ⟨R, R, R, trivial⟩ ⟨R, (fun _ => R), R, (lrow_ren R), trivial⟩ R
       ·
        replace H2 := bif_f H2 h9
        refine G.rd mixed <| K.mv R R <| K.mv R R <| K.lenL (lrowV 107 52 eTR08Mark 8 v1) (lrowV_is eTR08Mark_len (by decide)) g0 R R Try.underlying22 R <| K.bin (V := .bool (decide (x3 < (v1.length : Int)))) g0 R R (fun _ => R) R <| K.mv R R <| K.sk R R h9 R <| K.sk R R h9 R <| K.sk R R h9 R <| K.sk R R h9 R <| K.sk R R h9 R <| K.sk R R h9 R <| K.sk R R h9 R <| K.sk R R h9 R <| K.sk R R h9 R <| K.sk R R h9 R <| K.sk R R h9 R <| K.sk R R h9 R <| K.sk R R h9 R <| K.pickF g0 R (h9) R R <| K.nil <| And.intro (by kernel_rfl) <| At.next <| G.cond R (fun h17 => ?_) (fun h17 => ?_)
        · cases h17
        ·
         refine G.skip <| At.next ?_
         obtain ⟨h18, H2⟩ := grd H2
         obtain ⟨h20, H2⟩ := grd H2
         exact G.rg <| K.mv R R <| K.mv R R <| K.mv R R <| K.partL ((x3).toNat) v1.length g0 R (.at_ R h18.1 R) .no R Try.underlying22 el22.size_run (tn_len h18.2) (Nat.le_refl _) R <| K.appendL 117 (lsubV 107 52 eTR08Mark 8 v1 ((x3).toNat) v1.length) _ el22 (lsubV_is eTR08Mark_len (by decide) (tn_len h18.2) (Nat.le_refl _)) eTR08Mark_one g0 R R R R R (ap_m h20) (ap_b h20 (by decide)) R R R R R R <| K.as R R <| K.nil <| At.block_normal <| At.jd ⟨(((([] : List TR08Mark) ++ ((v1.drop 0).take (((x3).toNat) - 0))) ++ ([x6] : List TR08Mark)) ++ ((v1.drop ((x3).toNat)).take (v1.length - ((x3).toNat)))), oi H2⟩ [(106, 117)] [_, _] R ⟨R, R, R, trivial⟩ ⟨R, (fun _ => R), R, (lrow_ren R), trivial⟩ R
     ·
      rintro ⟨_, rfl⟩
      show G _ _ [(0, SV.raw s0), (3, .a (.c (.nv 106))), (4, .a (.c (.v (.int .i64 v2))))] [(0, some (rd S W0)), (106, some (lrow 106 52 eTR08Mark 8 x2))] _ _
      exact G.rg <| K.mv R R <| K.bin (V := .int .i64 (w64 (v2 + 1))) g0 R R (fun _ => R) R <| K.as R R <| K.nil <| At.ag ⟨(n0, (x2, (w64 (v2 + 1)))), H1⟩ [(105, 106)] [_, _] (Nat.lt_succ_self _) R ⟨R, R, R, trivial⟩ ⟨R, (fun _ => R), R, (lrow_ren R), trivial⟩ R
    ·
     replace H1 := bif_f H1 h1
     exact G.exit <| At.over_exit <| At.over_exit <| At.block_hit <| At.jd ⟨v1, oi H1⟩ [(102, 105)] [_, _] R ⟨R, trivial⟩ ⟨R, (fun _ => R), R, (lrow_ren R), trivial⟩ R
 ·
  rintro ⟨_, rfl⟩
  show G _ _ [(3, .a (.c (.nv 102)))] [(0, some (rd S W0)), (102, some (lrow 102 52 eTR08Mark 8 x1))] _ _
  exact G.seq <| G.rg <| K.mv R R <| K.as R R <| K.nil <| At.next <| G.ret <| At.ren (fs' := [(2, .a (.c (.nv 30)))]) (tl := [(0, rd S W0), (30, lrow 30 52 eTR08Mark 8 x1)]) [(30, 102)] [_, _] R ⟨R, trivial⟩ ⟨R, (fun _ => R), R, (lrow_ren R), trivial⟩ R <| At.dr Y [2] R R (by cases H0; rfl) (by cases H0; rfl) R R R
theorem R10_Timed_con {k : Nat}  {S : Foot} {W0 : World} {s0 : Value} {l0 : List TR08Mark} {r : List TR08Mark} (hL0 : LArg S W0 s0 eTR08Mark 8 l0) (H0 : R10_Timed.f k l0 = some r) (m30 : Nat) (hd : ndB [m30] = true) : R10_Timed_st S W0 s0 r m30 :=
 SCon.ren (rn [(30, m30)]) (R10_Timed_con0 (k := k)  hL0 H0) ⟨(fun _ => R), trivial⟩ ⟨(fun _ => R), (lrow_ren R), trivial⟩ (rn_nd hd R R) (rn_ks hd R R R)
end Go.Proofs.Ythcehagablploaa
namespace Go.Proofs.Ythcehagablploaa
open Go Go.Proofs.Ythcehagablploaa.Sx
def vGet {α : Type} (z : α) (p : Pool α) (i g : Int) : Option ((α × Bool) × Pool α) := bif decide (pOk p) then some (p.get z i g) else none
def VTree_New.f {E A : Type} (O : Ops E A) (k : Nat) (a0 : Int) : Option (TRef × Pool (TNode E A)) := some (zTRef, (⟨[], [], capOf a0, 0, 0⟩ : Pool (TNode E A)))
def Vwave_New.f (k : Nat) (a0 : Int) : Option (TRef × Pool (TNode TMark TSwell)) := (VTree_New.f opsM k a0).bind fun x1 => some (x1.1, x1.2)
def VTree_get.f {E A : Type} (O : Ops E A) (k : Nat) (p1 : Pool (TNode E A)) (a1 : TRef) : Option (TNode E A × Pool (TNode E A)) := bif (a1.gen == 0) then (some ((zNode O), p1)) else ((vGet (zNode O) p1 a1.index a1.gen).bind fun x1 => some (x1.1.1, x1.2))
def VTree_weight.f {E A : Type} (O : Ops E A) (k : Nat) (p1 : Pool (TNode E A)) (a1 : TRef) : Option (Int × Pool (TNode E A)) := (VTree_get.f O k p1 a1).bind fun x1 => some ((w64 (x1.1.size + 1)), x1.2)
def VTree_lay.f {E A : Type} (O : Ops E A) (k : Nat) (p1 : Pool (TNode E A)) (a1 : TRef) (a2 : TRef) (a3 : TRef) : Option (TRef × Pool (TNode E A)) := (VTree_get.f O k p1 a1).bind fun x1 => (VTree_get.f O k x1.2 a2).bind fun x2 => (VTree_get.f O k x2.2 a3).bind fun x3 => (O.sum k x1.1.e).bind fun x4 => (O.plus k x2.1.sum x4).bind fun x5 => (O.plus k x5 x3.1.sum).bind fun x6 => (pSet x3.2 a1.index a1.gen (TNode.mk x1.1.e a2 a3 (w64 ((w64 (x2.1.size + 1)) + x3.1.size)) x6)).bind fun x7 => some (a1, x7.2)
def VTree_turnRight.f {E A : Type} (O : Ops E A) (k : Nat) (p1 : Pool (TNode E A)) (a1 : TRef) : Option (TRef × Pool (TNode E A)) := (VTree_get.f O k p1 a1).bind fun x1 => (VTree_get.f O k x1.2 x1.1.left).bind fun x2 => (VTree_lay.f O k x2.2 a1 x2.1.right x1.1.right).bind fun x3 => (VTree_lay.f O k x3.2 x1.1.left x2.1.left a1).bind fun x4 => some (x4.1, x4.2)
def VTree_turnLeft.f {E A : Type} (O : Ops E A) (k : Nat) (p1 : Pool (TNode E A)) (a1 : TRef) : Option (TRef × Pool (TNode E A)) := (VTree_get.f O k p1 a1).bind fun x1 => (VTree_get.f O k x1.2 x1.1.right).bind fun x2 => (VTree_lay.f O k x2.2 a1 x1.1.left x2.1.left).bind fun x3 => (VTree_lay.f O k x3.2 x1.1.right a1 x2.1.right).bind fun x4 => some (x4.1, x4.2)
def VTree_balance.f {E A : Type} (O : Ops E A) (k : Nat) (p1 : Pool (TNode E A)) (a1 : TRef) : Option (TRef × Pool (TNode E A)) := (VTree_get.f O k p1 a1).bind fun x1 => (VTree_weight.f O k x1.2 x1.1.left).bind fun x2 => (VTree_weight.f O k x2.2 x1.1.right).bind fun x3 => bif (decide (x3.1 > (w64 (3 * x2.1)))) then ((VTree_get.f O k x3.2 x1.1.right).bind fun x4 => (VTree_weight.f O k x4.2 x4.1.left).bind fun x5 => (VTree_weight.f O k x5.2 x4.1.right).bind fun x6 => bif (decide (x5.1 ≥ (w64 (2 * x6.1)))) then ((VTree_turnRight.f O k x6.2 x1.1.right).bind fun x7 => (VTree_lay.f O k x7.2 a1 x1.1.left x7.1).bind fun x8 => (VTree_turnLeft.f O k x8.2 a1).bind fun x9 => some (x9.1, x9.2)) else ((VTree_turnLeft.f O k x6.2 a1).bind fun x10 => some (x10.1, x10.2))) else (bif (decide (x2.1 > (w64 (3 * x3.1)))) then ((VTree_get.f O k x3.2 x1.1.left).bind fun x11 => (VTree_weight.f O k x11.2 x11.1.right).bind fun x12 => (VTree_weight.f O k x12.2 x11.1.left).bind fun x13 => bif (decide (x12.1 ≥ (w64 (2 * x13.1)))) then ((VTree_turnLeft.f O k x13.2 x1.1.left).bind fun x14 => (VTree_lay.f O k x14.2 a1 x14.1 x1.1.right).bind fun x15 => (VTree_turnRight.f O k x15.2 a1).bind fun x16 => some (x16.1, x16.2)) else ((VTree_turnRight.f O k x13.2 a1).bind fun x17 => some (x17.1, x17.2))) else (some (a1, x3.2)))
def VTree_link.r {E A : Type} (O : Ops E A) (k : Nat) : Nat → Pool (TNode E A) → TRef → TRef → TRef → Option (TRef × Pool (TNode E A))
  | 0, _, _, _, _ => none
  | n + 1, p1, a1, a2, a3 => (VTree_weight.f O k p1 a1).bind fun x1 => (VTree_weight.f O k x1.2 a3).bind fun x2 => bif (decide (x2.1 > (w64 (3 * x1.1)))) then ((VTree_get.f O k x2.2 a3).bind fun x3 => (VTree_link.r O k n x3.2 a1 a2 x3.1.left).bind fun x4 => (VTree_lay.f O k x4.2 a3 x4.1 x3.1.right).bind fun x5 => (VTree_balance.f O k x5.2 x5.1).bind fun x6 => some (x6.1, x6.2)) else (bif (decide (x1.1 > (w64 (3 * x2.1)))) then ((VTree_get.f O k x2.2 a1).bind fun x7 => (VTree_link.r O k n x7.2 x7.1.right a2 a3).bind fun x8 => (VTree_lay.f O k x8.2 a1 x7.1.left x8.1).bind fun x9 => (VTree_balance.f O k x9.2 x9.1).bind fun x10 => some (x10.1, x10.2)) else ((VTree_lay.f O k x2.2 a2 a1 a3).bind fun x11 => some (x11.1, x11.2)))
def VTree_link.f {E A : Type} (O : Ops E A) (k : Nat) (p1 : Pool (TNode E A)) (a1 : TRef) (a2 : TRef) (a3 : TRef) : Option (TRef × Pool (TNode E A)) := VTree_link.r O k k p1 a1 a2 a3
def VTree_put.r {E A : Type} (O : Ops E A) (k : Nat) : Nat → Pool (TNode E A) → TRef → E → Option (TRef × Bool × Pool (TNode E A))
  | 0, _, _, _ => none
  | n + 1, p1, a1, a2 => bif (a1.gen == 0) then ((O.sum k a2).bind fun x1 => (pPut (zNode O) p1 (TNode.mk a2 zTRef zTRef 1 x1)).bind fun x2 => some ((TRef.mk x2.1.1.1 x2.1.1.2), x2.1.2, x2.2)) else ((VTree_get.f O k p1 a1).bind fun x3 => (O.cmp k a2 x3.1.e).bind fun x4 => bif (decide (x4 < 0)) then ((VTree_put.r O k n x3.2 x3.1.left a2).bind fun x5 => bif (!x5.2.1) then (some (a1, false, x5.2.2)) else ((VTree_link.f O k x5.2.2 x5.1 a1 x3.1.right).bind fun x6 => some (x6.1, true, x6.2))) else (bif (decide (x4 > 0)) then ((VTree_put.r O k n x3.2 x3.1.right a2).bind fun x7 => bif (!x7.2.1) then (some (a1, false, x7.2.2)) else ((VTree_link.f O k x7.2.2 x3.1.left a1 x7.1).bind fun x8 => some (x8.1, true, x8.2))) else ((pSet x3.2 a1.index a1.gen (TNode.mk a2 x3.1.left x3.1.right x3.1.size x3.1.sum)).bind fun x9 => (VTree_lay.f O k x9.2 a1 x3.1.left x3.1.right).bind fun x10 => some (x10.1, true, x10.2))))
def VTree_put.f {E A : Type} (O : Ops E A) (k : Nat) (p1 : Pool (TNode E A)) (a1 : TRef) (a2 : E) : Option (TRef × Bool × Pool (TNode E A)) := VTree_put.r O k k p1 a1 a2
def VTree_Put.f {E A : Type} (O : Ops E A) (k : Nat) (p1 : Pool (TNode E A)) (rt0 : TRef) (a1 : E) : Option (Bool × TRef × Pool (TNode E A)) := (VTree_put.f O k p1 rt0 a1).bind fun x1 => bif x1.2.1 then (some (x1.2.1, x1.1, x1.2.2)) else (some (x1.2.1, rt0, x1.2.2))
def VLw10_Tree.l0 (k : Nat) (l0 : List TR08Mark) : Nat → (Pool (TNode TMark TSwell) × Int × Int × Int) → Option (Pool (TNode TMark TSwell) × Int × Int)
  | 0, _ => none
  | n + 1, (v1, v2, v3, v4) => bif (decide (v4 < (l0.length : Int))) then ((atL l0 v4).bind fun x3 => (VTree_Put.f opsM k v1 (TRef.mk v2 v3) (TMark.mk x3.op x3.here x3.took)).bind fun x4 => VLw10_Tree.l0 k l0 n (x4.2.2, x4.2.1.index, x4.2.1.gen, (w64 (v4 + 1)))) else (some (v1, v2, v3))
def VLw10_Tree.f (k : Nat) (l0 : List TR08Mark) : Option (TRef × Pool (TNode TMark TSwell)) := (Vwave_New.f k (l0.length : Int)).bind fun x1 => (VLw10_Tree.l0 k l0 k (x1.2, x1.1.index, x1.1.gen, 0)).bind fun x2 => some ((TRef.mk x2.2.1 x2.2.2), x2.1)
def VTree_Len.f {E A : Type} (O : Ops E A) (k : Nat) (p1 : Pool (TNode E A)) (rt0 : TRef) : Option (Int × Pool (TNode E A)) := (VTree_get.f O k p1 rt0).bind fun x1 => some (x1.1.size, x1.2)
def Vbridge_clamp.f (k : Nat) (p1 : Pool (TNode TMark TSwell)) (rt0 : TRef) (a1 : Int) : Option (Int × Pool (TNode TMark TSwell)) := (VTree_Len.f opsM k p1 rt0).bind fun x1 => some ((gmin (gmax a1 0) x1.1), x1.2)
def VTree_between.r {E A : Type} (O : Ops E A) (k : Nat) : Nat → Pool (TNode E A) → TRef → Int → Int → Option (A × Pool (TNode E A))
  | 0, _, _, _, _ => none
  | n + 1, p1, a1, a2, a3 => (VTree_get.f O k p1 a1).bind fun x1 => (bif (decide (a2 ≥ a3)) then (some (Sum.inl (O.zA, x1.2))) else (bif (decide (a2 ≥ x1.1.size)) then (some (Sum.inl (O.zA, x1.2))) else (bif (decide (a3 ≤ 0)) then (some (Sum.inl (O.zA, x1.2))) else (bif (x1.1.size == 0) then (some (Sum.inl (O.zA, x1.2))) else (some (Sum.inr ())))))).bind (Sum.elim (fun r => some r) (fun w2 => (bif (decide (a2 ≤ 0)) then (bif (decide (a3 ≥ x1.1.size)) then (some (Sum.inl (x1.1.sum, x1.2))) else (some (Sum.inr ()))) else (some (Sum.inr ()))).bind (Sum.elim (fun r => some r) (fun w3 => (VTree_get.f O k x1.2 x1.1.left).bind fun x4 => (VTree_between.r O k n x4.2 x1.1.left a2 a3).bind fun x5 => (bif (decide (a2 ≤ x4.1.size)) then (bif (decide (a3 > x4.1.size)) then ((O.sum k x1.1.e).bind fun x7 => (O.plus k x5.1 x7).bind fun x8 => some x8) else (some x5.1)) else (some x5.1)).bind fun x6 => (VTree_between.r O k n x5.2 x1.1.right (w64 ((w64 (a2 - x4.1.size)) - 1)) (w64 ((w64 (a3 - x4.1.size)) - 1))).bind fun x9 => (O.plus k x6 x9.1).bind fun x10 => some (x10, x9.2)))))
def VTree_between.f {E A : Type} (O : Ops E A) (k : Nat) (p1 : Pool (TNode E A)) (a1 : TRef) (a2 : Int) (a3 : Int) : Option (A × Pool (TNode E A)) := VTree_between.r O k k p1 a1 a2 a3
def VTree_Between.f {E A : Type} (O : Ops E A) (k : Nat) (p1 : Pool (TNode E A)) (rt0 : TRef) (a1 : Int) (a2 : Int) : Option (A × Pool (TNode E A)) := (VTree_Len.f O k p1 rt0).bind fun x1 => (VTree_between.f O k x1.2 rt0 (gmin (gmax a1 0) x1.1) (gmin (gmax a2 0) x1.1)).bind fun x2 => some (x2.1, x2.2)
def Vbridge_Height.f (k : Nat) (p1 : Pool (TNode TMark TSwell)) (rt0 : TRef) (a1 : Int) (a2 : Int) : Option (Int × Pool (TNode TMark TSwell)) := (VTree_Between.f opsM k p1 rt0 0 a1).bind fun x1 => some ((w64 (a2 + x1.1.weight.sum)), x1.2)
def VTree_first.r {E A : Type} (O : Ops E A) (k : Nat) : Nat → Pool (TNode E A) → TRef → Int → A → (A → A → Option Bool) → Option (Int × A × Pool (TNode E A))
  | 0, _, _, _, _, _ => none
  | n + 1, p1, a1, a2, a3, fn4 => (VTree_get.f O k p1 a1).bind fun x1 => (bif (x1.1.size == 0) then ((O.plus k a3 x1.1.sum).bind fun x3 => some (Sum.inl ((-1), x3, x1.2))) else (bif (decide (a2 ≥ x1.1.size)) then ((O.plus k a3 x1.1.sum).bind fun x4 => some (Sum.inl ((-1), x4, x1.2))) else (bif (decide (a2 ≤ 0)) then ((fn4 a3 x1.1.sum).bind fun x5 => bif (!x5) then ((O.plus k a3 x1.1.sum).bind fun x6 => some (Sum.inl ((-1), x6, x1.2))) else (some (Sum.inr ()))) else (some (Sum.inr ()))))).bind (Sum.elim (fun r => some r) (fun w2 => (VTree_get.f O k x1.2 x1.1.left).bind fun x7 => (VTree_first.r O k n x7.2 x1.1.left a2 a3 fn4).bind fun x8 => bif (decide (x8.1 ≥ 0)) then (some (x8.1, x8.2.1, x8.2.2)) else ((O.sum k x1.1.e).bind fun x9 => (bif (decide (a2 ≤ x7.1.size)) then ((fn4 x8.2.1 x9).bind fun x11 => bif x11 then (some (Sum.inl (x7.1.size, x8.2.1, x8.2.2))) else (some (Sum.inr ()))) else (some (Sum.inr ()))).bind (Sum.elim (fun r => some r) (fun w10 => (O.plus k x8.2.1 x9).bind fun x12 => (VTree_first.r O k n x8.2.2 x1.1.right (w64 ((w64 (a2 - x7.1.size)) - 1)) x12 fn4).bind fun x13 => bif (decide (x13.1 ≥ 0)) then (some ((w64 (x13.1 + (w64 (x7.1.size + 1)))), x13.2.1, x13.2.2)) else (some (x13.1, x13.2.1, x13.2.2)))))))
def VTree_first.f {E A : Type} (O : Ops E A) (k : Nat) (p1 : Pool (TNode E A)) (a1 : TRef) (a2 : Int) (a3 : A) (fn4 : A → A → Option Bool) : Option (Int × A × Pool (TNode E A)) := VTree_first.r O k k p1 a1 a2 a3 fn4
def VTree_First.f {E A : Type} (O : Ops E A) (k : Nat) (p1 : Pool (TNode E A)) (rt0 : TRef) (a1 : Int) (fn2 : A → A → Option Bool) : Option (Int × Pool (TNode E A)) := (VTree_Len.f O k p1 rt0).bind fun x1 => (VTree_first.f O k x1.2 rt0 (gmin (gmax a1 0) x1.1) O.zA fn2).bind fun x2 => some (x2.1, x2.2.2)
def Vbridge_Next.f (k : Nat) (p1 : Pool (TNode TMark TSwell)) (rt0 : TRef) (a1 : Int) (a2 : Int) : Option (Int × Pool (TNode TMark TSwell)) := (Vbridge_clamp.f k p1 rt0 a1).bind fun x1 => (Vbridge_Height.f k x1.2 rt0 x1.1 a2).bind fun x2 => bif (decide (x2.1 ≤ 0)) then (some (x1.1, x2.2)) else ((bridge_low.f k a2).bind fun x3 => (VTree_First.f opsM k x2.2 rt0 x1.1 (fun z0 z1 => bridge_low_1.f k z0 z1 x3)).bind fun x4 => bif (decide (x4.1 ≥ 0)) then (some ((w64 (x4.1 + 1)), x4.2)) else (some ((-1), x4.2)))
def VTree_lastOf.r {E A : Type} (O : Ops E A) (k : Nat) : Nat → Pool (TNode E A) → TRef → Int → A → (A → A → Option Bool) → Option (Int × Pool (TNode E A))
  | 0, _, _, _, _, _ => none
  | n + 1, p1, a1, a2, a3, fn4 => (VTree_get.f O k p1 a1).bind fun x1 => (bif (x1.1.size == 0) then (some (Sum.inl ((-1), x1.2))) else (bif (decide (a2 ≤ 0)) then (some (Sum.inl ((-1), x1.2))) else (bif (decide (a2 ≥ x1.1.size)) then ((fn4 a3 x1.1.sum).bind fun x3 => bif (!x3) then (some (Sum.inl ((-1), x1.2))) else (some (Sum.inr ()))) else (some (Sum.inr ()))))).bind (Sum.elim (fun r => some r) (fun w2 => (VTree_get.f O k x1.2 x1.1.left).bind fun x4 => (O.plus k a3 x4.1.sum).bind fun x5 => (O.sum k x1.1.e).bind fun x6 => (O.plus k x5 x6).bind fun x7 => (VTree_lastOf.r O k n x4.2 x1.1.right (w64 ((w64 (a2 - x4.1.size)) - 1)) x7 fn4).bind fun x8 => bif (decide (x8.1 ≥ 0)) then (some ((w64 ((w64 (x8.1 + x4.1.size)) + 1)), x8.2)) else (bif (decide (a2 > x4.1.size)) then ((fn4 x5 x6).bind fun x9 => bif x9 then (some (x4.1.size, x8.2)) else ((VTree_lastOf.r O k n x8.2 x1.1.left a2 a3 fn4).bind fun x10 => some (x10.1, x10.2))) else ((VTree_lastOf.r O k n x8.2 x1.1.left a2 a3 fn4).bind fun x11 => some (x11.1, x11.2)))))
def VTree_lastOf.f {E A : Type} (O : Ops E A) (k : Nat) (p1 : Pool (TNode E A)) (a1 : TRef) (a2 : Int) (a3 : A) (fn4 : A → A → Option Bool) : Option (Int × Pool (TNode E A)) := VTree_lastOf.r O k k p1 a1 a2 a3 fn4
def VTree_Last.f {E A : Type} (O : Ops E A) (k : Nat) (p1 : Pool (TNode E A)) (rt0 : TRef) (a1 : Int) (fn2 : A → A → Option Bool) : Option (Int × Pool (TNode E A)) := (VTree_Len.f O k p1 rt0).bind fun x1 => (VTree_lastOf.f O k x1.2 rt0 (gmin (gmax a1 0) x1.1) O.zA fn2).bind fun x2 => some (x2.1, x2.2)
def Vbridge_Prior.f (k : Nat) (p1 : Pool (TNode TMark TSwell)) (rt0 : TRef) (a1 : Int) (a2 : Int) : Option (Int × Pool (TNode TMark TSwell)) := (Vbridge_clamp.f k p1 rt0 a1).bind fun x1 => (bridge_low.f k a2).bind fun x2 => (VTree_Last.f opsM k x1.2 rt0 x1.1 (fun z0 z1 => bridge_low_1.f k z0 z1 x2)).bind fun x3 => bif (decide (x3.1 ≥ 0)) then (some ((w64 (x3.1 + 1)), x3.2)) else (bif (decide (a2 ≤ 0)) then (some (0, x3.2)) else (some ((-1), x3.2)))
def VLw10_awake.f (k : Nat) : Option (Bool) := (VLw10_Tree.f k ([(TR08Mark.mk (TOp.mk 1 true zTItem) false zTTook), (TR08Mark.mk (TOp.mk 2 false zTItem) false zTTook)] : List TR08Mark)).bind fun x1 => (Vbridge_Next.f k x1.2 x1.1 0 0).bind fun x2 => bif (x2.1 == 0) then ((Vbridge_Next.f k x2.2 x1.1 1 0).bind fun x3 => bif (x3.1 == 2) then ((Vbridge_Prior.f k x3.2 x1.1 1 0).bind fun x4 => bif (x4.1 == 0) then ((Vbridge_Prior.f k x4.2 x1.1 2 0).bind fun x5 => bif (x5.1 == 2) then ((Vbridge_Height.f k x5.2 x1.1 1 0).bind fun x6 => some (x6.1 == 1)) else (some false)) else (some false)) else (some false)) else (some false)
def R07_Height.l0 (k : Nat) : Nat → (Int × Int) → Option (Int)
  | 0, _ => none
  | n + 1, (v1, v2) => bif (decide (v2 > 1)) then (R07_Height.l0 k n ((w64 (v1 + 3)), (w64 (v2.tdiv 2)))) else (some v1)
def R07_Height.f (k : Nat) (a0 : Int) : Option (Int) := (R07_Height.l0 k k (2, (w64 (a0 + 1)))).bind fun x1 => some x1
def VTree_Visits.f {E A : Type} (O : Ops E A) (k : Nat) (p1 : Pool (TNode E A)) : Option (Int) := some p1.vis
def Vbridge_Best.f (k : Nat) (p1 : Pool (TNode TMark TSwell)) (rt0 : TRef) (a1 : Int) : Option (TTook × Pool (TNode TMark TSwell)) := (Vbridge_clamp.f k p1 rt0 a1).bind fun x1 => (VTree_Len.f opsM k x1.2 rt0).bind fun x2 => (VTree_Between.f opsM k x2.2 rt0 x1.1 x2.1).bind fun x3 => some (x3.1.gone, x3.2)
def Vbridge_Least.f (k : Nat) (p1 : Pool (TNode TMark TSwell)) (rt0 : TRef) (a1 : Int) : Option (TTook × Pool (TNode TMark TSwell)) := (Vbridge_clamp.f k p1 rt0 a1).bind fun x1 => (VTree_Between.f opsM k x1.2 rt0 0 x1.1).bind fun x2 => some (x2.1.least, x2.2)
def VLw10_BridgeVisits.f (k : Nat) (l0 : List TR08Mark) (a1 : Int) (a2 : Int) : Option (Bool) := ((VLw10_awake.f k).bind fun x2 => bif (!x2) then ((VLw10_awake.f k).bind fun x3 => some (Sum.inl x3)) else ((Lw10_small.f k l0 a2).bind fun x4 => bif (!x4) then ((VLw10_awake.f k).bind fun x5 => some (Sum.inl x5)) else (some (Sum.inr ())))).bind (Sum.elim (fun r => some r) (fun w1 => (VLw10_Tree.f k l0).bind fun x6 => (VTree_Len.f opsM k x6.2 x6.1).bind fun x7 => (R07_Height.f k x7.1).bind fun x8 => (VTree_Visits.f opsM k x7.2).bind fun x9 => (Vbridge_Next.f k x7.2 x6.1 a1 a2).bind fun x10 => (VTree_Visits.f opsM k x10.2).bind fun x11 => (VTree_Visits.f opsM k x10.2).bind fun x12 => (Vbridge_Prior.f k x10.2 x6.1 a1 a2).bind fun x13 => (VTree_Visits.f opsM k x13.2).bind fun x14 => (VTree_Visits.f opsM k x13.2).bind fun x15 => (Vbridge_Best.f k x13.2 x6.1 a1).bind fun x16 => (Vbridge_Least.f k x16.2 x6.1 a1).bind fun x17 => (VTree_Visits.f opsM k x17.2).bind fun x18 => bif (decide ((w64 (x11 - x9)) ≤ (w64 (1000 * (w64 (x8 + 4)))))) then (bif (decide ((w64 (x14 - x12)) ≤ (w64 (1000 * (w64 (x8 + 4)))))) then (bif (decide ((w64 (x18 - x15)) ≤ (w64 (2 * (w64 (1000 * (w64 (x8 + 4)))))))) then ((VTree_Len.f opsM k x17.2 x6.1).bind fun x19 => (R10_Timed.f k l0).bind fun x20 => some (x19.1 == (x20.length : Int))) else (some false)) else (some false)) else (some false)))
end Go.Proofs.Ythcehagablploaa
namespace Go.Proofs.Ythcehagablploaa.Sx
open Go
def starRes (L : List Res) : Res where
  holds := Star L
  loc hw h := h.loc hw
  lt h hb := h.lt hb
def adEnv (a : Nat → Nat) : Env := fun k => ⟨a k, undef⟩
def eltRes (l : List (Nat × Tok)) (a : Nat → Nat) : Res := starRes (l.map fun p => p.2.r (adEnv a))
section
variable {σ : Type}
def hpL (toks : σ → List (Nat × Tok)) (A : List (Nat → Nat)) (Q : List σ) : List Res := List.zipWith (fun a q => eltRes (toks q) a) A Q
def hp (k : Nat) (toks : σ → List (Nat × Tok)) (A : List (Nat → Nat)) (Q : List σ) : Tok where
  ks := []
  r _ := starRes (hpL toks A Q)
  sup _ := rfl
end
end Go.Proofs.Ythcehagablploaa.Sx
namespace Go.Proofs.Ythcehagablploaa.Sx
open Go
section
variable {P : Program} {n : Nat} {ops : Array Oper} {rest : List Oper} {fs fs' : FL} {L L' : TL} {ss : List Step}
end
section
variable {P : Program} {n : Nat} {ops : Array Oper} {rest : List Oper} {fs : FL} {L : TL} {K : List Step → FL → TL → Prop} {d : Nat} {az : Array Operand} {ats : Array TypeId} {ty : TypeId} {pos : String} {after : Array Edge} {g : Option (Nat × Bool)} {gr : FL} {f : FuncId} {args : List SV} {ti to : List (Nat × Tok)} {fr : List Nat} {args' : Env → List SV}
end
end Go.Proofs.Ythcehagablploaa.Sx
namespace Go.Proofs.Ythcehagablploaa.Sx
open Go
def SConAt (β : Env) (P : Program) (f : FuncId) (args : List SV) (ti : List (Nat × Tok)) (ret : SV) (to : List (Nat × Tok)) (fr : List Nat) : Prop :=
  ∀ (w : World) (F : Foot), Star (ti.map fun p => p.2.r β) w F → Calls P f (args.map (SV.den β)).toArray w (Ret F w fr β ret to)
section
variable {P : Program} {n : Nat} {ops : Array Oper} {rest : List Oper} {fs fs' : FL} {L L' : TL} {ss : List Step}
theorem Run.callA {d : Nat} {c : Call} {ty : TypeId} {pos : String} {after : Array Edge} {g : Option (Nat × Bool)} {gr : FL} {f : FuncId} {args : List SV} {ret : SV} {fr : List Nat} (l : List (Operand × SV)) (tr ti to : List (Nat × Tok))
    (hs : ∀ (β : Env) (w : World) (S : Foot), Star (tr.map fun p => p.2.r β) w S → SConAt β P f args ((0, rd S w) :: ti) ret ((0, rd S w) :: to) fr)
    (hc : ToFn P c ty l f args) (hg : Gd ops ⟨some d, .call c, ty, pos, after, g⟩ fs gr) (hev : ∀ p ∈ l, ev fs p.1 = some p.2)
    (htk : ∀ p ∈ tr ++ ti, lkT L p.1 = some p.2) (hnd : ((tr ++ ti).map (·.1)).Nodup) (hnd' : ((tr ++ to).map (·.1)).Nodup) (hsub : ∀ p ∈ ti, p.1 ∈ to.map (·.1)) (hout : ∀ p ∈ to, p.1 ∈ ti.map (·.1) ∨ lkT L p.1 = none)
    (hfr : frB fr fs L = true) (hn : Nat.blt d n = true)
    (h : Run P n ops rest ((d, ret) :: fs) (to.map (fun p => (p.1, some p.2)) ++ L) ss fs' L') : Run P n ops (⟨some d, .call c, ty, pos, after, g⟩ :: rest) fs L (⟨gr ++ opds l, some d, ret, tr, ti, to, fr⟩ :: ss) fs' L' := by
  obtain ⟨f1, f2, f3⟩ := frB_spec hfr
  refine Run.cons ?_ ?_ ?_ (fun j => ?_) h
  · intro β a w G K Q hrs hsz hst hK
    have hw := hg.wanted hrs hsz
    unfold opW Oper.wp
    rw [if_pos hw]
    have h1 := hc β a.eval w (opds_eval hg hev hrs)
    simp only [execOp]
    rw [h1, Oper.upon_enter]
    rw [List.map_append] at hst
    obtain ⟨S, F2, e, dj, hS, hT⟩ := Star_append.1 hst
    have hin : Star (((0, rd S w) :: ti).map fun p => p.2.r β) w G := ⟨S, F2, e, dj, ⟨fun b => Iff.rfl, fun b hb => ⟨hS.lt hb, rfl⟩⟩, hT⟩
    have hcall := hs β w S hS w G hin
    refine hcall.mono (fun e' w' he => ?_)
    obtain ⟨β', hb, rfl, F', h2, h3, h4⟩ := he
    obtain ⟨S', F3, eF, dF, hS', hT'⟩ := h2
    have hS2 : Star (tr.map fun p => p.2.r β') w' S := by
      have : (tr.map fun p => p.2.r β') = tr.map fun p => p.2.r β := List.map_congr_left (fun p hp => (p.2.sup (fun k hk => hb k (f3 p.1 p.2 (htk p (List.mem_append_left _ hp)) k hk))))
      rw [this]
      exact hS.loc (fun b hb => (hS'.2 b hb).2)
    refine hK β' w' F' hb ?_ h3 h4
    rw [List.map_append]
    have eS : ∀ b, S' b ↔ S b := hS'.1
    exact Star_append.2 ⟨S, F3, fun b => by rw [eF b, eS b], fun b h1 h2 => dF b ((eS b).2 h1) h2, hS2, hT'⟩
  · refine ⟨fun t z hz => ?_, fun d' hd' => ?_, htk, hnd, hnd', hout, f1, f2, fun j t hj _ => f3 j t hj⟩
    · rw [lk_append] at hz
      cases hx' : lk gr t with
      | some z' => rw [hx'] at hz; simp at hz; subst hz; exact hg.fs hx'
      | none => rw [hx'] at hz; simp at hz; exact opds_fs hev hz
    · simp at hd'; subst hd'
      rw [Nat.blt_eq] at hn
      exact hn
  · simp only [Step.outF, lk_cons]
  · rw [Step.outM_eq]
    have e1 : ∀ (to : List (Nat × Tok)), lkT (to.map (fun p => (p.1, some p.2)) ++ L) j = (lkP to j).or (lkT L j) := by
      intro to
      induction to with
      | nil => simp [lkP]
      | cons p to ih =>
        rw [List.map_cons, List.cons_append, lkT_cons]
        simp only [upd, lkP]
        split <;> simp [ih]
    rw [e1]
    cases hp : lkP to j with
    | some x => rfl
    | none =>
      simp only [Option.none_or]
      rw [if_neg]
      intro hm
      obtain ⟨p, hp', rfl⟩ := List.mem_map.1 hm
      obtain ⟨q, hq, e⟩ := List.mem_map.1 (hsub p hp')
      have : ∀ l : List (Nat × Tok), q ∈ l → lkP l p.1 ≠ none := by
        intro l
        induction l with
        | nil => intro h; cases h
        | cons r l ih =>
          intro h
          simp only [lkP]
          split
          · simp
          · rename_i hne
            rcases List.mem_cons.1 h with rfl | h
            · exact absurd e.symm hne
            · exact ih h
      exact this to hq hp
end
section
variable {P : Program} {n : Nat} {ops : Array Oper} {rest : List Oper} {fs : FL} {L : TL} {K : List Step → FL → TL → Prop} {d : Nat} {az : Array Operand} {ats : Array TypeId} {ty : TypeId} {pos : String} {after : Array Edge} {g : Option (Nat × Bool)} {gr : FL} {f : FuncId} {ti to : List (Nat × Tok)} {fr : List Nat} {ret : SV}
theorem K.cA (hf : fnB P f = true) (ks : List Nat) (hs : ∀ (β : Env) (w : World) (S : Foot), Star ((getT L ks).map fun p => p.2.r β) w S → SConAt β P f ((opl fs az).map (·.2)) ((0, rd S w) :: ti) ret ((0, rd S w) :: to) fr) (hg : Gd ops ⟨some d, .call ⟨.value (.func f), az, ats⟩, ty, pos, after, g⟩ fs gr)
    (hev : az.toList.all (fun o => (ev fs o).isSome) = true) (htk : getT L (ti.map (·.1)) = ti)
    (hb : (ndB ((getT L ks ++ ti).map (·.1)) && (ndB ((getT L ks ++ to).map (·.1)) && (ti.all (fun p => (to.map (·.1)).contains p.1) && (to.all (fun p => (ti.map (·.1)).contains p.1 || (lkT L p.1).isNone) && (frB fr fs L && Nat.blt d n))))) = true)
    (h : RunK P n ops rest ((d, ret) :: fs) (to.map (fun p => (p.1, some p.2)) ++ L) (fun ss fs' L' => K (⟨gr ++ opds (fnl f fs az), some d, ret, getT L ks, ti, to, fr⟩ :: ss) fs' L')) : RunK P n ops (⟨some d, .call ⟨.value (.func f), az, ats⟩, ty, pos, after, g⟩ :: rest) fs L K := by
  simp only [Bool.and_eq_true] at hb
  have ht : AllT L (getT L ks ++ ti) := by
    have : ∀ l : List (Nat × Tok), AllT L l → AllT L (l ++ ti) := fun l => by
      induction l with
      | nil => intro _; exact getT_of htk
      | cons p l ih => intro h; exact ⟨h.1, ih h.2⟩
    exact this _ (getT_all _)
  refine RunK.of (fun _ _ _ h => Run.callA (fnl f fs az) (getT L ks) ti to hs (fnl_to hf) hg (fnl_all hev).spec ht.spec (ndB_spec hb.1) (ndB_spec hb.2.1) (fun p hp => by simpa using List.all_eq_true.1 hb.2.2.1 p hp) (fun p hp => by
    have := List.all_eq_true.1 hb.2.2.2.1 p hp
    rw [Bool.or_eq_true] at this
    rcases this with h | h
    · exact .inl (by simpa using h)
    · exact .inr (by simpa using h)) hb.2.2.2.2.1 hb.2.2.2.2.2 h) h
end
theorem SCon.rdBlk {P : Program} {f : FuncId} {args : List SV} {ret : SV} {ti to : List (Nat × Tok)} {fr : List Nat} {k T : Nat} {cs : List Cl} (h : SCon P f args ((k, blk k cs T) :: ti) ret ((k, blk k cs T) :: to) fr) (hfr : (blk k cs T).ks.all (fun j => !fr.contains j) = true) {β : Env} {w : World} {S : Foot} (hs : Star ([(k, blk k cs T)].map fun p => p.2.r β) w S) :
    SConAt β P f args ((0, rd S w) :: ti) ret ((0, rd S w) :: to) fr := by
  intro w1 F hst
  have hb := Star_one.1 hs
  obtain ⟨F1, F2, e, d, h1, h2⟩ := hst
  have hS : ∀ b, F1 b ↔ S b := h1.1
  have hW : ∀ b, S b → w1.heap[b]? = w.heap[b]? := fun b hb => (h1.2 b hb).2
  have hb1 := ((blk k cs T).r β).loc hW hb
  have hin : Star (((k, blk k cs T) :: ti).map fun p => p.2.r β) w1 F := ⟨S, F2, fun b => by rw [e b, hS b], fun b hb => d b ((hS b).2 hb), hb1, h2⟩
  refine (h β w1 F hin).mono (fun en w' he => ?_)
  obtain ⟨β', hβ, rfl, F', g1, g2, g3⟩ := he
  refine ⟨β', hβ, rfl, F', ?_, g2, g3⟩
  obtain ⟨G1, G2, e2, d2, k1, k2⟩ := g1
  have er : (blk k cs T).r β' = (blk k cs T).r β := (blk k cs T).sup (fun j hj => hβ j (by have := List.all_eq_true.1 hfr j hj; simpa using this))
  have k1' : ((blk k cs T).r β).holds w' G1 := by rw [← er]; exact k1
  have hb' := hb
  have eG : ∀ b, G1 b ↔ S b := fun b => by rw [k1'.1 b, hb'.1 b]
  exact ⟨G1, G2, e2, d2, ⟨eG, fun b hb => ⟨((blk k cs T).r β).lt k1' ((eG b).2 hb), by
    have hbk := (hb'.1 b).1 hb
    subst hbk
    exact k1'.2.trans hb'.2.symm⟩⟩, k2⟩
end Go.Proofs.Ythcehagablploaa.Sx

/- Typed rows: a slice's elements as a list of things. -/
import Derived.Test.YtheopcgjdfckmaaSxi
import Derived.Laws.Pointers
namespace Go.Proofs.Ytheopcgjdfckmaa.Sx
open Go
set_option linter.unusedVariables false

/-! ### 22. Lists of things as cells -/
section
variable {α : Type} {f : α → List Value} {s : Nat}
theorem chunk_len (hf : ∀ c, (f c).length = s) : ∀ l : List α, (l.flatMap f).length = l.length * s
  | [] => by simp
  | c :: l => by rw [List.flatMap_cons, List.length_append, hf, chunk_len hf l, List.length_cons, Nat.add_mul]; omega
theorem chunk_drop (hf : ∀ c, (f c).length = s) : ∀ (l : List α) (i : Nat), (l.flatMap f).drop (i * s) = (l.drop i).flatMap f
  | l, 0 => by simp
  | [], i + 1 => by simp
  | c :: l, i + 1 => by
    rw [List.flatMap_cons, List.drop_succ_cons, ← chunk_drop hf l i, List.drop_append]
    have : (i + 1) * s = (f c).length + i * s := by rw [hf, Nat.add_mul]; omega
    rw [this, List.drop_eq_nil_of_le (by omega)]
    simp
theorem chunk_take (hf : ∀ c, (f c).length = s) : ∀ (l : List α) (i : Nat), (l.flatMap f).take (i * s) = (l.take i).flatMap f
  | l, 0 => by simp
  | [], i + 1 => by simp
  | c :: l, i + 1 => by
    rw [List.flatMap_cons, List.take_succ_cons, List.flatMap_cons, ← chunk_take hf l i, List.take_append]
    have : (i + 1) * s = (f c).length + i * s := by rw [hf, Nat.add_mul]; omega
    rw [this, List.take_of_length_le (by omega)]
    simp
theorem chunk_at (hf : ∀ c, (f c).length = s) {l : List α} {i : Nat} {c : α} (h : l[i]? = some c) : ∃ r, (l.flatMap f).drop (i * s) = f c ++ r := by
  rw [chunk_drop hf]
  obtain ⟨hlt, he⟩ := List.getElem?_eq_some_iff.1 h
  rw [List.drop_eq_getElem_cons hlt, he]
  exact ⟨_, List.flatMap_cons⟩
theorem chunk_get (hf : ∀ c, (f c).length = s) {l : List α} {i : Nat} {c : α} (h : l[i]? = some c) {o : Nat} {v : Value} (hv : (f c)[o]? = some v) : (l.flatMap f)[i * s + o]? = some v := by
  obtain ⟨r, hr⟩ := chunk_at hf h
  rw [← List.getElem?_drop, hr, List.getElem?_append_left (List.getElem?_eq_some_iff.1 hv).1, hv]
theorem chunk_slice (hf : ∀ c, (f c).length = s) {l : List α} {i : Nat} {c : α} (h : l[i]? = some c) {o N : Nat} {ys : List Value} (hv : ((f c).drop o).take N = ys) (hN : o + N ≤ s) : ((l.flatMap f).drop (i * s + o)).take N = ys := by
  obtain ⟨r, hr⟩ := chunk_at hf h
  rw [← List.drop_drop, hr, List.drop_append_of_le_length (by rw [hf]; omega), List.take_append_of_le_length (by rw [List.length_drop, hf]; omega), hv]
theorem chunk_lt (hf : ∀ c, (f c).length = s) {l : List α} {i : Nat} {c : α} (h : l[i]? = some c) {o : Nat} (ho : o < s) : i * s + o < l.length * s := by
  have hlt := (List.getElem?_eq_some_iff.1 h).1
  have : (i + 1) * s ≤ l.length * s := Nat.mul_le_mul_right s hlt
  rw [Nat.add_mul] at this; omega
theorem chunk_set (hf : ∀ c, (f c).length = s) {l : List α} {i : Nat} {c c' : α} (h : l[i]? = some c) {o : Nat} {ys : List Value} (hv : (f c).take o ++ ys ++ (f c).drop (o + ys.length) = f c') (ho : o + ys.length ≤ s) :
    (l.flatMap f).take (i * s + o) ++ ys ++ (l.flatMap f).drop (i * s + o + ys.length) = (l.set i c').flatMap f := by
  obtain ⟨hlt, he⟩ := List.getElem?_eq_some_iff.1 h
  have e1 : l = l.take i ++ c :: l.drop (i + 1) := by rw [← he, List.getElem_cons_drop, List.take_append_drop]
  have e2 : l.set i c' = l.take i ++ c' :: l.drop (i + 1) := by
    rw [List.set_eq_take_append_cons_drop, if_pos hlt]
  have hl1 : ((l.take i).flatMap f).length = i * s := by rw [chunk_len hf, List.length_take, Nat.min_eq_left (Nat.le_of_lt hlt)]
  have e3 : l.flatMap f = (l.take i).flatMap f ++ (f c ++ (l.drop (i + 1)).flatMap f) := by
    conv => lhs; rw [e1]
    rw [List.flatMap_append, List.flatMap_cons]
  rw [e2, List.flatMap_append, List.flatMap_cons, ← hv, e3]
  rw [List.take_append, List.take_of_length_le (by omega), hl1, Nat.add_sub_cancel_left, List.take_append_of_le_length (by rw [hf]; omega)]
  rw [List.drop_append, List.drop_eq_nil_of_le (by omega), hl1]
  rw [show i * s + o + ys.length - i * s = o + ys.length by omega, List.drop_append_of_le_length (by rw [hf]; omega)]
  simp [List.append_assoc]

/-- The view V shows the list l, each thing as its cells. -/
structure Vw.Is (V : Vw) (f : α → List Value) (l : List α) : Prop where
  xs : V.xs = l.flatMap f
  m : V.m = l.length
  len : ∀ c, (f c).length = V.size
  pos : 0 < V.size
  ok : V.Ok
def lrow (k : Nat) (T : TypeId) (f : α → List Value) (s : Nat) (l : List α) : Tok := row k T s l.length (l.flatMap f)
def lrowV (k : Nat) (T : TypeId) (f : α → List Value) (s : Nat) (l : List α) : Vw := rowV k T s l.length (l.flatMap f)
theorem lrowV_is {k : Nat} {T : TypeId} {l : List α} (hf : ∀ c, (f c).length = s) (hs : 0 < s) : (lrowV k T f s l).Is f l := ⟨rfl, rfl, hf, hs, rowV_ok _ _ _ _ _⟩
def lsubV (k : Nat) (T : TypeId) (f : α → List Value) (s : Nat) (l : List α) (a b : Nat) : Vw := subV k T s l.length (l.flatMap f) a b
theorem lsubV_is {k : Nat} {T : TypeId} {l : List α} {a b : Nat} (hf : ∀ c, (f c).length = s) (hs : 0 < s) (ha : a ≤ b) (hb : b ≤ l.length) : (lsubV k T f s l a b).Is f ((l.drop a).take (b - a)) := by
  refine ⟨?_, ?_, hf, hs, subV_ok _ _ _ _ _ ha hb⟩
  · show ((l.flatMap f).drop (a * s)).take ((b - a) * s) = _
    rw [chunk_drop hf, chunk_take hf]
  · show b - a = _
    rw [List.length_take, List.length_drop, Nat.min_eq_left (by omega)]
end

section
variable {P : Program} {n : Nat} {ops : Array Oper} {rest : List Oper} {fs fs' : FL} {L L' : TL} {ss : List Step}
variable {α : Type} {f : α → List Value} {l : List α}
theorem Run.lenL (V : Vw) {d : Nat} {x : Operand} {t : TypeId} {ty : TypeId} {pos : String} {after : Array Edge} {g : Option (Nat × Bool)} {gr : FL} {e : TypeId} (hV : V.Is f l) (hg : Gd ops ⟨some d, .call ⟨.builtin .len, #[x], #[t]⟩, ty, pos, after, g⟩ fs gr)
    (hx : ev fs x = some (.a (.c V.s))) (hl : lkT L V.k = some V.t) (hu : P.underlying t = some (.slice e)) (hn : Nat.blt d n = true)
    (h : Run P n ops rest ((d, SV.i l.length) :: fs) L ss fs' L') : Run P n ops (⟨some d, .call ⟨.builtin .len, #[x], #[t]⟩, ty, pos, after, g⟩ :: rest) fs L (⟨gr ++ opds [(x, .a (.c V.s))], some d, SV.i l.length, [(V.k, V.t)], [], [], []⟩ :: ss) fs' L' := by
  have := Run.lenV V (ss := ss) (fs' := fs') (L' := L') hV.ok hg hx hl hu hn (by rw [hV.m]; exact h)
  rw [hV.m] at this; exact this
theorem Run.idxL (V : Vw) (i : Nat) {d : Nat} {t : TypeId} {x io : Operand} {ty : TypeId} {pos : String} {after : Array Edge} {g : Option (Nat × Bool)} {gr : FL} {e : TypeId} {ix : Int} {c : α} (hV : V.Is f l) (hc : l[i]? = some c) (hi : ix = (i : Int)) (hg : Gd ops ⟨some d, .indexAddr t x io, ty, pos, after, g⟩ fs gr)
    (hx : ev fs x = some (.a (.c V.s))) (hio : ev fs io = some (SV.i ix)) (hl : lkT L V.k = some V.t) (hu : P.underlying t = some (.slice e)) (hsz : ∀ w : World, (sizeOf e).run P w = .ok V.size w) (hn : Nat.blt d n = true)
    (h : Run P n ops rest ((d, .a (.c (V.pt (i * V.size)))) :: fs) L ss fs' L') : Run P n ops (⟨some d, .indexAddr t x io, ty, pos, after, g⟩ :: rest) fs L (⟨gr ++ opds [(x, .a (.c V.s)), (io, SV.i ix)], some d, .a (.c (V.pt (i * V.size))), [(V.k, V.t)], [], [], []⟩ :: ss) fs' L' := by
  have hlt := (List.getElem?_eq_some_iff.1 hc).1
  exact Run.idxV V (i * V.size) hV.ok hg hx hio hl hu hsz (by rw [Nat.blt_eq]; exact hV.pos) (by omega) (by rw [hV.m]; omega) (by rw [hi]; simp) hn h
theorem Run.fieldL (Y : Tys P) (V : Vw) (i o : Nat) {d : Nat} {s : TypeId} {x : Operand} {fi : Nat} {ty : TypeId} {pos : String} {after : Array Edge} {g : Option (Nat × Bool)} {gr : FL} {N fo fsz : Nat} {ft : TypeId} {fl : List (Nat × Nat × TypeId)} {zs : List Value} {c : α} (o' : Nat) (hV : V.Is f l) (hc : l[i]? = some c) (hg : Gd ops ⟨some d, .fieldAddr s x fi, ty, pos, after, g⟩ fs gr)
    (hx : ev fs x = some (.a (.c (V.pt (i * V.size + o))))) (hl : lkT L V.k = some V.t) (hT : Y.f s = .st N fl zs) (hf : fl[fi]? = some (fo, fsz, ft)) (ho' : o + fo = o') (hm : Nat.blt o' V.size = true) (hn : Nat.blt d n = true)
    (h : Run P n ops rest ((d, .a (.c (V.pt (i * V.size + o')))) :: fs) L ss fs' L') : Run P n ops (⟨some d, .fieldAddr s x fi, ty, pos, after, g⟩ :: rest) fs L (⟨gr ++ opds [(x, .a (.c (V.pt (i * V.size + o))))], some d, .a (.c (V.pt (i * V.size + o'))), [(V.k, V.t)], [], [], []⟩ :: ss) fs' L' := by
  subst ho'
  rw [Nat.blt_eq] at hm
  have hlt := chunk_lt hV.len hc hm
  have := Run.fieldV Y V (i * V.size + o) (ss := ss) (fs' := fs') (L' := L') hV.ok hg hx hl (by rw [hV.m, Nat.add_assoc]; exact hlt) hT hf hn (by rw [Nat.add_assoc]; exact h)
  rw [Nat.add_assoc] at this; exact this
theorem Run.nilL (V : Vw) (i o : Nat) {d : Nat} {x : Operand} {ty : TypeId} {pos : String} {after : Array Edge} {g : Option (Nat × Bool)} {gr : FL} {c : α} (hV : V.Is f l) (hc : l[i]? = some c) (hg : Gd ops ⟨some d, .nilCheck x, ty, pos, after, g⟩ fs gr)
    (hx : ev fs x = some (.a (.c (V.pt (i * V.size + o))))) (hl : lkT L V.k = some V.t) (hm : Nat.blt o V.size = true) (hn : Nat.blt d n = true)
    (h : Run P n ops rest ((d, .a (.c (V.pt (i * V.size + o)))) :: fs) L ss fs' L') : Run P n ops (⟨some d, .nilCheck x, ty, pos, after, g⟩ :: rest) fs L (⟨gr ++ opds [(x, .a (.c (V.pt (i * V.size + o))))], some d, .a (.c (V.pt (i * V.size + o))), [(V.k, V.t)], [], [], []⟩ :: ss) fs' L' := by
  rw [Nat.blt_eq] at hm
  exact Run.nilV V (i * V.size + o) hV.ok hg hx hl (by rw [hV.m]; exact chunk_lt hV.len hc hm) hn h
theorem Run.eqnilL (V : Vw) (i o : Nat) {d : Nat} {op : BinOp} {t ty' : TypeId} {x z : Operand} {ty : TypeId} {pos : String} {after : Array Edge} {g : Option (Nat × Bool)} {gr : FL} {B : Bool} {c : α} (hV : V.Is f l) (hc : l[i]? = some c) (hg : Gd ops ⟨some d, .binOp op t x z ty', ty, pos, after, g⟩ fs gr)
    (hx : ev fs x = some (.a (.c (V.pt (i * V.size + o))))) (hz : ev fs z = some (SV.raw (.pointer none))) (hl : lkT L V.k = some V.t) (hm : Nat.blt o V.size = true) (hr : ∀ a w, (do eqGuard op t x z (.pointer (some a)) (.pointer none); binOp op t (.pointer (some a)) (.pointer none) : Sem Value).run P w = .ok (.bool B) w) (hn : Nat.blt d n = true)
    (h : Run P n ops rest ((d, SV.b B) :: fs) L ss fs' L') : Run P n ops (⟨some d, .binOp op t x z ty', ty, pos, after, g⟩ :: rest) fs L (⟨gr ++ opds [(x, .a (.c (V.pt (i * V.size + o)))), (z, SV.raw (.pointer none))], some d, SV.b B, [(V.k, V.t)], [], [], []⟩ :: ss) fs' L' := by
  rw [Nat.blt_eq] at hm
  exact Run.eqnilV V (i * V.size + o) hV.ok hg hx hz hl (by rw [hV.m]; exact chunk_lt hV.len hc hm) hr hn h
theorem Run.load1L (Y : Tys P) (V : Vw) (i o : Nat) {d : Nat} {T' : TypeId} {x : Operand} {ty : TypeId} {pos : String} {after : Array Edge} {g : Option (Nat × Bool)} {gr : FL} {z v : Value} {c : α} (hV : V.Is f l) (hc : l[i]? = some c) (hg : Gd ops ⟨some d, .load T' x, ty, pos, after, g⟩ fs gr)
    (hx : ev fs x = some (.a (.c (V.pt (i * V.size + o))))) (hl : lkT L V.k = some V.t) (hT : Y.f T' = .one z) (hv : (f c)[o]? = some v) (hn : Nat.blt d n = true)
    (h : Run P n ops rest ((d, SV.raw v) :: fs) L ss fs' L') : Run P n ops (⟨some d, .load T' x, ty, pos, after, g⟩ :: rest) fs L (⟨gr ++ opds [(x, .a (.c (V.pt (i * V.size + o))))], some d, SV.raw v, [(V.k, V.t)], [], [], []⟩ :: ss) fs' L' :=
  Run.load1V Y V (i * V.size + o) hV.ok hg hx hl hT (by rw [hV.xs]; exact chunk_get hV.len hc hv) hn h
theorem Run.loadSL (Y : Tys P) (V : Vw) (i o : Nat) (ys : List Value) (zs' : List Cl) {d : Nat} {T' : TypeId} {x : Operand} {ty : TypeId} {pos : String} {after : Array Edge} {g : Option (Nat × Bool)} {gr : FL} {N : Nat} {fl : List (Nat × Nat × TypeId)} {zs : List Value} {c : α} (hV : V.Is f l) (hc : l[i]? = some c) (hg : Gd ops ⟨some d, .load T' x, ty, pos, after, g⟩ fs gr)
    (hx : ev fs x = some (.a (.c (V.pt (i * V.size + o))))) (hl : lkT L V.k = some V.t) (hT : Y.f T' = .st N fl zs) (hv : ((f c).drop o).take N = ys) (hy : ys.map .v = zs') (hN : Nat.blt 0 N = true) (hle : Nat.ble (o + N) V.size = true) (hn : Nat.blt d n = true)
    (h : Run P n ops rest ((d, .a (.agg zs')) :: fs) L ss fs' L') : Run P n ops (⟨some d, .load T' x, ty, pos, after, g⟩ :: rest) fs L (⟨gr ++ opds [(x, .a (.c (V.pt (i * V.size + o))))], some d, .a (.agg zs'), [(V.k, V.t)], [], [], []⟩ :: ss) fs' L' := by
  subst hy
  have hle' := Nat.le_of_ble_eq_true hle
  have hN' := hN
  rw [Nat.blt_eq] at hN'
  refine Run.loadSV Y V (i * V.size + o) ys hV.ok hg hx hl hT (by rw [hV.xs]; exact chunk_slice hV.len hc hv hle') hN ?_ hn h
  rw [hV.xs, chunk_len hV.len]
  have := chunk_lt hV.len hc (o := o + N - 1) (by omega)
  omega
theorem Run.storeL (Y : Tys P) (i o : Nat) (ys : List Value) (c' : α) {T' : TypeId} {x v : Operand} {ty : TypeId} {pos : String} {after : Array Edge} {g : Option (Nat × Bool)} {gr : FL} {k s : Nat} {y : Av} {ti : TyI} {T : TypeId} {c : α} (hf : ∀ c, (f c).length = s) (hs : 0 < s) (hci : l[i]? = some c) (hg : Gd ops ⟨none, .store T' x v, ty, pos, after, g⟩ fs gr)
    (hx : ev fs x = some (.a (.c (.rp k (i * s + o))))) (hy : ev fs v = some (.a y)) (hl : lkT L k = some (lrow k T f s l)) (hY : Y.f T' = ti) (hc : y.cl = ys.map .v) (hT : Nat.beq ys.length (tsize ti) = true) (hnz : Nat.blt 0 (tsize ti) = true) (h1 : ys.all Value.oneCell' = true) (hle : Nat.ble (o + ys.length) s = true)
    (hv : (f c).take o ++ ys ++ (f c).drop (o + ys.length) = f c')
    (h : Run P n ops rest fs ((k, some (lrow k T f s (l.set i c'))) :: L) ss fs' L') : Run P n ops (⟨none, .store T' x v, ty, pos, after, g⟩ :: rest) fs L (⟨gr ++ opds [(x, .a (.c (.rp k (i * s + o)))), (v, .a y)], none, SV.raw undef, [], [(k, lrow k T f s l)], [(k, lrow k T f s (l.set i c'))], []⟩ :: ss) fs' L' := by
  have hlt := (List.getElem?_eq_some_iff.1 hci).1
  have hle' := Nat.le_of_ble_eq_true hle
  have hT' := Nat.eq_of_beq_eq_true hT
  have hnz' := hnz
  rw [Nat.blt_eq] at hnz'
  have e : (lrow k T f s (l.set i c') : Tok) = row k T s l.length ((l.set i c').flatMap f) := by rw [lrow, List.length_set]
  rw [e] at h ⊢
  refine Run.rpStore Y ys ((l.set i c').flatMap f) hg hx hy hl (by omega) hY hc hT' hnz (fun z hz => List.all_eq_true.1 h1 z hz) ?_ (chunk_set hf hci hv hle') h
  rw [chunk_len hf]
  have := chunk_lt hf hci (o := o + ys.length - 1) (by omega)
  omega
/-- append onto a typed row. -/
theorem Run.appendL {d : Nat} (k2 : Nat) (V : Vw) (l2 : List α) {s x : Operand} {t e size bytes : Nat} {ty : TypeId} {pos : String} {after : Array Edge} {g : Option (Nat × Bool)} {gr : FL} {k : Nat} (hE : El P t e size bytes) (hV : V.Is f l2) (h1 : ∀ c, (f c).all Value.oneCell' = true) (hg : Gd ops ⟨some d, .call ⟨.builtin .append, #[s, x], #[t, t]⟩, ty, pos, after, g⟩ fs gr)
    (hs : ev fs s = some (.a (.c (.nv k)))) (hx : ev fs x = some (.a (.c V.s))) (hl : lkT L k = some (lrow k e f size l)) (hb : lkT L V.k = some V.t) (hsz : V.size = size)
    (h63 : l.length + l2.length ≤ maxLen) (hbytes : (l.length + l2.length) * bytes ≤ 140737488355328) (hne : Nat.beq V.k k = false) (hl2 : lkT L k2 = none) (hne2 : Nat.beq k2 k = false) (hne3 : Nat.beq V.k k2 = false) (hfr : frB [k2] fs ((k, none) :: L) = true) (hn : Nat.blt d n = true)
    (h : Run P n ops rest ((d, .a (.c (.nv k2))) :: fs) ((k2, some (lrow k2 e f size (l ++ l2))) :: (k, none) :: L) ss fs' L') : Run P n ops (⟨some d, .call ⟨.builtin .append, #[s, x], #[t, t]⟩, ty, pos, after, g⟩ :: rest) fs L
      (⟨gr ++ opds [(s, .a (.c (.nv k))), (x, .a (.c V.s))], some d, .a (.c (.nv k2)), [(V.k, V.t)], [(k, lrow k e f size l)], [(k2, lrow k2 e f size (l ++ l2))], [k2]⟩ :: ss) fs' L' := by
  have e : (lrow k2 e f size (l ++ l2) : Tok) = row k2 e size (l.length + V.m) (l.flatMap f ++ V.xs) := by rw [lrow, List.length_append, List.flatMap_append, hV.xs, hV.m]
  rw [e] at h ⊢
  refine Run.append k2 V hE hV.ok hg hs hx hl hb hsz (fun u hu => ?_) (by rw [hV.m]; exact h63) (by rw [hV.m]; exact hbytes) hne hl2 hne2 hne3 hfr hn h
  rw [hV.xs] at hu
  obtain ⟨c, _, hu⟩ := List.mem_flatMap.1 hu
  exact List.all_eq_true.1 (h1 c) u hu
/-- `s = s[:hi]` of a typed row. -/
theorem Run.cutL {d : Nat} (k2 h' : Nat) {t : TypeId} {x : Operand} {hi : Option Operand} {qh : List (Operand × SV)} {ty : TypeId} {pos : String} {after : Array Edge} {g : Option (Nat × Bool)} {gr : FL} {k size : Nat} {e T : TypeId} (hf : ∀ c, (f c).length = size) (hg : Gd ops ⟨some d, .slice t x none hi none, ty, pos, after, g⟩ fs gr)
    (hx : ev fs x = some (.a (.c (.nv k)))) (hhi : Bnd fs l.length h' qh hi) (hl : lkT L k = some (lrow k T f size l)) (hu : P.underlying t = some (.slice e)) (hsz : ∀ w : World, (sizeOf e).run P w = .ok size w) (hh : h' ≤ l.length) (hl2 : lkT L k2 = none) (hne2 : Nat.beq k2 k = false) (hfr : frB [k2] fs ((k, none) :: L) = true) (hn : Nat.blt d n = true)
    (h : Run P n ops rest ((d, .a (.c (.nv k2))) :: fs) ((k2, some (lrow k2 T f size (l.take h'))) :: (k, none) :: L) ss fs' L') : Run P n ops (⟨some d, .slice t x none hi none, ty, pos, after, g⟩ :: rest) fs L (⟨gr ++ opds ((x, .a (.c (.nv k))) :: qh), some d, .a (.c (.nv k2)), [], [(k, lrow k T f size l)], [(k2, lrow k2 T f size (l.take h'))], [k2]⟩ :: ss) fs' L' := by
  have e : (lrow k2 T f size (l.take h') : Tok) = row k2 T size h' ((l.take h').flatMap f) := by rw [lrow, List.length_take, Nat.min_eq_left hh]
  rw [e] at h ⊢
  exact Run.cut k2 h' ((l.take h').flatMap f) hg hx hhi hl hu hsz hh (chunk_take hf l h') hl2 hne2 hfr hn h
/-- A nil slice laid in a variable: a row without elements. -/
theorem Run.nilRow (k : Nat) (T : TypeId) (f : α → List Value) (s : Nat) {d : Nat} {op : Op} {ty : TypeId} {pos : String} {after : Array Edge} {g : Option (Nat × Bool)} {gr : FL} (hop : op = .assign (.const (.slice none 0 0)) ∨ op = .move (.const (.slice none 0 0))) (hg : Gd ops ⟨some d, op, ty, pos, after, g⟩ fs gr)
    (hl : lkT L k = none) (hfr : frB [k] fs L = true) (hn : Nat.blt d n = true)
    (h : Run P n ops rest ((d, .a (.c (.nv k))) :: fs) ((k, some (lrow k T f s ([] : List α))) :: L) ss fs' L') : Run P n ops (⟨some d, op, ty, pos, after, g⟩ :: rest) fs L (⟨gr, some d, .a (.c (.nv k)), [], [], [(k, lrow k T f s ([] : List α))], [k]⟩ :: ss) fs' L' := by
  obtain ⟨f1, f2, f3⟩ := frB_spec hfr
  refine Run.cons ?_ ?_ ?_ (fun j => ?_) h
  · intro β a w G K Q hrs hsz hst hK
    have hw := hg.wanted (rs := []) (by simpa using hrs) (by simpa using hsz)
    unfold opW Oper.wp
    rw [if_pos hw]
    have hrun : (execOp a.eval ⟨some d, op, ty, pos, after, g⟩).run P w = .ok (.value (.slice none 0 0)) w := by
      rcases hop with rfl | rfl <;> rfl
    rw [hrun]
    have hG : ∀ b, ¬ G b := hst
    have hks : ∀ j, j ∉ [k] → upd β k ⟨0, .slice none 0 0⟩ j = β j := fun j hj => upd_ne _ _ (by simpa using hj)
    have := hK (upd β k ⟨0, .slice none 0 0⟩) w (fun _ => False) hks (Star_one.2 ⟨fun x => by simp [one1, Value.oneCell', Value.ownBlock], by simp, .inl ⟨by simp [one1, Value.oneCell'], by simp⟩⟩) (fun b hb => hb.elim) (Mod.refl _ _)
    have e : (SV.a (.c (.nv k))).den (upd β k ⟨0, .slice none 0 0⟩) = .slice none 0 0 := by simp [SV.den, Av.den, Cl.den, one1, Value.oneCell']
    rw [e] at this
    rw [Oper.upon_value]; exact this
  · refine ⟨fun t y hy => hg.fs hy, fun d' hd' => ?_, fun p hp => by simp at hp, by simp, by simp, fun p hp => by simp at hp; subst hp; exact .inr hl, f1, f2, fun j t hj _ => f3 j t hj⟩
    simp at hd'; subst hd'
    rw [Nat.blt_eq] at hn
    exact hn
  · simp only [Step.outF, lk_cons]
  · rw [lkT_cons, Step.outM_eq]
    by_cases e : j = k
    · subst e; simp [lkP]
    · simp [lkP, e, upd]
/-- A part of a typed row. -/
theorem Run.partL {d : Nat} (l1 h' : Nat) {t : TypeId} {x : Operand} {lo hi : Option Operand} {ql qh : List (Operand × SV)} {ty : TypeId} {pos : String} {after : Array Edge} {g : Option (Nat × Bool)} {gr : FL} {k size : Nat} {e T : TypeId} (hg : Gd ops ⟨some d, .slice t x lo hi none, ty, pos, after, g⟩ fs gr)
    (hx : ev fs x = some (.a (.c (.nv k)))) (hlo : Bnd fs 0 l1 ql lo) (hhi : Bnd fs l.length h' qh hi) (hl : lkT L k = some (lrow k T f size l)) (hu : P.underlying t = some (.slice e)) (hsz : ∀ w : World, (sizeOf e).run P w = .ok size w) (hlh : l1 ≤ h') (hh : h' ≤ l.length) (hn : Nat.blt d n = true)
    (h : Run P n ops rest ((d, .a (.c (.rs k l1 h' size))) :: fs) L ss fs' L') : Run P n ops (⟨some d, .slice t x lo hi none, ty, pos, after, g⟩ :: rest) fs L (⟨gr ++ opds ((x, .a (.c (.nv k))) :: (ql ++ qh)), some d, .a (.c (.rs k l1 h' size)), [(k, lrow k T f size l)], [], [], []⟩ :: ss) fs' L' :=
  Run.part l1 h' hg hx hlo hhi hl hu hsz hlh hh hn h
/-- A slice literal as a typed row. -/
theorem Run.buildL (Y : Tys P) (k : Nat) (l : List α) (ys : List (Nat × Av)) {s : Nat} {d : Nat} {t e len : Nat} {ps : Array (Nat × Operand)} {ty : TypeId} {pos : String} {after : Array Edge} {g : Option (Nat × Bool)} {gr : FL} {ti : TyI} (lo : List (Operand × SV)) (hf : ∀ c, (f c).length = s) (hg : Gd ops ⟨some d, .buildSlice t len ps, ty, pos, after, g⟩ fs gr)
    (hev : ∀ p ∈ lo, ev fs p.1 = some p.2) (hps : ps.toList = (List.zip ys lo).map fun q => (q.1.1, q.2.1)) (hys : lo.map (·.2) = ys.map fun q => .a q.2) (hu : P.underlying t = some (.slice e)) (hT : Y.f e = ti) (hnz : Nat.blt 0 (tsize ti) = true) (hs24 : Nat.ble (len * tsize ti) 16777216 = true) (hfc : fillC (bfl (tsize ti) len) ((bz ti len).map .v) ys = some ((l.flatMap f).map .v)) (hs : Nat.beq s (tsize ti) = true) (hll : Nat.beq l.length len = true)
    (hl : lkT L k = none) (hfr : frB [k] fs L = true) (hn : Nat.blt d n = true)
    (h : Run P n ops rest ((d, .a (.c (.nv k))) :: fs) ((k, some (lrow k e f s l)) :: L) ss fs' L') : Run P n ops (⟨some d, .buildSlice t len ps, ty, pos, after, g⟩ :: rest) fs L (⟨gr ++ opds lo, some d, .a (.c (.nv k)), [], [], [(k, lrow k e f s l)], [k]⟩ :: ss) fs' L' := by
  have hs' := Nat.eq_of_beq_eq_true hs
  have hll' := Nat.eq_of_beq_eq_true hll
  subst hs' hll'
  have hfl : Nat.beq (l.flatMap f).length (l.length * tsize ti) = true := by rw [chunk_len hf]; simp
  exact Run.buildRow Y k ys (l.flatMap f) lo hg hev hps hys hu hT hnz hs24 hfc hfl hl hfr hn h
end

/-! ### 23. Pointers against nil, bools against bools -/
section
variable {P : Program} {T e : TypeId} {x z : Operand}
theorem ptr_eq (h : P.underlying T = some (.pointer e)) (p : Option Addr) (w : World) : (Op.equal T (.pointer p) (.pointer none)).run P w = .ok p.isNone w := by
  have he : P.pointee T = e := by simp [Program.pointee, h]
  exact run_equal_pointer_nil (P := P) w T p (by rw [he]; exact h)
theorem eql_of {u v : Value} {b : Bool} {w : World} (hg : (eqGuard .eql T x z u v).run P w = .ok () w) (hb : binOp .eql T u v = (do pure (.bool (← Op.equal T u v)))) (he : (Op.equal T u v).run P w = .ok b w) : (do eqGuard .eql T x z u v; binOp .eql T u v : Sem Value).run P w = .ok (.bool b) w := by
  rw [run_bind_ok hg, hb, run_bind_ok he]; rfl
theorem neq_of {u v : Value} {b : Bool} {w : World} (hg : (eqGuard .neq T x z u v).run P w = .ok () w) (hb : binOp .neq T u v = (do pure (.bool (!(← Op.equal T u v))))) (he : (Op.equal T u v).run P w = .ok b w) : (do eqGuard .neq T x z u v; binOp .neq T u v : Sem Value).run P w = .ok (.bool (!b)) w := by
  rw [run_bind_ok hg, hb, run_bind_ok he]; rfl
theorem pn_eql_some (h : P.underlying T = some (.pointer e)) (a : Addr) (w : World) : (do eqGuard .eql T x z (.pointer (some a)) (.pointer none); binOp .eql T (.pointer (some a)) (.pointer none) : Sem Value).run P w = .ok (.bool false) w :=
  eql_of rfl rfl (ptr_eq h (some a) w)
theorem pn_eql_none (h : P.underlying T = some (.pointer e)) (w : World) : (do eqGuard .eql T x z (.pointer none) (.pointer none); binOp .eql T (.pointer none) (.pointer none) : Sem Value).run P w = .ok (.bool true) w :=
  eql_of rfl rfl (ptr_eq h none w)
theorem pn_neq_some (h : P.underlying T = some (.pointer e)) (a : Addr) (w : World) : (do eqGuard .neq T x z (.pointer (some a)) (.pointer none); binOp .neq T (.pointer (some a)) (.pointer none) : Sem Value).run P w = .ok (.bool true) w :=
  neq_of rfl rfl (ptr_eq h (some a) w)
theorem pn_neq_none (h : P.underlying T = some (.pointer e)) (w : World) : (do eqGuard .neq T x z (.pointer none) (.pointer none); binOp .neq T (.pointer none) (.pointer none) : Sem Value).run P w = .ok (.bool false) w :=
  neq_of rfl rfl (ptr_eq h none w)
theorem bool_eq (h : P.underlying T = some .bool) (a b : Bool) (w : World) : (Op.equal T (.bool a) (.bool b)).run P w = .ok (a == b) w := by
  unfold Op.equal
  exact run_equalIn_bool' (P := P) w 9999 T a b h
theorem bq_eql (h : P.underlying T = some .bool) (a b : Bool) (w : World) : (do eqGuard .eql T x z (.bool a) (.bool b); binOp .eql T (.bool a) (.bool b) : Sem Value).run P w = .ok (.bool (a == b)) w :=
  eql_of rfl rfl (bool_eq h a b w)
theorem bq_neq (h : P.underlying T = some .bool) (a b : Bool) (w : World) : (do eqGuard .neq T x z (.bool a) (.bool b); binOp .neq T (.bool a) (.bool b) : Sem Value).run P w = .ok (.bool (!(a == b))) w :=
  neq_of rfl rfl (bool_eq h a b w)
theorem rem_run {k : IntKind} {a b : Int} (h : b ≠ 0) (w : World) : (do eqGuard .rem T x z (.int k a) (.int k b); binOp .rem T (.int k a) (.int k b) : Sem Value).run P w = .ok (.int k (a.tmod b)) w := by
  rw [run_bind_ok (show (eqGuard .rem T x z (.int k a) (.int k b)).run P w = .ok () w from rfl)]
  have : binOp .rem T (.int k a) (.int k b) = Op.intDiv .rem k a b := by simp [binOp]
  rw [this]; simp [Op.intDiv, h]
theorem quo_run {k : IntKind} {a b : Int} (h : b ≠ 0) (w : World) : (do eqGuard .quo T x z (.int k a) (.int k b); binOp .quo T (.int k a) (.int k b) : Sem Value).run P w = .ok (.int k (k.wrap (a.tdiv b))) w := by
  rw [run_bind_ok (show (eqGuard .quo T x z (.int k a) (.int k b)).run P w = .ok () w from rfl)]
  have : binOp .quo T (.int k a) (.int k b) = Op.intDiv .quo k a b := by simp [binOp]
  rw [this]; simp [Op.intDiv, h]
theorem cv_int {s d : TypeId} {k q : IntKind} {n : Int} (hs : (P.underlying s).isSome = true) (hd : P.underlying d = some (.int k)) (w : World) : (convert s d (.int q n)).run P w = .ok (.int k (k.wrap n)) w := by
  obtain ⟨e', hd'⟩ := Option.isSome_iff_exists.mp hs
  simp [convert, run_underlying hd', run_underlying hd, Conv.intToInt]
end
end Go.Proofs.Ytheopcgjdfckmaa.Sx

/- Contracts under other names; the old world; parts of slices; slice literals; structs compared. -/
import Derived.Test.YtheopcgjdfckmaaSxh
import Derived.Laws.StructEq
import Derived.ChangeKeysEq
import Derived.Laws.Slices
namespace Go.Proofs.Ytheopcgjdfckmaa.Sx
open Go
set_option linter.unusedVariables false
set_option linter.unusedSimpArgs false

/-! ### 17. A contract under other names -/
def RenP (f : Nat → Nat) : List (Nat × Tok) → List (Nat × Tok) → Prop
  | [], [] => True
  | p :: l, q :: m => RenT f p.2 q.2 ∧ RenP f l m
  | _, _ => False
theorem RenP.map {f : Nat → Nat} {β : Env} : ∀ {l m : List (Nat × Tok)}, RenP f l m → (l.map fun p => p.2.r (fun k => β (f k))) = m.map fun p => p.2.r β
  | [], [], _ => rfl
  | p :: l, q :: m, h => by simp only [List.map_cons, h.1 β, RenP.map h.2]
def back (f : Nat → Nat) (d : Nat → Nm) (e : Nat → Nm) : List Nat → Nat → Nm
  | [], j => e j
  | k :: r, j => if j = f k then d k else back f d e r j
theorem back_mem {f : Nat → Nat} {d e : Nat → Nm} : ∀ {l : List Nat} {k : Nat}, k ∈ l → (l.map f).Nodup → back f d e l (f k) = d k
  | j :: r, k, h, hn => by
    simp only [List.map_cons, List.nodup_cons] at hn
    rcases List.mem_cons.1 h with h | h
    · subst h; simp [back]
    · have : f k ≠ f j := fun e => hn.1 (by rw [← e]; exact List.mem_map_of_mem h)
      simp only [back, if_neg this]
      exact back_mem h hn.2
theorem back_not {f : Nat → Nat} {d e : Nat → Nm} : ∀ {l : List Nat} {j : Nat}, j ∉ l.map f → back f d e l j = e j
  | [], _, _ => rfl
  | k :: r, j, h => by
    simp only [List.map_cons, List.mem_cons, not_or] at h
    simp only [back, if_neg h.1]
    exact back_not h.2
/-- A contract under other names: f leads from the contract's names to the caller's. -/
theorem SCon.ren (f : Nat → Nat) {P : Program} {fn : FuncId} {args : List SV} {ti to ti' to' : List (Nat × Tok)} {ret : SV} {fr : List Nat} (h : SCon P fn args ti ret to fr) (hi : RenP f ti ti') (ho : RenP f to to')
    (hn : (fr.map f).Nodup) (hks : ∀ k ∈ ret.ks ++ to.flatMap (·.2.ks), k ∉ fr → f k ∉ fr.map f) : SCon P fn (args.map (SV.ren f)) ti' (ret.ren f) to' (fr.map f) := by
  intro β w F hs
  have h1 := h (fun k => β (f k)) w F (by rw [hi.map]; exact hs)
  have e1 : (args.map (SV.ren f)).map (SV.den β) = args.map (SV.den fun k => β (f k)) := by simp [Function.comp_def, SV.den_ren]
  rw [e1]
  refine h1.mono fun e w' => ?_
  rintro ⟨βc, hb, he, F', hs', hF', hM⟩
  have key : ∀ k ∈ ret.ks ++ to.flatMap (·.2.ks), back f βc β fr (f k) = βc k := by
    intro k hk
    by_cases hf : k ∈ fr
    · exact back_mem hf hn
    · rw [back_not (hks k hk hf), hb k hf]
  refine ⟨back f βc β fr, fun j hj => back_not hj, ?_, F', ?_, hF', hM⟩
  · rw [he, SV.den_ren]
    congr 1
    exact SV.den_congr ret (fun k hk => (key k (List.mem_append_left _ hk)).symm)
  · have e2 : (to'.map fun p => p.2.r (back f βc β fr)) = to.map fun p => p.2.r βc := by
      rw [← ho.map]
      refine List.map_congr_left (fun p hp => p.2.sup (fun k hk => key k (List.mem_append_right _ (List.mem_flatMap.2 ⟨p, hp, hk⟩))))
    rw [e2]; exact hs'

/-! ### 18. The old world, read only -/
def oldRes (n0 : Nat) (W0 : World) : Res where
  holds w F := (∀ b, F b ↔ b < n0) ∧ n0 ≤ w.heap.size ∧ ∀ b, b < n0 → w.heap[b]? = W0.heap[b]?
  loc := by
    intro w w' F hw h
    refine ⟨h.1, ?_, fun b hb => (hw b ((h.1 b).2 hb)).trans (h.2.2 b hb)⟩
    rcases Nat.eq_zero_or_pos n0 with h0 | h0
    · omega
    · have hb := hw (n0 - 1) ((h.1 _).2 (by omega))
      have h1 : n0 - 1 < w.heap.size := by have := h.2.1; omega
      rw [Array.getElem?_eq_getElem h1] at hb
      have := (Array.getElem?_eq_some_iff.1 hb).1
      omega
  lt := by
    intro w F b h hb
    exact Nat.lt_of_lt_of_le ((h.1 b).1 hb) h.2.1
def old (n0 : Nat) (W0 : World) : Tok where
  ks := []
  r _ := oldRes n0 W0
  sup _ := rfl
def oldV (k n0 : Nat) (W0 : World) (b o m cap size : Nat) (xs : List Value) : Vw := ⟨k, old n0 W0, .v (.slice (some ⟨b, o, none⟩) m cap), fun off => .v (ptr b (o + off)), m, size, xs⟩
theorem oldV_ok {k n0 : Nat} {W0 : World} {b o m cap size : Nat} {xs : List Value} (hl : xs.length = m * size) (hb : 0 < m → b < n0) (hx : ∀ j u, xs[j]? = some u → W0.cell? ⟨b, o + j, none⟩ = some u) : (oldV k n0 W0 b o m cap size xs).Ok := by
  intro β w F h
  refine ⟨hl, some ⟨b, o, none⟩, cap, rfl, fun hm => ⟨b, o, rfl, fun _ _ => rfl, fun j u hj => ?_⟩⟩
  have h3 := h.2.2 b (hb hm)
  have := hx j u hj
  simp only [World.cell?] at this ⊢
  rw [h3]; exact this
def nilV (k : Nat) (t : Tok) (size : Nat) : Vw := ⟨k, t, .v (.slice none 0 0), fun _ => .v (.bool false), 0, size, []⟩
theorem nilV_ok {k : Nat} {t : Tok} {size : Nat} : (nilV k t size).Ok := fun β w F h => ⟨by simp [nilV], none, 0, rfl, fun h => by simp [nilV] at h⟩
/-- A slice of the caller's, whatever it is: of no elements, or in an old block. -/
def hV (k n0 : Nat) (W0 : World) (s : Value) (b o m size : Nat) (xs : List Value) : Vw := ⟨k, old n0 W0, .v s, fun off => .v (ptr b (o + off)), m, size, xs⟩
theorem hV_ok {k n0 : Nat} {W0 : World} {s : Value} {b o m size : Nat} {xs : List Value} (hl : xs.length = m * size) (hs : ∃ ao cap, s = .slice ao m cap ∧ (0 < m → ao = some ⟨b, o, none⟩)) (hb : 0 < m → b < n0) (hx : ∀ j u, xs[j]? = some u → W0.cell? ⟨b, o + j, none⟩ = some u) : (hV k n0 W0 s b o m size xs).Ok := by
  intro β w F h
  obtain ⟨ao, cap, rfl, ha⟩ := hs
  refine ⟨hl, ao, cap, rfl, fun hm => ⟨b, o, ha hm, fun _ _ => rfl, fun j u hj => ?_⟩⟩
  have h3 := h.2.2 b (hb hm)
  have := hx j u hj
  simp only [World.cell?] at this ⊢
  rw [h3]; exact this

section
variable {P : Program} {n : Nat} {ops : Array Oper} {rest : List Oper} {fs fs' : FL} {L L' : TL} {ss : List Step}

/-! ### 19. Parts of slices -/
/-- A bound: what its operand holds, or else. -/
inductive Bnd (fs : FL) (dflt : Nat) : Nat → List (Operand × SV) → Option Operand → Prop
  | no : Bnd fs dflt dflt [] none
  | at_ {o : Operand} {i : Int} {l : Nat} (h : ev fs o = some (SV.i i)) (h0 : 0 ≤ i) (hl : i.toNat = l) : Bnd fs dflt l [(o, SV.i i)] (some o)
theorem Bnd.ev {fs : FL} {d l : Nat} {q : List (Operand × SV)} {o : Option Operand} (h : Bnd fs d l q o) : ∀ p ∈ q, Sx.ev fs p.1 = some p.2 := by
  cases h with
  | no => simp
  | at_ h _ _ => intro p hp; simp at hp; subst hp; exact h
theorem Bnd.val {fs : FL} {d l : Nat} {q : List (Operand × SV)} {o : Option Operand} (h : Bnd fs d l q o) {β : Env} {ρ : Operand → Value} (hρ : ∀ p ∈ q, ρ p.1 = p.2.den β) :
    ∃ lo : Option Int, o.map ρ = lo.map (Value.int .i64) ∧ (lo = none ∧ l = d ∨ ∃ i, lo = some i ∧ 0 ≤ i ∧ l = i.toNat) := by
  cases h with
  | no => exact ⟨none, rfl, .inl ⟨rfl, rfl⟩⟩
  | at_ h h0 hl =>
    rename_i o i
    exact ⟨some i, by have := hρ (o, SV.i i) (by simp); simp only [Option.map_some, this]; rfl, .inr ⟨i, rfl, h0, hl.symm⟩⟩
theorem run_part {t e size : Nat} (hu : P.underlying t = some (.slice e)) (hsz : ∀ w : World, (sizeOf e).run P w = .ok size w) {a : Option Addr} {len cap l h : Nat} {lo hi : Option Int} (hlo : lo = none ∧ l = 0 ∨ ∃ i, lo = some i ∧ 0 ≤ i ∧ l = i.toNat) (hhi : hi = none ∧ h = len ∨ ∃ i, hi = some i ∧ 0 ≤ i ∧ h = i.toNat)
    (hlh : l ≤ h) (hh : h ≤ len) (hc : len ≤ cap) (w : World) : (Instr.sliceAt t (.slice a len cap) (lo.map (Value.int .i64)) (hi.map (Value.int .i64)) none).run P w = .ok (sliced a l h cap size) w := by
  have he : P.elem t = e := by simp [Program.elem, hu]
  have hu' : P.underlying t = some (.slice (P.elem t)) := by rw [he]; exact hu
  have hs : ∀ x : Value, ((sizeOf (P.elem t)).run P w).andThen (fun s w => .ok (sliced a l h cap s) w) = Result.ok (sliced a l h cap size) w := fun _ => by rw [he, hsz w]; rfl
  rw [run_sliceAt_slice (P := P) w t _ _ _ _ hu']
  rcases hlo with ⟨rfl, rfl⟩ | ⟨i, rfl, hi0, rfl⟩ <;> rcases hhi with ⟨rfl, rfl⟩ | ⟨j, rfl, hj0, rfl⟩
  · simp only [Option.map_none]
    rw [run_slice_all (P := P) w t a h cap hu']; exact hs undef
  · simp only [Option.map_none, Option.map_some]
    rw [run_slice_h (P := P) w t a len cap hu' .i64 j hj0 (by omega)]; exact hs undef
  · simp only [Option.map_none, Option.map_some]
    rw [run_slice_l (P := P) w t a h cap hu' .i64 i hi0 (by omega)]; exact hs undef
  · simp only [Option.map_some]
    rw [run_slice_lh (P := P) w t a len cap hu' .i64 .i64 i j hi0 (by omega) (by omega)]; exact hs undef
/-- `s[lo:hi]` of a row: a part that may be read. -/
theorem Run.part {d : Nat} (l h' : Nat) {t : TypeId} {x : Operand} {lo hi : Option Operand} {ql qh : List (Operand × SV)} {ty : TypeId} {pos : String} {after : Array Edge} {g : Option (Nat × Bool)} {gr : FL} {k m size : Nat} {e T : TypeId} {xs : List Value} (hg : Gd ops ⟨some d, .slice t x lo hi none, ty, pos, after, g⟩ fs gr)
    (hx : ev fs x = some (.a (.c (.nv k)))) (hlo : Bnd fs 0 l ql lo) (hhi : Bnd fs m h' qh hi) (hl : lkT L k = some (row k T size m xs)) (hu : P.underlying t = some (.slice e)) (hsz : ∀ w : World, (sizeOf e).run P w = .ok size w) (hlh : l ≤ h') (hh : h' ≤ m) (hn : Nat.blt d n = true)
    (h : Run P n ops rest ((d, .a (.c (.rs k l h' size))) :: fs) L ss fs' L') : Run P n ops (⟨some d, .slice t x lo hi none, ty, pos, after, g⟩ :: rest) fs L (⟨gr ++ opds ((x, .a (.c (.nv k))) :: (ql ++ qh)), some d, .a (.c (.rs k l h' size)), [(k, row k T size m xs)], [], [], []⟩ :: ss) fs' L' :=
  Run.pureR ((x, .a (.c (.nv k))) :: (ql ++ qh)) (.a (.c (.rs k l h' size))) [(k, row k T size m xs)] rfl hg (fun p hp => by
    rcases List.mem_cons.1 hp with rfl | hp
    · exact hx
    · rcases List.mem_append.1 hp with hp | hp
      · exact hlo.ev p hp
      · exact hhi.ev p hp) (fun p hp => by simp at hp; subst hp; exact hl) (by simp) hn (fun β ρ w F hs hρ => by
    have e1 : ρ x = one1 (β k).v := hρ (x, .a (.c (.nv k))) (by simp)
    obtain ⟨lv, hlv, hl'⟩ := hlo.val (fun p hp => hρ p (List.mem_cons_of_mem _ (List.mem_append_left _ hp)))
    obtain ⟨hv, hhv, hh'⟩ := hhi.val (fun p hp => hρ p (List.mem_cons_of_mem _ (List.mem_append_right _ hp)))
    have h2 := (Star_one.1 hs).2
    have e2 := one1_row h2
    have : ∃ ao cap, one1 (β k).v = .slice ao m cap ∧ m ≤ cap := by
      rcases h2.2 with ⟨h0, h4⟩ | ⟨g, cap, cur, hv, _, _, hc, _⟩
      · exact ⟨none, 0, by rw [h0, h4], by omega⟩
      · exact ⟨_, cap, hv, hc⟩
    obtain ⟨ao, cap, h3, hc⟩ := this
    simp only [execOp, e1, h3, hlv, hhv, Option.map_none]
    rw [run_bind_ok (run_part (P := P) hu hsz hl' hh' hlh hh hc w)]
    rw [e2] at h3
    simp only [SV.den, Av.den, Cl.den, h3, partOf, sliced]; rfl) h
/-- `s = s[:hi]` of a row: the row is the shorter one. -/
theorem Run.cut {d : Nat} (k2 h' : Nat) (xs' : List Value) {t : TypeId} {x : Operand} {hi : Option Operand} {qh : List (Operand × SV)} {ty : TypeId} {pos : String} {after : Array Edge} {g : Option (Nat × Bool)} {gr : FL} {k m size : Nat} {e T : TypeId} {xs : List Value} (hg : Gd ops ⟨some d, .slice t x none hi none, ty, pos, after, g⟩ fs gr)
    (hx : ev fs x = some (.a (.c (.nv k)))) (hhi : Bnd fs m h' qh hi) (hl : lkT L k = some (row k T size m xs)) (hu : P.underlying t = some (.slice e)) (hsz : ∀ w : World, (sizeOf e).run P w = .ok size w) (hh : h' ≤ m) (hxs : xs.take (h' * size) = xs') (hl2 : lkT L k2 = none) (hne2 : Nat.beq k2 k = false) (hfr : frB [k2] fs ((k, none) :: L) = true) (hn : Nat.blt d n = true)
    (h : Run P n ops rest ((d, .a (.c (.nv k2))) :: fs) ((k2, some (row k2 T size h' xs')) :: (k, none) :: L) ss fs' L') : Run P n ops (⟨some d, .slice t x none hi none, ty, pos, after, g⟩ :: rest) fs L (⟨gr ++ opds ((x, .a (.c (.nv k))) :: qh), some d, .a (.c (.nv k2)), [], [(k, row k T size m xs)], [(k2, row k2 T size h' xs')], [k2]⟩ :: ss) fs' L' := by
  obtain ⟨f1, f2, f3⟩ := frB_spec hfr
  have hev : ∀ p ∈ (x, SV.a (.c (.nv k))) :: qh, ev fs p.1 = some p.2 := fun p hp => by
    rcases List.mem_cons.1 hp with rfl | hp
    · exact hx
    · exact hhi.ev p hp
  have nk2 : k2 ≠ k := fun e => by subst e; simp at hne2
  refine Run.cons ?_ ?_ ?_ (fun j => ?_) h
  · intro β a w G K Q hrs hsz' hst hK
    have hw := hg.wanted hrs hsz'
    have hρ := opds_eval hg hev hrs
    have e1 : a.eval x = one1 (β k).v := hρ (x, .a (.c (.nv k))) (by simp)
    obtain ⟨hv, hhv, hh'⟩ := hhi.val (fun p hp => hρ p (List.mem_cons_of_mem _ hp))
    have hr3 := Star_one.1 hst
    have h2 : w.ownsRow 0 T size (one1 (β k).v) m xs := hr3.2
    have : ∃ ao cap, one1 (β k).v = .slice ao m cap ∧ m ≤ cap := by
      rcases h2.2 with ⟨h0, h4⟩ | ⟨g, cap, cur, hv, _, _, hc, _⟩
      · exact ⟨none, 0, by rw [h0, h4], by omega⟩
      · exact ⟨_, cap, hv, hc⟩
    obtain ⟨ao, cap, h3, hc⟩ := this
    have hrun : (execOp a.eval ⟨some d, .slice t x none hi none, ty, pos, after, g⟩).run P w = .ok (.value (.slice ao h' cap)) w := by
      simp only [execOp, e1, h3, hhv, Option.map_none]
      have hp := run_part (P := P) (lo := none) (a := ao) hu hsz (.inl ⟨rfl, rfl⟩) hh' (Nat.zero_le _) hh hc w
      simp only [Option.map_none] at hp
      rw [run_bind_ok hp]
      have : sliced ao 0 h' cap size = .slice ao h' cap := by
        simp only [sliced, Nat.zero_mul, Addr.add, if_true, Nat.sub_zero]
        split
        · rfl
        · cases ao <;> rfl
      rw [this]; rfl
    unfold opW Oper.wp
    rw [if_pos hw, hrun]
    have hks : ∀ j, j ∉ [k2] → upd β k2 ⟨0, .slice ao h' cap⟩ j = β j := fun j hj => upd_ne _ _ (by simpa using hj)
    have o1 : one1 (.slice ao h' cap) = .slice ao h' cap := rfl
    have hown : (Value.slice ao h' cap).ownBlock = (one1 (β k).v).ownBlock := by rw [h3]; cases ao <;> rfl
    have := hK (upd β k2 ⟨0, .slice ao h' cap⟩) w G hks (Star_one.2 ⟨fun x => ?_, ?_⟩) (fun b hb => .inl hb) (Mod.refl _ _)
    · have e : (SV.a (.c (.nv k2))).den (upd β k2 ⟨0, .slice ao h' cap⟩) = .slice ao h' cap := by simp [SV.den, Av.den, Cl.den, o1]
      rw [e] at this
      rw [Oper.upon_value]; exact this
    · show G x ↔ (one1 ((upd β k2 ⟨0, .slice ao h' cap⟩) k2).v).ownBlock = some x
      rw [upd_same, o1, hown]; exact hr3.1 x
    · show w.ownsRow 0 T size (one1 ((upd β k2 ⟨0, .slice ao h' cap⟩) k2).v) h' xs'
      rw [upd_same, o1]
      rw [h3] at h2
      refine ⟨?_, ?_⟩
      · rw [← hxs, List.length_take, h2.1]
        exact Nat.min_eq_left (Nat.mul_le_mul_right _ hh)
      · rcases h2.2 with ⟨h0, h4⟩ | ⟨g, cap', cur, hv, hb, hg', hc1, hc2, hc3, hc4⟩
        · cases h0
          exact .inl ⟨by rw [show h' = 0 by omega], by omega⟩
        · cases hv
          refine .inr ⟨g, cap, cur, rfl, hb, hg', by omega, hc2, hc3, ?_⟩
          rw [← hxs, ← hc4, List.take_take]
          congr 1
          exact (Nat.min_eq_left (Nat.mul_le_mul_right _ hh)).symm
  · refine ⟨fun t y hy => ?_, fun d' hd' => ?_, fun p hp => ?_, by simp, by simp, fun p hp => ?_, f1, f2, fun j t hj hp => ?_⟩
    · rw [lk_append] at hy
      cases hx' : lk gr t with
      | some z => rw [hx'] at hy; simp at hy; subst hy; exact hg.fs hx'
      | none => rw [hx'] at hy; simp at hy; exact opds_fs hev hy
    · simp at hd'; subst hd'
      rw [Nat.blt_eq] at hn
      exact hn
    · simp at hp; subst hp; exact hl
    · simp at hp; subst hp; exact .inr hl2
    · refine f3 j t ?_
      rw [lkT_cons, upd_ne _ _ (fun e => hp _ List.mem_cons_self e.symm)]; exact hj
  · simp only [Step.outF, lk_cons]
  · rw [lkT_cons, lkT_cons, Step.outM_eq]
    by_cases e : j = k2
    · subst e; simp [lkP]
    · by_cases e' : j = k
      · subst e'; simp [lkP, e, upd]
      · simp [lkP, e, e', upd]

/-! ### 20. A slice literal: a row of the call's own -/
def zcells : TyI → List Value
  | .one z => [z]
  | .st _ _ zs => zs
  | .none => []
def bz (ti : TyI) (len : Nat) : List Value := (List.range (len * tsize ti)).map fun i => (zcells ti).getD (i % tsize ti) undef
def bfl (size len : Nat) : List (Nat × Nat × TypeId) := (List.range len).map fun i => (i * size, size, 0)
theorem Run.buildRow (Y : Tys P) (k : Nat) (ys : List (Nat × Av)) (xs : List Value) {d : Nat} {t e len : Nat} {ps : Array (Nat × Operand)} {ty : TypeId} {pos : String} {after : Array Edge} {g : Option (Nat × Bool)} {gr : FL} {ti : TyI} (l : List (Operand × SV)) (hg : Gd ops ⟨some d, .buildSlice t len ps, ty, pos, after, g⟩ fs gr)
    (hev : ∀ p ∈ l, ev fs p.1 = some p.2) (hps : ps.toList = (List.zip ys l).map fun q => (q.1.1, q.2.1)) (hys : l.map (·.2) = ys.map fun q => .a q.2) (hu : P.underlying t = some (.slice e)) (hT : Y.f e = ti) (hnz : Nat.blt 0 (tsize ti) = true) (hs24 : Nat.ble (len * tsize ti) 16777216 = true) (hf : fillC (bfl (tsize ti) len) ((bz ti len).map .v) ys = some (xs.map .v)) (hxl : Nat.beq xs.length (len * tsize ti) = true)
    (hl : lkT L k = none) (hfr : frB [k] fs L = true) (hn : Nat.blt d n = true)
    (h : Run P n ops rest ((d, .a (.c (.nv k))) :: fs) ((k, some (row k e (tsize ti) len xs)) :: L) ss fs' L') : Run P n ops (⟨some d, .buildSlice t len ps, ty, pos, after, g⟩ :: rest) fs L (⟨gr ++ opds l, some d, .a (.c (.nv k)), [], [], [(k, row k e (tsize ti) len xs)], [k]⟩ :: ss) fs' L' := by
  subst hT
  obtain ⟨f1, f2, f3⟩ := frB_spec hfr
  have hxl' := Nat.eq_of_beq_eq_true hxl
  have hs24' := Nat.le_of_ble_eq_true hs24
  rw [Nat.blt_eq] at hnz
  refine Run.cons ?_ ?_ ?_ (fun j => ?_) h
  · intro β a w G K Q hrs hsz hst hK
    have hw := hg.wanted hrs hsz
    have hρ := opds_eval hg hev hrs
    have e0 : ps.map (fun (i, x) => (i, a.eval x)) = (ys.map fun p => (p.1, p.2.den β)).toArray := by
      apply Array.ext'
      simp only [Array.toList_map, hps, List.map_map]
      clear hps hf hev h hrs hsz hst hK hg
      induction ys generalizing l with
      | nil => simp
      | cons q ys ih =>
        cases l with
        | nil => simp at hys
        | cons p l =>
          simp only [List.map_cons, List.cons.injEq] at hys
          have h1 := hρ p (by simp)
          simp only [List.zip_cons_cons, List.map_cons, Function.comp, h1, hys.1]
          rw [show (SV.a q.2).den β = q.2.den β from rfl]
          congr 1
          exact ih l hys.2 (fun p hp => hρ p (by simp [hp]))
    have hz : (∀ w : World, (sizeOf e).run P w = .ok (tsize (Y.f e)) w) ∧ ∃ z, (∀ w : World, (zeroValue e).run P w = .ok z w) ∧ z.cells = (zcells (Y.f e)).toArray ∧ (zcells (Y.f e)).length = tsize (Y.f e) := by
      have := Y.ok e
      cases hq : Y.f e with
      | one z => rw [hq] at this; exact ⟨this.size, z, this.zero, this.zc, rfl⟩
      | st N fl zs => rw [hq] at this; exact ⟨this.size, _, this.zero, rfl, this.zl⟩
      | none => rw [hq] at hnz; simp [tsize] at hnz
    obtain ⟨hsz1, z, hz1, hz2, hz3⟩ := hz
    have e1 : ((bz (Y.f e) len).map Cl.v).map (Cl.den β) = bz (Y.f e) len := by simp [Function.comp_def, Cl.den]
    have e2 : (xs.map Cl.v).map (Cl.den β) = xs := by simp [Function.comp_def, Cl.den]
    have hfill := fill_run (P := P) (T := 0) (n := 0) (zs := []) β (fun i => some (i * tsize (Y.f e), tsize (Y.f e))) (fl := bfl (tsize (Y.f e)) len) (fun i q hq => by
      simp only [bfl, List.getElem?_map, Option.map_eq_some_iff] at hq
      obtain ⟨j, hj, rfl⟩ := hq
      rw [List.getElem?_range] at hj
      · simp at hj; subst hj; rfl
      · by_cases hlt : i < len
        · exact hlt
        · rw [List.getElem?_eq_none (by simpa using hlt)] at hj; cases hj) ys _ _ hf
    rw [e1, e2] at hfill
    have hrun : (execOp a.eval ⟨some d, .buildSlice t len ps, ty, pos, after, g⟩).run P w = .ok (.value (.slice (some ⟨w.heap.size, 0, none⟩) len len)) (w.alloc (.cells xs.toArray e)) := by
      suffices hb : (Instr.buildSlice t len (ys.map fun p => (p.1, p.2.den β)).toArray).run P w = .ok (.slice (some ⟨w.heap.size, 0, none⟩) len len) (w.alloc (.cells xs.toArray e)) by
        simp only [execOp, e0]
        rw [run_bind_ok hb]; rfl
      unfold Instr.buildSlice
      rw [run_bind_ok (run_und hu w)]
      simp only
      rw [run_bind_ok (hsz1 w)]
      have hng : ¬ (len * tsize (Y.f e) > 2 ^ 24) := by omega
      simp only [if_neg hng]
      by_cases h0 : len * tsize (Y.f e) = 0
      · have hl0 : len = 0 := by
          rcases Nat.mul_eq_zero.1 h0 with h | h
          · exact h
          · omega
        subst hl0
        have hb0 : bz (Y.f e) 0 = [] := by simp [bz]
        rw [hb0] at hfill
        have e9 : ∀ f : Nat → Value, (Array.range 0).map f = #[] := fun f => Array.eq_empty_of_size_eq_zero (by simp)
        simp [e9, hfill, newRow]
      · have hzz : (Array.range (len * tsize (Y.f e))).map ((zcells (Y.f e)).toArray[· % (zcells (Y.f e)).toArray.size]!) = (bz (Y.f e) len).toArray := by
          apply Array.ext'
          simp [bz, Array.toList_range, hz3]
          intro a _
          have hlt : a % tsize (Y.f e) < (zcells (Y.f e)).length := by rw [hz3]; exact Nat.mod_lt _ hnz
          simp [hlt]
        simp only [if_neg h0, Sem.run_bind, hz1, Result.andThen_ok, Sem.run_pure, hz2, hzz, hfill]
        simp [newRow]
    unfold opW Oper.wp
    rw [if_pos hw, hrun]
    have hks : ∀ j, j ∉ [k] → upd β k ⟨0, .slice (some ⟨w.heap.size, 0, none⟩) len len⟩ j = β j := fun j hj => upd_ne _ _ (by simpa using hj)
    have o1 : one1 (.slice (some ⟨w.heap.size, 0, none⟩) len len) = .slice (some ⟨w.heap.size, 0, none⟩) len len := rfl
    have := hK (upd β k ⟨0, .slice (some ⟨w.heap.size, 0, none⟩) len len⟩) (w.alloc (.cells xs.toArray e)) (fun b => b = w.heap.size) hks (Star_one.2 ⟨fun x => ?_, ?_⟩) (fun b hb => .inr (by omega))
      ⟨rfl, rfl, rfl, by simp, fun j hj _ => Go.RowKit.Below.heap_alloc _ _ _ hj⟩
    · have e : (SV.a (.c (.nv k))).den (upd β k ⟨0, .slice (some ⟨w.heap.size, 0, none⟩) len len⟩) = .slice (some ⟨w.heap.size, 0, none⟩) len len := by simp [SV.den, Av.den, Cl.den, o1]
      rw [e] at this
      rw [Oper.upon_value]; exact this
    · show x = w.heap.size ↔ (one1 ((upd β k ⟨0, .slice (some ⟨w.heap.size, 0, none⟩) len len⟩) k).v).ownBlock = some x
      rw [upd_same, o1]; simp [Value.ownBlock]; exact eq_comm
    · show (w.alloc (.cells xs.toArray e)).ownsRow 0 e (tsize (Y.f e)) (one1 ((upd β k ⟨0, .slice (some ⟨w.heap.size, 0, none⟩) len len⟩) k).v) len xs
      rw [upd_same, o1]
      refine ⟨hxl', .inr ⟨w.heap.size, len, xs.toArray, rfl, Nat.zero_le _, heap_alloc_new w _, Nat.le_refl _, ?_, by simp [hxl'], by simp [← hxl']⟩⟩
      have : len ≤ len * tsize (Y.f e) := Nat.le_mul_of_pos_right _ hnz
      simp only [maxLen]; omega
  · refine ⟨fun t y hy => ?_, fun d' hd' => ?_, fun p hp => by simp at hp, by simp, by simp, fun p hp => by simp at hp; subst hp; exact .inr hl, f1, f2, fun j t hj _ => f3 j t hj⟩
    · rw [lk_append] at hy
      cases hx' : lk gr t with
      | some z => rw [hx'] at hy; simp at hy; subst hy; exact hg.fs hx'
      | none => rw [hx'] at hy; simp at hy; exact opds_fs hev hy
    · simp at hd'; subst hd'
      rw [Nat.blt_eq] at hn
      exact hn
  · simp only [Step.outF, lk_cons]
  · rw [lkT_cons, Step.outM_eq]
    by_cases e : j = k
    · subst e; simp [lkP]
    · simp [lkP, e, upd]

end
/-! ### 21. Structs of numbers and bools compared -/
/-- A struct's cells, one by one: true: a number; false: a bool. -/
def leavesGo (P : Program) (rec : TypeId → Option (List Bool)) : Nat → List Field → Option (List Bool)
  | _, [] => some []
  | o, f :: r => match f.name != "_" && f.offset == o, rec f.type with
    | true, some l => match leavesGo P rec (o + l.length) r with
      | some m => some (l ++ m)
      | none => none
    | _, _ => none
def leaves (P : Program) : Nat → TypeId → Option (List Bool)
  | 0, _ => none
  | d + 1, T => match P.underlying T with
    | some (.int _) => some [true]
    | some .bool => some [false]
    | some (.struct fs) => match P.stoodInHeld T, (P.info? T).map (·.size), leavesGo P (leaves P d) 0 fs.toList with
      | false, some n, some l => if n == l.length then some l else none
      | _, _, _ => none
    | _ => none
def leafEq : List Bool → List Value → List Value → Option Bool
  | [], [], [] => some true
  | true :: ks, .int .i64 a :: xs, .int .i64 b :: ys => match leafEq ks xs ys with
    | some r => some ((a == b) && r)
    | none => none
  | false :: ks, .bool a :: xs, .bool b :: ys => match leafEq ks xs ys with
    | some r => some ((a == b) && r)
    | none => none
  | _, _, _ => none
theorem leafEq_len : ∀ {ks : List Bool} {xs ys : List Value} {r : Bool}, leafEq ks xs ys = some r → xs.length = ks.length ∧ ys.length = ks.length
  | [], [], [], _, _ => ⟨rfl, rfl⟩
  | true :: ks, .int .i64 a :: xs, .int .i64 b :: ys, r, h => by
    simp only [leafEq] at h
    split at h
    · rename_i r' hr
      have := leafEq_len hr
      simp [this]
    · cases h
  | false :: ks, .bool a :: xs, .bool b :: ys, r, h => by
    simp only [leafEq] at h
    split at h
    · rename_i r' hr
      have := leafEq_len hr
      simp [this]
    · cases h
theorem leafEq_append : ∀ {ks ks' : List Bool} {xs ys : List Value} {r : Bool}, leafEq (ks ++ ks') xs ys = some r →
    ∃ r1 r2, leafEq ks (xs.take ks.length) (ys.take ks.length) = some r1 ∧ leafEq ks' (xs.drop ks.length) (ys.drop ks.length) = some r2 ∧ r = (r1 && r2)
  | [], ks', xs, ys, r, h => ⟨true, r, rfl, by simpa using h, by simp⟩
  | true :: ks, ks', .int .i64 a :: xs, .int .i64 b :: ys, r, h => by
    simp only [List.cons_append, leafEq] at h
    split at h
    · rename_i r' hr
      obtain ⟨r1, r2, h1, h2, h3⟩ := leafEq_append hr
      simp only [Option.some.injEq] at h
      refine ⟨(a == b) && r1, r2, ?_, by simpa using h2, by rw [← h, h3, Bool.and_assoc]⟩
      simp only [List.length_cons, List.take_succ_cons, leafEq, h1]
    · cases h
  | false :: ks, ks', .bool a :: xs, .bool b :: ys, r, h => by
    simp only [List.cons_append, leafEq] at h
    split at h
    · rename_i r' hr
      obtain ⟨r1, r2, h1, h2, h3⟩ := leafEq_append hr
      simp only [Option.some.injEq] at h
      refine ⟨(a == b) && r1, r2, ?_, by simpa using h2, by rw [← h, h3, Bool.and_assoc]⟩
      simp only [List.length_cons, List.take_succ_cons, leafEq, h1]
    · cases h

theorem leaves_pos {P : Program} {d : Nat} {T : TypeId} {l : List Bool} (h : leaves P d T = some l) : ∃ d', d = d' + 1 := by
  cases d with
  | zero => cases h
  | succ d => exact ⟨d, rfl⟩
theorem equalIn_leaves {P : Program} (w : World) : ∀ (d D : Nat) (T : TypeId) (ks : List Bool), leaves P d T = some ks → d ≤ D → ∀ (xs ys : List Value) (r : Bool), leafEq ks xs ys = some r →
    (∃ x y, (P.plainKey T = true ∧ xs = [x] ∧ ys = [y]) ∧ (Op.equalIn D T x y).run P w = .ok r w) ∨ ((∃ fs, P.underlying T = some (.struct fs)) ∧ (P.info? T).map (·.size) = some ks.length ∧ (Op.equalIn D T (.agg xs.toArray) (.agg ys.toArray)).run P w = .ok r w)
  | 0, _, _, _, h, _, _, _, _, _ => by cases h
  | d + 1, D, T, ks, h, hD, xs, ys, r, hr => by
    obtain ⟨D, rfl⟩ : ∃ D', D = D' + 1 := ⟨D - 1, by omega⟩
    simp only [leaves] at h
    split at h
    · rename_i k hu
      cases h
      left
      match xs, ys, hr with
      | [.int .i64 a], [.int .i64 b], hr =>
        simp only [leafEq, Bool.and_true, Option.some.injEq] at hr
        refine ⟨_, _, ⟨by unfold Program.plainKey; rw [hu], rfl, rfl⟩, ?_⟩
        rw [run_equalIn_int (P := P) w D T .i64 k a b hu, hr]
      | [.int .i64 a], .int .i64 b :: c :: l, hr => simp [leafEq] at hr
      | .int .i64 a :: c :: l, .int .i64 b :: m, hr => simp [leafEq] at hr
    · rename_i hu
      cases h
      left
      match xs, ys, hr with
      | [.bool a], [.bool b], hr =>
        simp only [leafEq, Bool.and_true, Option.some.injEq] at hr
        refine ⟨_, _, ⟨by unfold Program.plainKey; rw [hu], rfl, rfl⟩, ?_⟩
        rw [run_equalIn_bool' (P := P) w D T a b hu, hr]
      | [.bool a], .bool b :: c :: l, hr => simp [leafEq] at hr
      | .bool a :: c :: l, .bool b :: m, hr => simp [leafEq] at hr
    · rename_i fs hu
      split at h
      · rename_i n l hst hn hl
        split at h
        · rename_i hnl
          cases h
          right
          have hf : P.fieldsOf T = fs := by simp [Program.fieldsOf, hu]
          refine ⟨⟨fs, hu⟩, by rw [hn]; simpa using hnl, ?_⟩
          rw [run_equalIn_struct (P := P) w D T _ _ (by rw [hf]; exact hu) hst, hf]
          have key : ∀ (fl : List Field) (o : Nat) (l : List Bool) (r : Bool), leavesGo P (leaves P d) o fl = some l → leafEq l (xs.drop o) (ys.drop o) = some r → (Op.eqFields D xs.toArray ys.toArray fl).run P w = .ok r w := by
            intro fl
            induction fl with
            | nil =>
              intro o l r h h2
              cases h
              have : r = true := by
                generalize xs.drop o = a at h2; generalize ys.drop o = b at h2
                match a, b, h2 with
                | [], [], h2 => cases h2; rfl
              subst this
              simp [Op.eqFields]
            | cons f fl ih =>
              intro o l r h h2
              simp only [leavesGo] at h
              split at h
              · rename_i l1 hb hl1
                split at h
                · rename_i m hm
                  cases h
                  simp only [Bool.and_eq_true, bne_iff_ne, beq_iff_eq] at hb
                  obtain ⟨r1, r2, h3, h4, h5⟩ := leafEq_append h2
                  rw [List.drop_drop, List.drop_drop] at h4
                  have ihr := ih (o + l1.length) m r2 hm h4
                  rw [Op.eqFields, if_pos hb.1]
                  have hlen := leafEq_len h3
                  have hpart : ∃ x y, (part f.type xs.toArray f.offset).run P w = .ok x w ∧ (part f.type ys.toArray f.offset).run P w = .ok y w ∧ (Op.equalIn D f.type x y).run P w = .ok r1 w := by
                    rcases equalIn_leaves w d D f.type l1 hl1 (by omega) _ _ r1 h3 with ⟨x, y, ⟨hk, hx, hy⟩, he⟩ | ⟨⟨fs', hu'⟩, hi, he⟩
                    · refine ⟨x, y, run_part_plain w hk ?_, run_part_plain w hk ?_, he⟩
                      · rw [hb.2]
                        have : (xs.drop o)[0]? = some x := by
                          have h0 : 0 < l1.length := by rw [← hlen.1, hx]; simp
                          have := congrArg (·[0]?) hx
                          simpa [List.getElem?_take, h0] using this
                        simpa using this
                      · rw [hb.2]
                        have : (ys.drop o)[0]? = some y := by
                          have h0 : 0 < l1.length := by rw [← hlen.2, hy]; simp
                          have := congrArg (·[0]?) hy
                          simpa [List.getElem?_take, h0] using this
                        simpa using this
                    · refine ⟨_, _, ?_, ?_, he⟩
                      · obtain ⟨i, hi1, hi2⟩ := Option.map_eq_some_iff.1 hi
                        simp only [part, isAgg, Sem.run_bind, run_underlying hu', Result.andThen_ok, sizeOf, typeInfo, hi1]
                        simp [hi1, hi2, hb.2]
                      · obtain ⟨i, hi1, hi2⟩ := Option.map_eq_some_iff.1 hi
                        simp only [part, isAgg, Sem.run_bind, run_underlying hu', Result.andThen_ok, sizeOf, typeInfo, hi1]
                        simp [hi1, hi2, hb.2]
                  obtain ⟨x, y, hx, hy, he⟩ := hpart
                  simp only [Sem.run_bind, hx, hy, he, Result.andThen_ok]
                  rw [h5]
                  cases r1
                  · simp
                  · simpa using ihr
                · cases h
              · cases h
          exact key fs.toList 0 ks r hl (by simpa using hr)
        · cases h
      · cases h
    · cases h
def cmpB (P : Program) (T : TypeId) (ks : List Bool) : Bool := (leaves P 100 T == some ks) && (match P.underlying T with | some (.struct _) => true | _ => false) && !P.eqGuardType P.depth T
section
variable {P : Program} {n : Nat} {ops : Array Oper} {rest : List Oper} {fs fs' : FL} {L L' : TL} {ss : List Step}
theorem eql_leaves {T : TypeId} {ks : List Bool} (hc : cmpB P T ks = true) {xs ys : List Value} {r : Bool} (hr : leafEq ks xs ys = some r) (op : BinOp) (hop : op = .eql ∨ op = .neq) (x z : Operand) (w : World) :
    (do eqGuard op T x z (.agg xs.toArray) (.agg ys.toArray); binOp op T (.agg xs.toArray) (.agg ys.toArray) : Sem Value).run P w = .ok (.bool (if op = .eql then r else !r)) w := by
  simp only [cmpB, Bool.and_eq_true, beq_iff_eq, Bool.not_eq_true'] at hc
  obtain ⟨⟨h1, h2⟩, h3⟩ := hc
  rw [run_bind_ok (run_eqGuard_agg w op T x z _ _ h3)]
  have he : (Op.equalIn 10000 T (.agg xs.toArray) (.agg ys.toArray)).run P w = .ok r w := by
    rcases equalIn_leaves w 100 10000 T ks h1 (by omega) xs ys r hr with ⟨x, y, ⟨hk, _, _⟩, _⟩ | ⟨_, _, h⟩
    · exfalso
      unfold Program.plainKey at hk
      split at h2
      · rename_i fs hu; rw [hu] at hk; cases hk
      · cases h2
    · exact h
  rcases hop with rfl | rfl
  · rw [run_eql_struct, he]; rfl
  · rw [run_neq_struct, he]; rfl
theorem Run.eqS (xs ys : List Value) {d : Nat} {op : BinOp} {t ty : TypeId} {x z : Operand} {T : TypeId} {pos : String} {after : Array Edge} {g : Option (Nat × Bool)} {gr : FL} {ks : List Bool} {r : Bool} (hg : Gd ops ⟨some d, .binOp op t x z ty, T, pos, after, g⟩ fs gr) (hx : ev fs x = some (.a (.agg (xs.map .v)))) (hz : ev fs z = some (.a (.agg (ys.map .v))))
    (hc : cmpB P t ks = true) (hr : leafEq ks xs ys = some r) (hop : op = .eql ∨ op = .neq) (V : Bool) (hV : (if op = .eql then r else !r) = V) (hn : Nat.blt d n = true)
    (h : Run P n ops rest ((d, SV.b V) :: fs) L ss fs' L') : Run P n ops (⟨some d, .binOp op t x z ty, T, pos, after, g⟩ :: rest) fs L (⟨gr ++ opds [(x, .a (.agg (xs.map .v))), (z, .a (.agg (ys.map .v)))], some d, SV.b V, [], [], [], []⟩ :: ss) fs' L' :=
  Run.pure [(x, .a (.agg (xs.map .v))), (z, .a (.agg (ys.map .v)))] (SV.b V) rfl hg (fun p hp => by simp at hp; rcases hp with rfl | rfl <;> assumption) hn (fun β ρ w hρ => by
    have h1 : ρ x = .agg xs.toArray := by have := hρ (x, .a (.agg (xs.map .v))) (by simp); simpa [SV.den, Av.den, Cl.den, Function.comp_def] using this
    have h2 : ρ z = .agg ys.toArray := by have := hρ (z, .a (.agg (ys.map .v))) (by simp); simpa [SV.den, Av.den, Cl.den, Function.comp_def] using this
    subst hV
    simp only [execOp, h1, h2]
    rw [run_bind_ok (eql_leaves hc hr op hop x z w)]; rfl) h
end
end Go.Proofs.Ytheopcgjdfckmaa.Sx

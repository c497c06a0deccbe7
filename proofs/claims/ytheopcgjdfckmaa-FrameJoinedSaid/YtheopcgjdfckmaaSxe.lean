/- Steps that read and write blocks, calls; codes; entering and leaving a function. -/
import Derived.Test.YtheopcgjdfckmaaSxd
namespace Go.Proofs.Ytheopcgjdfckmaa.Sx
open Go
set_option linter.unusedVariables false

/-! ### 9. Cells of a block -/
def setAt : List Cl → Nat → List Cl → List Cl
  | cs, 0, [] => cs
  | x :: cs, 0, y :: ys => y :: setAt cs 0 ys
  | x :: cs, o + 1, ys => x :: setAt cs o ys
  | [], _, _ => []
theorem setAt_eq : ∀ (cs : List Cl) (o : Nat) (ys : List Cl), o + ys.length ≤ cs.length → setAt cs o ys = cs.take o ++ ys ++ cs.drop (o + ys.length)
  | cs, 0, [], _ => by cases cs <;> simp [setAt]
  | x :: cs, 0, y :: ys, h => by
    have := setAt_eq cs 0 ys (by simp at h ⊢; omega)
    simp only [setAt, this]
    simp
  | x :: cs, o + 1, ys, h => by
    have := setAt_eq cs o ys (by simp at h; omega)
    simp only [setAt, this]
    simp [Nat.add_right_comm]
  | [], 0, y :: ys, h => by simp at h
  | [], o + 1, ys, h => by simp at h
def Cl.ok1 : Cl → Bool
  | .v x => x.oneCell'
  | _ => true
theorem Cl.ok1_den {x : Cl} (h : x.ok1 = true) (β : Env) : (x.den β).oneCell' = true := by
  cases x with
  | v x => exact h
  | nv k => simp only [Cl.den, one1]; split <;> first | assumption | rfl
  | rp k off => simp only [Cl.den, rowPtr]; split <;> rfl
  | rs k l h s => simp only [Cl.den, partOf]; split <;> rfl
  | _ => rfl
/-- The cells of a variable's value. -/
def Av.cl : Av → List Cl
  | .c x => [x]
  | .agg l => l
theorem Cl.den_cells {x : Cl} (h : x.ok1 = true) (β : Env) : (x.den β).cells = #[x.den β] := by
  have := Cl.ok1_den h β
  cases hx : x.den β <;> simp_all [Value.cells, Value.oneCell']
theorem Av.den_cells {y : Av} (h : y.cl.all Cl.ok1 = true) (β : Env) : (y.den β).cells = (y.cl.map (Cl.den β)).toArray := by
  cases y with
  | c x => simp only [Av.cl, List.all_cons, List.all_nil, Bool.and_true] at h; simp [Av.den, Av.cl, Cl.den_cells h]
  | agg l => rfl

theorem cell_add {w : World} {b : Nat} {cs : List Value} {T : TypeId} (hb : w.heap[b]? = some (.cells cs.toArray T (0, 0))) (off j : Nat) : w.cell? ((⟨b, off, none⟩ : Addr).add j) = cs[off + j]? := by
  have : (⟨b, off, none⟩ : Addr).add j = ⟨b, off + j, none⟩ := by unfold Addr.add; split <;> simp_all
  rw [this]; simp [World.cell?, hb]

/-- A load. -/
theorem run_load1 {P : Program} {T : TypeId} {z : Value} (h : Ty1 P T z) {w : World} {b : Nat} {cs : List Value} {Tb : TypeId} (hb : w.heap[b]? = some (.cells cs.toArray Tb (0, 0))) {off : Nat} {v : Value} (hv : cs[off]? = some v) :
    (Instr.loadAt T (.pointer (some ⟨b, off, none⟩))).run P w = .ok v w := by
  unfold Instr.loadAt Instr.sureAddr
  simp only [Sem.run_bind, Sem.run_pure, Result.andThen_ok]
  unfold loadVar
  rw [run_bind_ok (h.agg w)]
  have : w.cell? ⟨b, off, none⟩ = some v := by simp [World.cell?, hb, hv]
  simp only [Bool.false_eq_true, if_false, load, Sem.run, this]
theorem run_loadS {P : Program} {T : TypeId} {n : Nat} {fl : List (Nat × Nat × TypeId)} {zs : List Value} (h : TyS P T n fl zs) {w : World} {b : Nat} {cs : List Value} {Tb : TypeId} (hb : w.heap[b]? = some (.cells cs.toArray Tb (0, 0))) {off : Nat} (hv : off + n ≤ cs.length) :
    (Instr.loadAt T (.pointer (some ⟨b, off, none⟩))).run P w = .ok (.agg ((cs.drop off).take n).toArray) w := by
  unfold Instr.loadAt Instr.sureAddr
  simp only [Sem.run_bind, Sem.run_pure, Result.andThen_ok]
  unfold loadVar
  rw [run_bind_ok (h.agg w)]
  simp only [if_true]
  rw [run_bind_ok (h.size w)]
  have := run_loadCells_list (P := P) w ⟨b, off, none⟩ ((cs.drop off).take n) (fun j v hj => by
    rw [cell_add hb, ← hj]
    have hlt := (List.getElem?_eq_some_iff.1 hj).1
    simp at hlt
    rw [List.getElem?_take, if_pos (by omega), List.getElem?_drop])
  rw [show ((cs.drop off).take n).length = n by simp; omega] at this
  rw [run_bind_ok this]; rfl

theorem storeMod {w : World} {b : Nat} {cs : List Value} {T : TypeId} (hb : w.heap[b]? = some (.cells cs.toArray T (0, 0))) (c : Array Value) : Mod (fun x => x = b) w (w.setRow b c) :=
  ⟨rfl, rfl, rfl, by simp [World.setRow], fun k _ hk => setRow_other w b k c hk⟩
/-- A store. -/
theorem run_storeC {P : Program} {T : TypeId} {m : Nat} (hs : ∀ w : World, (sizeOf T).run P w = .ok m w) {w : World} {b : Nat} {cs : List Value} {Tb : TypeId} (hb : w.heap[b]? = some (.cells cs.toArray Tb (0, 0))) {off : Nat} {v : Value} {ys : List Value}
    (hc : v.cells = ys.toArray) (hm : ys.length = m) (hl : off + m ≤ cs.length) (h1 : ∀ y ∈ ys, y.oneCell' = true) :
    (Instr.storeAt T (.pointer (some ⟨b, off, none⟩)) v).run P w = .ok () (w.setRow b (cs.take off ++ ys ++ cs.drop (off + ys.length)).toArray) := by
  unfold Instr.storeAt Instr.sureAddr
  simp only [Sem.run_bind, Sem.run_pure, Result.andThen_ok]
  unfold storeVar
  rw [run_bind_ok (hs w), hc]
  have e : ¬ (ys.toArray.size ≠ m) := by simp [hm]
  simp only [e, if_false]
  have := run_storeCells_at P b off Tb ys 0 cs.toArray w hb (by simp; omega) h1
  simp only [Nat.add_zero] at this
  simpa using this

def zcl : TyI → List Cl
  | .one z => [.v z]
  | .st _ _ zs => zs.map .v
  | .none => []
def tsize : TyI → Nat
  | .one _ => 1
  | .st n _ _ => n
  | .none => 0

theorem Star_one {r : Res} {w : World} {F : Foot} : Star [r] w F ↔ r.holds w F := by
  constructor
  · rintro ⟨F1, F2, e, _, h, h2⟩
    have : F = F1 := funext fun b => propext (by rw [e b]; exact ⟨fun h => h.elim id (fun h' => absurd h' (h2 b)), .inl⟩)
    rw [this]; exact h
  · intro h
    exact ⟨F, fun _ => False, fun b => by simp, fun _ _ h => h, h, fun b h => h⟩

theorem frB_spec {fr : List Nat} {fs : FL} {L : TL} (h : (fr.all fun k => Nat.ble 20 k && (fs.all fun p => !p.2.ks.contains k) && (L.all fun p => match p.2 with | some t => !t.ks.contains k | none => true)) = true) :
    (∀ k ∈ fr, 20 ≤ k) ∧ (∀ t x, lk fs t = some x → ∀ j ∈ x.ks, j ∉ fr) ∧ (∀ k t, lkT L k = some t → ∀ j ∈ t.ks, j ∉ fr) := by
  have h' := fun k hk => (List.all_eq_true.1 h k hk)
  simp only [Bool.and_eq_true] at h'
  refine ⟨fun k hk => Nat.le_of_ble_eq_true (h' k hk).1.1, fun t x hx j hj hjf => ?_, fun k t hk j hj hjf => ?_⟩
  · have := List.all_eq_true.1 (h' j hjf).1.2 _ (lk_mem hx)
    simp at this; exact this hj
  · have := List.all_eq_true.1 (h' j hjf).2 _ (lkT_mem hk)
    simp at this; exact this hj
def frB (fr : List Nat) (fs : FL) (L : TL) : Bool := fr.all fun k => Nat.ble 20 k && (fs.all fun p => !p.2.ks.contains k) && (L.all fun p => match p.2 with | some t => !t.ks.contains k | none => true)

/-- What a call comes to. -/
def Ret (F : Foot) (w : World) (fr : List Nat) (β : Env) (ret : SV) (to : List (Nat × Tok)) : Ending → World → Prop := fun e w' =>
  ∃ β' : Env, (∀ k, k ∉ fr → β' k = β k) ∧ e = .returned (ret.den β') ∧ ∃ F' : Foot, Star (to.map fun p => p.2.r β') w' F' ∧ (∀ b, F' b → F b ∨ w.heap.size ≤ b) ∧ Mod F w w'
/-- A function's contract: from arguments and tokens to a result and tokens. -/
def SCon (P : Program) (f : FuncId) (args : List SV) (ti : List (Nat × Tok)) (ret : SV) (to : List (Nat × Tok)) (fr : List Nat) : Prop :=
  ∀ (β : Env) (w : World) (F : Foot), Star (ti.map fun p => p.2.r β) w F → Calls P f (args.map (SV.den β)).toArray w (Ret F w fr β ret to)

def fnB (P : Program) (f : FuncId) : Bool := match P.funcs[f]? with
  | some fn => fn.name != "runtime.NumGoroutine" && fn.body.isSome
  | none => false
theorem callFunc_run {P : Program} {f : FuncId} (h : fnB P f = true) (args : Array Value) (w : World) : (callFunc f args).run P w = .ok (.enter f args) w := by
  unfold fnB at h
  split at h
  · rename_i fn hf
    simp only [Bool.and_eq_true, bne_iff_ne] at h
    unfold callFunc program
    rw [Sem.run_bind]
    simp only [Sem.run, Result.andThen, hf]
    have h2 : fn.body.isNone = false := by cases hb : fn.body <;> simp_all
    have h1 : (fn.name == "runtime.NumGoroutine") = false := by simpa using h.1
    simp [h1, h2]
  · cases h

section
variable {P : Program} {n : Nat} {ops : Array Oper} {rest : List Oper} {fs fs' : FL} {L L' : TL} {ss : List Step}

theorem Run.load1 (Y : Tys P) {d : Nat} {T : TypeId} {x : Operand} {ty : TypeId} {pos : String} {after : Array Edge} {g : Option (Nat × Bool)} {gr : FL} {k off : Nat} {z : Value} {cs : List Cl} {Tb : TypeId} {y : Cl} (hg : Gd ops ⟨some d, .load T x, ty, pos, after, g⟩ fs gr)
    (hx : ev fs x = some (SV.p k off)) (hl : lkT L k = some (blk k cs Tb)) (hT : Y.f T = .one z) (hv : cs[off]? = some y) (hn : Nat.blt d n = true)
    (h : Run P n ops rest ((d, .a (.c y)) :: fs) L ss fs' L') : Run P n ops (⟨some d, .load T x, ty, pos, after, g⟩ :: rest) fs L (⟨gr ++ opds [(x, SV.p k off)], some d, .a (.c y), [(k, blk k cs Tb)], [], [], []⟩ :: ss) fs' L' := by
  have hev : ∀ p ∈ [(x, SV.p k off)], ev fs p.1 = some p.2 := fun p hp => by simp at hp; subst hp; exact hx
  have hty : Ty1 P T z := by have := Y.ok T; rw [hT] at this; exact this
  refine Run.cons ?_ ?_ ?_ (fun k => ?_) h
  · intro β a w G K Q hrs hsz hst hK
    have hw := hg.wanted hrs hsz
    have h1 : a.eval x = .pointer (some ⟨(β k).b, off, none⟩) := opds_eval hg hev hrs (x, SV.p k off) (by simp)
    have h2 := Star_one.1 hst
    have h3 := run_load1 hty h2.2 (off := off) (v := y.den β) (by simp [hv])
    unfold opW Oper.wp
    rw [if_pos hw]
    simp only [execOp, h1]
    rw [run_bind_ok h3]
    exact hK β w G (fun _ _ => rfl) hst (fun b hb => .inl hb) (Mod.refl _ _)
  · refine ⟨fun t y hy => ?_, fun d' hd' => ?_, fun p hp => by simp at hp; subst hp; exact hl, by simp, by simp, fun p hp => by simp at hp, fun k hk => by simp at hk, fun _ _ _ _ _ h => by simp at h, fun _ _ _ _ _ _ h => by simp at h⟩
    · rw [lk_append] at hy
      cases hx' : lk gr t with
      | some z => rw [hx'] at hy; simp at hy; subst hy; exact hg.fs hx'
      | none => rw [hx'] at hy; simp at hy; exact opds_fs hev hy
    · simp at hd'; subst hd'
      rw [Nat.blt_eq] at hn
      exact hn
  · simp only [Step.outF, lk_cons]
  · rfl

theorem Run.loadS (Y : Tys P) (ys : List Cl) {d : Nat} {T : TypeId} {x : Operand} {ty : TypeId} {pos : String} {after : Array Edge} {g : Option (Nat × Bool)} {gr : FL} {k off N : Nat} {fl : List (Nat × Nat × TypeId)} {zs : List Value} {cs : List Cl} {Tb : TypeId} (hg : Gd ops ⟨some d, .load T x, ty, pos, after, g⟩ fs gr)
    (hx : ev fs x = some (SV.p k off)) (hl : lkT L k = some (blk k cs Tb)) (hT : Y.f T = .st N fl zs) (hv : (cs.drop off).take N = ys) (hle : Nat.ble (off + N) cs.length = true) (hn : Nat.blt d n = true)
    (h : Run P n ops rest ((d, .a (.agg ys)) :: fs) L ss fs' L') : Run P n ops (⟨some d, .load T x, ty, pos, after, g⟩ :: rest) fs L (⟨gr ++ opds [(x, SV.p k off)], some d, .a (.agg ys), [(k, blk k cs Tb)], [], [], []⟩ :: ss) fs' L' := by
  have hev : ∀ p ∈ [(x, SV.p k off)], ev fs p.1 = some p.2 := fun p hp => by simp at hp; subst hp; exact hx
  have hty : TyS P T N fl zs := by have := Y.ok T; rw [hT] at this; exact this
  have hle' : off + N ≤ cs.length := Nat.le_of_ble_eq_true hle
  refine Run.cons ?_ ?_ ?_ (fun k => ?_) h
  · intro β a w G K Q hrs hsz hst hK
    have hw := hg.wanted hrs hsz
    have h1 : a.eval x = .pointer (some ⟨(β k).b, off, none⟩) := opds_eval hg hev hrs (x, SV.p k off) (by simp)
    have h2 := Star_one.1 hst
    have h3 := run_loadS hty h2.2 (off := off) (by simpa using hle')
    unfold opW Oper.wp
    rw [if_pos hw]
    simp only [execOp, h1]
    rw [run_bind_ok h3]
    have e : (((cs.map (Cl.den β)).drop off).take N) = ys.map (Cl.den β) := by rw [← hv, List.map_take, List.map_drop]
    rw [e]
    exact hK β w G (fun _ _ => rfl) hst (fun b hb => .inl hb) (Mod.refl _ _)
  · refine ⟨fun t y hy => ?_, fun d' hd' => ?_, fun p hp => by simp at hp; subst hp; exact hl, by simp, by simp, fun p hp => by simp at hp, fun k hk => by simp at hk, fun _ _ _ _ _ h => by simp at h, fun _ _ _ _ _ _ h => by simp at h⟩
    · rw [lk_append] at hy
      cases hx' : lk gr t with
      | some z => rw [hx'] at hy; simp at hy; subst hy; exact hg.fs hx'
      | none => rw [hx'] at hy; simp at hy; exact opds_fs hev hy
    · simp at hd'; subst hd'
      rw [Nat.blt_eq] at hn
      exact hn
  · simp only [Step.outF, lk_cons]
  · rfl

theorem Run.store (Y : Tys P) (cs' : List Cl) {T : TypeId} {x v : Operand} {ty : TypeId} {pos : String} {after : Array Edge} {g : Option (Nat × Bool)} {gr : FL} {k off : Nat} {cs : List Cl} {Tb : TypeId} {y : Av} {ti : TyI} (hg : Gd ops ⟨none, .store T x v, ty, pos, after, g⟩ fs gr)
    (hx : ev fs x = some (SV.p k off)) (hy : ev fs v = some (.a y)) (hl : lkT L k = some (blk k cs Tb)) (hY : Y.f T = ti) (hT : Nat.beq y.cl.length (tsize ti) = true) (hnz : Nat.blt 0 (tsize ti) = true) (h1 : y.cl.all Cl.ok1 = true) (hv : setAt cs off y.cl = cs') (hle : Nat.ble (off + y.cl.length) cs.length = true)
    (h : Run P n ops rest fs ((k, some (blk k cs' Tb)) :: L) ss fs' L') : Run P n ops (⟨none, .store T x v, ty, pos, after, g⟩ :: rest) fs L (⟨gr ++ opds [(x, SV.p k off), (v, .a y)], none, SV.raw undef, [], [(k, blk k cs Tb)], [(k, blk k cs' Tb)], []⟩ :: ss) fs' L' := by
  have hev : ∀ p ∈ [(x, SV.p k off), (v, .a y)], ev fs p.1 = some p.2 := fun p hp => by simp at hp; rcases hp with rfl | rfl <;> assumption
  have hle' : off + y.cl.length ≤ cs.length := Nat.le_of_ble_eq_true hle
  subst hY
  have hT' : y.cl.length = tsize (Y.f T) := Nat.eq_of_beq_eq_true hT
  have hs : ∀ w : World, (sizeOf T).run P w = .ok y.cl.length w := by
    intro w
    have := Y.ok T
    rw [hT']
    rw [Nat.blt_eq] at hnz
    cases hq : Y.f T with
    | one z => rw [hq] at this; exact this.size w
    | st N fl zs => rw [hq] at this; exact this.size w
    | none => rw [hq] at hnz; simp [tsize] at hnz
  refine Run.cons ?_ ?_ ?_ (fun j => ?_) h
  · intro β a w G K Q hrs hsz hst hK
    have hw := hg.wanted hrs hsz
    have e1 : a.eval x = .pointer (some ⟨(β k).b, off, none⟩) := opds_eval hg hev hrs (x, SV.p k off) (by simp)
    have e2 : a.eval v = y.den β := opds_eval hg hev hrs (v, .a y) (by simp)
    have h2 := Star_one.1 hst
    have h3 := run_storeC hs h2.2 (off := off) (v := y.den β) (ys := y.cl.map (Cl.den β)) (Av.den_cells h1 β) (by simp) (by simpa using hle') (fun z hz => by
      obtain ⟨c, hc, rfl⟩ := List.mem_map.1 hz
      exact Cl.ok1_den (List.all_eq_true.1 h1 c hc) β)
    unfold opW Oper.wp
    rw [if_pos hw]
    simp only [execOp, e1, e2]
    rw [run_bind_ok h3]
    have e : (List.take off (cs.map (Cl.den β)) ++ y.cl.map (Cl.den β) ++ List.drop (off + (y.cl.map (Cl.den β)).length) (cs.map (Cl.den β))) = cs'.map (Cl.den β) := by
      rw [← hv, setAt_eq cs off y.cl hle']; simp
    rw [e]
    refine hK β _ G (fun _ _ => rfl) (Star_one.2 ⟨h2.1, ?_⟩) (fun b hb => .inl hb) ((storeMod h2.2 _).weaken (fun b _ hb => (h2.1 b).2 hb))
    exact setRow_heap w (β k).b _ _ _ _ h2.2
  · refine ⟨fun t y hy => ?_, fun d' hd' => by simp at hd', fun p hp => by simp at hp; subst hp; exact hl, by simp, by simp, fun p hp => by simp at hp; subst hp; exact .inl (by simp), fun k hk => by simp at hk, fun _ _ _ _ _ h => by simp at h, fun _ _ _ _ _ _ h => by simp at h⟩
    rw [lk_append] at hy
    cases hx' : lk gr t with
    | some z => rw [hx'] at hy; simp at hy; subst hy; exact hg.fs hx'
    | none => rw [hx'] at hy; simp at hy; exact opds_fs hev hy
  · simp only [Step.outF]
  · rw [lkT_cons, Step.outM_eq]
    by_cases e : j = k
    · subst e; simp [lkP]
    · simp [lkP, e, upd]

/-- A new variable: its zero value. -/
theorem Run.alloc (Y : Tys P) (k : Nat) (cs : List Cl) {d : Nat} {T : TypeId} {ty : TypeId} {pos : String} {after : Array Edge} {g : Option (Nat × Bool)} {gr : FL} {ti : TyI} (hg : Gd ops ⟨some d, .alloc T, ty, pos, after, g⟩ fs gr)
    (hY : Y.f T = ti) (hT : zcl ti = cs) (hnz : Nat.blt 0 (tsize ti) = true) (hl : lkT L k = none) (hfr : frB [k] fs L = true) (hn : Nat.blt d n = true)
    (h : Run P n ops rest ((d, SV.p k 0) :: fs) ((k, some (blk k cs T)) :: L) ss fs' L') : Run P n ops (⟨some d, .alloc T, ty, pos, after, g⟩ :: rest) fs L (⟨gr, some d, SV.p k 0, [], [], [(k, blk k cs T)], [k]⟩ :: ss) fs' L' := by
  subst hY
  obtain ⟨f1, f2, f3⟩ := frB_spec hfr
  refine Run.cons ?_ ?_ ?_ (fun j => ?_) h
  · intro β a w G K Q hrs hsz hst hK
    have hw := hg.wanted (rs := []) (by simpa using hrs) (by simpa using hsz)
    have hz : ∃ z, (∀ w : World, (zeroValue T).run P w = .ok z w) ∧ z.cells = (cs.map (Cl.den β)).toArray := by
      have := Y.ok T
      rw [Nat.blt_eq] at hnz
      cases hq : Y.f T with
      | one z => rw [hq] at this hT; exact ⟨z, this.zero, by rw [this.zc, ← hT]; rfl⟩
      | st N fl zs => rw [hq] at this hT; refine ⟨_, this.zero, by rw [← hT]; simp [zcl, Value.cells, Function.comp_def, Cl.den]⟩
      | none => rw [hq] at hnz; simp [tsize] at hnz
    obtain ⟨z, hz1, hz2⟩ := hz
    unfold opW Oper.wp
    rw [if_pos hw]
    have h3 : (Instr.alloc T true (.tuple #[])).run P w = .ok (.pointer (some ⟨w.heap.size, 0, none⟩)) { w with heap := w.heap.push (.cells (cs.map (Cl.den β)).toArray T) } := by
      unfold Instr.alloc
      rw [run_bind_ok (hz1 w)]
      simp only [newVar, newRow, newObj, Sem.run_bind, Sem.run, Result.andThen, hz2]
      rfl
    simp only [execOp]
    rw [run_bind_ok h3]
    have hks : ∀ j, j ∉ [k] → upd β k ⟨w.heap.size, undef⟩ j = β j := fun j hj => upd_ne _ _ (by simpa using hj)
    have hcs : cs.map (Cl.den (upd β k ⟨w.heap.size, undef⟩)) = cs.map (Cl.den β) := by
      rw [← hT]
      cases Y.f T <;> simp [zcl, Cl.den]
    have hG : ∀ b, ¬ G b := hst
    have := hK (upd β k ⟨w.heap.size, undef⟩) { w with heap := w.heap.push (.cells (cs.map (Cl.den β)).toArray T) } (fun b => b = w.heap.size) hks (Star_one.2 ⟨fun x => by simp, by simp [hcs]⟩) (fun b hb => .inr (by omega))
      ⟨rfl, rfl, rfl, by simp, fun j hj _ => by simp [Array.getElem?_push, show j ≠ w.heap.size by omega]⟩
    have e : (SV.p k 0).den (upd β k ⟨w.heap.size, undef⟩) = .pointer (some ⟨w.heap.size, 0, none⟩) := by simp [SV.den, Av.den, Cl.den]
    rw [e] at this; exact this
  · refine ⟨fun t y hy => hg.fs hy, fun d' hd' => ?_, fun p hp => by simp at hp, by simp, by simp, fun p hp => by simp at hp; subst hp; exact .inr hl, f1, f2, fun j t hj _ => f3 j t hj⟩
    simp at hd'; subst hd'
    rw [Nat.blt_eq] at hn
    exact hn
  · simp only [Step.outF, lk_cons]
  · rw [lkT_cons, Step.outM_eq]
    by_cases e : j = k
    · subst e; simp [lkP]
    · simp [lkP, e, upd]

/-- A new variable with a value. -/
theorem Run.box (Y : Tys P) (k : Nat) (cs : List Cl) {d : Nat} {T : TypeId} {x : Operand} {ty : TypeId} {pos : String} {after : Array Edge} {g : Option (Nat × Bool)} {gr : FL} {y : Av} (hg : Gd ops ⟨some d, .box T x, ty, pos, after, g⟩ fs gr)
    (hy : ev fs x = some (.a y)) (hT : y.cl = cs) (h1 : y.cl.all Cl.ok1 = true) (hl : lkT L k = none) (hfr : frB [k] fs L = true) (hn : Nat.blt d n = true)
    (h : Run P n ops rest ((d, SV.p k 0) :: fs) ((k, some (blk k cs T)) :: L) ss fs' L') : Run P n ops (⟨some d, .box T x, ty, pos, after, g⟩ :: rest) fs L (⟨gr ++ opds [(x, .a y)], some d, SV.p k 0, [], [], [(k, blk k cs T)], [k]⟩ :: ss) fs' L' := by
  obtain ⟨f1, f2, f3⟩ := frB_spec hfr
  have hev : ∀ p ∈ [(x, .a y)], ev fs p.1 = some p.2 := fun p hp => by simp at hp; subst hp; exact hy
  have hyk : ∀ j ∈ y.ks, j ∉ [k] := by
    cases hx : x with
    | tmp t => rw [hx] at hy; exact f2 t _ hy
    | const v => rw [hx] at hy; simp only [ev, Option.some.injEq] at hy; cases hy; intro j hj; simp [Av.ks, Cl.ks] at hj
    | func f => rw [hx] at hy; simp only [ev, Option.some.injEq] at hy; cases hy; intro j hj; simp [Av.ks, Cl.ks] at hj
    | global f => rw [hx] at hy; simp only [ev, Option.some.injEq] at hy; cases hy; intro j hj; simp [Av.ks, Cl.ks] at hj
  have hcl : ∀ c ∈ y.cl, ∀ j ∈ c.ks, j ∈ y.ks := by
    cases y with
    | c x => intro c hc j hj; simp [Av.cl] at hc; subst hc; exact hj
    | agg l => intro c hc j hj; exact List.mem_flatMap.2 ⟨c, hc, hj⟩
  refine Run.cons ?_ ?_ ?_ (fun j => ?_) h
  · intro β a w G K Q hrs hsz hst hK
    have hw := hg.wanted hrs hsz
    have e2 : a.eval x = y.den β := opds_eval hg hev hrs (x, .a y) (by simp)
    unfold opW Oper.wp
    rw [if_pos hw]
    have h3 : (Instr.box T (y.den β)).run P w = .ok (.pointer (some ⟨w.heap.size, 0, none⟩)) { w with heap := w.heap.push (.cells (cs.map (Cl.den β)).toArray T) } := by
      unfold Instr.box
      simp only [newVar, newRow, newObj, Sem.run_bind, Sem.run, Result.andThen, Av.den_cells h1 β, hT]
      rfl
    simp only [execOp, e2]
    rw [run_bind_ok h3]
    have hks : ∀ j, j ∉ [k] → upd β k ⟨w.heap.size, undef⟩ j = β j := fun j hj => upd_ne _ _ (by simpa using hj)
    have hcs : cs.map (Cl.den (upd β k ⟨w.heap.size, undef⟩)) = cs.map (Cl.den β) := by
      rw [← hT]
      exact List.map_congr_left (fun c hc => Cl.den_congr c (fun j hj => hks j (hyk j (hcl c hc j hj))))
    have := hK (upd β k ⟨w.heap.size, undef⟩) { w with heap := w.heap.push (.cells (cs.map (Cl.den β)).toArray T) } (fun b => b = w.heap.size) hks (Star_one.2 ⟨fun x => by simp, by simp [hcs]⟩) (fun b hb => .inr (by omega))
      ⟨rfl, rfl, rfl, by simp, fun j hj _ => by simp [Array.getElem?_push, show j ≠ w.heap.size by omega]⟩
    have e : (SV.p k 0).den (upd β k ⟨w.heap.size, undef⟩) = .pointer (some ⟨w.heap.size, 0, none⟩) := by simp [SV.den, Av.den, Cl.den]
    rw [e] at this; exact this
  · refine ⟨fun t z hz => ?_, fun d' hd' => ?_, fun p hp => by simp at hp, by simp, by simp, fun p hp => by simp at hp; subst hp; exact .inr hl, f1, f2, fun j t hj _ => f3 j t hj⟩
    · rw [lk_append] at hz
      cases hx' : lk gr t with
      | some z' => rw [hx'] at hz; simp at hz; subst hz; exact hg.fs hx'
      | none => rw [hx'] at hz; simp at hz; exact opds_fs hev hz
    · simp at hd'; subst hd'
      rw [Nat.blt_eq] at hn
      exact hn
  · simp only [Step.outF, lk_cons]
  · rw [lkT_cons, Step.outM_eq]
    by_cases e : j = k
    · subst e; simp [lkP]
    · simp [lkP, e, upd]

/-- What a call is resolved to: a function and its arguments. -/
def ToFn (P : Program) (c : Call) (ty : TypeId) (l : List (Operand × SV)) (f : FuncId) (args : List SV) : Prop :=
  ∀ (β : Env) (ρ : Operand → Value) (w : World), (∀ p ∈ l, ρ p.1 = p.2.den β) → (do let d ← resolve ρ c ty; invoke d.target d.args : Sem Next).run P w = .ok (.enter f (args.map (SV.den β)).toArray) w

theorem args_map {l : List (Operand × SV)} {az : Array Operand} {β : Env} {ρ : Operand → Value} (has : az.toList = l.map (·.1)) (hρ : ∀ p ∈ l, ρ p.1 = p.2.den β) : az.map ρ = ((l.map (·.2)).map (SV.den β)).toArray := by
  apply Array.ext'
  simp only [Array.toList_map, has, List.map_map]
  exact List.map_congr_left (fun p hp => hρ p hp)
theorem toFn_func {P : Program} {f : FuncId} {az : Array Operand} {ats : Array TypeId} {ty : TypeId} {l : List (Operand × SV)} (hf : fnB P f = true) (has : az.toList = l.map (·.1)) : ToFn P ⟨.value (.func f), az, ats⟩ ty ((.func f, SV.raw (.func (.func f) #[] #[])) :: l) f (l.map (·.2)) := by
  intro β ρ w hρ
  have h1 : ρ (.func f) = .func (.func f) #[] #[] := hρ (.func f, SV.raw (.func (.func f) #[] #[])) (by simp)
  have h2 := args_map (ρ := ρ) (β := β) has (fun p hp => hρ p (by simp [hp]))
  simp only [resolve, h1, Deferred.ofValue, Sem.run_bind, Sem.run_pure, Result.andThen_ok, invoke, h2]
  rw [callFunc_run hf]
  simp
/-- A function value with what it captured. -/
theorem toFn_val {P : Program} {f : FuncId} {x : Operand} {az : Array Operand} {ats : Array TypeId} {ty : TypeId} {l : List (Operand × SV)} {caps : List Nat} (hf : fnB P f = true) (has : az.toList = l.map (·.1)) :
    ToFn P ⟨.value x, az, ats⟩ ty ((x, .a (.c (.fn (.func f) caps))) :: l) f (l.map (·.2) ++ caps.map fun k => SV.p k 0) := by
  intro β ρ w hρ
  have h1 : ρ x = .func (.func f) #[] (caps.map fun k => ptr (β k).b 0).toArray := hρ (x, .a (.c (.fn (.func f) caps))) (by simp)
  have h2 := args_map (ρ := ρ) (β := β) has (fun p hp => hρ p (by simp [hp]))
  simp only [resolve, h1, Deferred.ofValue, Sem.run_bind, Sem.run_pure, Result.andThen_ok, invoke, h2]
  rw [callFunc_run hf]
  congr 2
  simp [SV.den, Av.den, Cl.den, ptr, Function.comp_def]
/-- A method of a value of a known type. -/
theorem toFn_invoke {P : Program} {f : FuncId} {x : Operand} {nm : String} {az : Array Operand} {ats : Array TypeId} {ty t : TypeId} {l : List (Operand × SV)} {y : Av} (hf : fnB P f = true)
    (hm : ∀ (v : Value) (w : World), (method (P.types.size + Made.depth) t v nm).run P w = .ok (f, v) w) (has : az.toList = l.map (·.1)) :
    ToFn P ⟨.invoke x nm, az, ats⟩ ty ((x, .ifc t y) :: l) f (.a y :: l.map (·.2)) := by
  intro β ρ w hρ
  have h1 : ρ x = .iface t (y.den β) := hρ (x, .ifc t y) (by simp)
  have h2 := args_map (ρ := ρ) (β := β) has (fun p hp => hρ p (by simp [hp]))
  simp only [resolve, h1, Sem.run_bind, Sem.run_pure, Result.andThen_ok, invoke, h2]
  have e : (#[Value.iface t (y.den β)] ++ (List.map (SV.den β) (List.map (·.2) l)).toArray)[0]? = some (.iface t (y.den β)) := by simp
  simp only [e]
  unfold callMethod program
  simp only [Sem.run_bind, Sem.run, Result.andThen]
  rw [hm]
  simp only
  rw [callFunc_run hf]
  congr 2
  simp [SV.den]
  exact List.take_of_length_le (by simp)

/-- A call of a function, by its contract: what it takes it gives back, changed, and new things. -/
theorem Run.call {d : Nat} {c : Call} {ty : TypeId} {pos : String} {after : Array Edge} {g : Option (Nat × Bool)} {gr : FL} {f : FuncId} {args : List SV} {tr ti to : List (Nat × Tok)} {fr : List Nat} {ret : SV} (l : List (Operand × SV))
    (hs : SCon P f args (tr ++ ti) ret (tr ++ to) fr) (hc : ToFn P c ty l f args) (hg : Gd ops ⟨some d, .call c, ty, pos, after, g⟩ fs gr) (hev : ∀ p ∈ l, ev fs p.1 = some p.2)
    (htk : ∀ p ∈ tr ++ ti, lkT L p.1 = some p.2) (hnd : ((tr ++ ti).map (·.1)).Nodup) (hnd' : ((tr ++ to).map (·.1)).Nodup) (hsub : ∀ p ∈ ti, p.1 ∈ to.map (·.1)) (hout : ∀ p ∈ to, p.1 ∈ ti.map (·.1) ∨ lkT L p.1 = none)
    (hfr : frB fr fs L = true) (hn : Nat.blt d n = true)
    (h : Run P n ops rest ((d, ret) :: fs) (to.map (fun p => (p.1, some p.2)) ++ L) ss fs' L') : Run P n ops (⟨some d, .call c, ty, pos, after, g⟩ :: rest) fs L (⟨gr ++ opds l, some d, ret, tr, ti, to, fr⟩ :: ss) fs' L' := by
  obtain ⟨f1, f2, f3⟩ := frB_spec hfr
  refine Run.cons ?_ ?_ ?_ (fun j => ?_) h
  · intro β a w G K Q hrs hsz hst hK
    have hw := hg.wanted hrs hsz
    unfold opW Oper.wp
    rw [if_pos hw]
    have h1 := hc β a.eval w (opds_eval hg hev hrs)
    simp only [execOp]
    rw [h1, Oper.upon_enter]
    refine (hs β w G hst).mono (fun e w' he => ?_)
    obtain ⟨β', hb, rfl, F', h2, h3, h4⟩ := he
    exact hK β' w' F' hb h2 h3 h4
  · refine ⟨fun t z hz => ?_, fun d' hd' => ?_, htk, hnd, hnd', hout, f1, f2, fun j t hj _ => f3 j t hj⟩
    · rw [lk_append] at hz
      cases hx' : lk gr t with
      | some z' => rw [hx'] at hz; simp at hz; subst hz; exact hg.fs hx'
      | none => rw [hx'] at hz; simp at hz; exact opds_fs hev hz
    · simp at hd'; subst hd'
      rw [Nat.blt_eq] at hn
      exact hn
  · simp only [Step.outF, lk_cons]
  · rw [Step.outM_eq]
    have e1 : ∀ (to : List (Nat × Tok)), lkT (to.map (fun p => (p.1, some p.2)) ++ L) j = (lkP to j).or (lkT L j) := by
      intro to
      induction to with
      | nil => simp [lkP]
      | cons p to ih =>
        rw [List.map_cons, List.cons_append, lkT_cons]
        simp only [upd, lkP]
        split <;> simp [ih]
    rw [e1]
    cases hp : lkP to j with
    | some x => rfl
    | none =>
      simp only [Option.none_or]
      rw [if_neg]
      intro hm
      obtain ⟨p, hp', rfl⟩ := List.mem_map.1 hm
      obtain ⟨q, hq, e⟩ := List.mem_map.1 (hsub p hp')
      have : ∀ l : List (Nat × Tok), q ∈ l → lkP l p.1 ≠ none := by
        intro l
        induction l with
        | nil => intro h; cases h
        | cons r l ih =>
          intro h
          simp only [lkP]
          split
          · simp
          · rename_i hne
            rcases List.mem_cons.1 h with rfl | h
            · exact absurd e.symm hne
            · exact ih h
      exact this to hq hp
end
end Go.Proofs.Ytheopcgjdfckmaa.Sx

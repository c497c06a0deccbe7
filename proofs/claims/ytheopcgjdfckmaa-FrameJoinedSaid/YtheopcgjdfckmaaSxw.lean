/- Bits of numbers; arrays at places that are computed. -/
import Derived.Test.YtheopcgjdfckmaaSxv
namespace Go.Proofs.Ytheopcgjdfckmaa.Sx
open Go
set_option linter.unusedVariables false
set_option linter.unusedSimpArgs false

/-! ### bits -/
def gand (k : IntKind) (x y : Int) : Int := k.wrap ((BitVec.ofInt k.bits x &&& BitVec.ofInt k.bits y).toNat : Nat)
def gor (k : IntKind) (x y : Int) : Int := k.wrap ((BitVec.ofInt k.bits x ||| BitVec.ofInt k.bits y).toNat : Nat)
def gxor (k : IntKind) (x y : Int) : Int := k.wrap ((BitVec.ofInt k.bits x ^^^ BitVec.ofInt k.bits y).toNat : Nat)
def gshr (k : IntKind) (x y : Int) : Int := x.fdiv (2 ^ (min y.toNat k.bits))
def gshl (k : IntKind) (x y : Int) : Int := k.wrap (x * 2 ^ (min y.toNat k.bits))
def gcom (k : IntKind) (x : Int) : Int := gxor k (if k.signed then -1 else k.max) x
section
variable {P : Program} {t ty : TypeId} {x z : Operand}
theorem bt_and (k : IntKind) (a b : Int) (w : World) : (do eqGuard .and t x z (.int k a) (.int k b); binOp .and t (.int k a) (.int k b) : Sem Value).run P w = .ok (.int k (gand k a b)) w := by
  rw [run_bind_ok (show (eqGuard .and t x z (.int k a) (.int k b)).run P w = .ok () w from rfl)]
  simp [binOp, Op.intBits, gand]
theorem bt_or (k : IntKind) (a b : Int) (w : World) : (do eqGuard .or t x z (.int k a) (.int k b); binOp .or t (.int k a) (.int k b) : Sem Value).run P w = .ok (.int k (gor k a b)) w := by
  rw [run_bind_ok (show (eqGuard .or t x z (.int k a) (.int k b)).run P w = .ok () w from rfl)]
  simp [binOp, Op.intBits, gor]
theorem bt_xor (k : IntKind) (a b : Int) (w : World) : (do eqGuard .xor t x z (.int k a) (.int k b); binOp .xor t (.int k a) (.int k b) : Sem Value).run P w = .ok (.int k (gxor k a b)) w := by
  rw [run_bind_ok (show (eqGuard .xor t x z (.int k a) (.int k b)).run P w = .ok () w from rfl)]
  simp [binOp, Op.intBits, gxor]
theorem bt_shr (k q : IntKind) (a b : Int) (hb : 0 ≤ b) (w : World) : (do eqGuard .shr t x z (.int k a) (.int q b); binOp .shr t (.int k a) (.int q b) : Sem Value).run P w = .ok (.int k (gshr k a b)) w := by
  rw [run_bind_ok (show (eqGuard .shr t x z (.int k a) (.int q b)).run P w = .ok () w from rfl)]
  have : ¬ b < 0 := by omega
  simp [binOp, Op.shift, gshr, this]
theorem bt_shl (k q : IntKind) (a b : Int) (hb : 0 ≤ b) (w : World) : (do eqGuard .shl t x z (.int k a) (.int q b); binOp .shl t (.int k a) (.int q b) : Sem Value).run P w = .ok (.int k (gshl k a b)) w := by
  rw [run_bind_ok (show (eqGuard .shl t x z (.int k a) (.int q b)).run P w = .ok () w from rfl)]
  have : ¬ b < 0 := by omega
  simp [binOp, Op.shift, gshl, this]
theorem bt_com (k : IntKind) (a : Int) (w : World) : (Op.unary .xor (.int k a)).run P w = .ok (.int k (gcom k a)) w := by
  simp [Op.unary, Op.intBits, gcom, gxor]
end

/-! ### arrays -/
section
variable {P : Program} {n : Nat} {ops : Array Oper} {rest : List Oper} {fs fs' : FL} {L L' : TL} {ss : List Step}
theorem Run.idxD (o : Nat) {d : Nat} {T : TypeId} {x i : Operand} {ty : TypeId} {pos : String} {after : Array Edge} {g : Option (Nat × Bool)} {gr : FL} {len e s k off off' : Nat} {ik : IntKind} {ix : Int} {zs : List Value} (hA : ArrT P T len e s zs) (hix : ix = (o : Int)) (ho : o < len) (hg : Gd ops ⟨some d, .indexAddr T x i, ty, pos, after, g⟩ fs gr)
    (hx : ev fs x = some (SV.p k off)) (hi : ev fs i = some (SV.raw (.int ik ix))) (ho' : off + o * s = off') (hn : Nat.blt d n = true)
    (h : Run P n ops rest ((d, SV.p k off') :: fs) L ss fs' L') : Run P n ops (⟨some d, .indexAddr T x i, ty, pos, after, g⟩ :: rest) fs L (⟨gr ++ opds [(x, SV.p k off), (i, SV.raw (.int ik ix))], some d, SV.p k off', [], [], [], []⟩ :: ss) fs' L' :=
  Run.pure [(x, SV.p k off), (i, SV.raw (.int ik ix))] (SV.p k off') rfl hg (fun p hp => by simp at hp; rcases hp with rfl | rfl <;> assumption) hn (fun β ρ w hρ => by
    have h1 : ρ x = .pointer (some ⟨(β k).b, off, none⟩) := hρ (x, SV.p k off) (by simp)
    have h2 : ρ i = .int ik ix := hρ (i, SV.raw (.int ik ix)) (by simp)
    subst hix
    subst ho'
    have hr : (Instr.indexAt T (.pointer (some ⟨(β k).b, off, none⟩)) (.int ik (o : Int))).run P w = .ok (ptr (β k).b (off + o * s)) w := by
      unfold Instr.indexAt
      have hb : (0 : Int) ≤ (o : Int) ∧ (o : Int) < (len : Int) := by omega
      simp only [asIntOf, Sem.run_bind, Sem.run_pure, Result.andThen_ok, run_und hA.und, Instr.sureAddr, hb, if_true, Int.toNat_natCast, Addr.add]
      by_cases hz : o * s = 0
      · simp [ptr]; rw [hA.es w]; simp [hz]
      · simp [ptr]; rw [hA.es w]; simp [hz]
    simp only [execOp, h1, h2]
    rw [run_bind_ok hr]; rfl) h
theorem K.idxD {K : List Step → FL → TL → Prop} (o : Nat) {d : Nat} {T : TypeId} {x i : Operand} {ty : TypeId} {pos : String} {after : Array Edge} {g : Option (Nat × Bool)} {gr : FL} {len e s k off off' : Nat} {ik : IntKind} {ix : Int} {zs : List Value} (hA : ArrT P T len e s zs) (hix : ix = (o : Int)) (ho : o < len) (hg : Gd ops ⟨some d, .indexAddr T x i, ty, pos, after, g⟩ fs gr)
    (hx : ev fs x = some (SV.p k off)) (hi : ev fs i = some (SV.raw (.int ik ix))) (ho' : off + o * s = off') (hn : Nat.blt d n = true)
    (h : RunK P n ops rest ((d, SV.p k off') :: fs) L (fun ss fs' L' => K (⟨gr ++ opds [(x, SV.p k off), (i, SV.raw (.int ik ix))], some d, SV.p k off', [], [], [], []⟩ :: ss) fs' L')) : RunK P n ops (⟨some d, .indexAddr T x i, ty, pos, after, g⟩ :: rest) fs L K :=
  RunK.of (fun _ _ _ h => Run.idxD o hA hix ho hg hx hi ho' hn h) h
end
/-- What stands in an array's cells at a place. -/
theorem cells_at {α : Type} {l : List α} {f : α → Cl} {i : Int} {x : α} (h : atL l i = some x) : (l.map f)[i.toNat]? = some (f x) := by
  unfold atL at h
  by_cases h0 : i < 0
  · simp [h0] at h
  · simp [h0] at h
    rw [List.getElem?_map, h]; rfl
theorem atL_lt {α : Type} {l : List α} {i : Int} {x : α} (h : atL l i = some x) : i = (i.toNat : Int) ∧ i.toNat < l.length := by
  unfold atL at h
  by_cases h0 : i < 0
  · simp [h0] at h
  · simp [h0] at h
    exact ⟨by omega, (List.getElem?_eq_some_iff.1 h).1⟩
end Go.Proofs.Ytheopcgjdfckmaa.Sx

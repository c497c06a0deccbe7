/- Pointers to blocks of one's own, compared with each other. -/
import Derived.Test.YtheopcgjdfckmaaSxu
import Derived.LaidEqlPtr
namespace Go.Proofs.Ytheopcgjdfckmaa.Sx
open Go
set_option linter.unusedVariables false
set_option linter.unusedSimpArgs false

/-- The token owns the block of a name. -/
def Has (t : Tok) (k : Nat) : Prop := ∀ (β : Env) (w : World) (F : Foot), (t.r β).holds w F → F (β k).b ∧ ∃ ca ta, w.heap[(β k).b]? = some (.cells ca ta (0, 0))
theorem blk_has (k : Nat) (cs : List Cl) (T : TypeId) : Has (blk k cs T) k := fun β w F h => ⟨(h.1 _).2 rfl, _, _, h.2⟩
theorem pl_has {α : Type} (k T Tc Ti s : Nat) (f : Cell α → List Value) (p : Pool α) : Has (pl k T Tc Ti s f p) k := by
  rintro β w F ⟨v, vc, vf, _, _, F1, F2, h1, _, h3, _⟩
  exact ⟨(h1 _).2 (.inl ((h3.1 _).2 rfl)), _, _, h3.2⟩
section
variable {P : Program} {T te : TypeId} {x z : Operand} {j : TypeInfo}
theorem pp_eql (hp : P.underlying T = some (.pointer te)) (hte : P.info? te = some j) (hsz : j.size ≠ 0) {a b : Addr} {w : World} {ca cb : Array Value} {ta tb : TypeId} (hne : a ≠ b) (ha : w.heap[a.block]? = some (.cells ca ta (0, 0))) (hb : w.heap[b.block]? = some (.cells cb tb (0, 0))) :
    (do eqGuard .eql T x z (.pointer (some a)) (.pointer (some b)); binOp .eql T (.pointer (some a)) (.pointer (some b)) : Sem Value).run P w = .ok (.bool false) w := by
  rw [run_bind_ok (show (eqGuard .eql T x z (.pointer (some a)) (.pointer (some b))).run P w = .ok () w from rfl)]
  exact run_eql_ptr_other w hp hte hsz hne ha hb
theorem pp_neq (hp : P.underlying T = some (.pointer te)) (hte : P.info? te = some j) (hsz : j.size ≠ 0) {a b : Addr} {w : World} {ca cb : Array Value} {ta tb : TypeId} (hne : a ≠ b) (ha : w.heap[a.block]? = some (.cells ca ta (0, 0))) (hb : w.heap[b.block]? = some (.cells cb tb (0, 0))) :
    (do eqGuard .neq T x z (.pointer (some a)) (.pointer (some b)); binOp .neq T (.pointer (some a)) (.pointer (some b)) : Sem Value).run P w = .ok (.bool true) w := by
  have h1 : (Op.equal T (.pointer (some a)) (.pointer (some b))).run P w = .ok false w := by
    have h : ∀ d : Nat, (Op.equalIn (d + 1) T (.pointer (some a)) (.pointer (some b))).run P w = .ok false w := fun d => by
      simp [Op.equalIn, run_underlying hp, sizeOf, typeInfo, hte, hsz, run_sameAddr_other w hne ha hb]
    exact h 9999
  exact neq_of rfl rfl h1
theorem ps_eql (hp : P.underlying T = some (.pointer te)) (hte : P.info? te = some j) (a : Addr) (w : World) :
    (do eqGuard .eql T x z (.pointer (some a)) (.pointer (some a)); binOp .eql T (.pointer (some a)) (.pointer (some a)) : Sem Value).run P w = .ok (.bool true) w := by
  rw [run_bind_ok (show (eqGuard .eql T x z (.pointer (some a)) (.pointer (some a))).run P w = .ok () w from rfl)]
  exact run_eql_ptr_same w a hp hte
theorem ps_neq (hp : P.underlying T = some (.pointer te)) (hte : P.info? te = some j) (a : Addr) (w : World) :
    (do eqGuard .neq T x z (.pointer (some a)) (.pointer (some a)); binOp .neq T (.pointer (some a)) (.pointer (some a)) : Sem Value).run P w = .ok (.bool false) w := by
  have h1 : (Op.equal T (.pointer (some a)) (.pointer (some a))).run P w = .ok true w := by
    have h : ∀ d : Nat, (Op.equalIn (d + 1) T (.pointer (some a)) (.pointer (some a))).run P w = .ok true w := fun d => by
      simp [Op.equalIn, run_underlying hp, sizeOf, typeInfo, hte, run_sameAddr_same]
    exact h 9999
  exact neq_of rfl rfl h1
end
section
variable {P : Program} {n : Nat} {ops : Array Oper} {rest : List Oper} {fs fs' : FL} {L L' : TL} {ss : List Step} {K : List Step → FL → TL → Prop}
theorem Run.eqpp {d : Nat} {op : BinOp} {t ty : TypeId} {x z : Operand} {T : TypeId} {pos : String} {after : Array Edge} {g : Option (Nat × Bool)} {gr : FL} {k k' off off' : Nat} {V : Bool} {t1 t2 : Tok} (h1 : Has t1 k) (h2 : Has t2 k') (hne : Nat.beq k k' = false) (hg : Gd ops ⟨some d, .binOp op t x z ty, T, pos, after, g⟩ fs gr)
    (hx : ev fs x = some (SV.p k off)) (hz : ev fs z = some (SV.p k' off')) (hl : lkT L k = some t1) (hl' : lkT L k' = some t2)
    (hr : ∀ (a b : Addr) (w : World) (ca cb : Array Value) (ta tb : TypeId), a ≠ b → w.heap[a.block]? = some (.cells ca ta (0, 0)) → w.heap[b.block]? = some (.cells cb tb (0, 0)) → (do eqGuard op t x z (.pointer (some a)) (.pointer (some b)); binOp op t (.pointer (some a)) (.pointer (some b)) : Sem Value).run P w = .ok (.bool V) w) (hn : Nat.blt d n = true)
    (h : Run P n ops rest ((d, SV.b V) :: fs) L ss fs' L') : Run P n ops (⟨some d, .binOp op t x z ty, T, pos, after, g⟩ :: rest) fs L (⟨gr ++ opds [(x, SV.p k off), (z, SV.p k' off')], some d, SV.b V, [(k, t1), (k', t2)], [], [], []⟩ :: ss) fs' L' :=
  Run.pureR [(x, SV.p k off), (z, SV.p k' off')] (SV.b V) [(k, t1), (k', t2)] rfl hg (fun p hp => by simp at hp; rcases hp with rfl | rfl <;> assumption) (fun p hp => by simp at hp; rcases hp with rfl | rfl <;> assumption)
    (by
      have : k ≠ k' := fun e => by subst e; simp at hne
      simp [this]) hn (fun β ρ w F hs hρ => by
    have e1 : ρ x = .pointer (some ⟨(β k).b, off, none⟩) := hρ (x, SV.p k off) (by simp)
    have e2 : ρ z = .pointer (some ⟨(β k').b, off', none⟩) := hρ (z, SV.p k' off') (by simp)
    obtain ⟨F1, F2, g1, g2, g3, g4⟩ := hs
    have g4' := Star_one.1 g4
    obtain ⟨a1, ca, ta, a2⟩ := h1 β w F1 g3
    obtain ⟨b1, cb, tb, b2⟩ := h2 β w F2 g4'
    have hd : (⟨(β k).b, off, none⟩ : Addr) ≠ ⟨(β k').b, off', none⟩ := fun e => by
      have : (β k).b = (β k').b := congrArg Addr.block e
      exact g2 _ a1 (this ▸ b1)
    simp only [execOp, e1, e2]
    rw [run_bind_ok (hr _ _ w ca cb ta tb hd a2 b2)]; rfl) h
theorem K.eqpp {d : Nat} {op : BinOp} {t ty : TypeId} {x z : Operand} {T : TypeId} {pos : String} {after : Array Edge} {g : Option (Nat × Bool)} {gr : FL} {k k' off off' : Nat} {V : Bool} {t1 t2 : Tok} (h1 : Has t1 k) (h2 : Has t2 k') (hne : Nat.beq k k' = false) (hg : Gd ops ⟨some d, .binOp op t x z ty, T, pos, after, g⟩ fs gr)
    (hx : ev fs x = some (SV.p k off)) (hz : ev fs z = some (SV.p k' off')) (hl : lkT L k = some t1) (hl' : lkT L k' = some t2)
    (hr : ∀ (a b : Addr) (w : World) (ca cb : Array Value) (ta tb : TypeId), a ≠ b → w.heap[a.block]? = some (.cells ca ta (0, 0)) → w.heap[b.block]? = some (.cells cb tb (0, 0)) → (do eqGuard op t x z (.pointer (some a)) (.pointer (some b)); binOp op t (.pointer (some a)) (.pointer (some b)) : Sem Value).run P w = .ok (.bool V) w) (hn : Nat.blt d n = true)
    (h : RunK P n ops rest ((d, SV.b V) :: fs) L (fun ss fs' L' => K (⟨gr ++ opds [(x, SV.p k off), (z, SV.p k' off')], some d, SV.b V, [(k, t1), (k', t2)], [], [], []⟩ :: ss) fs' L')) : RunK P n ops (⟨some d, .binOp op t x z ty, T, pos, after, g⟩ :: rest) fs L K :=
  RunK.of (fun _ _ _ h => Run.eqpp h1 h2 hne hg hx hz hl hl' hr hn h) h
end
section
variable {P : Program} {T te : TypeId} {x z : Operand}
theorem info_of {P : Program} {te : TypeId} (hi : ((P.info? te).map fun j => decide (j.size ≠ 0)) = some true) : ∃ j, P.info? te = some j ∧ j.size ≠ 0 := by
  cases h : P.info? te with
  | none => rw [h] at hi; cases hi
  | some j => rw [h] at hi; exact ⟨j, rfl, of_decide_eq_true (Option.some.inj hi)⟩
theorem pq_eql (hp : P.underlying T = some (.pointer te)) (hi : ((P.info? te).map fun j => decide (j.size ≠ 0)) = some true) (a b : Addr) (w : World) (ca cb : Array Value) (ta tb : TypeId) (hne : a ≠ b) (ha : w.heap[a.block]? = some (.cells ca ta (0, 0))) (hb : w.heap[b.block]? = some (.cells cb tb (0, 0))) :
    (do eqGuard .eql T x z (.pointer (some a)) (.pointer (some b)); binOp .eql T (.pointer (some a)) (.pointer (some b)) : Sem Value).run P w = .ok (.bool false) w := by
  obtain ⟨j, h1, h2⟩ := info_of hi
  exact pp_eql hp h1 h2 hne ha hb
theorem pq_neq (hp : P.underlying T = some (.pointer te)) (hi : ((P.info? te).map fun j => decide (j.size ≠ 0)) = some true) (a b : Addr) (w : World) (ca cb : Array Value) (ta tb : TypeId) (hne : a ≠ b) (ha : w.heap[a.block]? = some (.cells ca ta (0, 0))) (hb : w.heap[b.block]? = some (.cells cb tb (0, 0))) :
    (do eqGuard .neq T x z (.pointer (some a)) (.pointer (some b)); binOp .neq T (.pointer (some a)) (.pointer (some b)) : Sem Value).run P w = .ok (.bool true) w := by
  obtain ⟨j, h1, h2⟩ := info_of hi
  exact pp_neq hp h1 h2 hne ha hb
theorem pz_eql (hp : P.underlying T = some (.pointer te)) (hi : ((P.info? te).map fun j => decide (j.size ≠ 0)) = some true) (a : Addr) (w : World) :
    (do eqGuard .eql T x z (.pointer (some a)) (.pointer (some a)); binOp .eql T (.pointer (some a)) (.pointer (some a)) : Sem Value).run P w = .ok (.bool true) w := by
  obtain ⟨j, h1, _⟩ := info_of hi
  exact ps_eql hp h1 a w
theorem pz_neq (hp : P.underlying T = some (.pointer te)) (hi : ((P.info? te).map fun j => decide (j.size ≠ 0)) = some true) (a : Addr) (w : World) :
    (do eqGuard .neq T x z (.pointer (some a)) (.pointer (some a)); binOp .neq T (.pointer (some a)) (.pointer (some a)) : Sem Value).run P w = .ok (.bool false) w := by
  obtain ⟨j, h1, _⟩ := info_of hi
  exact ps_neq hp h1 a w
end
end Go.Proofs.Ytheopcgjdfckmaa.Sx

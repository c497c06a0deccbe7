/- Strings: values like numbers; out of octets, their places, parts, sums. -/
import Derived.Test.YtheopcgjdfckmaaSxy
import Derived.Laws.BytesArg
import Derived.Laws.Strings
namespace Go.Proofs.Ytheopcgjdfckmaa.Sx
open Go
set_option linter.unusedVariables false
set_option linter.unusedSimpArgs false

def strE (s : ByteArray) : List Value := [.string s]
theorem strE_len : ∀ s : ByteArray, (strE s).length = 1 := fun _ => rfl
theorem strE_one : ∀ s : ByteArray, (strE s).all Value.oneCell' = true := fun _ => rfl
theorem flat_u8 : ∀ l : List Int, l.flatMap u8E = l.map (Value.int .u8)
  | [] => rfl
  | x :: l => by rw [List.flatMap_cons, flat_u8 l]; rfl
theorem run_bstr {P : Program} {V : Vw} {l : List Int} (hV : V.Is u8E l) {t t' e : TypeId} (hu : P.underlying t = some (.slice e)) (he : P.underlying e = some (.int .u8)) (hd : P.underlying t' = some .string) {β : Env} {w : World} {F : Foot} (hw : (V.t.r β).holds w F) :
    (convert t t' (V.s.den β)).run P w = .ok (.string (strOfNums l)) w := by
  obtain ⟨hx, ao, cap, h1, h2⟩ := hV.ok β w F hw
  have hm := hV.m
  rw [h1]
  by_cases h0 : 0 < V.m
  · obtain ⟨b, o, rfl, _, hc⟩ := h2 h0
    refine run_convert_bytes_arg w t e hu he b o V.m cap l hm.symm (fun i hi => hc i _ ?_) t' hd
    rw [hV.xs, flat_u8, List.getElem?_map]
    have : l[i]? = some (l.getD i 0) := by rw [List.getD_eq_getElem?_getD, List.getElem?_eq_getElem (by omega)]; rfl
    rw [this]; rfl
  · have hl : l = [] := List.eq_nil_of_length_eq_zero (by omega)
    have hm0 : V.m = 0 := by omega
    subst hl
    rw [hm0]
    cases ao with
    | none => rw [run_convert_bytes_nil w t e hu he 0 cap t' hd]; rfl
    | some a =>
      rw [run_convert_bytes_string w t t' e _ 0 cap hu he hd]
      exact run_bytesToString w a 0 cap [] rfl
/-- Two strings, octet by octet. -/
def gseq (a b : ByteArray) : Bool := a.toList == b.toList
section
variable {P : Program} {n : Nat} {ops : Array Oper} {rest : List Oper} {fs fs' : FL} {L L' : TL} {ss : List Step}
theorem st_eql (t : TypeId) (x z : Operand) (a b : ByteArray) (w : World) : (do eqGuard .eql t x z (.string a) (.string b); binOp .eql t (.string a) (.string b) : Sem Value).run P w = .ok (.bool (gseq a b)) w := by
  rw [binOp_string_eql]; rfl
theorem st_neq (t : TypeId) (x z : Operand) (a b : ByteArray) (w : World) : (do eqGuard .neq t x z (.string a) (.string b); binOp .neq t (.string a) (.string b) : Sem Value).run P w = .ok (.bool (!gseq a b)) w := by
  rw [binOp_string_neq]; rfl
theorem st_add (t : TypeId) (x z : Operand) (a b : ByteArray) (h : a.size + b.size < 9223372036854775808) (w : World) : (do eqGuard .add t x z (.string a) (.string b); binOp .add t (.string a) (.string b) : Sem Value).run P w = .ok (.string (a ++ b)) w := by
  have : (Op.stringOp .add a b).run P w = .ok (.string (a ++ b)) w := by
    unfold Op.stringOp
    simp only
    have : ¬ ((a.size + b.size : Nat) : Int) > IntKind.i64.max := by
      have : IntKind.i64.max = 9223372036854775807 := by decide
      rw [this]; omega
    rw [if_neg this]; rfl
  rw [binOp_string_add]
  exact this
end
theorem K.bstr {P : Program} {n : Nat} {ops : Array Oper} {rest : List Oper} {fs : FL} {L : TL} {K : List Step → FL → TL → Prop} (V : Vw) {l : List Int} {d : Nat} {t t' e : TypeId} {x : Operand} {ty : TypeId} {pos : String} {after : Array Edge} {g : Option (Nat × Bool)} {gr : FL} (hV : V.Is u8E l) (hg : Gd ops ⟨some d, .convert t t' x, ty, pos, after, g⟩ fs gr)
    (hx : ev fs x = some (.a (.c V.s))) (hl : lkT L V.k = some V.t) (hu : P.underlying t = some (.slice e)) (he : P.underlying e = some (.int .u8)) (hd : P.underlying t' = some .string) (hn : Nat.blt d n = true)
    (h : RunK P n ops rest ((d, SV.raw (.string (strOfNums l))) :: fs) L (fun ss fs' L' => K (⟨gr ++ opds [(x, .a (.c V.s))], some d, SV.raw (.string (strOfNums l)), [(V.k, V.t)], [], [], []⟩ :: ss) fs' L')) : RunK P n ops (⟨some d, .convert t t' x, ty, pos, after, g⟩ :: rest) fs L K :=
  Sx.K.pureR [(x, .a (.c V.s))] (SV.raw (.string (strOfNums l))) [(V.k, V.t)] rfl hg (fun p hp => by simp at hp; subst hp; exact hx) (fun p hp => by simp at hp; subst hp; exact hl) (by simp) hn (fun β ρ w F hs hρ => by
    have h1 : ρ x = V.s.den β := hρ (x, .a (.c V.s)) (by simp)
    have h2 := run_bstr hV hu he hd (Star_one.1 hs)
    simp only [execOp, h1]
    rw [run_bind_ok h2]; rfl) h
/-- An octet of a string. -/
def bAt (s : ByteArray) (i : Int) : Option Int := if 0 ≤ i then (s[i.toNat]?).map fun b => (b.toNat : Int) else none
theorem bAt_run {P : Program} {t : TypeId} (hu : P.underlying t = some .string) {s : ByteArray} {i x : Int} (h : bAt s i = some x) (w : World) : (Instr.index t (.string s) (.int .i64 i)).run P w = .ok (.int .u8 x) w := by
  unfold bAt at h
  split at h
  · rename_i h0
    obtain ⟨b, hb, rfl⟩ := Option.map_eq_some_iff.1 h
    simp [Instr.index, asIntOf, run_underlying hu, h0, hb, Sem.run_pure]
  · cases h
theorem K.sidx {P : Program} {n : Nat} {ops : Array Oper} {rest : List Oper} {fs : FL} {L : TL} {K : List Step → FL → TL → Prop} {d : Nat} {t : TypeId} {x io : Operand} {ty : TypeId} {pos : String} {after : Array Edge} {g : Option (Nat × Bool)} {gr : FL} {X I V : Value} (hg : Gd ops ⟨some d, .index t x io, ty, pos, after, g⟩ fs gr)
    (hx : ev fs x = some (SV.raw X)) (hi : ev fs io = some (SV.raw I)) (hr : ∀ w, (Instr.index t X I).run P w = .ok V w) (hn : Nat.blt d n = true)
    (h : RunK P n ops rest ((d, SV.raw V) :: fs) L (fun ss fs' L' => K (⟨gr ++ opds [(x, SV.raw X), (io, SV.raw I)], some d, SV.raw V, [], [], [], []⟩ :: ss) fs' L')) : RunK P n ops (⟨some d, .index t x io, ty, pos, after, g⟩ :: rest) fs L K :=
  Sx.K.pureR [(x, SV.raw X), (io, SV.raw I)] (SV.raw V) [] rfl hg (fun p hp => by simp at hp; rcases hp with rfl | rfl <;> assumption) (fun p hp => by simp at hp) (by simp) hn (fun β ρ w F hs hρ => by
    have h1 : ρ x = X := hρ (x, SV.raw X) (by simp)
    have h2 : ρ io = I := hρ (io, SV.raw I) (by simp)
    simp only [execOp, h1, h2]
    rw [run_bind_ok (hr w)]; rfl) h
end Go.Proofs.Ytheopcgjdfckmaa.Sx

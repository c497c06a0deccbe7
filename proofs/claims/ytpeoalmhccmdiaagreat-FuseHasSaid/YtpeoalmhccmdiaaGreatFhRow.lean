/- The row of whilom/whilomlaw13.FuseHas: the call returns true and leaves its arguments as they were. No condition. -/
import Derived.Test.YtpeoalmhccmdiaaGreatRows
import Derived.Test.YtpeoalmhccmdiaaGreatFhf
import Derived.WalkKit
import Derived.ProofKit
import Derived.OpenShut
import Derived.ShutString
import Derived.ChangeOld
import Derived.Below
import Derived.SizedLaws
import Derived.Lib.SmallJoins
namespace Go.Proofs.YtpeoalmhccmdiaaGreat.fuseHas
open Go.ChangeShapes Go.WideShapes Go.ChangeAt Go.RowKit Go.Joins
set_option linter.unusedVariables false
theorem eTItem_dec (cs : List Value) (h : Sx.okKinds [some .i64, some .i64] cs) : ∃ x, cs = eTItem x ∧ (Sx.kwf .i64 x.key ∧ Sx.kwf .i64 x.id) := by
  obtain ⟨u0, r0, rfl, w0, g1⟩ := Sx.okKc h
  obtain ⟨u1, rfl, w1⟩ := Sx.okK1 g1
  obtain ⟨n0, rfl, y0⟩ := w0
  obtain ⟨n1, rfl, y1⟩ := w1
  exact ⟨⟨n0, n1⟩, rfl, y0, y1⟩
theorem own : ownKnob Tryz.prog.godebug = none := by kernel_rfl
theorem laidOut : laidOutB Tryz.prog = true := by kernel_rfl
set_option maxRecDepth 100000 in
theorem lifted (os : Os) (started : os.Started) (H : Type) (enc : TypeId × Value → H) :
    ReturnsInHanded {} Tryz.checked os 10 .any (Rows.fuseHasSpec.pre6 enc Tryz.prog Tryz.f10 Rows.fuseHasRow.domain false) (Rows.fuseHasSpec.post enc Tryz.prog Tryz.f10 false true false false) := by
  refine returnsInHanded_of_change_sized (C := Tryz.checked) own started (by kernel_rfl) Tryz.func10
    (ChangeSpec.witness6 (enc := enc) (C := Tryz.checked) false ⟨#[], #[.slice none 0 0, .agg #[.int .i64 0, .int .i64 0]], []⟩ 8 (by kernel_rfl) (by kernel_rfl) (by kernel_rfl) (by kernel_rfl)) ?_
  intro W base args ds gs before hval0 hW hcnd hsz0 _
  have hval : ∀ (j : Nat) t v, Tryz.f10.params[j]? = some t → args[j]? = some v → Value.okWide Tryz.prog W .any base t v := hval0
  have hW' := hW
  obtain ⟨p, q, hA0, hV, rfl, hfz, hnd⟩ := hW
  have hA : DataW.TrodAll enc Tryz.prog W 0 (fun _ => true) true Tryz.f10.params.toList args.toList ds p := hA0
  rw [Tryz.params10] at hA hval
  obtain ⟨v0, vs0, d0, ds0, p0, p'0, hargs, rfl, rfl, h0, r0⟩ := trodAll_cons hA
  obtain ⟨v1, vs1, d1, ds1, p1, p'1, rfl, rfl, rfl, h1, r1⟩ := trodAll_cons r0
  obtain ⟨rfl, rfl, rfl⟩ := trodAll_nil r1
  obtain rfl : args = #[v0, v1] := by cases args; simp_all
  obtain ⟨rfl, rfl⟩ := trodVars_none hV
  have k0 := h0
  have lt0 : ∀ x ∈ p0, x.block < W.heap.size := by obtain ⟨m, hm⟩ := k0; exact DataW.trod_lt m _ _ _ hm
  have k1 := h1
  have lt1 : ∀ x ∈ p1, x.block < W.heap.size := by obtain ⟨m, hm⟩ := k1; exact DataW.trod_lt m _ _ _ hm
  obtain ⟨ao0, len0, cap0, rfl⟩ := okWide_slice Tryz.underlying77 (hval 0 77 v0 rfl rfl)
  obtain ⟨a0, hL0, q0⟩ := Sx.open_llist (f := Sx.intE) (s := 1) (D := 9) (ks := [some .i64]) Tryz.underlying77 Tryz.underlying85 (by kernel_rfl) (by kernel_rfl) (by kernel_rfl) (by decide) Sx.intE_len Sx.intDec rfl h0
  obtain ⟨cs1, rfl, _⟩ := okWide_struct Tryz.underlying30 (hval 1 30 v1 rfl rfl)
  obtain ⟨a1, e1, q1⟩ := eTItem_dec _ (Sx.open_flat (D := 9) (ks := [some .i64, some .i64]) (by kernel_rfl) h1)
  obtain rfl : cs1 = (eTItem a1).toArray := by apply Array.ext'; exact e1
  clear hsz0
  have con := Lw13_FuseHas_con0 hL0 (FuseHas_pure a0 a1)
  refine (Sx.SCon.lawRd con).mono fun e W' ⟨he, bel⟩ => ?_
  subst he
  exact ⟨_, rfl, _, _, _, [], _, [], hW', trodAll_mk1 (shut_bool Tryz.underlying4 _), (trodAll_cons_mk (Below.trod laidOut (by kernel_rfl) (of_decide_eq_true (by kernel_rfl)) k0 bel lt0) (trodAll_cons_mk (Below.trod laidOut (by kernel_rfl) (of_decide_eq_true (by kernel_rfl)) k1 bel lt1) trodAll_mk0)), rfl, bel.frame _, fun h => by cases h⟩
theorem proved : Rows.FuseHasSaid :=
  OpenClaim.holds_of_wide 10 Tryz.f10 rfl rfl rfl rfl rfl rfl rfl ⟨rfl, rfl, rfl, rfl, rfl⟩ rfl rfl rfl rfl rfl (by kernel_rfl) Tryz.func10 (by kernel_rfl)
    (of_decide_eq_true (by kernel_rfl)) (by unfold Func.isWrapper; first | (rw [if_pos (by decide +kernel)]; kernel_rfl) | (rw [if_neg (by decide +kernel)]; exact ⟨rfl, rfl⟩))
    (fun os started H enc _ => lifted os started H enc)
#print axioms proved
end Go.Proofs.YtpeoalmhccmdiaaGreat.fuseHas

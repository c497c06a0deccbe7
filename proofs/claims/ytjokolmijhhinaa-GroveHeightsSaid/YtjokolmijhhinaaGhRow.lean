/- The row of whilom/whilomlaw07.GroveHeights: the call returns true and leaves its arguments as they were. No condition. -/
import Derived.Test.YtjokolmijhhinaaRows
import Derived.Test.YtjokolmijhhinaaGhd
import Derived.WalkKit
import Derived.ProofKit
import Derived.OpenShut
import Derived.ShutString
import Derived.ChangeOld
import Derived.Below
import Derived.SizedLaws
import Derived.Lib.SmallJoins
namespace Go.Proofs.Ytjokolmijhhinaa.groveHeights
open Go.ChangeShapes Go.WideShapes Go.ChangeAt Go.RowKit Go.Joins
set_option linter.unusedVariables false
theorem eTL07Act_dec (cs : List Value) (h : Sx.okKinds [some .i64, some .i64, some .i64] cs) : ∃ x, cs = eTL07Act x ∧ (Sx.kwf .i64 x.kind ∧ Sx.kwf .i64 x.k ∧ Sx.kwf .i64 x.w) := by
  obtain ⟨u0, r0, rfl, w0, g1⟩ := Sx.okKc h
  obtain ⟨u1, r1, rfl, w1, g2⟩ := Sx.okKc g1
  obtain ⟨u2, rfl, w2⟩ := Sx.okK1 g2
  obtain ⟨n0, rfl, y0⟩ := w0
  obtain ⟨n1, rfl, y1⟩ := w1
  obtain ⟨n2, rfl, y2⟩ := w2
  exact ⟨⟨n0, n1, n2⟩, rfl, y0, y1, y2⟩
theorem own : ownKnob Try.prog.godebug = none := by kernel_rfl
theorem laidOut : laidOutB Try.prog = true := by kernel_rfl
set_option maxRecDepth 100000 in
theorem lifted (os : Os) (started : os.Started) (H : Type) (enc : TypeId × Value → H) :
    ReturnsInHanded {} Try.checked os 4 .any (Rows.groveHeightsSpec.pre6 enc Try.prog Try.f4 Rows.groveHeightsRow.domain false) (Rows.groveHeightsSpec.post enc Try.prog Try.f4 false true false false) := by
  refine returnsInHanded_of_change_sized (C := Try.checked) own started (by kernel_rfl) Try.func4
    (ChangeSpec.witness6 (enc := enc) (C := Try.checked) false ⟨#[], #[.slice none 0 0, .int .i64 0], []⟩ 8 (by kernel_rfl) (by kernel_rfl) (by kernel_rfl) (by kernel_rfl)) ?_
  intro W base args ds gs before hval0 hW hcnd hsz0 _
  have hval : ∀ (j : Nat) t v, Try.f4.params[j]? = some t → args[j]? = some v → Value.okWide Try.prog W .any base t v := hval0
  have hW' := hW
  obtain ⟨p, q, hA0, hV, rfl, hfz, hnd⟩ := hW
  have hA : DataW.TrodAll enc Try.prog W 0 (fun _ => true) true Try.f4.params.toList args.toList ds p := hA0
  rw [Try.params4] at hA hval
  obtain ⟨v0, vs0, d0, ds0, p0, p'0, hargs, rfl, rfl, h0, r0⟩ := trodAll_cons hA
  obtain ⟨v1, vs1, d1, ds1, p1, p'1, rfl, rfl, rfl, h1, r1⟩ := trodAll_cons r0
  obtain ⟨rfl, rfl, rfl⟩ := trodAll_nil r1
  obtain rfl : args = #[v0, v1] := by cases args; simp_all
  obtain ⟨rfl, rfl⟩ := trodVars_none hV
  have k0 := h0
  have lt0 : ∀ x ∈ p0, x.block < W.heap.size := by obtain ⟨m, hm⟩ := k0; exact DataW.trod_lt m _ _ _ hm
  have k1 := h1
  have lt1 : ∀ x ∈ p1, x.block < W.heap.size := by obtain ⟨m, hm⟩ := k1; exact DataW.trod_lt m _ _ _ hm
  obtain ⟨ao0, len0, cap0, rfl⟩ := okWide_slice Try.underlying22 (hval 0 22 v0 rfl rfl)
  obtain ⟨a0, b0, o0, q0, hs0, hb0, hx0, hm0⟩ := Sx.open_list (f := eTL07Act) (s := 3) (D := 9) (ks := [some .i64, some .i64, some .i64]) Try.underlying22 (by kernel_rfl) (by kernel_rfl) (by decide) eTL07Act_len eTL07Act_dec rfl h0
  have hL0 : Sx.LArg (fun b => b < W.heap.size) W (.slice ao0 len0 cap0) eTL07Act 3 a0 := ⟨b0, o0, eTL07Act_len, by decide, hs0, hb0, hx0⟩
  obtain ⟨a1, rfl, q1, _, w1⟩ := open_int Try.underlying3 (hval 1 3 v1 rfl rfl) h1
  clear hsz0
  have con := VLw07_GroveHeights_con0 hL0 (GroveHeights_pure a0 a1)
  refine (Sx.SCon.lawRd con).mono fun e W' ⟨he, bel⟩ => ?_
  subst he
  exact ⟨_, rfl, _, _, _, [], _, [], hW', trodAll_mk1 (shut_bool Try.underlying4 _), (trodAll_cons_mk (Below.trod laidOut (by kernel_rfl) (of_decide_eq_true (by kernel_rfl)) k0 bel lt0) (trodAll_cons_mk (Below.trod laidOut (by kernel_rfl) (of_decide_eq_true (by kernel_rfl)) k1 bel lt1) trodAll_mk0)), rfl, bel.frame _, fun h => by cases h⟩
theorem proved : Rows.GroveHeightsSaid :=
  OpenClaim.holds_of_wide 4 Try.f4 rfl rfl rfl rfl rfl rfl rfl ⟨rfl, rfl, rfl, rfl, rfl⟩ rfl rfl rfl rfl rfl (by kernel_rfl) Try.func4 (by kernel_rfl)
    (of_decide_eq_true (by kernel_rfl)) (by unfold Func.isWrapper; first | (rw [if_pos (by decide +kernel)]; kernel_rfl) | (rw [if_neg (by decide +kernel)]; exact ⟨rfl, rfl⟩))
    (fun os started H enc _ => lifted os started H enc)
#print axioms proved
end Go.Proofs.Ytjokolmijhhinaa.groveHeights

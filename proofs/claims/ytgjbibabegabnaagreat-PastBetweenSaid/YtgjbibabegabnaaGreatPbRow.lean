/- The row of whilom/whilomlaw14.PastBetween: the call returns true and leaves its arguments as they were. No condition. -/
import Derived.Test.YtgjbibabegabnaaGreatRows
import Derived.Test.YtgjbibabegabnaaGreatPbf
import Derived.WalkKit
import Derived.ProofKit
import Derived.OpenShut
import Derived.ShutString
import Derived.ChangeOld
import Derived.Below
import Derived.SizedLaws
import Derived.Lib.SmallJoins
namespace Go.Proofs.YtgjbibabegabnaaGreat.pastBetween
open Go.ChangeShapes Go.WideShapes Go.ChangeAt Go.RowKit Go.Joins
set_option linter.unusedVariables false
theorem eTL12Act_dec (cs : List Value) (h : Sx.okKinds [some .i64, some .i64, none, some .i64, some .i64] cs) : ∃ x, cs = eTL12Act x ∧ (Sx.kwf .i64 x.kind ∧ Sx.kwf .i64 x.time ∧ Sx.kwf .i64 x.x.key ∧ Sx.kwf .i64 x.x.id) := by
  obtain ⟨u0, r0, rfl, w0, g1⟩ := Sx.okKc h
  obtain ⟨u1, r1, rfl, w1, g2⟩ := Sx.okKc g1
  obtain ⟨u2, r2, rfl, w2, g3⟩ := Sx.okKc g2
  obtain ⟨u3, r3, rfl, w3, g4⟩ := Sx.okKc g3
  obtain ⟨u4, rfl, w4⟩ := Sx.okK1 g4
  obtain ⟨n0, rfl, y0⟩ := w0
  obtain ⟨n1, rfl, y1⟩ := w1
  obtain ⟨n2, rfl⟩ := w2
  obtain ⟨n3, rfl, y3⟩ := w3
  obtain ⟨n4, rfl, y4⟩ := w4
  exact ⟨⟨n0, n1, n2, ⟨n3, n4⟩⟩, rfl, y0, y1, y3, y4⟩
theorem own : ownKnob Tryz.prog.godebug = none := by kernel_rfl
theorem laidOut : laidOutB Tryz.prog = true := by kernel_rfl
set_option maxRecDepth 100000 in
theorem lifted (os : Os) (started : os.Started) (H : Type) (enc : TypeId × Value → H) :
    ReturnsInHanded {} Tryz.checked os 7 .any (Rows.pastBetweenSpec.pre6 enc Tryz.prog Tryz.f7 Rows.pastBetweenRow.domain false) (Rows.pastBetweenSpec.post enc Tryz.prog Tryz.f7 false true false false) := by
  refine returnsInHanded_of_change_sized (C := Tryz.checked) own started (by kernel_rfl) Tryz.func7
    (ChangeSpec.witness6 (enc := enc) (C := Tryz.checked) false ⟨#[], #[.slice none 0 0], []⟩ 8 (by kernel_rfl) (by kernel_rfl) (by kernel_rfl) (by kernel_rfl)) ?_
  intro W base args ds gs before hval0 hW hcnd hsz0 _
  have hval : ∀ (j : Nat) t v, Tryz.f7.params[j]? = some t → args[j]? = some v → Value.okWide Tryz.prog W .any base t v := hval0
  have hW' := hW
  obtain ⟨p, q, hA0, hV, rfl, hfz, hnd⟩ := hW
  have hA : DataW.TrodAll enc Tryz.prog W 0 (fun _ => true) true Tryz.f7.params.toList args.toList ds p := hA0
  rw [Tryz.params7] at hA hval
  obtain ⟨v0, vs0, d0, ds0, p0, p'0, hargs, rfl, rfl, h0, r0⟩ := trodAll_cons hA
  obtain ⟨rfl, rfl, rfl⟩ := trodAll_nil r0
  obtain rfl : args = #[v0] := by cases args; simp_all
  obtain ⟨rfl, rfl⟩ := trodVars_none hV
  have k0 := h0
  have lt0 : ∀ x ∈ p0, x.block < W.heap.size := by obtain ⟨m, hm⟩ := k0; exact DataW.trod_lt m _ _ _ hm
  obtain ⟨ao0, len0, cap0, rfl⟩ := okWide_slice Tryz.underlying33 (hval 0 33 v0 rfl rfl)
  obtain ⟨a0, b0, o0, q0, hs0, hb0, hx0, hm0⟩ := Sx.open_list (f := eTL12Act) (s := 5) (D := 9) (ks := [some .i64, some .i64, none, some .i64, some .i64]) Tryz.underlying33 (by kernel_rfl) (by kernel_rfl) (by decide) eTL12Act_len eTL12Act_dec rfl h0
  have hL0 : Sx.LArg (fun b => b < W.heap.size) W (.slice ao0 len0 cap0) eTL12Act 5 a0 := ⟨b0, o0, eTL12Act_len, by decide, hs0, hb0, hx0⟩
  clear hsz0
  have con := Lw14_PastBetween_con hL0 (PastBetween_pure a0)
  refine (Sx.SCon.lawRd con).mono fun e W' ⟨he, bel⟩ => ?_
  subst he
  exact ⟨_, rfl, _, _, _, [], _, [], hW', trodAll_mk1 (shut_bool Tryz.underlying4 _), (trodAll_cons_mk (Below.trod laidOut (by kernel_rfl) (of_decide_eq_true (by kernel_rfl)) k0 bel lt0) trodAll_mk0), rfl, bel.frame _, fun h => by cases h⟩
theorem proved : Rows.PastBetweenSaid :=
  OpenClaim.holds_of_wide 7 Tryz.f7 rfl rfl rfl rfl rfl rfl rfl ⟨rfl, rfl, rfl, rfl, rfl⟩ rfl rfl rfl rfl rfl (by kernel_rfl) Tryz.func7 (by kernel_rfl)
    (of_decide_eq_true (by kernel_rfl)) (by unfold Func.isWrapper; first | (rw [if_pos (by decide +kernel)]; kernel_rfl) | (rw [if_neg (by decide +kernel)]; exact ⟨rfl, rfl⟩))
    (fun os started H enc _ => lifted os started H enc)
#print axioms proved
end Go.Proofs.YtgjbibabegabnaaGreat.pastBetween

/- The row of whilom/whilomlaw10.BridgeVisits: the call returns true and leaves its arguments as they were. No condition. -/
import Derived.Test.YthcehagablploaaRows
import Derived.Test.YthcehagablploaaBvd
import Derived.WalkKit
import Derived.ProofKit
import Derived.OpenShut
import Derived.ShutString
import Derived.ChangeOld
import Derived.Below
import Derived.SizedLaws
import Derived.Lib.SmallJoins
namespace Go.Proofs.Ythcehagablploaa.bridgeVisits
open Go.ChangeShapes Go.WideShapes Go.ChangeAt Go.RowKit Go.Joins
set_option linter.unusedVariables false
theorem eTR08Mark_dec (cs : List Value) (h : Sx.okKinds [some .i64, none, some .i64, some .i64, none, none, some .i64, some .i64] cs) : ∃ x, cs = eTR08Mark x ∧ (Sx.kwf .i64 x.op.time ∧ Sx.kwf .i64 x.op.item.key ∧ Sx.kwf .i64 x.op.item.id ∧ Sx.kwf .i64 x.took.item.key ∧ Sx.kwf .i64 x.took.item.id) := by
  obtain ⟨u0, r0, rfl, w0, g1⟩ := Sx.okKc h
  obtain ⟨u1, r1, rfl, w1, g2⟩ := Sx.okKc g1
  obtain ⟨u2, r2, rfl, w2, g3⟩ := Sx.okKc g2
  obtain ⟨u3, r3, rfl, w3, g4⟩ := Sx.okKc g3
  obtain ⟨u4, r4, rfl, w4, g5⟩ := Sx.okKc g4
  obtain ⟨u5, r5, rfl, w5, g6⟩ := Sx.okKc g5
  obtain ⟨u6, r6, rfl, w6, g7⟩ := Sx.okKc g6
  obtain ⟨u7, rfl, w7⟩ := Sx.okK1 g7
  obtain ⟨n0, rfl, y0⟩ := w0
  obtain ⟨n1, rfl⟩ := w1
  obtain ⟨n2, rfl, y2⟩ := w2
  obtain ⟨n3, rfl, y3⟩ := w3
  obtain ⟨n4, rfl⟩ := w4
  obtain ⟨n5, rfl⟩ := w5
  obtain ⟨n6, rfl, y6⟩ := w6
  obtain ⟨n7, rfl, y7⟩ := w7
  exact ⟨⟨⟨n0, n1, ⟨n2, n3⟩⟩, n4, ⟨n5, ⟨n6, n7⟩⟩⟩, rfl, y0, y2, y3, y6, y7⟩
theorem own : ownKnob Try.prog.godebug = none := by kernel_rfl
theorem laidOut : laidOutB Try.prog = true := by kernel_rfl
set_option maxRecDepth 100000 in
theorem lifted (os : Os) (started : os.Started) (H : Type) (enc : TypeId × Value → H) :
    ReturnsInHanded {} Try.checked os 7 .any (Rows.bridgeVisitsSpec.pre6 enc Try.prog Try.f7 Rows.bridgeVisitsRow.domain false) (Rows.bridgeVisitsSpec.post enc Try.prog Try.f7 false true false false) := by
  refine returnsInHanded_of_change_sized (C := Try.checked) own started (by kernel_rfl) Try.func7
    (ChangeSpec.witness6 (enc := enc) (C := Try.checked) false ⟨#[], #[.slice none 0 0, .int .i64 0, .int .i64 0], []⟩ 8 (by kernel_rfl) (by kernel_rfl) (by kernel_rfl) (by kernel_rfl)) ?_
  intro W base args ds gs before hval0 hW hcnd hsz0 _
  have hval : ∀ (j : Nat) t v, Try.f7.params[j]? = some t → args[j]? = some v → Value.okWide Try.prog W .any base t v := hval0
  have hW' := hW
  obtain ⟨p, q, hA0, hV, rfl, hfz, hnd⟩ := hW
  have hA : DataW.TrodAll enc Try.prog W 0 (fun _ => true) true Try.f7.params.toList args.toList ds p := hA0
  rw [Try.params7] at hA hval
  obtain ⟨v0, vs0, d0, ds0, p0, p'0, hargs, rfl, rfl, h0, r0⟩ := trodAll_cons hA
  obtain ⟨v1, vs1, d1, ds1, p1, p'1, rfl, rfl, rfl, h1, r1⟩ := trodAll_cons r0
  obtain ⟨v2, vs2, d2, ds2, p2, p'2, rfl, rfl, rfl, h2, r2⟩ := trodAll_cons r1
  obtain ⟨rfl, rfl, rfl⟩ := trodAll_nil r2
  obtain rfl : args = #[v0, v1, v2] := by cases args; simp_all
  obtain ⟨rfl, rfl⟩ := trodVars_none hV
  have k0 := h0
  have lt0 : ∀ x ∈ p0, x.block < W.heap.size := by obtain ⟨m, hm⟩ := k0; exact DataW.trod_lt m _ _ _ hm
  have k1 := h1
  have lt1 : ∀ x ∈ p1, x.block < W.heap.size := by obtain ⟨m, hm⟩ := k1; exact DataW.trod_lt m _ _ _ hm
  have k2 := h2
  have lt2 : ∀ x ∈ p2, x.block < W.heap.size := by obtain ⟨m, hm⟩ := k2; exact DataW.trod_lt m _ _ _ hm
  obtain ⟨ao0, len0, cap0, rfl⟩ := okWide_slice Try.underlying22 (hval 0 22 v0 rfl rfl)
  obtain ⟨a0, b0, o0, q0, hs0, hb0, hx0, hm0⟩ := Sx.open_list (f := eTR08Mark) (s := 8) (D := 9) (ks := [some .i64, none, some .i64, some .i64, none, none, some .i64, some .i64]) Try.underlying22 (by kernel_rfl) (by kernel_rfl) (by decide) eTR08Mark_len eTR08Mark_dec rfl h0
  have hL0 : Sx.LArg (fun b => b < W.heap.size) W (.slice ao0 len0 cap0) eTR08Mark 8 a0 := ⟨b0, o0, eTR08Mark_len, by decide, hs0, hb0, hx0⟩
  obtain ⟨a1, rfl, q1, _, w1⟩ := open_int Try.underlying3 (hval 1 3 v1 rfl rfl) h1
  obtain ⟨a2, rfl, q2, _, w2⟩ := open_int Try.underlying3 (hval 2 3 v2 rfl rfl) h2
  clear hsz0
  have con := VLw10_BridgeVisits_con0 hL0 (BridgeVisits_pure a0 a1 a2)
  refine (Sx.SCon.lawRd con).mono fun e W' ⟨he, bel⟩ => ?_
  subst he
  exact ⟨_, rfl, _, _, _, [], _, [], hW', trodAll_mk1 (shut_bool Try.underlying4 _), (trodAll_cons_mk (Below.trod laidOut (by kernel_rfl) (of_decide_eq_true (by kernel_rfl)) k0 bel lt0) (trodAll_cons_mk (Below.trod laidOut (by kernel_rfl) (of_decide_eq_true (by kernel_rfl)) k1 bel lt1) (trodAll_cons_mk (Below.trod laidOut (by kernel_rfl) (of_decide_eq_true (by kernel_rfl)) k2 bel lt2) trodAll_mk0))), rfl, bel.frame _, fun h => by cases h⟩
theorem proved : Rows.BridgeVisitsSaid :=
  OpenClaim.holds_of_wide 7 Try.f7 rfl rfl rfl rfl rfl rfl rfl ⟨rfl, rfl, rfl, rfl, rfl⟩ rfl rfl rfl rfl rfl (by kernel_rfl) Try.func7 (by kernel_rfl)
    (of_decide_eq_true (by kernel_rfl)) (by unfold Func.isWrapper; first | (rw [if_pos (by decide +kernel)]; kernel_rfl) | (rw [if_neg (by decide +kernel)]; exact ⟨rfl, rfl⟩))
    (fun os started H enc _ => lifted os started H enc)
#print axioms proved
end Go.Proofs.Ythcehagablploaa.bridgeVisits

/- The row of whilom/whilomlaw14.PastActs: the call returns true and leaves its arguments as they were. No condition. -/
import Derived.Test.YtgjbibabegabnaaGreatRows
import Derived.Test.YtgjbibabegabnaaGreatPaf
import Derived.WalkKit
import Derived.ProofKit
import Derived.OpenShut
import Derived.ShutString
import Derived.ChangeOld
import Derived.Below
import Derived.SizedLaws
import Derived.Lib.SmallJoins
namespace Go.Proofs.YtgjbibabegabnaaGreat.pastActs
open Go.ChangeShapes Go.WideShapes Go.ChangeAt Go.RowKit Go.Joins
set_option linter.unusedVariables false
theorem eTL12Act_dec (cs : List Value) (h : Sx.okKinds [some .i64, some .i64, none, some .i64, some .i64] cs) : ∃ x, cs = eTL12Act x ∧ (Sx.kwf .i64 x.kind ∧ Sx.kwf .i64 x.time ∧ Sx.kwf .i64 x.x.key ∧ Sx.kwf .i64 x.x.id) := by
  obtain ⟨u0, r0, rfl, w0, g1⟩ := Sx.okKc h
  obtain ⟨u1, r1, rfl, w1, g2⟩ := Sx.okKc g1
  obtain ⟨u2, r2, rfl, w2, g3⟩ := Sx.okKc g2
  obtain ⟨u3, r3, rfl, w3, g4⟩ := Sx.okKc g3
  obtain ⟨u4, rfl, w4⟩ := Sx.okK1 g4
  obtain ⟨n0, rfl, y0⟩ := w0
  obtain ⟨n1, rfl, y1⟩ := w1
  obtain ⟨n2, rfl⟩ := w2
  obtain ⟨n3, rfl, y3⟩ := w3
  obtain ⟨n4, rfl, y4⟩ := w4
  exact ⟨⟨n0, n1, n2, ⟨n3, n4⟩⟩, rfl, y0, y1, y3, y4⟩
theorem own : ownKnob Tryz.prog.godebug = none := by kernel_rfl
theorem laidOut : laidOutB Tryz.prog = true := by kernel_rfl
set_option maxRecDepth 100000 in
theorem lifted (os : Os) (started : os.Started) (H : Type) (enc : TypeId × Value → H) :
    ReturnsInHanded {} Tryz.checked os 5 .any (Rows.pastActsSpec.pre6 enc Tryz.prog Tryz.f5 Rows.pastActsRow.domain false) (Rows.pastActsSpec.post enc Tryz.prog Tryz.f5 false true false false) := by
  refine returnsInHanded_of_change_sized (C := Tryz.checked) own started (by kernel_rfl) Tryz.func5
    (ChangeSpec.witness6 (enc := enc) (C := Tryz.checked) false ⟨#[], #[.int .i64 0, .slice none 0 0, .int .i64 0], []⟩ 8 (by kernel_rfl) (by kernel_rfl) (by kernel_rfl) (by kernel_rfl)) ?_
  intro W base args ds gs before hval0 hW hcnd hsz0 _
  have hval : ∀ (j : Nat) t v, Tryz.f5.params[j]? = some t → args[j]? = some v → Value.okWide Tryz.prog W .any base t v := hval0
  have hW' := hW
  obtain ⟨p, q, hA0, hV, rfl, hfz, hnd⟩ := hW
  have hA : DataW.TrodAll enc Tryz.prog W 0 (fun _ => true) true Tryz.f5.params.toList args.toList ds p := hA0
  rw [Tryz.params5] at hA hval
  obtain ⟨v0, vs0, d0, ds0, p0, p'0, hargs, rfl, rfl, h0, r0⟩ := trodAll_cons hA
  obtain ⟨v1, vs1, d1, ds1, p1, p'1, rfl, rfl, rfl, h1, r1⟩ := trodAll_cons r0
  obtain ⟨v2, vs2, d2, ds2, p2, p'2, rfl, rfl, rfl, h2, r2⟩ := trodAll_cons r1
  obtain ⟨rfl, rfl, rfl⟩ := trodAll_nil r2
  obtain rfl : args = #[v0, v1, v2] := by cases args; simp_all
  obtain ⟨rfl, rfl⟩ := trodVars_none hV
  have k0 := h0
  have lt0 : ∀ x ∈ p0, x.block < W.heap.size := by obtain ⟨m, hm⟩ := k0; exact DataW.trod_lt m _ _ _ hm
  have k1 := h1
  have lt1 : ∀ x ∈ p1, x.block < W.heap.size := by obtain ⟨m, hm⟩ := k1; exact DataW.trod_lt m _ _ _ hm
  have k2 := h2
  have lt2 : ∀ x ∈ p2, x.block < W.heap.size := by obtain ⟨m, hm⟩ := k2; exact DataW.trod_lt m _ _ _ hm
  obtain ⟨a0, rfl, q0, _, w0⟩ := open_int Tryz.underlying3 (hval 0 3 v0 rfl rfl) h0
  obtain ⟨ao1, len1, cap1, rfl⟩ := okWide_slice Tryz.underlying33 (hval 1 33 v1 rfl rfl)
  obtain ⟨a1, b1, o1, q1, hs1, hb1, hx1, hm1⟩ := Sx.open_list (f := eTL12Act) (s := 5) (D := 9) (ks := [some .i64, some .i64, none, some .i64, some .i64]) Tryz.underlying33 (by kernel_rfl) (by kernel_rfl) (by decide) eTL12Act_len eTL12Act_dec rfl h1
  have hL1 : Sx.LArg (fun b => b < W.heap.size) W (.slice ao1 len1 cap1) eTL12Act 5 a1 := ⟨b1, o1, eTL12Act_len, by decide, hs1, hb1, hx1⟩
  obtain ⟨a2, rfl, q2, _, w2⟩ := open_int Tryz.underlying3 (hval 2 3 v2 rfl rfl) h2
  clear hsz0
  have con := Lw14_PastActs_con hL1 (PastActs_pure a0 a1 a2)
  refine (Sx.SCon.lawRd con).mono fun e W' ⟨he, bel⟩ => ?_
  subst he
  exact ⟨_, rfl, _, _, _, [], _, [], hW', trodAll_mk1 (shut_bool Tryz.underlying4 _), (trodAll_cons_mk (Below.trod laidOut (by kernel_rfl) (of_decide_eq_true (by kernel_rfl)) k0 bel lt0) (trodAll_cons_mk (Below.trod laidOut (by kernel_rfl) (of_decide_eq_true (by kernel_rfl)) k1 bel lt1) (trodAll_cons_mk (Below.trod laidOut (by kernel_rfl) (of_decide_eq_true (by kernel_rfl)) k2 bel lt2) trodAll_mk0))), rfl, bel.frame _, fun h => by cases h⟩
theorem proved : Rows.PastActsSaid :=
  OpenClaim.holds_of_wide 5 Tryz.f5 rfl rfl rfl rfl rfl rfl rfl ⟨rfl, rfl, rfl, rfl, rfl⟩ rfl rfl rfl rfl rfl (by kernel_rfl) Tryz.func5 (by kernel_rfl)
    (of_decide_eq_true (by kernel_rfl)) (by unfold Func.isWrapper; first | (rw [if_pos (by decide +kernel)]; kernel_rfl) | (rw [if_neg (by decide +kernel)]; exact ⟨rfl, rfl⟩))
    (fun os started H enc _ => lifted os started H enc)
#print axioms proved
end Go.Proofs.YtgjbibabegabnaaGreat.pastActs

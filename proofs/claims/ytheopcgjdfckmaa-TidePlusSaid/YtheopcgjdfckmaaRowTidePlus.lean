/- whilomlaw06.TidePlus: for any two tides and any number the call returns true and leaves its arguments as they were. No condition. -/
import Derived.Test.YtheopcgjdfckmaaRows
import Derived.Test.YtheopcgjdfckmaaPTidePlusx3
import Derived.WalkKit
import Derived.ProofKit
import Derived.OpenShut
import Derived.ShutString
import Derived.ChangeOld
import Derived.Below
import Derived.SizedLaws
import Derived.Lib.SmallJoins
namespace Go.Proofs.Ytheopcgjdfckmaa.tidePlus
open Go.ChangeShapes Go.WideShapes Go.ChangeAt Go.RowKit Go.Joins
open Go.Proofs.Ytheopcgjdfckmaa.PTidePlus Go.Proofs.YtheopcgjdfckmaaW.PrintWords Go.Proofs.YtheopcgjdfckmaaW.PrintLast Go.Proofs.YtheopcgjdfckmaaW.PrintMore
set_option linter.unusedVariables false

theorem awake_of (k : Nat) (hk : 10 < k) : whilomlaw06_awake.f k = some true := by
  refine at_rounds (g := fun k => whilomlaw06_awake.f k) (fun k => whilomlaw06_awake.mono k) (k := 5) (by omega) ?_
  kernel_rfl

/-- The plain law. -/
theorem pure (t0 t1 t2 u0 u1 u2 from_ : Int) : whilomlaw06_TidePlus.f 20 t0 t1 t2 u0 u1 u2 from_ = some true := by
  unfold whilomlaw06_TidePlus.f
  rw [awake_of 20 (by omega)]; simp only [Option.bind_some, if_true]
  have hP : tide_Tide_Plus.f t0 t1 t2 u0 u1 u2 = if t0 = 0 then some (u0, u1, u2) else if u0 = 0 then some (t0, t1, t2) else some (wrap64 (t0 + u0), wrap64 (t1 + u1), mn t2 (wrap64 (t1 + u2))) := rfl
  have hL : tide_Tide_Least.f t0 t1 t2 from_ = if t0 = 0 then some from_ else some (mn from_ (wrap64 (from_ + t2))) := rfl
  by_cases c : t0 = 0
  · rw [if_pos c]; simp only [whilomlaw06_TidePlus.j0]
    rw [if_pos c, hP, if_pos c, hL, if_pos c]; simp
  · rw [if_neg c]
    by_cases c2 : u0 = 0
    · rw [if_pos c2]; simp only [whilomlaw06_TidePlus.j0]
      rw [if_neg c, hP, if_neg c, if_pos c2, hL, if_neg c]; simp
    · rw [if_neg c2]; simp only [whilomlaw06_TidePlus.j0]
      rw [if_neg c, hP, if_neg c, if_neg c2, hL, if_neg c]; simp

theorem own : ownKnob Try.prog.godebug = none := by kernel_rfl
theorem laidOut : laidOutB Try.prog = true := by kernel_rfl
theorem cells26 : Try.prog.cellsOf 26 = 3 := by kernel_rfl

set_option maxRecDepth 100000 in
theorem lifted (os : Os) (started : os.Started) (H : Type) (enc : TypeId × Value → H) :
    ReturnsInHanded {} Try.checked os 5 .any (Rows.tidePlusSpec.pre6 enc Try.prog Try.f5 Rows.tidePlusRow.domain false) (Rows.tidePlusSpec.post enc Try.prog Try.f5 false true false false) := by
  refine returnsInHanded_of_change_sized (C := Try.checked) own started (by kernel_rfl) Try.func5
    (ChangeSpec.witness6 (enc := enc) (C := Try.checked) false ⟨#[], #[.agg #[.int .i64 0, .int .i64 0, .int .i64 0], .agg #[.int .i64 0, .int .i64 0, .int .i64 0], .int .i64 0], []⟩ 8 (by kernel_rfl) (by kernel_rfl) (by kernel_rfl) (by kernel_rfl)) ?_
  intro W base args ds gs before hval0 hW hcnd hsz0 _
  have hval : ∀ (j : Nat) t v, Try.f5.params[j]? = some t → args[j]? = some v → Value.okWide Try.prog W .any base t v := hval0
  have hW' := hW
  obtain ⟨p, q, hA0, hV, rfl, hfz, hnd⟩ := hW
  have hA : DataW.TrodAll enc Try.prog W 0 (fun _ => true) true Try.f5.params.toList args.toList ds p := hA0
  rw [Try.params5] at hA hval
  obtain ⟨v0, vs0, d0, ds0, p0, q0, hargs, rfl, rfl, h0, r0⟩ := trodAll_cons hA
  obtain ⟨v1, vs1, d1, ds1, p1, q1, rfl, rfl, rfl, h1, r1⟩ := trodAll_cons r0
  obtain ⟨v2, vs2, d2, ds2, p2, q2, rfl, rfl, rfl, h2, r2⟩ := trodAll_cons r1
  obtain ⟨rfl, rfl, rfl⟩ := trodAll_nil r2
  obtain rfl : args = #[v0, v1, v2] := by cases args; simp_all
  obtain ⟨rfl, rfl⟩ := trodVars_none hV
  have k0 := h0
  have k1 := h1
  have k2 := h2
  have lt0 : ∀ x ∈ p0, x.block < W.heap.size := by obtain ⟨m, hm⟩ := k0; exact DataW.trod_lt m _ _ _ hm
  have lt1 : ∀ x ∈ p1, x.block < W.heap.size := by obtain ⟨m, hm⟩ := k1; exact DataW.trod_lt m _ _ _ hm
  have lt2 : ∀ x ∈ p2, x.block < W.heap.size := by obtain ⟨m, hm⟩ := k2; exact DataW.trod_lt m _ _ _ hm
  obtain ⟨a0, rfl⟩ : ∃ x : Int × Int × Int, v0 = .agg #[.int .i64 x.1, .int .i64 x.2.1, .int .i64 x.2.2] := by
    obtain ⟨c0, c1, c2, y0, y1, y2, m, rfl, rfl, rfl, hy0, hy1, hy2⟩ := open_agg3 Try.underlying26 (by kernel_rfl) cells26 (hval 0 26 v0 rfl rfl) h0
    obtain ⟨a, e0, _, _⟩ := DataW.trod_int Try.underlying3 hy0
    obtain ⟨b, e1, _, _⟩ := DataW.trod_int Try.underlying3 hy1
    obtain ⟨c, e2, _, _⟩ := DataW.trod_int Try.underlying3 hy2
    simp at e0 e1 e2
    subst e0 e1 e2
    exact ⟨(a, b, c), rfl⟩
  obtain ⟨a1, rfl⟩ : ∃ x : Int × Int × Int, v1 = .agg #[.int .i64 x.1, .int .i64 x.2.1, .int .i64 x.2.2] := by
    obtain ⟨c0, c1, c2, y0, y1, y2, m, rfl, rfl, rfl, hy0, hy1, hy2⟩ := open_agg3 Try.underlying26 (by kernel_rfl) cells26 (hval 1 26 v1 rfl rfl) h1
    obtain ⟨a, e0, _, _⟩ := DataW.trod_int Try.underlying3 hy0
    obtain ⟨b, e1, _, _⟩ := DataW.trod_int Try.underlying3 hy1
    obtain ⟨c, e2, _, _⟩ := DataW.trod_int Try.underlying3 hy2
    simp at e0 e1 e2
    subst e0 e1 e2
    exact ⟨(a, b, c), rfl⟩
  obtain ⟨a2, rfl, _, _, _⟩ := open_int Try.underlying3 (hval 2 3 v2 rfl rfl) h2
  clear hA0 hval0 hsz0
  refine (whilomlaw06_TidePlus.calls 20 a0.1 a0.2.1 a0.2.2 a1.1 a1.2.1 a1.2.2 a2 true W (pure _ _ _ _ _ _ _)).mono fun e W' ⟨he, bel⟩ => ?_
  subst he
  exact ⟨_, rfl, _, _, _, [], _, [], hW', trodAll_mk1 (shut_bool Try.underlying4 _),
    (trodAll_cons_mk (Below.trod laidOut (by kernel_rfl) (of_decide_eq_true (by kernel_rfl)) k0 bel lt0)
    (trodAll_cons_mk (Below.trod laidOut (by kernel_rfl) (of_decide_eq_true (by kernel_rfl)) k1 bel lt1)
    (trodAll_cons_mk (Below.trod laidOut (by kernel_rfl) (of_decide_eq_true (by kernel_rfl)) k2 bel lt2) trodAll_mk0))), rfl, bel.frame _, fun h => by cases h⟩

theorem proved : Rows.TidePlusSaid :=
  OpenClaim.holds_of_wide 5 Try.f5 rfl rfl rfl rfl rfl rfl rfl ⟨rfl, rfl, rfl, rfl, rfl⟩ rfl rfl rfl rfl rfl (by kernel_rfl) Try.func5 (by kernel_rfl)
    (of_decide_eq_true (by kernel_rfl)) (by unfold Func.isWrapper; first | (rw [if_pos (by decide +kernel)]; kernel_rfl) | (rw [if_neg (by decide +kernel)]; exact ⟨rfl, rfl⟩))
    (fun os started H enc _ => lifted os started H enc)
#print axioms proved
end Go.Proofs.Ytheopcgjdfckmaa.tidePlus

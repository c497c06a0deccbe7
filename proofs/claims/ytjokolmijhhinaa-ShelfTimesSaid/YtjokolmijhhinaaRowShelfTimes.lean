/- The row of whilom/whilomlaw09.ShelfTimes: the call returns true and leaves its arguments as they were. No condition. -/
import Derived.Test.YtjokolmijhhinaaRows
import Derived.Test.YtjokolmijhhinaaLShelfTimes
import Derived.Test.YtjokolmijhhinaaTz
import Derived.WalkKit
import Derived.ProofKit
import Derived.OpenShut
import Derived.ShutString
import Derived.ChangeOld
import Derived.Below
import Derived.SizedLaws
import Derived.Lib.SmallJoins
namespace Go.Proofs.Ytjokolmijhhinaa.shelfTimes
open Go.ChangeShapes Go.WideShapes Go.ChangeAt Go.RowKit Go.Joins
set_option linter.unusedVariables false
theorem eTArr2TItem_dec (cs : List Value) (h : Sx.okKinds [some .i64, some .i64, some .i64, some .i64] cs) : ∃ x, cs = eTArr2TItem x ∧ (Sx.kwf .i64 x.i0.key ∧ Sx.kwf .i64 x.i0.id ∧ Sx.kwf .i64 x.i1.key ∧ Sx.kwf .i64 x.i1.id) := by
  obtain ⟨u0, r0, rfl, w0, g1⟩ := Sx.okKc h
  obtain ⟨u1, r1, rfl, w1, g2⟩ := Sx.okKc g1
  obtain ⟨u2, r2, rfl, w2, g3⟩ := Sx.okKc g2
  obtain ⟨u3, rfl, w3⟩ := Sx.okK1 g3
  obtain ⟨n0, rfl, y0⟩ := w0
  obtain ⟨n1, rfl, y1⟩ := w1
  obtain ⟨n2, rfl, y2⟩ := w2
  obtain ⟨n3, rfl, y3⟩ := w3
  exact ⟨⟨⟨n0, n1⟩, ⟨n2, n3⟩⟩, rfl, y0, y1, y2, y3⟩
theorem eTArr2Int_dec (cs : List Value) (h : Sx.okKinds [some .i64, some .i64] cs) : ∃ x, cs = eTArr2Int x ∧ (Sx.kwf .i64 x.i0 ∧ Sx.kwf .i64 x.i1) := by
  obtain ⟨u0, r0, rfl, w0, g1⟩ := Sx.okKc h
  obtain ⟨u1, rfl, w1⟩ := Sx.okK1 g1
  obtain ⟨n0, rfl, y0⟩ := w0
  obtain ⟨n1, rfl, y1⟩ := w1
  exact ⟨⟨n0, n1⟩, rfl, y0, y1⟩
theorem okWide_arr' {P : Program} {W : World} {r : Reach} {base : Nat} {t : TypeId} {v : Value} {e : TypeId} {n : Nat} (ht : P.underlying t = some (.array n e)) (h : Value.okWide P W r base t v) : ∃ cs, v = .agg cs ∧ cs.size = P.cellsOf t := by
  simp only [Value.okWide, ht] at h
  obtain ⟨cs, h1, h2, _⟩ := h
  exact ⟨cs, h1, h2⟩
theorem open_arr {H : Type} {enc : TypeId × Value → H} {P : Program} {w : World} {base : Nat} {spare : Nat → Bool} {held : Bool} {t e : TypeId} {n : Nat} {v : Value} {d : DataW H} {p : List MemPlace} {D : Nat} {ks : List (Option IntKind)} (hu : P.underlying t = some (.array n e)) (hk : Sx.kindsOf P D e = some ks) (hs : P.cellsOf e = ks.length) (ht : P.cellsOf t = n * ks.length) (h : DataW.Trod enc P w base spare held t v d p) : Sx.okKinds (List.replicate n ks).flatten v.cells.toList := by
  obtain ⟨fuel, hf⟩ := h
  obtain ⟨xs, m, _, _, hlen, hxl, hx⟩ := DataW.trod_array hu hf
  have key : ∀ j i, i + j = n → Sx.okKinds (List.replicate j ks).flatten (v.cells.toList.drop (i * ks.length)) := by
    intro j
    induction j with
    | zero =>
      intro i hi
      have : v.cells.toList.drop (i * ks.length) = [] := List.drop_eq_nil_of_le (by rw [hlen, ht]; have : i = n := by omega
                                                                                    subst this; exact Nat.le_refl _)
      rw [this]; trivial
    | succ j ih =>
      intro i hi
      have h1 := hx i (by omega)
      rw [List.getElem?_eq_getElem (by omega), hs] at h1
      have h2 := Sx.trod_kinds D m e _ _ ks hk h1
      have h3 := ih (i + 1) (by omega)
      have e1 : v.cells.toList.drop (i * ks.length) = (v.cells.toList.drop (i * ks.length)).take ks.length ++ v.cells.toList.drop ((i + 1) * ks.length) := by
        rw [Nat.succ_mul, ← List.drop_drop, List.take_append_drop]
      rw [e1, List.replicate_succ, List.flatten_cons]
      exact Sx.okKinds_append h2 h3
  have := key n 0 (by omega)
  rw [Nat.zero_mul, List.drop_zero] at this
  exact this
theorem own : ownKnob Try.prog.godebug = none := by kernel_rfl
theorem laidOut : laidOutB Try.prog = true := by kernel_rfl
set_option maxRecDepth 100000 in
theorem lifted (os : Os) (started : os.Started) (H : Type) (enc : TypeId × Value → H) :
    ReturnsInHanded {} Try.checked os 9 .any (Rows.shelfTimesSpec.pre6 enc Try.prog Try.f9 Rows.shelfTimesRow.domain false) (Rows.shelfTimesSpec.post enc Try.prog Try.f9 false true false false) := by
  refine returnsInHanded_of_change_sized (C := Try.checked) own started (by kernel_rfl) Try.func9
    (ChangeSpec.witness6 (enc := enc) (C := Try.checked) false ⟨#[], #[.agg #[.int .i64 0, .int .i64 0, .int .i64 0, .int .i64 0], .agg #[.int .i64 0, .int .i64 0], .agg #[.int .i64 0, .int .i64 0]], []⟩ 8 (by kernel_rfl) (by kernel_rfl) (by kernel_rfl) (by kernel_rfl)) ?_
  intro W base args ds gs before hval0 hW hcnd hsz0 _
  have hval : ∀ (j : Nat) t v, Try.f9.params[j]? = some t → args[j]? = some v → Value.okWide Try.prog W .any base t v := hval0
  have hW' := hW
  obtain ⟨p, q, hA0, hV, rfl, hfz, hnd⟩ := hW
  have hA : DataW.TrodAll enc Try.prog W 0 (fun _ => true) true Try.f9.params.toList args.toList ds p := hA0
  rw [Try.params9] at hA hval
  obtain ⟨v0, vs0, d0, ds0, p0, p'0, hargs, rfl, rfl, h0, r0⟩ := trodAll_cons hA
  obtain ⟨v1, vs1, d1, ds1, p1, p'1, rfl, rfl, rfl, h1, r1⟩ := trodAll_cons r0
  obtain ⟨v2, vs2, d2, ds2, p2, p'2, rfl, rfl, rfl, h2, r2⟩ := trodAll_cons r1
  obtain ⟨rfl, rfl, rfl⟩ := trodAll_nil r2
  obtain rfl : args = #[v0, v1, v2] := by cases args; simp_all
  obtain ⟨rfl, rfl⟩ := trodVars_none hV
  have k0 := h0
  have lt0 : ∀ x ∈ p0, x.block < W.heap.size := by obtain ⟨m, hm⟩ := k0; exact DataW.trod_lt m _ _ _ hm
  have k1 := h1
  have lt1 : ∀ x ∈ p1, x.block < W.heap.size := by obtain ⟨m, hm⟩ := k1; exact DataW.trod_lt m _ _ _ hm
  have k2 := h2
  have lt2 : ∀ x ∈ p2, x.block < W.heap.size := by obtain ⟨m, hm⟩ := k2; exact DataW.trod_lt m _ _ _ hm
  obtain ⟨cs0, rfl, _⟩ := okWide_arr' Try.underlying69 (hval 0 69 v0 rfl rfl)
  obtain ⟨a0, e0, q0⟩ := eTArr2TItem_dec _ (open_arr (D := 9) (ks := [some .i64, some .i64]) Try.underlying69 (by kernel_rfl) (by kernel_rfl) (by kernel_rfl) h0)
  obtain rfl : cs0 = (eTArr2TItem a0).toArray := by apply Array.ext'; exact e0
  obtain ⟨cs1, rfl, _⟩ := okWide_arr' Try.underlying70 (hval 1 70 v1 rfl rfl)
  obtain ⟨a1, e1, q1⟩ := eTArr2Int_dec _ (open_arr (D := 9) (ks := [some .i64]) Try.underlying70 (by kernel_rfl) (by kernel_rfl) (by kernel_rfl) h1)
  obtain rfl : cs1 = (eTArr2Int a1).toArray := by apply Array.ext'; exact e1
  obtain ⟨cs2, rfl, _⟩ := okWide_arr' Try.underlying70 (hval 2 70 v2 rfl rfl)
  obtain ⟨a2, e2, q2⟩ := eTArr2Int_dec _ (open_arr (D := 9) (ks := [some .i64]) Try.underlying70 (by kernel_rfl) (by kernel_rfl) (by kernel_rfl) h2)
  obtain rfl : cs2 = (eTArr2Int a2).toArray := by apply Array.ext'; exact e2
  clear hsz0
  have con := Lw09_ShelfTimes_con0 (ShelfTimes_pure a0 a1 a2)
  refine (Sx.SCon.law con W).mono fun e W' ⟨he, bel⟩ => ?_
  subst he
  exact ⟨_, rfl, _, _, _, [], _, [], hW', trodAll_mk1 (shut_bool Try.underlying4 _), (trodAll_cons_mk (Below.trod laidOut (by kernel_rfl) (of_decide_eq_true (by kernel_rfl)) k0 bel lt0) (trodAll_cons_mk (Below.trod laidOut (by kernel_rfl) (of_decide_eq_true (by kernel_rfl)) k1 bel lt1) (trodAll_cons_mk (Below.trod laidOut (by kernel_rfl) (of_decide_eq_true (by kernel_rfl)) k2 bel lt2) trodAll_mk0))), rfl, bel.frame _, fun h => by cases h⟩
theorem proved : Rows.ShelfTimesSaid :=
  OpenClaim.holds_of_wide 9 Try.f9 rfl rfl rfl rfl rfl rfl rfl ⟨rfl, rfl, rfl, rfl, rfl⟩ rfl rfl rfl rfl rfl (by kernel_rfl) Try.func9 (by kernel_rfl)
    (of_decide_eq_true (by kernel_rfl)) (by unfold Func.isWrapper; first | (rw [if_pos (by decide +kernel)]; kernel_rfl) | (rw [if_neg (by decide +kernel)]; exact ⟨rfl, rfl⟩))
    (fun os started H enc _ => lifted os started H enc)
#print axioms proved
end Go.Proofs.Ytjokolmijhhinaa.shelfTimes

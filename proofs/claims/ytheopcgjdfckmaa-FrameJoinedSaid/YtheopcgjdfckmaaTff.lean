/- Frames: rows behind rows. -/
import Derived.Test.YtheopcgjdfckmaaTfd
namespace Go.Proofs.Ytheopcgjdfckmaa
open Go Go.Proofs.Ytheopcgjdfckmaa.Sx
set_option linter.unusedVariables false
set_option linter.unusedSimpArgs false

theorem joined_loop (a b : List (List Int)) (hl : (a ++ b).length < 1000000) : ∀ (d i n : Nat) (ts : List ByteArray), i + d = (a ++ b).length → d < n → ts.length = i → Lw19_FrameJoined.l0 K1 a b n (ts, (i : Int)) = some (ts ++ ((a ++ b).drop i).map str)
  | d, i, 0, _, _, h, _ => by omega
  | 0, i, n + 1, ts, hi, _, _ => by
    rw [Lw19_FrameJoined.l0, List.nil_append, dec_nlt (by omega), cond_false, List.drop_eq_nil_of_le (by omega)]; simp
  | d + 1, i, n + 1, ts, hi, hn, ht => by
    obtain ⟨c, hc, hd⟩ := drop_cons (l := a ++ b) (i := i) (by omega)
    rw [Lw19_FrameJoined.l0, List.nil_append, dec_lt (by omega), cond_true, atL_nat hc, Option.bind_some, decide_eq_true (p := ts.length + ([str c] : List ByteArray).length < 4294967296) (by show ts.length + 1 < 4294967296; omega), cond_true, w64_succ (by omega), joined_loop a b hl d (i + 1) n _ (by omega) (by omega) (by simp [ht]), hd]
    simp
theorem FrameJoined_pure (a b : List (List Int)) (ha : Octs a) (hb : Octs b) : Lw19_FrameJoined.f K1 a b = some true := by
  unfold Lw19_FrameJoined.f
  rw [awake19, Option.bind_some, Bool.not_true, cond_false]
  rcases small_eq a with h | ⟨h, h1, h2⟩
  · rw [h]; rfl
  · rw [h, Option.bind_some, Bool.not_true, cond_false]
    rcases small_eq b with h' | ⟨h', h1', h2'⟩
    · rw [h']; rfl
    · rw [h', Option.bind_some, Bool.not_true, cond_false, Option.bind_some, Sum.elim_inr]
      have hf := frs_len a h2
      have hf' := frs_len b h2'
      have hab : Octs (a ++ b) := fun x hx => (List.mem_append.1 hx).elim (ha x) (hb x)
      have hlab : ∀ x ∈ a ++ b, x.length ≤ 300 := fun x hx => (List.mem_append.1 hx).elim (h2 x) (h2' x)
      have hcat : frs a ++ frs b = frs (a ++ b) := by simp [frs]
      have hlen : (a ++ b).length = a.length + b.length := List.length_append
      have hfl : (frs (a ++ b)).length = (frs a).length + (frs b).length := by rw [← hcat, List.length_append]
      have e1 := put_eq a (by omega) (fun x hx => by have := h2 x hx; omega) (by omega)
      have e2 := put_eq b (by omega) (fun x hx => by have := h2' x hx; omega) (by omega)
      have e3 := put_eq (a ++ b) (by omega) (fun x hx => by have := hlab x hx; omega) (by omega)
      have e4 := get_put (a ++ b) K1 [] (by unfold K1; omega) hab (by omega) (by show 0 + (a ++ b).length < 1000000; omega)
      have e5 : frame_Get.f K1 (frs (a ++ b)) = some (a ++ b, 0) := by unfold frame_Get.f; rw [e4]; rfl
      have e6 := joined_loop a b (by omega) (a ++ b).length 0 K1 [] (by omega) (by unfold K1; omega) rfl
      replace e6 : Lw19_FrameJoined.l0 K1 a b K1 ([], 0) = some ((a ++ b).map str) := e6
      rw [List.nil_append, decide_eq_true (p := ([] : List (List Int)).length + a.length < 4294967296) (by show 0 + a.length < 4294967296; omega), cond_true, decide_eq_true (p := a.length + b.length < 4294967296) (by omega), cond_true, e1, Option.bind_some, e2, Option.bind_some, decide_eq_true (p := (frs a).length + (frs b).length < 4294967296) (by omega), cond_true, hcat, e5, Option.bind_some, e6, Option.bind_some, e3, Option.bind_some, gseq_refl, cond_true]
      show (bif ((0 : Int) == 0) then ((Lw19_same.f K1 (a ++ b) ((a ++ b).map str)).bind fun x14 => some x14) else (some false)) = _
      rw [beq_self_eq_true, cond_true, same_eq (a ++ b) (a ++ b) hab hab (by omega), decide_eq_true rfl]; rfl
end Go.Proofs.Ytheopcgjdfckmaa

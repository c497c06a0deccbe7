/- Frames: what the code's parts come to. -/
import Derived.Test.YtheopcgjdfckmaaTfa
namespace Go.Proofs.Ytheopcgjdfckmaa
open Go Go.Proofs.Ytheopcgjdfckmaa.Sx
set_option linter.unusedVariables false
set_option linter.unusedSimpArgs false

theorem shr_le {n i : Nat} (hi : i ≤ 7) : IntKind.u8.wrap (gshr .u64 (n : Int) (w64 (8 * (i : Int)))) = ((n / 256 ^ i % 256 : Nat) : Int) := by
  rw [w64_id (by omega) (by omega)]
  have h : gshr .u64 (n : Int) (8 * (i : Int)) = ((n / 256 ^ i : Nat) : Int) := by
    unfold gshr
    have e : min (8 * (i : Int)).toNat IntKind.u64.bits = 8 * i := by
      have : (8 * (i : Int)).toNat = 8 * i := by omega
      rw [this]; simp [IntKind.bits]; omega
    rw [e, ← pow_256, Int.fdiv_eq_ediv_of_nonneg _ (by exact Int.le_of_lt (Int.pow_pos (by decide)))]
    norm_cast
  rw [h, wrap8]
theorem le_get : ∀ (c n i : Nat), i < c → (le n c)[i]? = some ((n / 256 ^ i % 256 : Nat) : Int)
  | 0, n, i, h => by omega
  | c + 1, n, 0, _ => by simp [le]
  | c + 1, n, i + 1, h => by
    rw [le, List.getElem?_cons_succ, le_get c (n / 256) i (by omega), Nat.div_div_eq_div_mul, Nat.pow_succ, Nat.mul_comm 256]
theorem little_loop (c : Nat) (hc : c ≤ 8) (m : Nat) : ∀ (d i n : Nat) (v : List Int), i + d = c → d < n → v.length = c → v.take i = (le m c).take i → frame_little.l0 K1 (m : Int) (c : Int) n (v, (i : Int)) = some (le m c)
  | d, i, 0, _, _, h, _, _ => by omega
  | 0, i, n + 1, v, hi, _, hv, ht => by
    simp only [frame_little.l0, List.length_replicate, Int.toNat_natCast]
    rw [dec_nlt (by omega), cond_false]
    rw [List.take_of_length_le (by omega), List.take_of_length_le (by rw [le_len]; omega)] at ht
    rw [ht]
  | d + 1, i, n + 1, v, hi, hn, hv, ht => by
    simp only [frame_little.l0, List.length_replicate, Int.toNat_natCast]
    have hx : v[i]? = some v[i] := List.getElem?_eq_getElem (by omega)
    rw [dec_lt (by omega), decide_eq_true (by rw [w64_id (by omega) (by omega)]; omega : (0 : Int) ≤ w64 (8 * (i : Int)))]
    simp only [cond_true, atL_nat hx, Option.bind_some, shr_le (n := m) (i := i) (by omega), w64_succ (i := i) (by omega)]
    refine little_loop c hc m d (i + 1) n _ (by omega) (by omega) (by simp [hv]) ?_
    rw [List.take_add_one, List.take_add_one, List.take_set_of_le (Nat.le_refl _), ht, List.getElem?_set_self (by omega), le_get c m i (by omega)]
theorem little_eq (c m : Nat) (hc : c ≤ 8) : frame_little.f K1 (m : Int) (c : Int) = some (le m c) := by
  unfold frame_little.f
  rw [decide_eq_true (by omega : (0 : Int) ≤ (c : Int) ∧ (c : Int) < 4294967296), cond_true]
  have := little_loop c hc m c 0 K1 (List.replicate c 0) (by omega) (by unfold K1; omega) (by simp) (by simp)
  simp only [Int.toNat_natCast]
  replace this : frame_little.l0 K1 (m : Int) (c : Int) K1 (List.replicate c 0, 0) = some (le m c) := this
  rw [this]; rfl
theorem Little_loop (c : Nat) (hc : c ≤ 8) : ∀ (d i n m : Nat) (v : List Int), i + d = c → d < n → m < 18446744073709551616 → v.length = i → R19_Little.l0 K1 (c : Int) n ((m : Int), str v, (i : Int)) = some (str (v ++ le m d))
  | d, i, 0, _, _, _, h, _, _ => by omega
  | 0, i, n + 1, m, v, hi, _, _, _ => by
    simp only [R19_Little.l0]
    rw [dec_nlt (by omega), cond_false, le, List.append_nil]
  | d + 1, i, n + 1, m, v, hi, hn, hm, hv => by
    have e1 : (m : Int).tmod 256 = ((m % 256 : Nat) : Int) := by rw [Int.tmod_eq_emod_of_nonneg (by omega)]; omega
    have e2 : (m : Int).tdiv 256 = ((m / 256 : Nat) : Int) := by rw [Int.tdiv_eq_ediv_of_nonneg (by omega)]; omega
    simp only [R19_Little.l0, e1, e2, wrap8, wrap64 (n := m / 256) (by omega), Nat.mod_mod, w64_succ (i := i) (by omega)]
    rw [dec_lt (by omega), decide_eq_true (by rw [strOfNums_size, strOfNums_size]; simp; omega), cond_true, cond_true, str_append]
    rw [Little_loop c hc d (i + 1) n (m / 256) _ (by omega) (by omega) (by omega) (by simp [hv]), le]
    simp
theorem Little_eq (c m : Nat) (hc : c ≤ 8) (hm : m < 18446744073709551616) : R19_Little.f K1 (m : Int) (c : Int) = some (str (le m c)) := by
  have := Little_loop c hc c 0 K1 m [] (by omega) (by unfold K1; omega) hm rfl
  unfold R19_Little.f
  replace this : R19_Little.l0 K1 (c : Int) K1 ((m : Int), (ByteArray.mk #[]), 0) = some (str (le m c)) := this
  rw [this]; rfl
/-- The sum of octets. -/
def crc (l : List Int) : Nat := (gxor .u32 ((St (BitVec.allOnes 32) l).toNat : Int) 4294967295).toNat
theorem crc_lt (l : List Int) : crc l < 4294967296 := by
  have := gxor_range ((St (BitVec.allOnes 32) l).toNat : Int) 4294967295
  unfold crc; omega
theorem crc_sum (l : List Int) (hs : l.length < 100000) : crc_Sum.f K1 l = some (crc l : Int) := by
  have := gxor_range ((St (BitVec.allOnes 32) l).toNat : Int) 4294967295
  rw [crcSum_St l hs]; unfold crc; rw [Int.toNat_of_nonneg this.1]
theorem crc_ref (l : List Int) (hl : Oct l) (hs : l.length < 100000) : R18_Sum.f K1 (str l) = some (crc l : Int) := by
  have := gxor_range ((St (BitVec.allOnes 32) l).toNat : Int) 4294967295
  rw [refSum18 l hl hs]; unfold crc; rw [Int.toNat_of_nonneg this.1]
theorem crc_more (a b : List Int) (hs : a.length + b.length < 100000) : crc_More.f K1 (crc a : Int) b = some (crc (a ++ b) : Int) := by
  obtain ⟨x, hx⟩ := nibbles_some
  have h1 := sum_eq hx a (by omega)
  have h2 := sum_eq hx (a ++ b) (by rw [List.length_append]; omega)
  rw [crc_sum a (by omega)] at h1
  rw [crc_sum (a ++ b) (by rw [List.length_append]; omega)] at h2
  rw [more_eq hx _ b (by omega), h2]
  have h3 : (crc a : Int) = gcom .u32 (a.foldl (stepF x) (gcom .u32 0)) := by simpa using h1
  have h4 : 0 ≤ gcom .u32 0 ∧ gcom .u32 0 < 4294967296 := by rw [gcom_x]; exact gxor_range _ _
  have h5 := fold_range x a (gcom .u32 0) h4.1 h4.2
  rw [h3, gcom_gcom h5.1 h5.2, List.foldl_append]
/-- A frame. -/
def fr (b : List Int) : List Int := le b.length 4 ++ b ++ le (crc (le b.length 4 ++ b)) 4
def frs (ll : List (List Int)) : List Int := (ll.map fr).flatten
theorem fr_len (b : List Int) : (fr b).length = b.length + 8 := by simp [fr, le_len]; omega
theorem fr_oct {b : List Int} (h : Oct b) : Oct (fr b) := by
  intro x hx
  unfold fr at hx
  rw [List.mem_append, List.mem_append] at hx
  rcases hx with (hx | hx) | hx
  · exact le_oct _ _ x hx
  · exact h x hx
  · exact le_oct _ _ x hx
theorem frs_oct {ll : List (List Int)} (h : ∀ b ∈ ll, Oct b) : Oct (frs ll) := by
  intro x hx
  unfold frs at hx
  obtain ⟨l, hl, hx⟩ := List.mem_flatten.1 hx
  obtain ⟨b, hb, rfl⟩ := List.mem_map.1 hl
  exact fr_oct (h b hb) x hx
theorem Frame_eq (b : List Int) (hb : Oct b) (hs : b.length < 90000) : R19_Frame.f K1 (str b) = some (str (fr b)) := by
  unfold R19_Frame.f
  rw [strOfNums_size, wrap64 (by omega), show ((4 : Int)) = ((4 : Nat) : Int) from rfl, Little_eq 4 b.length (by decide) (by omega)]
  simp only [Option.bind_some]
  have ho : Oct (le b.length 4 ++ b) := by
    intro x hx
    rcases List.mem_append.1 hx with h | h
    · exact le_oct _ _ x h
    · exact hb x h
  rw [decide_eq_true (by simp only [strOfNums_size, le_len]; omega), cond_true, str_append, crc_ref _ ho (by rw [List.length_append, le_len]; omega)]
  simp only [Option.bind_some]
  have := crc_lt (le b.length 4 ++ b)
  rw [wrap64 (by omega), Little_eq 4 _ (by decide) (by omega)]
  simp only [Option.bind_some]
  rw [decide_eq_true (by simp only [strOfNums_size, le_len, List.length_append]; omega), cond_true, str_append]; rfl
/-! Concat -/
def tot (ll : List (List Int)) : Nat := (ll.map List.length).sum
theorem tot_flatten (ll : List (List Int)) : ll.flatten.length = tot ll := by simp [tot, List.length_flatten]
theorem cat0 (ll : List (List Int)) (hl : ll.length < 1000000) (ht : tot ll < 4294967296) : ∀ (d i n s : Nat), i + d = ll.length → d < n → s + tot (ll.drop i) = tot ll → slices_Concat.l0 K1 ll n ((s : Int), (i : Int)) = some (tot ll : Int)
  | d, i, 0, _, _, h, _ => by omega
  | 0, i, n + 1, s, hi, _, hs => by
    simp only [slices_Concat.l0]
    rw [List.drop_eq_nil_of_le (by omega)] at hs
    rw [dec_nlt (by omega), cond_false]
    have : tot [] = 0 := rfl
    congr 1; omega
  | d + 1, i, n + 1, s, hi, hn, hs => by
    obtain ⟨c, hc, hd⟩ := drop_cons (l := ll) (i := i) (by omega)
    have hcs : tot (c :: ll.drop (i + 1)) = c.length + tot (ll.drop (i + 1)) := by simp [tot]
    rw [hd, hcs] at hs
    simp only [slices_Concat.l0]
    rw [dec_lt (by omega)]
    have e1 : w64 ((s : Int) + (c.length : Int)) = ((s + c.length : Nat) : Int) := by rw [w64_id (by omega) (by omega)]; omega
    simp only [cond_true, atL_nat hc, Option.bind_some, e1, w64_succ (i := i) (by omega)]
    rw [decide_eq_false (by omega), cond_false]
    exact cat0 ll hl ht d (i + 1) n _ (by omega) (by omega) (by omega)
theorem cat1 (ll : List (List Int)) (hl : ll.length < 1000000) (ht : tot ll < 4294967296) : ∀ (d i n : Nat) (v : List Int), i + d = ll.length → d < n → v.length + tot (ll.drop i) = tot ll → slices_Concat.l1 K1 ll n (v, (i : Int)) = some (v ++ (ll.drop i).flatten)
  | d, i, 0, _, _, h, _ => by omega
  | 0, i, n + 1, v, hi, _, hs => by
    simp only [slices_Concat.l1]
    rw [dec_nlt (by omega), cond_false, List.drop_eq_nil_of_le (by omega)]; simp
  | d + 1, i, n + 1, v, hi, hn, hs => by
    obtain ⟨c, hc, hd⟩ := drop_cons (l := ll) (i := i) (by omega)
    have hcs : tot (c :: ll.drop (i + 1)) = c.length + tot (ll.drop (i + 1)) := by simp [tot]
    rw [hd, hcs] at hs
    simp only [slices_Concat.l1]
    rw [dec_lt (by omega)]
    simp only [cond_true, atL_nat hc, Option.bind_some, w64_succ (i := i) (by omega)]
    rw [decide_eq_true (by omega), cond_true, cat1 ll hl ht d (i + 1) n _ (by omega) (by omega) (by rw [List.length_append]; omega), hd]
    simp
theorem grow_eq (n : Nat) (hn : n < 4294967296) : slices_Grow.f K1 [] (n : Int) = some [] := by
  unfold slices_Grow.f
  have e : w64 (0 - 0) = 0 := by decide
  rw [decide_eq_false (by omega : ¬ ((n : Int) < 0)), e, Int.sub_zero, w64_id (by omega) (by omega)]
  simp only [cond_false, Option.bind_some, List.take_zero]
  by_cases h : (n : Int) > 0
  · rw [decide_eq_true h, cond_true, decide_eq_true (by omega), cond_true]
  · rw [decide_eq_false h, cond_false]
theorem concat_eq (ll : List (List Int)) (hl : ll.length < 1000000) (ht : tot ll < 4294967296) : slices_Concat.f K1 ll = some ll.flatten := by
  unfold slices_Concat.f
  have e0 := cat0 ll hl ht ll.length 0 K1 0 (by omega) (by unfold K1; omega) (by simp)
  have e1 := cat1 ll hl ht ll.length 0 K1 [] (by omega) (by unfold K1; omega) (by simp)
  replace e0 : slices_Concat.l0 K1 ll K1 (0, 0) = some (tot ll : Int) := e0
  replace e1 : slices_Concat.l1 K1 ll K1 ([], 0) = some ll.flatten := by simpa using e1
  rw [e0]
  simp only [Option.bind_some, grow_eq (tot ll) ht, e1]
/-! Put -/
theorem put_loop (ll : List (List Int)) (hl : ll.length < 1000000) (hb : ∀ b ∈ ll, b.length < 90000) (ht : (frs ll).length < 4294967296) : ∀ (d i n : Nat) (v : List Int), i + d = ll.length → d < n → v ++ frs (ll.drop i) = frs ll → frame_Put.l0 K1 ll n (v, (i : Int)) = some (frs ll)
  | d, i, 0, _, _, h, _ => by omega
  | 0, i, n + 1, v, hi, _, hv => by
    simp only [frame_Put.l0]
    rw [List.drop_eq_nil_of_le (by omega)] at hv
    rw [dec_nlt (by omega), cond_false, ← hv]; simp [frs]
  | d + 1, i, n + 1, v, hi, hn, hv => by
    obtain ⟨c, hc, hd⟩ := drop_cons (l := ll) (i := i) (by omega)
    have hcb := hb c (List.mem_of_getElem? hc)
    have e0 : frs (c :: ll.drop (i + 1)) = fr c ++ frs (ll.drop (i + 1)) := by simp [frs]
    rw [hd, e0] at hv
    have hlen : v.length + (fr c).length ≤ (frs ll).length := by rw [← hv]; simp only [List.length_append]; omega
    rw [fr_len] at hlen
    have h4 : ((4 : Int)) = ((4 : Nat) : Int) := rfl
    have hcl := crc_lt (le c.length 4 ++ c)
    simp only [frame_Put.l0]
    rw [dec_lt (by omega)]
    rw [cond_true, atL_nat hc, Option.bind_some]
    rw [wrap64 (n := c.length) (by omega)]
    have hlit := fun m => little_eq 4 m (by decide)
    rw [← h4] at hlit
    rw [hlit]
    rw [Option.bind_some]
    have hsum := crc_sum (le c.length 4) (by rw [le_len]; omega)
    have hmore := crc_more (le c.length 4) c (by rw [le_len]; omega)
    rw [hsum]
    rw [Option.bind_some]
    rw [hmore]
    rw [Option.bind_some]
    rw [wrap64 (by omega), hlit]
    rw [Option.bind_some]
    rw [concat_eq _ (by simp only [List.length_cons, List.length_nil]; omega) (by simp only [tot, le_len, List.map_cons, List.map_nil, List.sum_cons, List.sum_nil]; omega)]
    rw [Option.bind_some, w64_succ (i := i) (by omega)]
    refine put_loop ll hl hb ht d (i + 1) n _ (by omega) (by omega) ?_
    rw [← hv]; simp [fr]
theorem put_eq (ll : List (List Int)) (hl : ll.length < 1000000) (hb : ∀ b ∈ ll, b.length < 90000) (ht : (frs ll).length < 4294967296) : frame_Put.f K1 ll = some (frs ll) := by
  have := put_loop ll hl hb ht ll.length 0 K1 [] (by omega) (by unfold K1; omega) (by simp)
  unfold frame_Put.f
  replace this : frame_Put.l0 K1 ll K1 ([], 0) = some (frs ll) := this
  rw [this]; rfl
end Go.Proofs.Ytheopcgjdfckmaa

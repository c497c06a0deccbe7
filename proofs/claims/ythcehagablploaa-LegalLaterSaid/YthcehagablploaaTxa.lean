/- What the document's plain lists of marks come to. -/
import Derived.Test.YthcehagablploaaTw
namespace Go.Proofs.Ythcehagablploaa
open Go Go.Proofs.Ythcehagablploaa.Sx
set_option linter.unusedVariables false
set_option linter.unusedSimpArgs false

def tm (m : TR08Mark) : TMark := ⟨m.op, m.here, m.took⟩
abbrev tms (l : List TR08Mark) : List TMark := l.map tm
theorem counts_loop (k : Nat) (l : List TR08Mark) (hl : l.length < 1000000) : ∀ (d i n : Nat) (out : List Int), i + d = l.length → d < n → out = ((tms l).map mcnt).take i → R08_Counts.l0 k l n (out, (i : Int)) = some ((tms l).map mcnt)
  | d, i, 0, _, _, h, _ => by omega
  | 0, i, n + 1, out, hi, _, ho => by
    simp only [R08_Counts.l0]
    rw [dec_nlt (by omega), ho, List.take_of_length_le (by simp; omega)]; rfl
  | d + 1, i, n + 1, out, hi, hn, ho => by
    obtain ⟨x, hx, hdr⟩ := drop_cons (l := l) (i := i) (by omega)
    have hx' : ((tms l).map mcnt)[i]? = some (mcnt (tm x)) := by simp [hx]
    have ht : ((tms l).map mcnt).take (i + 1) = out ++ [mcnt (tm x)] := by rw [List.take_add_one, hx', ho]; rfl
    have hlo : out.length = i := by rw [ho]; simp; omega
    simp only [R08_Counts.l0]
    rw [dec_lt (by omega)]
    simp only [cond_true, atL_nat hx, Option.bind_some, w64_succ (i := i) (by omega)]
    have hb : decide (out.length + 1 < 4294967296) = true := by simp; omega
    cases h1 : x.op.insert
    · have e : mcnt (tm x) = -1 := by simp [mcnt, tm, h1]
      rw [e] at ht
      simp only [cond_false, List.length_singleton, hb, cond_true]
      exact counts_loop k l hl d (i + 1) n _ (by omega) (by omega) ht.symm
    · have e : mcnt (tm x) = 1 := by simp [mcnt, tm, h1]
      rw [e] at ht
      simp only [cond_true, List.length_singleton, hb]
      exact counts_loop k l hl d (i + 1) n _ (by omega) (by omega) ht.symm
theorem counts_eq (k : Nat) {l : List TR08Mark} (hl : l.length < 1000000) (hk : l.length < k) : R08_Counts.f k l = some ((tms l).map mcnt) := by
  have := counts_loop k l hl l.length 0 k [] (by omega) hk (by simp)
  have e : R08_Counts.l0 k l k ([], 0) = some ((tms l).map mcnt) := this
  unfold R08_Counts.f; rw [e]; rfl
theorem weights_loop (k : Nat) (l : List TR08Mark) (hl : l.length < 1000000) : ∀ (d i n : Nat) (out : List Int), i + d = l.length → d < n → out = ((tms l).map mwt).take i ++ ((tms l).map mcnt).drop i → R08_Weights.l0 k l n (out, (i : Int)) = some ((tms l).map mwt)
  | d, i, 0, _, _, h, _ => by omega
  | 0, i, n + 1, out, hi, _, ho => by
    simp only [R08_Weights.l0]
    rw [dec_nlt (by omega), ho, List.take_of_length_le (by simp; omega), List.drop_of_length_le (by simp; omega)]; simp
  | d + 1, i, n + 1, out, hi, hn, ho => by
    obtain ⟨x, hx, hdr⟩ := drop_cons (l := l) (i := i) (by omega)
    have hx' : ((tms l).map mwt)[i]? = some (mwt (tm x)) := by simp [hx]
    have ht : ((tms l).map mwt).take (i + 1) = ((tms l).map mwt).take i ++ [mwt (tm x)] := by rw [List.take_add_one, hx']; rfl
    have hd : ((tms l).map mcnt).drop i = mcnt (tm x) :: ((tms l).map mcnt).drop (i + 1) := by rw [← List.map_drop, ← List.map_drop, hdr]; simp
    have hlo : (((tms l).map mwt).take i).length = i := by simp; omega
    have hgo : out[i]? = some (mcnt (tm x)) := by rw [ho, hd, List.getElem?_append_right (by omega), hlo]; simp
    have hset : ∀ v, out.set i v = ((tms l).map mwt).take i ++ v :: ((tms l).map mcnt).drop (i + 1) := by
      intro v; rw [ho, hd, List.set_append_right _ _ (by omega), hlo]; simp
    have hself : out = ((tms l).map mwt).take i ++ mcnt (tm x) :: ((tms l).map mcnt).drop (i + 1) := by rw [ho, hd]
    simp only [R08_Weights.l0]
    rw [dec_lt (by omega)]
    simp only [cond_true, atL_nat hx, atL_nat hgo, Option.bind_some, w64_succ (i := i) (by omega), Int.toNat_natCast]
    cases h1 : x.op.insert
    · have e : mwt (tm x) = mcnt (tm x) := by simp [mcnt, mwt, tm, h1]
      simp only [cond_false]
      exact weights_loop k l hl d (i + 1) n _ (by omega) (by omega) (by rw [ht, e, hself]; simp)
    · cases h2 : x.here
      · have e : mwt (tm x) = mcnt (tm x) := by simp [mcnt, mwt, tm, h1, h2]
        simp only [cond_false, cond_true]
        exact weights_loop k l hl d (i + 1) n _ (by omega) (by omega) (by rw [ht, e, hself]; simp)
      · have e : mwt (tm x) = 0 := by simp [mwt, tm, h1, h2]
        simp only [cond_true]
        exact weights_loop k l hl d (i + 1) n _ (by omega) (by omega) (by rw [ht, e, hset]; simp)
theorem weights_eq (k : Nat) {l : List TR08Mark} (hl : l.length < 1000000) (hk : l.length < k) : R08_Weights.f k l = some ((tms l).map mwt) := by
  have := weights_loop k l hl l.length 0 k ((tms l).map mcnt) (by omega) hk (by simp)
  have e : R08_Weights.l0 k l k ((tms l).map mcnt, 0) = some ((tms l).map mwt) := this
  unfold R08_Weights.f; rw [counts_eq k hl hk]; simp only [Option.bind_some]; rw [e]; rfl
theorem filter_take_succ {α : Type} {l : List α} {i : Nat} {x : α} (hx : l[i]? = some x) (p : α → Bool) : (l.take (i + 1)).filter p = (l.take i).filter p ++ (bif p x then [x] else []) := by
  have ht : l.take (i + 1) = l.take i ++ [x] := by rw [List.take_add_one, hx]; rfl
  rw [ht, List.filter_append]
  cases h : p x <;> simp [h]
theorem items_loop (k : Nat) (l : List TR08Mark) (b : Bool) (hl : l.length < 1000000) : ∀ (d i n : Nat) (out : List TItem), i + d = l.length → d < n → out = ((l.take i).filter (fun m => m.op.insert && (m.here == b))).map (·.op.item) →
    R08_Items.l0 k l b n (out, (i : Int)) = some ((l.filter (fun m => m.op.insert && (m.here == b))).map (·.op.item))
  | d, i, 0, _, _, h, _ => by omega
  | 0, i, n + 1, out, hi, _, ho => by
    simp only [R08_Items.l0]
    rw [dec_nlt (by omega), ho, List.take_of_length_le (by omega)]; rfl
  | d + 1, i, n + 1, out, hi, hn, ho => by
    obtain ⟨x, hx, hdr⟩ := drop_cons (l := l) (i := i) (by omega)
    have hf := filter_take_succ hx (fun m => m.op.insert && (m.here == b))
    have hlo : out.length ≤ i := by rw [ho, List.length_map]; exact Nat.le_trans (List.length_filter_le _ _) (by simp; omega)
    simp only [R08_Items.l0]
    rw [dec_lt (by omega)]
    have hb : decide (out.length + 1 < 4294967296) = true := by simp; omega
    simp only [cond_true, atL_nat hx, Option.bind_some, w64_succ (i := i) (by omega), List.length_singleton, hb]
    cases h1 : x.op.insert
    · simp only [cond_false]
      exact items_loop k l b hl d (i + 1) n _ (by omega) (by omega) (by rw [hf, ho]; simp [h1])
    · cases h2 : (x.here == b)
      · simp only [cond_true, cond_false]
        exact items_loop k l b hl d (i + 1) n _ (by omega) (by omega) (by rw [hf, ho]; simp [h1, h2])
      · simp only [cond_true]
        exact items_loop k l b hl d (i + 1) n _ (by omega) (by omega) (by rw [hf, ho]; simp [h1, h2])
theorem items_eq (k : Nat) {l : List TR08Mark} (b : Bool) (hl : l.length < 1000000) (hk : 1000001 ≤ k) : ∃ r, R08_Items.f k l b = some r ∧ Sorted r ∧ r.Perm ((l.filter (fun m => m.op.insert && (m.here == b))).map (·.op.item)) := by
  have := items_loop k l b hl l.length 0 k [] (by omega) (by omega) (by simp)
  have e : R08_Items.l0 k l b k ([], 0) = some ((l.filter (fun m => m.op.insert && (m.here == b))).map (·.op.item)) := this
  obtain ⟨r, h1, h2, h3⟩ := sorted_f k ((l.filter (fun m => m.op.insert && (m.here == b))).map (·.op.item)) (by rw [List.length_map]; exact Nat.lt_of_le_of_lt (List.length_filter_le _ _) hl) hk
  exact ⟨r, by unfold R08_Items.f; rw [e]; simp only [Option.bind_some, h1], h2, h3⟩
theorem tookI_tms (l : List TR08Mark) : tookI (tms l) = (l.filter (fun m => !m.op.insert && m.took.found)).map (·.took.item) := by
  unfold tookI tms
  rw [List.filter_map, List.map_map]; rfl
theorem goneI_tms (l : List TR08Mark) : goneI (tms l) = (l.filter (fun m => m.op.insert && (m.here == false))).map (·.op.item) := by
  unfold goneI tms
  rw [List.filter_map, List.map_map]
  congr 1
  refine List.filter_congr (fun m _ => ?_)
  simp [tm, Function.comp]
theorem hereI_tms (l : List TR08Mark) : hereI (tms l) = (l.filter (fun m => m.op.insert && (m.here == true))).map (·.op.item) := by
  unfold hereI tms
  rw [List.filter_map, List.map_map]
  congr 1
  refine List.filter_congr (fun m _ => ?_)
  simp [tm, Function.comp]
theorem sorted_last_max {r xs : List TItem} (hs : Sorted r) (hp : r.Perm xs) {x : TItem} (hx : r[r.length - 1]? = some x) : x ∈ xs ∧ ∀ y ∈ xs, ile y x := by
  have hlt := (List.getElem?_eq_some_iff.1 hx).1
  have hg := (List.getElem?_eq_some_iff.1 hx).2
  refine ⟨hp.mem_iff.1 (List.mem_of_getElem? hx), fun y hy => ?_⟩
  obtain ⟨j, hj, rfl⟩ := List.getElem_of_mem (hp.mem_iff.2 hy)
  by_cases h : j = r.length - 1
  · subst h; rw [hg]; exact ile_refl _
  · have := List.pairwise_iff_getElem.1 hs j (r.length - 1) hj hlt (by omega)
    rw [hg] at this; exact this
theorem sorted_first_min {r xs : List TItem} (hs : Sorted r) (hp : r.Perm xs) {x : TItem} (hx : r[0]? = some x) : x ∈ xs ∧ ∀ y ∈ xs, ile x y := by
  have hlt := (List.getElem?_eq_some_iff.1 hx).1
  have hg := (List.getElem?_eq_some_iff.1 hx).2
  refine ⟨hp.mem_iff.1 (List.mem_of_getElem? hx), fun y hy => ?_⟩
  obtain ⟨j, hj, rfl⟩ := List.getElem_of_mem (hp.mem_iff.2 hy)
  by_cases h : j = 0
  · subst h; rw [hg]; exact ile_refl _
  · have := List.pairwise_iff_getElem.1 hs 0 j hlt hj (by omega)
    rw [hg] at this; exact this
end Go.Proofs.Ythcehagablploaa

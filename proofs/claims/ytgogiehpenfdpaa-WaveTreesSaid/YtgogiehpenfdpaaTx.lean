/- The laws of waves: what the document's plain lists come to, and that the program's sums are just that. -/
import Derived.Test.YtgogiehpenfdpaaTw
import Derived.Test.YtgogiehpenfdpaaTr
namespace Go.Proofs.Ytgogiehpenfdpaa
open Go Go.Proofs.Ytgogiehpenfdpaa.Sx
set_option linter.unusedVariables false
set_option linter.unusedSimpArgs false

def tm (m : TR08Mark) : TMark := ⟨m.op, m.here, m.took⟩
abbrev tms (l : List TR08Mark) : List TMark := l.map tm
theorem counts_loop (k : Nat) (l : List TR08Mark) (hl : l.length < 1000000) : ∀ (d i n : Nat) (out : List Int), i + d = l.length → d < n → out = ((tms l).map mcnt).take i → R08_Counts.l0 k l n (out, (i : Int)) = some ((tms l).map mcnt)
  | d, i, 0, _, _, h, _ => by omega
  | 0, i, n + 1, out, hi, _, ho => by
    simp only [R08_Counts.l0]
    rw [dec_nlt (by omega), ho, List.take_of_length_le (by simp; omega)]; rfl
  | d + 1, i, n + 1, out, hi, hn, ho => by
    obtain ⟨x, hx, hdr⟩ := drop_cons (l := l) (i := i) (by omega)
    have hx' : ((tms l).map mcnt)[i]? = some (mcnt (tm x)) := by simp [hx]
    have ht : ((tms l).map mcnt).take (i + 1) = out ++ [mcnt (tm x)] := by rw [List.take_add_one, hx', ho]; rfl
    have hlo : out.length = i := by rw [ho]; simp; omega
    simp only [R08_Counts.l0]
    rw [dec_lt (by omega)]
    simp only [cond_true, atL_nat hx, Option.bind_some, w64_succ (i := i) (by omega)]
    have hb : decide (out.length + 1 < 4294967296) = true := by simp; omega
    cases h1 : x.op.insert
    · have e : mcnt (tm x) = -1 := by simp [mcnt, tm, h1]
      rw [e] at ht
      simp only [cond_false, List.length_singleton, hb, cond_true]
      exact counts_loop k l hl d (i + 1) n _ (by omega) (by omega) ht.symm
    · have e : mcnt (tm x) = 1 := by simp [mcnt, tm, h1]
      rw [e] at ht
      simp only [cond_true, List.length_singleton, hb]
      exact counts_loop k l hl d (i + 1) n _ (by omega) (by omega) ht.symm
theorem counts_eq (k : Nat) {l : List TR08Mark} (hl : l.length < 1000000) (hk : l.length < k) : R08_Counts.f k l = some ((tms l).map mcnt) := by
  have := counts_loop k l hl l.length 0 k [] (by omega) hk (by simp)
  have e : R08_Counts.l0 k l k ([], 0) = some ((tms l).map mcnt) := this
  unfold R08_Counts.f; rw [e]; rfl
theorem weights_loop (k : Nat) (l : List TR08Mark) (hl : l.length < 1000000) : ∀ (d i n : Nat) (out : List Int), i + d = l.length → d < n → out = ((tms l).map mwt).take i ++ ((tms l).map mcnt).drop i → R08_Weights.l0 k l n (out, (i : Int)) = some ((tms l).map mwt)
  | d, i, 0, _, _, h, _ => by omega
  | 0, i, n + 1, out, hi, _, ho => by
    simp only [R08_Weights.l0]
    rw [dec_nlt (by omega), ho, List.take_of_length_le (by simp; omega), List.drop_of_length_le (by simp; omega)]; simp
  | d + 1, i, n + 1, out, hi, hn, ho => by
    obtain ⟨x, hx, hdr⟩ := drop_cons (l := l) (i := i) (by omega)
    have hx' : ((tms l).map mwt)[i]? = some (mwt (tm x)) := by simp [hx]
    have ht : ((tms l).map mwt).take (i + 1) = ((tms l).map mwt).take i ++ [mwt (tm x)] := by rw [List.take_add_one, hx']; rfl
    have hd : ((tms l).map mcnt).drop i = mcnt (tm x) :: ((tms l).map mcnt).drop (i + 1) := by rw [← List.map_drop, ← List.map_drop, hdr]; simp
    have hlo : (((tms l).map mwt).take i).length = i := by simp; omega
    have hgo : out[i]? = some (mcnt (tm x)) := by rw [ho, hd, List.getElem?_append_right (by omega), hlo]; simp
    have hset : ∀ v, out.set i v = ((tms l).map mwt).take i ++ v :: ((tms l).map mcnt).drop (i + 1) := by
      intro v; rw [ho, hd, List.set_append_right _ _ (by omega), hlo]; simp
    have hself : out = ((tms l).map mwt).take i ++ mcnt (tm x) :: ((tms l).map mcnt).drop (i + 1) := by rw [ho, hd]
    simp only [R08_Weights.l0]
    rw [dec_lt (by omega)]
    simp only [cond_true, atL_nat hx, atL_nat hgo, Option.bind_some, w64_succ (i := i) (by omega), Int.toNat_natCast]
    cases h1 : x.op.insert
    · have e : mwt (tm x) = mcnt (tm x) := by simp [mcnt, mwt, tm, h1]
      simp only [cond_false]
      exact weights_loop k l hl d (i + 1) n _ (by omega) (by omega) (by rw [ht, e, hself]; simp)
    · cases h2 : x.here
      · have e : mwt (tm x) = mcnt (tm x) := by simp [mcnt, mwt, tm, h1, h2]
        simp only [cond_false, cond_true]
        exact weights_loop k l hl d (i + 1) n _ (by omega) (by omega) (by rw [ht, e, hself]; simp)
      · have e : mwt (tm x) = 0 := by simp [mwt, tm, h1, h2]
        simp only [cond_true]
        exact weights_loop k l hl d (i + 1) n _ (by omega) (by omega) (by rw [ht, e, hset]; simp)
theorem weights_eq (k : Nat) {l : List TR08Mark} (hl : l.length < 1000000) (hk : l.length < k) : R08_Weights.f k l = some ((tms l).map mwt) := by
  have := weights_loop k l hl l.length 0 k ((tms l).map mcnt) (by omega) hk (by simp)
  have e : R08_Weights.l0 k l k ((tms l).map mcnt, 0) = some ((tms l).map mwt) := this
  unfold R08_Weights.f; rw [counts_eq k hl hk]; simp only [Option.bind_some]; rw [e]; rfl
theorem filter_take_succ {α : Type} {l : List α} {i : Nat} {x : α} (hx : l[i]? = some x) (p : α → Bool) : (l.take (i + 1)).filter p = (l.take i).filter p ++ (bif p x then [x] else []) := by
  have ht : l.take (i + 1) = l.take i ++ [x] := by rw [List.take_add_one, hx]; rfl
  rw [ht, List.filter_append]
  cases h : p x <;> simp [h]
theorem items_loop (k : Nat) (l : List TR08Mark) (b : Bool) (hl : l.length < 1000000) : ∀ (d i n : Nat) (out : List TItem), i + d = l.length → d < n → out = ((l.take i).filter (fun m => m.op.insert && (m.here == b))).map (·.op.item) →
    R08_Items.l0 k l b n (out, (i : Int)) = some ((l.filter (fun m => m.op.insert && (m.here == b))).map (·.op.item))
  | d, i, 0, _, _, h, _ => by omega
  | 0, i, n + 1, out, hi, _, ho => by
    simp only [R08_Items.l0]
    rw [dec_nlt (by omega), ho, List.take_of_length_le (by omega)]; rfl
  | d + 1, i, n + 1, out, hi, hn, ho => by
    obtain ⟨x, hx, hdr⟩ := drop_cons (l := l) (i := i) (by omega)
    have hf := filter_take_succ hx (fun m => m.op.insert && (m.here == b))
    have hlo : out.length ≤ i := by rw [ho, List.length_map]; exact Nat.le_trans (List.length_filter_le _ _) (by simp; omega)
    simp only [R08_Items.l0]
    rw [dec_lt (by omega)]
    have hb : decide (out.length + 1 < 4294967296) = true := by simp; omega
    simp only [cond_true, atL_nat hx, Option.bind_some, w64_succ (i := i) (by omega), List.length_singleton, hb]
    cases h1 : x.op.insert
    · simp only [cond_false]
      exact items_loop k l b hl d (i + 1) n _ (by omega) (by omega) (by rw [hf, ho]; simp [h1])
    · cases h2 : (x.here == b)
      · simp only [cond_true, cond_false]
        exact items_loop k l b hl d (i + 1) n _ (by omega) (by omega) (by rw [hf, ho]; simp [h1, h2])
      · simp only [cond_true]
        exact items_loop k l b hl d (i + 1) n _ (by omega) (by omega) (by rw [hf, ho]; simp [h1, h2])
theorem items_eq (k : Nat) {l : List TR08Mark} (b : Bool) (hl : l.length < 1000000) (hk : 1000001 ≤ k) : ∃ r, R08_Items.f k l b = some r ∧ Sorted r ∧ r.Perm ((l.filter (fun m => m.op.insert && (m.here == b))).map (·.op.item)) := by
  have := items_loop k l b hl l.length 0 k [] (by omega) (by omega) (by simp)
  have e : R08_Items.l0 k l b k ([], 0) = some ((l.filter (fun m => m.op.insert && (m.here == b))).map (·.op.item)) := this
  obtain ⟨r, h1, h2, h3⟩ := sorted_f k ((l.filter (fun m => m.op.insert && (m.here == b))).map (·.op.item)) (by rw [List.length_map]; exact Nat.lt_of_le_of_lt (List.length_filter_le _ _) hl) hk
  exact ⟨r, by unfold R08_Items.f; rw [e]; simp only [Option.bind_some, h1], h2, h3⟩
theorem tookI_tms (l : List TR08Mark) : tookI (tms l) = (l.filter (fun m => !m.op.insert && m.took.found)).map (·.took.item) := by
  unfold tookI tms
  rw [List.filter_map, List.map_map]; rfl
theorem goneI_tms (l : List TR08Mark) : goneI (tms l) = (l.filter (fun m => m.op.insert && (m.here == false))).map (·.op.item) := by
  unfold goneI tms
  rw [List.filter_map, List.map_map]
  congr 1
  refine List.filter_congr (fun m _ => ?_)
  simp [tm, Function.comp]
theorem hereI_tms (l : List TR08Mark) : hereI (tms l) = (l.filter (fun m => m.op.insert && (m.here == true))).map (·.op.item) := by
  unfold hereI tms
  rw [List.filter_map, List.map_map]
  congr 1
  refine List.filter_congr (fun m _ => ?_)
  simp [tm, Function.comp]
theorem deletes_loop (k : Nat) (l : List TR08Mark) (hl : l.length < 1000000) : ∀ (d i n : Nat) (a b : Int) (out : List TItem), i + d = l.length → d < n → a = ((dels (tms (l.take i))).length : Int) → b = ((frees (tms (l.take i))).length : Int) → out = tookI (tms (l.take i)) →
    R08_Deletes.l0 k l n (a, b, out, (i : Int)) = some (((dels (tms l)).length : Int), ((frees (tms l)).length : Int), tookI (tms l))
  | d, i, 0, _, _, _, _, h, _, _, _ => by omega
  | 0, i, n + 1, a, b, out, hi, _, ha, hb, ho => by
    simp only [R08_Deletes.l0]
    rw [dec_nlt (by omega), ho, ha, hb, List.take_of_length_le (by omega)]; rfl
  | d + 1, i, n + 1, a, b, out, hi, hn, ha, hb, ho => by
    obtain ⟨x, hx, hdr⟩ := drop_cons (l := l) (i := i) (by omega)
    have ht : l.take (i + 1) = l.take i ++ [x] := by rw [List.take_add_one, hx]; rfl
    have q1 : (dels (tms (l.take i))).length ≤ i := Nat.le_trans (List.length_filter_le _ _) (by simp; omega)
    have q2 : (frees (tms (l.take i))).length ≤ i := Nat.le_trans (List.length_filter_le _ _) (by simp; omega)
    have q3 : out.length ≤ i := by rw [ho, tookI, List.length_map]; exact Nat.le_trans (List.length_filter_le _ _) (by simp; omega)
    have hbb : decide (out.length + 1 < 4294967296) = true := by simp; omega
    simp only [R08_Deletes.l0]
    rw [dec_lt (by omega)]
    simp only [cond_true, atL_nat hx, Option.bind_some, w64_succ (i := i) (by omega), List.length_singleton, hbb]
    cases h1 : x.op.insert
    · cases h2 : x.took.found
      · simp only [cond_false]
        rw [w64_id (by omega) (by omega), w64_id (by omega) (by omega)]
        exact deletes_loop k l hl d (i + 1) n _ _ _ (by omega) (by omega) (by rw [ht, ha]; simp [dels, tm, h1]) (by rw [ht, hb]; simp [frees, tm, h1, h2]) (by rw [ht, ho]; simp [tookI, tm, h1, h2])
      · simp only [cond_false, cond_true]
        rw [w64_id (by omega) (by omega)]
        exact deletes_loop k l hl d (i + 1) n _ _ _ (by omega) (by omega) (by rw [ht, ha]; simp [dels, tm, h1]) (by rw [ht, hb]; simp [frees, tm, h1, h2]) (by rw [ht, ho]; simp [tookI, tm, h1, h2])
    · simp only [cond_true]
      exact deletes_loop k l hl d (i + 1) n _ _ _ (by omega) (by omega) (by rw [ht, ha]; simp [dels, tm, h1]) (by rw [ht, hb]; simp [frees, tm, h1]) (by rw [ht, ho]; simp [tookI, tm, h1])
theorem sorted_last_max {r xs : List TItem} (hs : Sorted r) (hp : r.Perm xs) {x : TItem} (hx : r[r.length - 1]? = some x) : x ∈ xs ∧ ∀ y ∈ xs, ile y x := by
  have hlt := (List.getElem?_eq_some_iff.1 hx).1
  have hg := (List.getElem?_eq_some_iff.1 hx).2
  refine ⟨hp.mem_iff.1 (List.mem_of_getElem? hx), fun y hy => ?_⟩
  obtain ⟨j, hj, rfl⟩ := List.getElem_of_mem (hp.mem_iff.2 hy)
  by_cases h : j = r.length - 1
  · subst h; rw [hg]; exact ile_refl _
  · have := List.pairwise_iff_getElem.1 hs j (r.length - 1) hj hlt (by omega)
    rw [hg] at this; exact this
theorem sorted_first_min {r xs : List TItem} (hs : Sorted r) (hp : r.Perm xs) {x : TItem} (hx : r[0]? = some x) : x ∈ xs ∧ ∀ y ∈ xs, ile x y := by
  have hlt := (List.getElem?_eq_some_iff.1 hx).1
  have hg := (List.getElem?_eq_some_iff.1 hx).2
  refine ⟨hp.mem_iff.1 (List.mem_of_getElem? hx), fun y hy => ?_⟩
  obtain ⟨j, hj, rfl⟩ := List.getElem_of_mem (hp.mem_iff.2 hy)
  by_cases h : j = 0
  · subst h; rw [hg]; exact ile_refl _
  · have := List.pairwise_iff_getElem.1 hs 0 j hlt hj (by omega)
    rw [hg] at this; exact this
theorem deletes_eq (k : Nat) {l : List TR08Mark} (hl : l.length < 1000000) (hk : 1000001 ≤ k) : ∃ t, R08_Deletes.f k l = some (((dels (tms l)).length : Int), ((frees (tms l)).length : Int), t.item) ∧ IsMax (tookI (tms l)) t := by
  have e : R08_Deletes.l0 k l k (0, 0, [], 0) = some (((dels (tms l)).length : Int), ((frees (tms l)).length : Int), tookI (tms l)) :=
    deletes_loop k l hl l.length 0 k 0 0 [] (by omega) (by omega) (by simp [dels]) (by simp [frees]) (by simp [tookI])
  have q3 : (tookI (tms l)).length ≤ l.length := by rw [tookI, List.length_map]; exact Nat.le_trans (List.length_filter_le _ _) (by simp)
  obtain ⟨r, h1, h2, h3⟩ := sorted_f k (tookI (tms l)) (by omega) hk
  unfold R08_Deletes.f
  rw [e]
  simp only [Option.bind_some, h1]
  have hlen := h3.length_eq
  by_cases h0 : r = []
  · subst h0
    have h4 : tookI (tms l) = [] := List.eq_nil_of_length_eq_zero (by simpa using hlen.symm)
    exact ⟨zTTook, rfl, .inl ⟨h4, rfl⟩⟩
  · have hp : 0 < r.length := List.length_pos_iff.2 h0
    have e0 : ((r.length : Int) == 0) = false := by simp; exact h0
    have hx : r[r.length - 1]? = some r[r.length - 1] := List.getElem?_eq_getElem (by omega)
    have e1 : w64 ((r.length : Int) - 1) = ((r.length - 1 : Nat) : Int) := by rw [w64_id (by omega) (by omega)]; omega
    rw [e0, e1, atL_nat hx]
    obtain ⟨m1, m2⟩ := sorted_last_max h2 h3 hx
    exact ⟨⟨true, r[r.length - 1]⟩, rfl, .inr ⟨rfl, m1, m2⟩⟩
theorem comes_eq (k : Nat) {s : TSwell} {l : List TR08Mark} (h : IsSwell s (tms l)) (hl : l.length < 1000000) (hk : 1000001 ≤ k) : Lw08_Comes.f k s l = some true := by
  obtain ⟨t, d1, d2⟩ := deletes_eq k hl hk
  obtain ⟨r1, g1, g2, g3⟩ := items_eq k false hl hk
  obtain ⟨r2, h1, h2, h3⟩ := items_eq k true hl hk
  rw [← goneI_tms] at g3
  rw [← hereI_tms] at h3
  obtain ⟨a, ha, ha'⟩ := h.most
  have hm : s.most = t.item := by rw [ha', ha.unique d2]
  have q1 := g3.length_eq
  have q2 := h3.length_eq
  have b1 : (goneI (tms l)).length ≤ l.length := by rw [goneI, List.length_map]; exact Nat.le_trans (List.length_filter_le _ _) (by simp)
  have b2 : (hereI (tms l)).length ≤ l.length := by rw [hereI, List.length_map]; exact Nat.le_trans (List.length_filter_le _ _) (by simp)
  unfold Lw08_Comes.f
  rw [counts_eq k hl (by omega), weights_eq k hl (by omega)]
  simp only [Option.bind_some, refTide_eq k (small_cnt (tms l)) (by simp; omega) (by simp; omega), refTide_eq k (small_wt (tms l)) (by simp; omega) (by simp; omega), d1, g1, h1]
  have hgone : (∃ h0 : r1 = [], s.gone = zTTook) ∨ ∃ x, 0 < r1.length ∧ r1[r1.length - 1]? = some x ∧ s.gone = ⟨true, x⟩ := by
    by_cases h0 : r1 = []
    · left
      refine ⟨h0, ?_⟩
      subst h0
      have : goneI (tms l) = [] := List.eq_nil_of_length_eq_zero (by simpa using q1.symm)
      have hg := h.gone
      rw [this] at hg
      exact hg.unique IsMax.nil
    · right
      have hp : 0 < r1.length := List.length_pos_iff.2 h0
      have hx : r1[r1.length - 1]? = some r1[r1.length - 1] := List.getElem?_eq_getElem (by omega)
      obtain ⟨m1, m2⟩ := sorted_last_max g2 g3 hx
      exact ⟨_, hp, hx, h.gone.unique (.inr ⟨rfl, m1, m2⟩)⟩
  have hleast : (∃ h0 : r2 = [], s.least = zTTook) ∨ ∃ x, 0 < r2.length ∧ r2[0]? = some x ∧ s.least = ⟨true, x⟩ := by
    by_cases h0 : r2 = []
    · left
      refine ⟨h0, ?_⟩
      subst h0
      have : hereI (tms l) = [] := List.eq_nil_of_length_eq_zero (by simpa using q2.symm)
      have hg := h.least
      rw [this] at hg
      exact hg.unique IsMin.nil
    · right
      have hp : 0 < r2.length := List.length_pos_iff.2 h0
      have hx : r2[0]? = some r2[0] := List.getElem?_eq_getElem (by omega)
      obtain ⟨m1, m2⟩ := sorted_first_min h2 h3 hx
      exact ⟨_, hp, hx, h.least.unique (.inr ⟨rfl, m1, m2⟩)⟩
  rcases hgone with ⟨e1, e2⟩ | ⟨x, p1, e1, e2⟩ <;> rcases hleast with ⟨f1, f2⟩ | ⟨y, p2, f1, f2⟩
  · subst e1 f1
    simp [h.count, h.weight, h.deletes, h.free, hm, e2, f2]
  · subst e1
    have g0 : atL r2 0 = some y := atL_nat (i := 0) f1
    have p2' : r2 ≠ [] := fun e => by subst e; simp at p2
    simp [h.count, h.weight, h.deletes, h.free, hm, e2, f2, g0, p2', p2]
  · subst f1
    have e3 : w64 ((r1.length : Int) - 1) = ((r1.length - 1 : Nat) : Int) := by rw [w64_id (by omega) (by omega)]; omega
    have p1' : r1 ≠ [] := fun e => by subst e; simp at p1
    simp [h.count, h.weight, h.deletes, h.free, hm, e2, f2, e3, atL_nat e1, p1', p1]
  · have e3 : w64 ((r1.length : Int) - 1) = ((r1.length - 1 : Nat) : Int) := by rw [w64_id (by omega) (by omega)]; omega
    have g0 : atL r2 0 = some y := atL_nat (i := 0) f1
    have p1' : r1 ≠ [] := fun e => by subst e; simp at p1
    have p2' : r2 ≠ [] := fun e => by subst e; simp at p2
    simp [h.count, h.weight, h.deletes, h.free, hm, e2, f2, e3, atL_nat e1, g0, p1', p2', p1, p2]

/-! ### the laws -/
theorem sums_loop (k : Nat) (hk : 3 ≤ k) (l : List TR08Mark) (hl : l.length < 1000000) : ∀ (d i n : Nat) (s : TSwell), i + d = l.length → d < n → IsSwell s (tms (l.take i)) → ∃ r, Lw08_sums.l0 k l n (s, (i : Int)) = some r ∧ IsSwell r (tms l)
  | d, i, 0, _, _, h, _ => by omega
  | 0, i, n + 1, s, hi, _, hs => by
    refine ⟨s, ?_, by rw [List.take_of_length_le (by omega)] at hs; exact hs⟩
    simp only [Lw08_sums.l0]
    rw [dec_nlt (by omega)]; rfl
  | d + 1, i, n + 1, s, hi, hn, hs => by
    obtain ⟨x, hx, hdr⟩ := drop_cons (l := l) (i := i) (by omega)
    have ht : l.take (i + 1) = l.take i ++ [x] := by rw [List.take_add_one, hx]; rfl
    obtain ⟨m, m1, m2⟩ := markSum k hk (tm x)
    obtain ⟨c, c1, c2⟩ := swellPlus k hk hs m2 (by simp; omega)
    have m1' : wave_Mark_Sum.f k (TMark.mk x.op x.here x.took) = some m := m1
    simp only [Lw08_sums.l0]
    rw [dec_lt (by omega)]
    simp only [cond_true, atL_nat hx, Option.bind_some, m1', c1, w64_succ (i := i) (by omega)]
    exact sums_loop k hk l hl d (i + 1) n c (by omega) (by omega) (by rw [ht]; simpa using c2)
theorem sums_eq (k : Nat) {l : List TR08Mark} (hl : l.length < 1000000) (hk : 1000001 ≤ k) : ∃ r, Lw08_sums.f k l = some r ∧ IsSwell r (tms l) := by
  obtain ⟨r, h1, h2⟩ := sums_loop k (by omega) l hl l.length 0 k zTSwell (by omega) (by omega) (by simp; exact IsSwell.nil)
  have e : Lw08_sums.l0 k l k (zTSwell, 0) = some r := h1
  exact ⟨r, by unfold Lw08_sums.f; rw [e]; rfl, h2⟩
theorem awake08 (k : Nat) (hk : 3 ≤ k) : Lw08_awake.f k = some true := by
  obtain ⟨s, h1, h2⟩ := markSum k hk (TMark.mk (TOp.mk 3 true (TItem.mk 5 1)) true zTTook)
  have e1 := h2.count
  have e2 := h2.weight
  have e3 := h2.least.unique (b := ⟨true, TItem.mk 5 1⟩) (by simp [hereI]; exact IsMin.one _) 
  unfold Lw08_awake.f
  rw [h1]
  simp only [Option.bind_some, e1, e2, e3]
  simp [mcnt, mwt, tideF, lowF, wave_Key.f, wave_Mark_Compare.f, cmpCompare_eq, csgn]
theorem WaveSums_pure (l : List TR08Mark) : Lw08_WaveSums.f 1000001 l = some true := by
  unfold Lw08_WaveSums.f
  simp only [awake08 1000001 (by omega), Option.bind_some, Bool.not_true, cond_false]
  by_cases h : (l.length : Int) > 60
  · simp only [h, decide_true, cond_true]
  · obtain ⟨r, h1, h2⟩ := sums_eq 1000001 (l := l) (by omega) (Nat.le_refl _)
    simp only [h, decide_false, cond_false, h1, Option.bind_some, comes_eq 1000001 h2 (by omega) (Nat.le_refl _)]
theorem tms_append (a b : List TR08Mark) : tms (a ++ b) = tms a ++ tms b := List.map_append
theorem WaveParts_pure (l : List TR08Mark) (at_ to_ : Int) : Lw08_WaveParts.f 1000001 l at_ to_ = some true := by
  unfold Lw08_WaveParts.f
  simp only [awake08 1000001 (by omega), Option.bind_some, Bool.not_true, cond_false]
  by_cases h : (l.length : Int) > 60
  · simp only [h, decide_true, cond_true, Option.bind_some, Sum.elim_inl]
  · have hw : w64 ((l.length : Int) + 1) = (l.length : Int) + 1 := w64_id (by omega) (by omega)
    simp only [h, decide_false, cond_false, Option.bind_some, Sum.elim_inr, hw, Rest_eq 1000001 (show (0 : Int) < (l.length : Int) + 1 by omega) (by omega)]
    have a0 := Int.emod_nonneg at_ (show (l.length : Int) + 1 ≠ 0 by omega)
    have a1 := Int.emod_lt_of_pos at_ (show (0 : Int) < (l.length : Int) + 1 by omega)
    have b0 := Int.emod_nonneg to_ (show (l.length : Int) + 1 ≠ 0 by omega)
    have b1 := Int.emod_lt_of_pos to_ (show (0 : Int) < (l.length : Int) + 1 by omega)
    generalize at_ % ((l.length : Int) + 1) = x at *
    generalize to_ % ((l.length : Int) + 1) = y at *
    obtain ⟨i, hi⟩ : ∃ i : Nat, gmin x y = i := ⟨(gmin x y).toNat, by unfold gmin; split <;> omega⟩
    obtain ⟨j, hj⟩ : ∃ j : Nat, gmax x y = j := ⟨(gmax x y).toNat, by unfold gmax; split <;> omega⟩
    have hij : i ≤ j := by
      have : gmin x y ≤ gmax x y := by unfold gmin gmax; split <;> split <;> omega
      omega
    have hjl : j ≤ l.length := by
      have : gmax x y ≤ (l.length : Int) := by unfold gmax; split <;> omega
      omega
    have g1 : (0 : Int) ≤ (i : Int) ∧ (i : Int) ≤ (l.length : Int) := by omega
    have g2 : (0 : Int) ≤ (i : Int) ∧ (i : Int) ≤ (j : Int) ∧ (j : Int) ≤ (l.length : Int) := by omega
    have g3 : (0 : Int) ≤ (j : Int) ∧ (j : Int) ≤ (l.length : Int) := by omega
    obtain ⟨s1, p1, q1⟩ := sums_eq 1000001 (l := (l.drop 0).take (i - 0)) (by simp; omega) (Nat.le_refl _)
    obtain ⟨s2, p2, q2⟩ := sums_eq 1000001 (l := (l.drop i).take (j - i)) (by simp; omega) (Nat.le_refl _)
    obtain ⟨s3, p3, q3⟩ := sums_eq 1000001 (l := (l.drop j).take (l.length - j)) (by simp; omega) (Nat.le_refl _)
    simp only [hi, hj, Int.toNat_natCast]
    rw [decide_eq_true g1, decide_eq_true g2, decide_eq_true g3]
    simp only [cond_true, p1, p2, p3, Option.bind_some]
    have hall : (l.drop 0).take (i - 0) ++ (l.drop i).take (j - i) ++ (l.drop j).take (l.length - j) = l := by
      have e3 : (l.drop j).take (l.length - j) = l.drop j := List.take_of_length_le (by simp)
      have e2 : l.drop i = (l.drop i).take (j - i) ++ l.drop j := by
        have := List.take_append_drop (j - i) (l.drop i)
        rw [List.drop_drop, show i + (j - i) = j by omega] at this
        exact this.symm
      rw [e3, List.append_assoc, ← e2]; simp
    have hlen := congrArg List.length hall
    simp only [List.length_append] at hlen
    obtain ⟨c1, u1, v1⟩ := swellPlus 1000001 (by omega) q1 q2 (by simp only [List.length_append, List.length_map]; omega)
    obtain ⟨c2, u2, v2⟩ := swellPlus 1000001 (by omega) v1 q3 (by simp only [List.length_append, List.length_map]; omega)
    obtain ⟨c3, u3, v3⟩ := swellPlus 1000001 (by omega) q2 q3 (by simp only [List.length_append, List.length_map]; omega)
    obtain ⟨c4, u4, v4⟩ := swellPlus 1000001 (by omega) q1 v3 (by simp only [List.length_append, List.length_map]; omega)
    have e24 : c2 = c4 := v2.unique (by rw [List.append_assoc]; exact v4)
    subst e24
    have v2' : IsSwell c2 (tms l) := by rw [← hall, tms_append, tms_append]; exact v2
    simp only [u1, u2, u3, u4, Option.bind_some]
    simp [comes_eq 1000001 v2' (by omega) (Nat.le_refl _)]
theorem above_loop (k : Nat) (l : List TR08Mark) (x : TItem) (hl : l.length < 1000000) : ∀ (d i n : Nat) (b : Bool), i + d = l.length → d < n → b = ((l.take i).any fun m => !m.op.insert && (!m.took.found || decide (ilt x m.took.item))) →
    Lw08_WaveAbove.l0 k l x n (b, (i : Int)) = some (l.any fun m => !m.op.insert && (!m.took.found || decide (ilt x m.took.item)))
  | d, i, 0, _, _, h, _ => by omega
  | 0, i, n + 1, b, hi, _, hb => by
    simp only [Lw08_WaveAbove.l0]
    rw [dec_nlt (by omega), hb, List.take_of_length_le (by omega)]; rfl
  | d + 1, i, n + 1, b, hi, hn, hb => by
    obtain ⟨y, hy, hdr⟩ := drop_cons (l := l) (i := i) (by omega)
    have ht : l.take (i + 1) = l.take i ++ [y] := by rw [List.take_add_one, hy]; rfl
    simp only [Lw08_WaveAbove.l0]
    rw [dec_lt (by omega)]
    simp only [cond_true, atL_nat hy, Option.bind_some, w64_succ (i := i) (by omega), Ahead_eq]
    have step : ∀ b', b' = (b || (!y.op.insert && (!y.took.found || decide (ilt x y.took.item)))) → Lw08_WaveAbove.l0 k l x n (b', ((i + 1 : Nat) : Int)) = some (l.any fun m => !m.op.insert && (!m.took.found || decide (ilt x m.took.item))) := fun b' hb' =>
      above_loop k l x hl d (i + 1) n b' (by omega) (by omega) (by rw [hb', ht, hb]; simp)
    cases hbb : b
    · cases h1 : y.op.insert
      · cases h2 : y.took.found
        · simp only [Bool.not_false, cond_true, cond_false]; exact step _ (by simp [hbb, h1, h2])
        · simp only [Bool.not_false, Bool.not_true, cond_true, cond_false]; exact step _ (by simp [hbb, h1, h2])
      · simp only [Bool.not_true, cond_false]; exact step _ (by simp [hbb, h1])
    · simp only [cond_true]; exact step _ (by simp [hbb])
theorem above_swell (k : Nat) (hk : 3 ≤ k) {s : TSwell} {l : List TMark} (x : TItem) (h : IsSwell s l) : wave_Swell_Above.f k s x = some (l.any fun m => !m.op.insert && (!m.took.found || decide (ilt x m.took.item))) := by
  obtain ⟨t, t1, t2⟩ := taken_max k h
  unfold wave_Swell_Above.f
  rw [t1, h.free]
  simp only [Option.bind_some]
  by_cases h0 : frees l = []
  · have e0 : decide ((((frees l).length : Nat) : Int) > 0) = false := by rw [h0]; rfl
    rw [e0]
    have hany : (l.any fun m => !m.op.insert && (!m.took.found || decide (ilt x m.took.item))) = (tookI l).any fun y => decide (ilt x y) := by
      unfold tookI
      rw [List.any_map, List.any_filter]
      refine Bool.eq_iff_iff.2 ?_
      simp only [List.any_eq_true]
      constructor
      · rintro ⟨m, hm, hp⟩
        refine ⟨m, hm, ?_⟩
        have hnf : m ∉ frees l := by rw [h0]; simp
        have : ¬ ((!m.op.insert && !m.took.found) = true) := fun hc => hnf (List.mem_filter.2 ⟨hm, hc⟩)
        cases hf : m.took.found <;> cases hi : m.op.insert <;> simp_all
      · rintro ⟨m, hm, hp⟩
        exact ⟨m, hm, by cases hf : m.took.found <;> cases hi : m.op.insert <;> simp_all⟩
    rw [hany]
    simp only [cond_false]
    rcases t2 with ⟨h1, rfl⟩ | ⟨h1, h2, h3⟩
    · rw [h1]; rfl
    · simp only [h1, cond_true, itemCompare_eq k hk, Option.bind_some]
      congr 1
      refine Bool.eq_iff_iff.2 ?_
      simp only [decide_eq_true_eq, List.any_eq_true, isgn_gt]
      constructor
      · intro hx; exact ⟨_, h2, hx⟩
      · rintro ⟨y, hy, hxy⟩; exact ilt_trans_le hxy (h3 y hy)
  · have hp : 0 < (frees l).length := List.length_pos_iff.2 h0
    have e0 : decide ((((frees l).length : Nat) : Int) > 0) = true := by simp; exact hp
    rw [e0]
    simp only [cond_true]
    congr 1
    symm
    obtain ⟨m, hm⟩ := List.exists_mem_of_length_pos hp
    obtain ⟨h1, h2⟩ := List.mem_filter.1 hm
    refine List.any_eq_true.2 ⟨m, h1, ?_⟩
    simp only [Bool.and_eq_true] at h2
    simp [h2.1, h2.2]
theorem WaveAbove_pure (l : List TR08Mark) (x : TItem) : Lw08_WaveAbove.f 1000001 l x = some true := by
  unfold Lw08_WaveAbove.f
  simp only [awake08 1000001 (by omega), Option.bind_some, Bool.not_true, cond_false]
  by_cases h : (l.length : Int) > 60
  · simp only [h, decide_true, cond_true, Option.bind_some, Sum.elim_inl]
  · obtain ⟨r, h1, h2⟩ := sums_eq 1000001 (l := l) (by omega) (Nat.le_refl _)
    have e := above_loop 1000001 l x (by omega) l.length 0 1000001 false (by omega) (by omega) (by simp)
    have e' : Lw08_WaveAbove.l0 1000001 l x 1000001 (false, 0) = some (l.any fun m => !m.op.insert && (!m.took.found || decide (ilt x m.took.item))) := e
    simp only [h, decide_false, cond_false, Option.bind_some, Sum.elim_inr, e', h1, above_swell 1000001 (by omega) x h2]
    have e2 : ((tms l).any fun m => !m.op.insert && (!m.took.found || decide (ilt x m.took.item))) = l.any fun m => !m.op.insert && (!m.took.found || decide (ilt x m.took.item)) := by rw [tms, List.any_map]; rfl
    rw [e2]; simp
end Go.Proofs.Ytgogiehpenfdpaa

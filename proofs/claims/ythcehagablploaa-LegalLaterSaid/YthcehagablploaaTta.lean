/- Trees of marks in the order of time; the document's. -/
import Derived.KernelRfl
import Derived.Test.YthcehagablploaaTva
import Derived.Test.YthcehagablploaaTd
namespace Go.Proofs.Ythcehagablploaa
open Go Go.Proofs.Ythcehagablploaa.Sx
set_option linter.unusedVariables false
set_option linter.unusedSimpArgs false

def early (e x : TR08Mark) : Bool := decide (x.op.time < e.op.time)
def tail1 (e : TR08Mark) : List TR08Mark → List TR08Mark
  | [] => []
  | z :: r => if z.op.time = e.op.time then r else z :: r
/-- One more mark, in its place; or in that of the one of its time. -/
def tins (w : List TR08Mark) (e : TR08Mark) : List TR08Mark := w.takeWhile (early e) ++ e :: tail1 e (w.dropWhile (early e))
def timed (l : List TR08Mark) : List TR08Mark := l.foldl tins []
theorem tins_cut {e : TR08Mark} {A M B : List TR08Mark} (h1 : ∀ x ∈ A, x.op.time < e.op.time) (h2 : ∀ x ∈ B, e.op.time < x.op.time) (h3 : M = [] ∨ ∃ y, M = [y] ∧ y.op.time = e.op.time) : tins (A ++ (M ++ B)) e = A ++ e :: B := by
  have hA : ∀ x ∈ A, early e x = true := fun x hx => by simp [early, h1 x hx]
  have hR : (M ++ B).takeWhile (early e) = [] ∧ (M ++ B).dropWhile (early e) = M ++ B := by
    rcases h3 with rfl | ⟨y, rfl, h4⟩
    · cases B with
      | nil => exact ⟨rfl, rfl⟩
      | cons z r =>
        have : early e z = false := by have := h2 z List.mem_cons_self; simp [early]; omega
        simp [this]
    · have : early e y = false := by simp [early]; omega
      simp [this]
  unfold tins
  rw [List.takeWhile_append_of_pos hA, List.dropWhile_append_of_pos hA, hR.1, hR.2, List.append_nil]
  congr 2
  rcases h3 with rfl | ⟨y, rfl, h4⟩
  · cases B with
    | nil => rfl
    | cons z r =>
      have := h2 z List.mem_cons_self
      simp only [List.nil_append, tail1]
      rw [if_neg (by omega)]
  · simp [tail1, h4]
theorem takeW_len (w : List TR08Mark) (p : TR08Mark → Bool) : w.take (w.takeWhile p).length = w.takeWhile p := by
  have h := List.takeWhile_append_dropWhile (p := p) (l := w)
  conv => lhs; arg 2; rw [← h]
  rw [List.take_left' rfl]
theorem dropW_len (w : List TR08Mark) (p : TR08Mark → Bool) : w.drop (w.takeWhile p).length = w.dropWhile p := by
  have h := List.takeWhile_append_dropWhile (p := p) (l := w)
  conv => lhs; arg 2; rw [← h]
  rw [List.drop_left' rfl]
theorem takeW_le (w : List TR08Mark) (p : TR08Mark → Bool) : (w.takeWhile p).length + (w.dropWhile p).length = w.length := by
  have h := congrArg List.length (List.takeWhile_append_dropWhile (p := p) (l := w))
  rw [List.length_append] at h; exact h
theorem dropW_head {w : List TR08Mark} {p : TR08Mark → Bool} {z : TR08Mark} {r : List TR08Mark} (h : w.dropWhile p = z :: r) : p z = false := by
  have hne : w.dropWhile p ≠ [] := by rw [h]; simp
  have := List.head_dropWhile_not (p := p) (l := w) hne
  simpa [h] using this
theorem tins_len (w : List TR08Mark) (e : TR08Mark) : (tins w e).length ≤ w.length + 1 := by
  have h := takeW_le w (early e)
  unfold tins
  rw [List.length_append, List.length_cons]
  have : (tail1 e (w.dropWhile (early e))).length ≤ (w.dropWhile (early e)).length := by
    cases w.dropWhile (early e) with
    | nil => simp [tail1]
    | cons z r => simp only [tail1]; split <;> simp
  omega
theorem timed_take {l : List TR08Mark} {i : Nat} {e : TR08Mark} (h : l[i]? = some e) : timed (l.take (i + 1)) = tins (timed (l.take i)) e := by
  unfold timed
  rw [List.take_add_one, h, List.foldl_append]; rfl
theorem timed_len : ∀ (l : List TR08Mark) (i : Nat), i ≤ l.length → (timed (l.take i)).length ≤ i
  | l, 0, _ => by simp [timed]
  | l, i + 1, h => by
    obtain ⟨e, he, _⟩ := drop_cons (l := l) (i := i) (by omega)
    rw [timed_take he]
    have := timed_len l i (by omega)
    have := tins_len (timed (l.take i)) e
    omega
theorem tplace10 (l w : List TR08Mark) {j : Nat} {e : TR08Mark} (he : l[j]? = some e) (hl : w.length < 1000000) : ∀ (d i n : Nat), i + d = (w.takeWhile (early e)).length → d < n → R10_Timed.l1 K1 l w (j : Int) n (i : Int) = some ((w.takeWhile (early e)).length : Int)
  | d, i, 0, _, h => by omega
  | 0, i, n + 1, hi, _ => by
    have hle := takeW_le w (early e)
    simp only [R10_Timed.l1]
    by_cases h : i < w.length
    · obtain ⟨x, hx, hd⟩ := drop_cons h
      have hd' : w.dropWhile (early e) = x :: w.drop (i + 1) := by rw [← dropW_len, show (w.takeWhile (early e)).length = i by omega, hd]
      have hp := dropW_head hd'
      have hn : ¬ x.op.time < e.op.time := by simpa [early] using hp
      rw [dec_lt h]
      simp only [cond_true, atL_nat hx, atL_nat he, Option.bind_some, hn, decide_false, cond_false]
      congr 2
    · rw [dec_nlt (by omega)]
      simp only [cond_false]
      congr 2
  | d + 1, i, n + 1, hi, hn => by
    have hle := takeW_le w (early e)
    obtain ⟨x, hx, _⟩ := drop_cons (l := w) (i := i) (by omega)
    have hm : x ∈ w.takeWhile (early e) := by
      rw [← takeW_len]
      exact List.mem_of_getElem? (i := i) (by rw [List.getElem?_take_of_lt (by omega)]; exact hx)
    have h3 : x.op.time < e.op.time := by
      have := List.all_takeWhile (p := early e) (l := w)
      have := List.all_eq_true.1 this x hm
      simpa [early] using this
    simp only [R10_Timed.l1]
    rw [dec_lt (by omega)]
    simp only [cond_true, atL_nat hx, atL_nat he, Option.bind_some, h3, decide_true, w64_succ (i := i) (by omega)]
    exact tplace10 l w he hl d (i + 1) n (by omega) (by omega)
theorem timed_loop (l : List TR08Mark) (hl : l.length < 100000) : ∀ (d i n : Nat), i + d = l.length → d < n → R10_Timed.l0 K1 l n (timed (l.take i), (i : Int)) = some (timed l)
  | d, i, 0, _, h => by omega
  | 0, i, n + 1, hi, _ => by
    simp only [R10_Timed.l0]
    rw [dec_nlt (by omega), List.take_of_length_le (by omega)]; rfl
  | d + 1, i, n + 1, hi, hn => by
    obtain ⟨e, he, _⟩ := drop_cons (l := l) (i := i) (by omega)
    have hwl := timed_len l i (by omega)
    have hnext := timed_take he
    have ih := timed_loop l hl d (i + 1) n (by omega) (by omega)
    rw [hnext] at ih
    generalize timed (l.take i) = w at *
    have hle := takeW_le w (early e)
    have hkl : (w.takeWhile (early e)).length < K1 := by unfold K1; omega
    have q3 := tplace10 l w he (by omega) (w.takeWhile (early e)).length 0 K1 (Nat.zero_add _) hkl
    replace q3 : R10_Timed.l1 K1 l w (i : Int) K1 0 = some ((w.takeWhile (early e)).length : Int) := q3
    have ta := takeW_len w (early e)
    have td := dropW_len w (early e)
    have e1 : (w.takeWhile (early e)).length - 0 = (w.takeWhile (early e)).length := Nat.sub_zero _
    simp only [R10_Timed.l0]
    rw [dec_lt (by omega)]
    simp only [cond_true, atL_nat he, Option.bind_some, q3, Int.toNat_natCast, e1, List.drop_zero, ta, List.nil_append]
    rw [nat_in (by omega)]
    simp only [cond_true]
    rw [decide_eq_true (p := ([] : List TR08Mark).length + (w.takeWhile (early e)).length < 4294967296) (by simp; omega), decide_eq_true (p := (w.takeWhile (early e)).length + [e].length < 4294967296) (by simp; omega)]
    simp only [cond_true]
    unfold tins at ih
    have hfin : ∀ r : List TR08Mark, r.length ≤ w.length → decide ((w.takeWhile (early e) ++ [e]).length + r.length < 4294967296) = true := fun r hr => decide_eq_true (by simp; omega)
    cases hd : w.dropWhile (early e) with
    | nil =>
      rw [hd] at td ih hle
      have hdr : (w.drop (w.takeWhile (early e)).length).take (w.length - (w.takeWhile (early e)).length) = [] 
          := by rw [td, List.take_nil]
      rw [dec_nlt (by simp at hle; omega)]
      simp only [cond_false, hdr]
      rw [hfin [] (by simp)]
      simp only [cond_true, Option.bind_some, w64_succ (i := i) (by omega)]
      simp only [tail1] at ih
      simpa using ih
    | cons z r =>
      rw [hd] at td ih hle
      simp only [List.length_cons] at hle
      have hz : w[(w.takeWhile (early e)).length]? = some z := by
        have := congrArg (fun q => q[0]?) td
        simpa [List.getElem?_drop] using this
      rw [dec_lt (by omega)]
      simp only [cond_true, atL_nat hz, Option.bind_some]
      by_cases hk : z.op.time = e.op.time
      · have hk' : (z.op.time == e.op.time) = true := by simpa using hk
        have hsu : w64 (((w.takeWhile (early e)).length : Int) + 1) = (((w.takeWhile (early e)).length + 1 : Nat) : Int) := w64_succ (by omega)
        have hdr : (w.drop ((w.takeWhile (early e)).length + 1)).take (w.length - ((w.takeWhile (early e)).length + 1)) = r := by
          rw [List.take_of_length_le (by simp), ← List.drop_drop, td]; rfl
        simp only [hk', cond_true, hsu, Int.toNat_natCast, hdr]
        rw [nat_in (by omega), hfin r (by omega)]
        simp only [cond_true, Option.bind_some, w64_succ (i := i) (by omega)]
        simp only [tail1, hk, if_true] at ih
        simpa using ih
      · have hk' : (z.op.time == e.op.time) = false := by simpa using hk
        have hdr : (w.drop (w.takeWhile (early e)).length).take (w.length - (w.takeWhile (early e)).length) = z :: r := by
          rw [td, List.take_of_length_le (by simp; omega)]
        simp only [hk', cond_false, hdr]
        rw [hfin (z :: r) (by simp; omega)]
        simp only [cond_true, Option.bind_some, w64_succ (i := i) (by omega)]
        simp only [tail1, hk, if_false] at ih
        simpa using ih
theorem timed_ok (l : List TR08Mark) (hl : l.length < 100000) : R10_Timed.f K1 l = some (timed l) := by
  have hlt : l.length < K1 := by unfold K1; omega
  have e := timed_loop l hl l.length 0 K1 (Nat.zero_add _) hlt
  replace e : R10_Timed.l0 K1 l K1 (([] : List TR08Mark), 0) = some (timed l) := e
  unfold R10_Timed.f; rw [e]; rfl
theorem tree_loop (l : List TR08Mark) (hl : l.length < 100000) : ∀ (d i n : Nat) {p : PN TMark TSwell} {r : TRef}, i + d = l.length → d < n → GrM p r (tms (timed (l.take i))) l.length i →
    ∃ p' r', Lw10_Tree.l0 K1 l n (p, r.index, r.gen, (i : Int)) = some (p', r'.index, r'.gen) ∧ GrM p' r' (tms (timed l)) l.length l.length
  | d, i, 0, _, _, _, h, _ => by omega
  | 0, i, n + 1, p, r, hi, _, h => by
    simp only [Lw10_Tree.l0]
    rw [dec_nlt (by omega)]
    have e : i = l.length := by omega
    rw [List.take_of_length_le (by omega), e] at h
    exact ⟨p, r, rfl, h⟩
  | d + 1, i, n + 1, p, r, hi, hn, h => by
    obtain ⟨e, he, _⟩ := drop_cons (l := l) (i := i) (by omega)
    have hwl := timed_len l i (by omega)
    obtain ⟨a, m, b, hcut, hres⟩ := h.put okM (by decide) (tm e) trivial (by omega) (by simp; omega)
    obtain ⟨A, M, B, hA, rfl, rfl, rfl, c1, c2, c3⟩ := cutR hcut
    rcases hres with ⟨_, h2, _⟩ | ⟨r', p', _, q1, q2⟩
    · rw [List.length_map] at h2; omega
    · have q1' : Tree_Put.f opsM K1 p ⟨r.index, r.gen⟩ ⟨e.op, e.here, e.took⟩ = some (true, r', p') := q1
      simp only [Lw10_Tree.l0]
      rw [dec_lt (by omega)]
      simp only [cond_true, atL_nat he, Option.bind_some, q1', w64_succ (i := i) (by omega)]
      refine tree_loop l hl d (i + 1) n (by omega) (by omega) ?_
      rw [timed_take he, hA, tins_cut c1 c2 c3]
      have : tms (A ++ e :: B) = tms A ++ tm e :: tms B := by simp
      rw [this]; exact q2
theorem tree_ok (l : List TR08Mark) (hl : l.length < 100000) : ∃ p r, Lw10_Tree.f K1 l = some (r, p) ∧ GrM p r (tms (timed l)) l.length l.length := by
  have hc : capOf (l.length : Int) = l.length := by unfold capOf; split <;> split <;> omega
  have h0 : GrM (⟨[], [], capOf (l.length : Int), 0, 0⟩ : PN TMark TSwell) zTRef (tms (timed (l.take 0))) l.length 0 := by
    rw [hc]; exact Gr.new _ 0 (by decide)
  have hlt : l.length < K1 := by unfold K1; omega
  obtain ⟨p, r, h1, h2⟩ := tree_loop l hl l.length 0 K1 (Nat.zero_add _) hlt h0
  replace h1 : Lw10_Tree.l0 K1 l K1 ((⟨[], [], capOf (l.length : Int), 0, 0⟩ : PN TMark TSwell), zTRef.index, zTRef.gen, 0) = some (p, r.index, r.gen) := h1
  refine ⟨p, r, ?_, h2⟩
  unfold Lw10_Tree.f wave_New.f Tree_New.f
  simp only [Option.bind_some, h1]
theorem timed_len' (l : List TR08Mark) : (timed l).length ≤ l.length := by
  have := timed_len l l.length (Nat.le_refl _)
  rwa [List.take_length] at this
end Go.Proofs.Ythcehagablploaa

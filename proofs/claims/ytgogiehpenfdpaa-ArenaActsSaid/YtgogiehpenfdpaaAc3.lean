/- ArenaActs, walked. Printed by a program of mine. -/
import Derived.KernelRfl
import Derived.Test.YtgogiehpenfdpaaLw3
import Derived.Test.YtgogiehpenfdpaaIt3
import Derived.Test.YtgogiehpenfdpaaRf3
import Derived.Test.YtgogiehpenfdpaaPb3
namespace Go.Proofs.Ytgogiehpenfdpaa
open Go Go.Proofs.Ytgogiehpenfdpaa.Sx
set_option linter.unusedVariables false
set_option linter.unusedSimpArgs false
theorem ref_con (l : List Rf) (a : ActI) (hl : l.length < 100) : SCon Try.prog 28 [.a (.c (.nv 1)), .a (.agg ((actE a).map .v))] [(1, lrow 1 40 refE 2 l)] (.agg [.i (refOf l a).1, .i (refOf l a).2]) [(1, lrow 1 40 refE 2 l)] [] := by
  refine spec_of [(0, _), (1, _)] [(1, _)] 24 Try.func28 rfl Try.ntmps28 rfl rfl rfl rfl (fun β W F => ?_)
  refine G.seq ?_
  refine G.rg ?_
  refine K.box Y 103 [_, _, _, _, _] (gd0 rfl) rfl rfl rfl rfl rfl rfl ?_
  refine K.alloc Y 104 [_, _] (gd0 rfl) t40 rfl rfl rfl rfl rfl ?_
  refine K.nil ?_
  refine At.next ?_
  refine G.seq ?_
  refine G.seq ?_
  rcases Bool.eq_false_or_eq_true (!a.told) with h1 | h1
  ·
    refine G.rg ?_
    refine K.fieldAddr Y (gd0 rfl) rfl t58 rfl rfl ?_
    refine K.load1 Y (gd0 rfl) rfl rfl t4 rfl rfl ?_
    refine K.un (gd0 rfl) rfl (fun _ => rfl) rfl ?_
    refine K.move (.inl rfl) (gd0 rfl) rfl rfl ?_
    refine K.skip rfl rfl rfl rfl (h1) rfl ?_
    refine K.skip rfl rfl rfl rfl (h1) rfl ?_
    refine K.skip rfl rfl rfl rfl (h1) rfl ?_
    refine K.pickT (gd0 rfl) rfl (h1) rfl rfl ?_
    refine K.nil ?_
    refine At.next ?_
    refine G.cond rfl (fun h2 => ?_) (fun h2 => ?_)
    ·
      refine G.seq ?_
      refine G.rg ?_
      refine K.fieldAddr Y (gd0 rfl) rfl t58 rfl rfl ?_
      refine K.loadS Y [_, _] (gd0 rfl) rfl rfl t40 rfl rfl rfl ?_
      refine K.store Y [_, _] (gd0 rfl) rfl rfl rfl t40 rfl rfl rfl rfl rfl ?_
      refine K.nil ?_
      refine At.next ?_
      refine G.ret ?_
      refine At.over_ret ?_
      refine At.done Y [(.cell 4 40, .agg [_, _])] rfl ⟨.st rfl rfl t40 rfl rfl, trivial⟩ (to' := [(1, _)]) ⟨rfl, trivial⟩ ?_ ?_ rfl rfl rfl (.inl rfl)
      · rfl
      · first | (rw [refOf_raw (by first | (refine .inl ?_; simp_all; done) | (refine .inr ?_; simp_all; done))]; rfl) | (rw [refOf_told ht hk hr]; rfl)
    · cases h2
  ·
    refine G.rg ?_
    refine K.fieldAddr Y (gd0 rfl) rfl t58 rfl rfl ?_
    refine K.load1 Y (gd0 rfl) rfl rfl t4 rfl rfl ?_
    refine K.un (gd0 rfl) rfl (fun _ => rfl) rfl ?_
    refine K.move (.inl rfl) (gd0 rfl) rfl rfl ?_
    refine K.move (.inl rfl) (gd1 rfl rfl rfl (h1)) rfl rfl ?_
    refine K.lenL (lrowV 1 40 refE 2 _) (lrowV_is refE_len (by decide)) (gd1 rfl rfl rfl (h1)) rfl rfl Try.underlying38 rfl ?_
    refine K.bin (gd1 rfl rfl rfl (h1)) rfl rfl (fun _ => rfl) rfl ?_
    refine K.pickF (gd0 rfl) rfl (h1) rfl rfl ?_
    refine K.nil ?_
    refine At.next ?_
    refine G.cond rfl (fun h3 => ?_) (fun h3 => ?_)
    ·
      refine G.seq ?_
      refine G.rg ?_
      refine K.fieldAddr Y (gd0 rfl) rfl t58 rfl rfl ?_
      refine K.loadS Y [_, _] (gd0 rfl) rfl rfl t40 rfl rfl rfl ?_
      refine K.store Y [_, _] (gd0 rfl) rfl rfl rfl t40 rfl rfl rfl rfl rfl ?_
      refine K.nil ?_
      refine At.next ?_
      refine G.ret ?_
      refine At.over_ret ?_
      refine At.done Y [(.cell 4 40, .agg [_, _])] rfl ⟨.st rfl rfl t40 rfl rfl, trivial⟩ (to' := [(1, _)]) ⟨rfl, trivial⟩ ?_ ?_ rfl rfl rfl (.inl rfl)
      · rfl
      · first | (rw [refOf_raw (by first | (refine .inl ?_; simp_all; done) | (refine .inr ?_; simp_all; done))]; rfl) | (rw [refOf_told ht hk hr]; rfl)
    ·
      refine G.skip ?_
      refine At.next ?_
      refine G.seq ?_
      have ht : a.told = true := by have hh := h1; simpa using hh
      have hpos : 0 < l.length := by have hh := h3; simp only [beq_eq_false_iff_ne, decide_eq_false_iff_not] at hh; omega
      obtain ⟨k, hk⟩ : ∃ k : Nat, a.ri % (l.length : Int) = k := ⟨(a.ri % (l.length : Int)).toNat, by have := Int.emod_nonneg a.ri (b := (l.length : Int)) (by omega); omega⟩
      have hkl : k < l.length := by have := Int.emod_lt_of_pos a.ri (b := (l.length : Int)) (by omega); omega
      obtain ⟨r, hr⟩ : ∃ r, l[k]? = some r := ⟨_, List.getElem?_eq_getElem hkl⟩
      refine G.rg ?_
      refine K.move (.inl rfl) (gd0 rfl) rfl rfl ?_
      refine K.fieldAddr Y (gd0 rfl) rfl t58 rfl rfl ?_
      refine K.fieldAddr Y (gd0 rfl) rfl t40 rfl rfl ?_
      refine K.load1 Y (gd0 rfl) rfl rfl t3 rfl rfl ?_
      refine K.move (.inl rfl) (gd0 rfl) rfl rfl ?_
      refine K.lenL (lrowV 1 40 refE 2 _) (lrowV_is refE_len (by decide)) (gd0 rfl) rfl rfl Try.underlying38 rfl ?_
      refine K.call0 [(.func 19, _), ((.tmp 18), _), ((.tmp 20), _)] (rest_con _ _ (by omega) (by omega)) (toFn_func (cf 19 rfl) rfl) (gd0 rfl) ⟨rfl, rfl, rfl, trivial⟩ trivial rfl rfl rfl rfl rfl rfl ?_
      refine K.idxL (lrowV 1 40 refE 2 _) k (lrowV_is refE_len (by decide)) hr hk (gd0 rfl) rfl rfl rfl Try.underlying38 el38.size_run rfl ?_
      refine K.loadSL Y (lrowV 1 40 refE 2 _) k 0 [_, _] [_, _] (lrowV_is refE_len (by decide)) hr (gd0 rfl) rfl rfl t40 rfl rfl rfl rfl rfl ?_
      refine K.store Y [_, _] (gd0 rfl) rfl rfl rfl t40 rfl rfl rfl rfl rfl ?_
      refine K.nil ?_
      refine At.next ?_
      refine G.ret ?_
      refine At.done Y [(.cell 4 40, .agg [_, _])] rfl ⟨.st rfl rfl t40 rfl rfl, trivial⟩ (to' := [(1, _)]) ⟨rfl, trivial⟩ ?_ ?_ rfl rfl rfl (.inl rfl)
      · rfl
      · first | (rw [refOf_raw (by first | (refine .inl ?_; simp_all; done) | (refine .inr ?_; simp_all; done))]; rfl) | (rw [refOf_told ht hk hr]; rfl)
abbrev mtok (k : Nat) (q : Pool Int) (V free : List Int) : Tok := rtok k q.cells V free q.cap q.vis
theorem set_last {α : Type} {l : List α} {n : Nat} (h : l.length = n) (x y : α) : (l ++ [x]).set n y = l ++ [y] := by
  subst h; rw [List.set_append_right _ _ (Nat.le_refl _)]; simp
theorem rel_put {i : Nat} {p : Pool Int} {V free : List Int} (h : RInv i p V free) (hi : i < 100) (v : Int) (k : Nat) : ∃ V' free', RInv (i + 1) (p.put 0 v).2 V' free' ∧
    SCon Try.prog 29 [SV.p k 0, SV.i v] [(k, mtok k p V free)] (.tup [.agg [.i (p.put 0 v).1.1.1, .i (p.put 0 v).1.1.2], .c (.b (p.put 0 v).1.2)]) [(k, mtok k (p.put 0 v).2 V' free')] [] := by
  have hlen : p.cells.length < 4294967296 := by have := h.ok.cells; omega
  by_cases hf : (liveN p.cells : Int) = p.cap
  · have e : p.put 0 v = (((0, 0), false), p) := by unfold Pool.put; rw [if_pos (by rw [h.held]; exact hf)]
    exact ⟨V, free, by rw [e]; exact h.mono, by rw [e]; exact rputF h.len hlen v hf k⟩
  · have hne : ¬ p.held = p.cap := by rw [h.held]; exact hf
    have hh : IntKind.i64.wrap (p.held + 1) = p.held + 1 := by rw [IntKind.wrap_i64, h.held]; have := liveN_len p.cells; have := h.ok.cells; omega
    cases hfr : free with
    | nil =>
      subst hfr
      obtain ⟨hpf, hr⟩ := h.newY rfl v
      have e0 : IntKind.i64.wrap (0 + 1) = 1 := by decide
      have e : p.put 0 v = ((((p.cells.length : Int), 1), true), ⟨p.cells ++ [⟨v, 1, true⟩], [], p.cap, p.held + 1, p.vis⟩) := by
        unfold Pool.put
        have hn : p.next 0 = ((p.cells.length : Int), { p with cells := p.cells ++ [⟨0, 0, false⟩] }) := by simp [Pool.next, hpf]
        rw [if_neg hne, hn]
        simp only [Int.toNat_natCast]
        rw [last_get rfl]
        simp only [e0, Pool.lay, hh, Int.toNat_natCast, set_last rfl, hpf]
      refine ⟨V ++ [v], [], by rw [e]; exact hr, ?_⟩
      have := rputE (free := []) (vis := p.vis) h.len hlen v hf rfl k
      rw [e0, set_last h.len, set_last (by simp), set_last (by simp)] at this
      rw [e]
      simp only [mtok, rtok, rpoolC, List.map_append, List.map_cons, List.map_nil]
      exact this
    | cons j rest =>
      subst hfr
      have hj : j ∈ p.free := by have := h.fr; rw [← List.mem_reverse, ← this]; exact List.mem_cons_self
      have h0 := h.ok.inn j hj
      have hjn : j = ((j.toNat : Nat) : Int) := by omega
      have hg : p.cells[j.toNat]? = some p.cells[j.toNat] := List.getElem?_eq_getElem h0.2
      generalize p.cells[j.toNat] = c at hg
      generalize hn : j.toNat = n at hg hjn
      subst hjn
      obtain ⟨hd, ⟨u, hu⟩, hlast, hr⟩ := h.layY hg rfl v
      have hgen := h.gen n c hg
      have e1 : IntKind.i64.wrap (c.gen + 1) = c.gen + 1 := by rw [IntKind.wrap_i64]; omega
      have e : p.put 0 v = ((((n : Int), c.gen + 1), true), ⟨p.cells.set n ⟨v, c.gen + 1, true⟩, p.free.dropLast, p.cap, p.held + 1, p.vis⟩) := by
        unfold Pool.put
        have hn : p.next 0 = ((n : Int), { p with free := p.free.dropLast }) := by simp [Pool.next, hlast]
        rw [if_neg hne, hn]
        simp only [Int.toNat_natCast]
        rw [hg]
        simp only [e1, Pool.lay, hh, Int.toNat_natCast]
      refine ⟨V.set n v, rest, by rw [e]; exact hr, ?_⟩
      have := rputC (free := (n : Int) :: rest) (vis := p.vis) h.len hlen hg hu (by have := h.ok.free; have h2 := congrArg List.length h.fr; rw [List.length_reverse] at h2; omega) v hf rfl k
      rw [e1] at this
      rw [e]
      simp only [mtok, rtok, rpoolC, List.map_set]
      exact this
theorem rel_get {i : Nat} {p : Pool Int} {V free : List Int} (h : RInv i p V free) (hi : i < 100) (r g : Int) (k : Nat) : RInv i (p.get 0 r g).2 V free ∧
    SCon Try.prog 30 [SV.p k 0, SV.agg [.i r, .i g]] [(k, mtok k p V free)] (.tup [.c (.i (p.get 0 r g).1.1), .c (.b (p.get 0 r g).1.2)]) [(k, mtok k (p.get 0 r g).2 V free)] [] := by
  have hlen : p.cells.length < 4294967296 := by have := h.ok.cells; omega
  refine ⟨h.get r g, ?_⟩
  cases hl : lookC p.cells r g with
  | none =>
    have e : p.get 0 r g = ((0, false), p) := by unfold Pool.get; rw [hl]
    rw [e]; exact rgetN h.len hlen hl k
  | some c =>
    obtain ⟨n, rfl, hg, hlv, rfl⟩ := lookC_some hl
    have e : p.get 0 (n : Int) c.gen = ((c.v, true), p.hit) := by unfold Pool.get; rw [hl]
    rw [e]; exact rgetY h.len hlen hg hlv (h.val n c hg hlv) k
theorem rel_set {i : Nat} {p : Pool Int} {V free : List Int} (h : RInv i p V free) (hi : i < 100) (r g v : Int) (k : Nat) : ∃ V', RInv i (p.set r g v).2 V' free ∧
    SCon Try.prog 31 [SV.p k 0, SV.agg [.i r, .i g], SV.i v] [(k, mtok k p V free)] (SV.b (p.set r g v).1) [(k, mtok k (p.set r g v).2 V' free)] [] := by
  have hlen : p.cells.length < 4294967296 := by have := h.ok.cells; omega
  cases hl : lookC p.cells r g with
  | none =>
    have e : p.set r g v = (false, p) := by unfold Pool.set; rw [hl]
    rw [e]; exact ⟨V, h, rsetN h.len hlen hl v k⟩
  | some c =>
    obtain ⟨n, rfl, hg, hlv, rfl⟩ := lookC_some hl
    have e : p.set (n : Int) c.gen v = (true, ⟨p.cells.set n { c with v := v }, p.free, p.cap, p.held, IntKind.i64.wrap (p.vis + 1)⟩) := by unfold Pool.set; rw [hl]; simp
    rw [e]
    refine ⟨V.set n v, h.setY hg hlv v _, ?_⟩
    have := rsetY (free := free) (cap := p.cap) (vis := p.vis) h.len hlen hg hlv v (h.val n c hg hlv) k
    have e1 : (p.cells.set n { c with v := v }).map (fun x => x.gen) = p.cells.map (fun x => x.gen) := map_set_same (fun x : Cell Int => x.gen) hg rfl
    have e2 : (p.cells.set n { c with v := v }).map (fun x => x.live) = p.cells.map (fun x => x.live) := map_set_same (fun x : Cell Int => x.live) hg rfl
    simp only [mtok, rtok, rpoolC]
    rw [e1, e2]
    exact this
theorem rel_drop {i : Nat} {p : Pool Int} {V free : List Int} (h : RInv i p V free) (hi : i < 100) (r g : Int) (k : Nat) : ∃ free', RInv (i + 1) (p.drop 0 r g).2 V free' ∧
    SCon Try.prog 32 [SV.p k 0, SV.agg [.i r, .i g]] [(k, mtok k p V free)] (.tup [.c (.i (p.drop 0 r g).1.1), .c (.b (p.drop 0 r g).1.2)]) [(k, mtok k (p.drop 0 r g).2 V free')] [] := by
  have hlen : p.cells.length < 4294967296 := by have := h.ok.cells; omega
  cases hl : lookC p.cells r g with
  | none =>
    have e : p.drop 0 r g = ((0, false), p) := by unfold Pool.drop; rw [hl]
    rw [e]; exact ⟨free, h.mono, rdropN h.len hlen hl k⟩
  | some c =>
    obtain ⟨n, rfl, hg, hlv, rfl⟩ := lookC_some hl
    have hgen := h.gen n c hg
    have hgm : decide (c.gen < 4294967295) = true := by simp; omega
    have hh : IntKind.i64.wrap (p.held - 1) = p.held - 1 := by rw [IntKind.wrap_i64, h.held]; have := liveN_len p.cells; have := h.ok.cells; omega
    have e : p.drop 0 (n : Int) c.gen = ((c.v, true), ⟨p.cells.set n ⟨0, c.gen, false⟩, p.free ++ [(n : Int)], p.cap, p.held - 1, IntKind.i64.wrap (p.vis + 1)⟩) := by
      unfold Pool.drop; rw [hl]; simp only [hgm, cond_true, hh, Int.toNat_natCast]
    rw [e]
    refine ⟨[(n : Int)] ++ free, h.dropY hg hlv _, ?_⟩
    have := rdropY (free := free) (cap := p.cap) (vis := p.vis) h.len hlen hg hlv (h.val n c hg hlv) (by omega) (by have := h.ok.free; have h2 := congrArg List.length h.fr; rw [List.length_reverse] at h2; omega) k
    have e1 : (p.cells.set n ⟨0, c.gen, false⟩).map (fun x => x.gen) = p.cells.map (fun x => x.gen) := map_set_same (fun x : Cell Int => x.gen) hg rfl
    have e2 : (p.cells.set n ⟨0, c.gen, false⟩).map (fun x => x.live) = (p.cells.map (fun x => x.live)).set n false := List.map_set
    simp only [mtok, rtok, rpoolC]
    rw [e1, e2]
    exact this
theorem rel_len {i : Nat} {p : Pool Int} {V free : List Int} (h : RInv i p V free) (hi : i < 100) (k : Nat) : SCon Try.prog 34 [SV.p k 0] [(k, mtok k p V free)] (SV.i p.held) [(k, mtok k p V free)] [] := by
  have hlen : p.cells.length < 4294967296 := by have := h.ok.cells; omega
  rw [h.held]; exact rlen h.len hlen k

theorem ref_con' (l : List Rf) (a : ActI) (hl : l.length < 100) (k : Nat) : SCon Try.prog 28 [.a (.c (.nv k)), .a (.agg ((actE a).map .v))] [(k, lrow k 40 refE 2 l)] (.agg [.i (refOf l a).1, .i (refOf l a).2]) [(k, lrow k 40 refE 2 l)] [] :=
  SCon.ren (rn [(1, k)]) (ref_con l a hl) ⟨lrow_ren rfl, trivial⟩ ⟨lrow_ren rfl, trivial⟩ (by simp) (by simp)
structure AcS (l : List ActI) where
  i : Nat
  p : Pool Int
  V : List Int
  free : List Int
  told : List Rf
  hi : i ≤ l.length
  hv : RInv i p V free
  ht : told.length ≤ i
structure AcJ (i : Nat) where
  p : Pool Int
  V : List Int
  free : List Int
  told : List Rf
  hv : RInv (i + 1) p V free
  ht : told.length ≤ i + 1
theorem acts_con (n0 : Nat) (W0 : World) (s0 : Value) (b0 o0 : Nat) (cap0 : Int) (l : List ActI) (hI : (hV 0 n0 W0 s0 b0 o0 l.length 5 (l.flatMap actE)).Is actE l) : SCon Try.prog 6 [SV.i cap0, SV.raw s0] [(0, old n0 W0)] (SV.b true) [(0, old n0 W0)] [] := by
  refine spec_of [(0, _), (1, _)] [(0, _)] 172 Try.func6 rfl Try.ntmps6 rfl rfl rfl rfl (fun β W F => ?_)
  refine G.seq ?_
  refine G.rg ?_
  refine K.move (.inr rfl) (gd0 rfl) rfl rfl ?_
  refine K.nil ?_
  refine At.next ?_
  refine G.seq ?_
  refine G.seq ?_
  refine G.rg ?_
  refine K.call0 [(.func 11, _)] (awake03) (toFn_func (cf 11 rfl) rfl) (gd0 rfl) ⟨rfl, trivial⟩ trivial rfl rfl rfl rfl rfl rfl ?_
  refine K.un (gd0 rfl) rfl (fun _ => rfl) rfl ?_
  refine K.move (.inl rfl) (gd0 rfl) rfl rfl ?_
  refine K.move (.inl rfl) (gd1 rfl rfl rfl (rfl)) rfl rfl ?_
  refine K.lenL (hV 0 n0 W0 s0 b0 o0 l.length 5 (l.flatMap actE)) hI (gd1 rfl rfl rfl (rfl)) rfl rfl Try.underlying55 rfl ?_
  refine K.bin (gd1 rfl rfl rfl (rfl)) rfl rfl (fun _ => rfl) rfl ?_
  refine K.pickF (gd0 rfl) rfl (rfl) rfl rfl ?_
  refine K.nil ?_
  refine At.next ?_
  refine G.cond rfl (fun h2 => ?_) (fun h2 => ?_)
  ·
    refine G.seq ?_
    refine G.rg ?_
    refine K.call0 [(.func 11, _)] (awake03) (toFn_func (cf 11 rfl) rfl) (gd0 rfl) ⟨rfl, trivial⟩ trivial rfl rfl rfl rfl rfl rfl ?_
    refine K.move (.inr rfl) (gd0 rfl) rfl rfl ?_
    refine K.nil ?_
    refine At.next ?_
    refine G.ret ?_
    refine At.over_ret ?_
    refine At.done Y [(.tmp 4, .c _)] rfl ⟨.tmp rfl, trivial⟩ (to' := [(0, _)]) ⟨rfl, trivial⟩ ?_ ?_ rfl rfl rfl (.inl rfl)
    · rfl
    · rfl
  ·
    refine G.skip ?_
    refine At.next ?_
    refine G.seq ?_
    have h60 : l.length ≤ 60 := by simp [IntKind.wrap_i64] at * <;> omega
    refine G.rg ?_
    refine K.move (.inl rfl) (gd0 rfl) rfl rfl ?_
    refine K.call0 [(.func 23, _), ((.tmp 30), _)] (newI _ 131) (toFn_func (cf 23 rfl) rfl) (gd0 rfl) ⟨rfl, rfl, trivial⟩ trivial rfl rfl rfl rfl rfl rfl ?_
    refine K.move (.inr rfl) (gd0 rfl) rfl rfl ?_
    refine K.nil ?_
    refine At.next ?_
    refine G.seq ?_
    refine G.rg ?_
    refine K.move (.inl rfl) (gd0 rfl) rfl rfl ?_
    refine K.call0 [(.func 14, _), ((.tmp 32), _)] (refnew _ 133) (toFn_func (cf 14 rfl) rfl) (gd0 rfl) ⟨rfl, rfl, trivial⟩ trivial rfl rfl rfl rfl rfl rfl ?_
    refine K.move (.inr rfl) (gd0 rfl) rfl rfl ?_
    refine K.nil ?_
    refine At.next ?_
    refine G.seq ?_
    refine G.ent [(133, _)] [(133, obj 133 29 (rpoolC [] [] [] _ _ 3 4))] [] (obj_nil (rpoolC [] [] [] _ _ 3 4) rfl) ⟨rfl, trivial⟩ rfl rfl rfl rfl ?_
    refine G.rg ?_
    refine K.nilRow 107 40 refE 2 (.inl rfl) (gd0 rfl) rfl rfl rfl ?_
    refine K.nil ?_
    refine At.next ?_
    refine G.seq ?_
    refine G.seq ?_
    refine G.rg ?_
    refine K.move (.inr rfl) (gd0 rfl) rfl rfl ?_
    refine K.nil ?_
    refine At.next ?_
    refine G.block ?_
    refine G.loop (σ := AcS l) (fun s => [(1, SV.raw s0), (5, SV.p 131 0), (6, SV.p 133 0), (7, .a (.c (.nv 50))), (8, SV.i s.i)]) (fun s => [(0, old n0 W0), (131, poolI 131 s.p), (133, mtok 133 s.p s.V s.free), (50, lrow 50 40 refE 2 s.told)]) (fun s => l.length - s.i) ⟨0, ⟨[], [], capOf cap0, 0, 0⟩, [], [], [], Nat.zero_le _, RInv.start _, Nat.le_refl _⟩ ?_ ?_
    · exact At.into [(50, 107)] [_, _, _, _] rfl ⟨rfl, rfl, rfl, rfl, rfl, trivial⟩ ⟨rfl, (fun _ => rfl), rfl, (pool_ren rfl), rfl, (obj_ren rfl), rfl, (lrow_ren rfl), trivial⟩ rfl
    · intro s
      obtain ⟨i, p, V, free, told, hi, hv, ht⟩ := s
      simp only
      refine G.seq ?_
      refine G.seq ?_
      refine G.rg ?_
      refine K.move (.inl rfl) (gd0 rfl) rfl rfl ?_
      refine K.move (.inl rfl) (gd0 rfl) rfl rfl ?_
      refine K.lenL (hV 0 n0 W0 s0 b0 o0 l.length 5 (l.flatMap actE)) hI (gd0 rfl) rfl rfl Try.underlying55 rfl ?_
      refine K.bin (gd0 rfl) rfl rfl (fun _ => rfl) rfl ?_
      refine K.nil ?_
      refine At.next ?_
      refine G.cond rfl (fun h3 => ?_) (fun h3 => ?_)
      ·
        refine G.skip ?_
        refine At.next ?_
        refine G.seq ?_
        refine G.block ?_
        refine G.seq ?_
        have hlt : i < l.length := by simp [IntKind.wrap_i64] at * <;> omega
        obtain ⟨x, hx⟩ : ∃ x, l[i]? = some x := ⟨_, List.getElem?_eq_getElem hlt⟩
        refine G.rg ?_
        refine K.move (.inl rfl) (gd0 rfl) rfl rfl ?_
        refine K.move (.inl rfl) (gd0 rfl) rfl rfl ?_
        refine K.move (.inl rfl) (gd0 rfl) rfl rfl ?_
        refine K.idxL (hV 0 n0 W0 s0 b0 o0 l.length 5 (l.flatMap actE)) i hI hx rfl (gd0 rfl) rfl rfl rfl Try.underlying55 el55.size_run rfl ?_
        refine K.loadSL Y (hV 0 n0 W0 s0 b0 o0 l.length 5 (l.flatMap actE)) i 0 [_, _, _, _, _] [_, _, _, _, _] hI hx (gd0 rfl) rfl rfl t58 rfl rfl rfl rfl rfl ?_
        refine K.callR [(.func 28, _), ((.tmp 40), _), ((.tmp 44), _)] (ref_con' _ x (by omega) 50) (toFn_func (cf 28 rfl) rfl) (gd0 rfl) ⟨rfl, rfl, rfl, trivial⟩ ⟨rfl, trivial⟩ rfl rfl rfl ?_
        refine K.alloc Y 109 [_, _] (gd0 rfl) t40 rfl rfl rfl rfl rfl ?_
        refine K.store Y [_, _] (gd0 rfl) rfl rfl rfl t40 rfl rfl rfl rfl rfl ?_
        refine K.nil ?_
        refine At.next ?_
        refine G.seqJ (σ := AcJ i) (fun s => [(1, SV.raw s0), (5, SV.p 131 0), (6, SV.p 133 0), (7, .a (.c (.nv 60))), (8, SV.i i)]) (fun s => [(0, old n0 W0), (131, poolI 131 s.p), (133, mtok 133 s.p s.V s.free), (60, lrow 60 40 refE 2 s.told)]) ?_ ?_
        ·
          refine G.seq ?_
          refine G.rg ?_
          refine K.move (.inl rfl) (gd0 rfl) rfl rfl ?_
          refine K.move (.inl rfl) (gd0 rfl) rfl rfl ?_
          refine K.idxL (hV 0 n0 W0 s0 b0 o0 l.length 5 (l.flatMap actE)) i hI hx rfl (gd0 rfl) rfl rfl rfl Try.underlying55 el55.size_run rfl ?_
          refine K.fieldL Y (hV 0 n0 W0 s0 b0 o0 l.length 5 (l.flatMap actE)) i 0 0 hI hx (gd0 rfl) rfl rfl t58 rfl rfl rfl rfl ?_
          refine K.load1L Y (hV 0 n0 W0 s0 b0 o0 l.length 5 (l.flatMap actE)) i 0 hI hx (gd0 rfl) rfl rfl t3 rfl rfl ?_
          refine K.call0 [(.func 19, _), ((.tmp 50), _), (_, _)] (rest_con _ _ (by omega) (by omega)) (toFn_func (cf 19 rfl) rfl) (gd0 rfl) ⟨rfl, rfl, rfl, trivial⟩ trivial rfl rfl rfl rfl rfl rfl ?_
          refine K.nil ?_
          refine At.next ?_
          refine G.block ?_
          refine G.seq ?_
          refine G.rg ?_
          refine K.bin (gd0 rfl) rfl rfl (fun _ => rfl) rfl ?_
          refine K.move (.inr rfl) (gd0 rfl) rfl rfl ?_
          refine K.nil ?_
          refine At.next ?_
          refine G.cond rfl (fun h4 => ?_) (fun h4 => ?_)
          ·
            refine G.seq ?_
            refine G.rg ?_
            refine K.move (.inl rfl) (gd0 rfl) rfl rfl ?_
            refine K.move (.inl rfl) (gd0 rfl) rfl rfl ?_
            refine K.move (.inl rfl) (gd0 rfl) rfl rfl ?_
            refine K.idxL (hV 0 n0 W0 s0 b0 o0 l.length 5 (l.flatMap actE)) i hI hx rfl (gd0 rfl) rfl rfl rfl Try.underlying55 el55.size_run rfl ?_
            refine K.fieldL Y (hV 0 n0 W0 s0 b0 o0 l.length 5 (l.flatMap actE)) i 0 1 hI hx (gd0 rfl) rfl rfl t58 rfl rfl rfl rfl ?_
            refine K.load1L Y (hV 0 n0 W0 s0 b0 o0 l.length 5 (l.flatMap actE)) i 1 hI hx (gd0 rfl) rfl rfl t3 rfl rfl ?_
            refine K.call0 [(.func 24, _), ((.tmp 55), _), ((.tmp 60), _)] (putI _ _ hv.ok (by omega) 131) (toFn_func (cf 24 rfl) rfl) (gd0 rfl) ⟨rfl, rfl, rfl, trivial⟩ ⟨rfl, trivial⟩ rfl rfl rfl rfl rfl rfl ?_
            refine K.move (.inl rfl) (gd0 rfl) rfl rfl ?_
            refine K.extract (gd0 rfl) rfl rfl rfl ?_
            refine K.extract (gd0 rfl) rfl rfl rfl ?_
            refine K.alloc Y 110 [_, _] (gd0 rfl) t40 rfl rfl rfl rfl rfl ?_
            refine K.store Y [_, _] (gd0 rfl) rfl rfl rfl t40 rfl rfl rfl rfl rfl ?_
            refine K.move (.inr rfl) (gd0 rfl) rfl rfl ?_
            refine K.nil ?_
            refine At.next ?_
            refine G.seq ?_
            obtain ⟨V2, free2, hv2, hput⟩ := rel_put hv (by omega) x.v 133
            refine G.rg ?_
            refine K.move (.inl rfl) (gd0 rfl) rfl rfl ?_
            refine K.move (.inl rfl) (gd0 rfl) rfl rfl ?_
            refine K.move (.inl rfl) (gd0 rfl) rfl rfl ?_
            refine K.idxL (hV 0 n0 W0 s0 b0 o0 l.length 5 (l.flatMap actE)) i hI hx rfl (gd0 rfl) rfl rfl rfl Try.underlying55 el55.size_run rfl ?_
            refine K.fieldL Y (hV 0 n0 W0 s0 b0 o0 l.length 5 (l.flatMap actE)) i 0 1 hI hx (gd0 rfl) rfl rfl t58 rfl rfl rfl rfl ?_
            refine K.load1L Y (hV 0 n0 W0 s0 b0 o0 l.length 5 (l.flatMap actE)) i 1 hI hx (gd0 rfl) rfl rfl t3 rfl rfl ?_
            refine K.call0 [(.func 29, _), ((.tmp 65), _), ((.tmp 70), _)] (hput) (toFn_func (cf 29 rfl) rfl) (gd0 rfl) ⟨rfl, rfl, rfl, trivial⟩ ⟨rfl, trivial⟩ rfl rfl rfl rfl rfl rfl ?_
            refine K.move (.inl rfl) (gd0 rfl) rfl rfl ?_
            refine K.extract (gd0 rfl) rfl rfl rfl ?_
            refine K.extract (gd0 rfl) rfl rfl rfl ?_
            refine K.alloc Y 112 [_, _] (gd0 rfl) t40 rfl rfl rfl rfl rfl ?_
            refine K.store Y [_, _] (gd0 rfl) rfl rfl rfl t40 rfl rfl rfl rfl rfl ?_
            refine K.move (.inr rfl) (gd0 rfl) rfl rfl ?_
            refine K.nil ?_
            refine At.next ?_
            refine G.seq ?_
            refine G.seq ?_
            refine G.rg ?_
            refine K.loadS Y [_, _] (gd0 rfl) rfl rfl t40 rfl rfl rfl ?_
            refine K.loadS Y [_, _] (gd0 rfl) rfl rfl t40 rfl rfl rfl ?_
            refine K.eqS [_, _] [_, _] (gd0 rfl) rfl rfl cmp40 rfl (.inr rfl) _ rfl rfl ?_
            refine K.move (.inl rfl) (gd0 rfl) rfl rfl ?_
            refine K.move (.inl rfl) (gd1 rfl rfl rfl (by simp)) rfl rfl ?_
            refine K.move (.inl rfl) (gd1 rfl rfl rfl (by simp)) rfl rfl ?_
            refine K.bin (gd1 rfl rfl rfl (by simp)) rfl rfl (bq_neq Try.underlying4 _ _) rfl ?_
            refine K.pickF (gd0 rfl) rfl (by simp) rfl rfl ?_
            refine K.nil ?_
            refine At.next ?_
            refine G.cond rfl (fun h6 => ?_) (fun h6 => ?_)
            · exact absurd h6 (by simp)
            ·
              refine G.skip ?_
              refine At.next ?_
              refine G.rg ?_
              refine K.move (.inl rfl) (gd0 rfl) rfl rfl ?_
              refine K.loadS Y [_, _] (gd0 rfl) rfl rfl t40 rfl rfl rfl ?_
              refine K.buildL Y 184 [_] [(0, _)] [((.tmp 83), _)] refE_len (gd0 rfl) (AllE.spec ⟨rfl, trivial⟩) rfl rfl Try.underlying38 t40 rfl rfl rfl rfl rfl rfl rfl rfl ?_
              refine K.appendL 185 (lrowV 184 40 refE 2 _) _ el38 (lrowV_is refE_len (by decide)) refE_one (gd0 rfl) rfl rfl rfl rfl rfl (by simp [maxLen]; omega) (by simp; omega) rfl rfl rfl rfl rfl rfl ?_
              refine K.move (.inr rfl) (gd0 rfl) rfl rfl ?_
              refine K.nil ?_
              refine At.block_normal ?_
              exact At.joined (σ := AcJ i) (Fs := fun s => [(1, SV.raw s0), (5, SV.p 131 0), (6, SV.p 133 0), (7, .a (.c (.nv 60))), (8, SV.i i)]) (Tl := fun s => [(0, old n0 W0), (131, poolI 131 s.p), (133, mtok 133 s.p s.V s.free), (60, lrow 60 40 refE 2 s.told)]) ⟨_, _, _, _, hv2, (by simp; omega)⟩ [(60, 185)] [_, _, _, _] rfl ⟨rfl, rfl, rfl, rfl, rfl, trivial⟩ ⟨rfl, (fun _ => rfl), rfl, (pool_ren rfl), rfl, (obj_ren rfl), rfl, (lrow_ren rfl), trivial⟩ rfl
          ·
            refine G.seq ?_
            refine G.rg ?_
            refine K.bin (gd0 rfl) rfl rfl (fun _ => rfl) rfl ?_
            refine K.move (.inr rfl) (gd0 rfl) rfl rfl ?_
            refine K.nil ?_
            refine At.next ?_
            refine G.cond rfl (fun h7 => ?_) (fun h7 => ?_)
            ·
              refine G.seq ?_
              refine G.rg ?_
              refine K.move (.inl rfl) (gd0 rfl) rfl rfl ?_
              refine K.loadS Y [_, _] (gd0 rfl) rfl rfl t40 rfl rfl rfl ?_
              refine K.call0 [(.func 26, _), ((.tmp 89), _), ((.tmp 90), _)] (getI' _ _ _ hv.ok (by omega) 131) (toFn_func (cf 26 rfl) rfl) (gd0 rfl) ⟨rfl, rfl, rfl, trivial⟩ ⟨rfl, trivial⟩ rfl rfl rfl rfl rfl rfl ?_
              refine K.move (.inl rfl) (gd0 rfl) rfl rfl ?_
              refine K.extract (gd0 rfl) rfl rfl rfl ?_
              refine K.extract (gd0 rfl) rfl rfl rfl ?_
              refine K.move (.inr rfl) (gd0 rfl) rfl rfl ?_
              refine K.move (.inr rfl) (gd0 rfl) rfl rfl ?_
              refine K.nil ?_
              refine At.next ?_
              refine G.seq ?_
              obtain ⟨hv2, hget⟩ := rel_get hv (by omega) (refOf told x).1 (refOf told x).2 133
              refine G.rg ?_
              refine K.move (.inl rfl) (gd0 rfl) rfl rfl ?_
              refine K.loadS Y [_, _] (gd0 rfl) rfl rfl t40 rfl rfl rfl ?_
              refine K.call0 [(.func 30, _), ((.tmp 95), _), ((.tmp 96), _)] (hget) (toFn_func (cf 30 rfl) rfl) (gd0 rfl) ⟨rfl, rfl, rfl, trivial⟩ ⟨rfl, trivial⟩ rfl rfl rfl rfl rfl rfl ?_
              refine K.move (.inl rfl) (gd0 rfl) rfl rfl ?_
              refine K.extract (gd0 rfl) rfl rfl rfl ?_
              refine K.extract (gd0 rfl) rfl rfl rfl ?_
              refine K.move (.inr rfl) (gd0 rfl) rfl rfl ?_
              refine K.move (.inr rfl) (gd0 rfl) rfl rfl ?_
              refine K.nil ?_
              refine At.next ?_
              refine G.seq ?_
              refine G.rg ?_
              refine K.move (.inl rfl) (gd0 rfl) rfl rfl ?_
              refine K.move (.inl rfl) (gd0 rfl) rfl rfl ?_
              refine K.bin (gd0 rfl) rfl rfl (fun _ => rfl) rfl ?_
              refine K.move (.inl rfl) (gd0 rfl) rfl rfl ?_
              refine K.move (.inl rfl) (gd1 rfl rfl rfl (by simp)) rfl rfl ?_
              refine K.move (.inl rfl) (gd1 rfl rfl rfl (by simp)) rfl rfl ?_
              refine K.bin (gd1 rfl rfl rfl (by simp)) rfl rfl (bq_neq Try.underlying4 _ _) rfl ?_
              refine K.pickF (gd0 rfl) rfl (by simp) rfl rfl ?_
              refine K.nil ?_
              refine At.next ?_
              refine G.cond rfl (fun h9 => ?_) (fun h9 => ?_)
              · exact absurd h9 (by simp)
              ·
                refine G.skip ?_
                refine At.block_normal ?_
                exact At.joined (σ := AcJ i) (Fs := fun s => [(1, SV.raw s0), (5, SV.p 131 0), (6, SV.p 133 0), (7, .a (.c (.nv 60))), (8, SV.i i)]) (Tl := fun s => [(0, old n0 W0), (131, poolI 131 s.p), (133, mtok 133 s.p s.V s.free), (60, lrow 60 40 refE 2 s.told)]) ⟨_, _, _, _, hv2.mono, (by omega)⟩ [(60, 50)] [_, _, _, _] rfl ⟨rfl, rfl, rfl, rfl, rfl, trivial⟩ ⟨rfl, (fun _ => rfl), rfl, (pool_ren rfl), rfl, (obj_ren rfl), rfl, (lrow_ren rfl), trivial⟩ rfl
            ·
              refine G.seq ?_
              refine G.rg ?_
              refine K.bin (gd0 rfl) rfl rfl (fun _ => rfl) rfl ?_
              refine K.move (.inr rfl) (gd0 rfl) rfl rfl ?_
              refine K.nil ?_
              refine At.next ?_
              refine G.cond rfl (fun h10 => ?_) (fun h10 => ?_)
              ·
                refine G.seq ?_
                obtain ⟨V2, hv2, hset⟩ := rel_set hv (by omega) (refOf told x).1 (refOf told x).2 x.v 133
                refine G.rd mixed ?_
                refine K.move (.inl rfl) (gd0 rfl) rfl rfl ?_
                refine K.loadS Y [_, _] (gd0 rfl) rfl rfl t40 rfl rfl rfl ?_
                refine K.move (.inl rfl) (gd0 rfl) rfl rfl ?_
                refine K.move (.inl rfl) (gd0 rfl) rfl rfl ?_
                refine K.idxL (hV 0 n0 W0 s0 b0 o0 l.length 5 (l.flatMap actE)) i hI hx rfl (gd0 rfl) rfl rfl rfl Try.underlying55 el55.size_run rfl ?_
                refine K.fieldL Y (hV 0 n0 W0 s0 b0 o0 l.length 5 (l.flatMap actE)) i 0 1 hI hx (gd0 rfl) rfl rfl t58 rfl rfl rfl rfl ?_
                refine K.load1L Y (hV 0 n0 W0 s0 b0 o0 l.length 5 (l.flatMap actE)) i 1 hI hx (gd0 rfl) rfl rfl t3 rfl rfl ?_
                refine K.call0 [(.func 27, _), ((.tmp 110), _), ((.tmp 111), _), ((.tmp 116), _)] (setI' _ _ _ _ hv.ok (by omega) 131) (toFn_func (cf 27 rfl) rfl) (gd0 rfl) ⟨rfl, rfl, rfl, rfl, trivial⟩ ⟨rfl, trivial⟩ rfl rfl rfl rfl rfl rfl ?_
                refine K.move (.inl rfl) (gd0 rfl) rfl rfl ?_
                refine K.loadS Y [_, _] (gd0 rfl) rfl rfl t40 rfl rfl rfl ?_
                refine K.move (.inl rfl) (gd0 rfl) rfl rfl ?_
                refine K.move (.inl rfl) (gd0 rfl) rfl rfl ?_
                refine K.idxL (hV 0 n0 W0 s0 b0 o0 l.length 5 (l.flatMap actE)) i hI hx rfl (gd0 rfl) rfl rfl rfl Try.underlying55 el55.size_run rfl ?_
                refine K.fieldL Y (hV 0 n0 W0 s0 b0 o0 l.length 5 (l.flatMap actE)) i 0 1 hI hx (gd0 rfl) rfl rfl t58 rfl rfl rfl rfl ?_
                refine K.load1L Y (hV 0 n0 W0 s0 b0 o0 l.length 5 (l.flatMap actE)) i 1 hI hx (gd0 rfl) rfl rfl t3 rfl rfl ?_
                refine K.call0 [(.func 31, _), ((.tmp 118), _), ((.tmp 119), _), ((.tmp 124), _)] (hset) (toFn_func (cf 31 rfl) rfl) (gd0 rfl) ⟨rfl, rfl, rfl, rfl, trivial⟩ ⟨rfl, trivial⟩ rfl rfl rfl rfl rfl rfl ?_
                refine K.bin (gd0 rfl) rfl rfl (bq_neq Try.underlying4 _ _) rfl ?_
                refine K.nil ?_
                refine ⟨by kernel_rfl, ?_⟩
                refine At.next ?_
                refine G.cond rfl (fun h11 => ?_) (fun h11 => ?_)
                · exact absurd h11 (by simp)
                ·
                  refine G.skip ?_
                  refine At.block_normal ?_
                  exact At.joined (σ := AcJ i) (Fs := fun s => [(1, SV.raw s0), (5, SV.p 131 0), (6, SV.p 133 0), (7, .a (.c (.nv 60))), (8, SV.i i)]) (Tl := fun s => [(0, old n0 W0), (131, poolI 131 s.p), (133, mtok 133 s.p s.V s.free), (60, lrow 60 40 refE 2 s.told)]) ⟨_, _, _, _, hv2.mono, (by omega)⟩ [(60, 50)] [_, _, _, _] rfl ⟨rfl, rfl, rfl, rfl, rfl, trivial⟩ ⟨rfl, (fun _ => rfl), rfl, (pool_ren rfl), rfl, (obj_ren rfl), rfl, (lrow_ren rfl), trivial⟩ rfl
              ·
                refine G.seq ?_
                refine G.rg ?_
                refine K.bin (gd0 rfl) rfl rfl (fun _ => rfl) rfl ?_
                refine K.move (.inr rfl) (gd0 rfl) rfl rfl ?_
                refine K.nil ?_
                refine At.next ?_
                refine G.cond rfl (fun h12 => ?_) (fun h12 => ?_)
                ·
                  refine G.seq ?_
                  refine G.rg ?_
                  refine K.move (.inl rfl) (gd0 rfl) rfl rfl ?_
                  refine K.loadS Y [_, _] (gd0 rfl) rfl rfl t40 rfl rfl rfl ?_
                  refine K.call0 [(.func 25, _), ((.tmp 130), _), ((.tmp 131), _)] (dropI' _ _ _ hv.ok (by omega) 131) (toFn_func (cf 25 rfl) rfl) (gd0 rfl) ⟨rfl, rfl, rfl, trivial⟩ ⟨rfl, trivial⟩ rfl rfl rfl rfl rfl rfl ?_
                  refine K.move (.inl rfl) (gd0 rfl) rfl rfl ?_
                  refine K.extract (gd0 rfl) rfl rfl rfl ?_
                  refine K.extract (gd0 rfl) rfl rfl rfl ?_
                  refine K.move (.inr rfl) (gd0 rfl) rfl rfl ?_
                  refine K.move (.inr rfl) (gd0 rfl) rfl rfl ?_
                  refine K.nil ?_
                  refine At.next ?_
                  refine G.seq ?_
                  obtain ⟨free2, hv2, hdrop⟩ := rel_drop hv (by omega) (refOf told x).1 (refOf told x).2 133
                  refine G.rg ?_
                  refine K.move (.inl rfl) (gd0 rfl) rfl rfl ?_
                  refine K.loadS Y [_, _] (gd0 rfl) rfl rfl t40 rfl rfl rfl ?_
                  refine K.call0 [(.func 32, _), ((.tmp 136), _), ((.tmp 137), _)] (hdrop) (toFn_func (cf 32 rfl) rfl) (gd0 rfl) ⟨rfl, rfl, rfl, trivial⟩ ⟨rfl, trivial⟩ rfl rfl rfl rfl rfl rfl ?_
                  refine K.move (.inl rfl) (gd0 rfl) rfl rfl ?_
                  refine K.extract (gd0 rfl) rfl rfl rfl ?_
                  refine K.extract (gd0 rfl) rfl rfl rfl ?_
                  refine K.move (.inr rfl) (gd0 rfl) rfl rfl ?_
                  refine K.move (.inr rfl) (gd0 rfl) rfl rfl ?_
                  refine K.nil ?_
                  refine At.next ?_
                  refine G.seq ?_
                  refine G.rg ?_
                  refine K.move (.inl rfl) (gd0 rfl) rfl rfl ?_
                  refine K.move (.inl rfl) (gd0 rfl) rfl rfl ?_
                  refine K.bin (gd0 rfl) rfl rfl (fun _ => rfl) rfl ?_
                  refine K.move (.inl rfl) (gd0 rfl) rfl rfl ?_
                  refine K.move (.inl rfl) (gd1 rfl rfl rfl (by simp)) rfl rfl ?_
                  refine K.move (.inl rfl) (gd1 rfl rfl rfl (by simp)) rfl rfl ?_
                  refine K.bin (gd1 rfl rfl rfl (by simp)) rfl rfl (bq_neq Try.underlying4 _ _) rfl ?_
                  refine K.pickF (gd0 rfl) rfl (by simp) rfl rfl ?_
                  refine K.nil ?_
                  refine At.next ?_
                  refine G.cond rfl (fun h14 => ?_) (fun h14 => ?_)
                  · exact absurd h14 (by simp)
                  ·
                    refine G.skip ?_
                    refine At.block_normal ?_
                    exact At.joined (σ := AcJ i) (Fs := fun s => [(1, SV.raw s0), (5, SV.p 131 0), (6, SV.p 133 0), (7, .a (.c (.nv 60))), (8, SV.i i)]) (Tl := fun s => [(0, old n0 W0), (131, poolI 131 s.p), (133, mtok 133 s.p s.V s.free), (60, lrow 60 40 refE 2 s.told)]) ⟨_, _, _, _, hv2, (by omega)⟩ [(60, 50)] [_, _, _, _] rfl ⟨rfl, rfl, rfl, rfl, rfl, trivial⟩ ⟨rfl, (fun _ => rfl), rfl, (pool_ren rfl), rfl, (obj_ren rfl), rfl, (lrow_ren rfl), trivial⟩ rfl
                ·
                  refine G.skip ?_
                  refine At.block_normal ?_
                  exact At.joined (σ := AcJ i) (Fs := fun s => [(1, SV.raw s0), (5, SV.p 131 0), (6, SV.p 133 0), (7, .a (.c (.nv 60))), (8, SV.i i)]) (Tl := fun s => [(0, old n0 W0), (131, poolI 131 s.p), (133, mtok 133 s.p s.V s.free), (60, lrow 60 40 refE 2 s.told)]) ⟨_, _, _, _, hv.mono, (by omega)⟩ [(60, 50)] [_, _, _, _] rfl ⟨rfl, rfl, rfl, rfl, rfl, trivial⟩ ⟨rfl, (fun _ => rfl), rfl, (pool_ren rfl), rfl, (obj_ren rfl), rfl, (lrow_ren rfl), trivial⟩ rfl
        · intro s
          obtain ⟨p2, V2, free2, told2, hv2, ht2⟩ := s
          simp only
          have hlt : i < l.length := by simp [IntKind.wrap_i64] at * <;> omega
          refine G.seq ?_
          refine G.rd mixed ?_
          refine K.move (.inl rfl) (gd0 rfl) rfl rfl ?_
          refine K.callR [(.func 33, _), ((.tmp 149), _)] (lenI' _ 131) (toFn_func (cf 33 rfl) rfl) (gd0 rfl) ⟨rfl, rfl, trivial⟩ ⟨rfl, trivial⟩ rfl rfl rfl ?_
          refine K.move (.inl rfl) (gd0 rfl) rfl rfl ?_
          refine K.callR [(.func 34, _), ((.tmp 151), _)] (rel_len hv2 (by omega) 133) (toFn_func (cf 34 rfl) rfl) (gd0 rfl) ⟨rfl, rfl, trivial⟩ ⟨rfl, trivial⟩ rfl rfl rfl ?_
          refine K.bin (gd0 rfl) rfl rfl (fun _ => rfl) rfl ?_
          refine K.move (.inl rfl) (gd0 rfl) rfl rfl ?_
          refine K.move (.inl rfl) (gd1 rfl rfl rfl (by simp)) rfl rfl ?_
          refine K.callR [(.func 35, _), ((.tmp 155), _)] (capI' _ 131) (toFn_func (cf 35 rfl) rfl) (gd1 rfl rfl rfl (by simp)) ⟨rfl, rfl, trivial⟩ ⟨rfl, trivial⟩ rfl rfl rfl ?_
          refine K.move (.inl rfl) (gd1 rfl rfl rfl (by simp)) rfl rfl ?_
          refine K.nilCheck (gd1 rfl rfl rfl (by simp)) rfl rfl ?_
          refine K.fieldAddr Y (gd1 rfl rfl rfl (by simp)) rfl t29 rfl rfl ?_
          refine K.loadO Y (gd1 rfl rfl rfl (by simp)) rfl rfl t3 rfl rfl ?_
          refine K.bin (gd1 rfl rfl rfl (by simp)) rfl rfl (fun _ => rfl) rfl ?_
          refine K.pickF (gd0 rfl) rfl (by simp) rfl rfl ?_
          refine K.move (.inl rfl) (gd0 rfl) rfl rfl ?_
          refine K.move (.inl rfl) (gd1 rfl rfl rfl (by simp)) rfl rfl ?_
          refine K.callR [(.func 36, _), ((.tmp 164), _)] (visitsI' _ 131) (toFn_func (cf 36 rfl) rfl) (gd1 rfl rfl rfl (by simp)) ⟨rfl, rfl, trivial⟩ ⟨rfl, trivial⟩ rfl rfl rfl ?_
          refine K.move (.inl rfl) (gd1 rfl rfl rfl (by simp)) rfl rfl ?_
          refine K.nilCheck (gd1 rfl rfl rfl (by simp)) rfl rfl ?_
          refine K.fieldAddr Y (gd1 rfl rfl rfl (by simp)) rfl t29 rfl rfl ?_
          refine K.loadO Y (gd1 rfl rfl rfl (by simp)) rfl rfl t3 rfl rfl ?_
          refine K.bin (gd1 rfl rfl rfl (by simp)) rfl rfl (fun _ => rfl) rfl ?_
          refine K.pickF (gd0 rfl) rfl (by simp) rfl rfl ?_
          refine K.nil ?_
          refine ⟨by kernel_rfl, ?_⟩
          refine At.next ?_
          refine G.cond rfl (fun h17 => ?_) (fun h17 => ?_)
          · exact absurd h17 (by simp)
          ·
            refine G.skip ?_
            refine At.block_normal ?_
            refine At.next ?_
            refine G.rg ?_
            refine K.move (.inl rfl) (gd0 rfl) rfl rfl ?_
            refine K.bin (gd0 rfl) rfl rfl (fun _ => rfl) rfl ?_
            refine K.move (.inr rfl) (gd0 rfl) rfl rfl ?_
            refine K.nil ?_
            exact At.again (σ := AcS l) (Fs := fun s => [(1, SV.raw s0), (5, SV.p 131 0), (6, SV.p 133 0), (7, .a (.c (.nv 50))), (8, SV.i s.i)]) (Tl := fun s => [(0, old n0 W0), (131, poolI 131 s.p), (133, mtok 133 s.p s.V s.free), (50, lrow 50 40 refE 2 s.told)]) (μ := fun s => l.length - s.i) (s := ⟨i, p, V, free, told, hi, hv, ht⟩) ⟨i + 1, _, _, _, told2, hlt, hv2, ht2⟩ [(50, 60)] [_, _, _, _] (by simp only; omega) rfl ⟨rfl, rfl, rfl, rfl, (congrArg (fun x => some (SV.i x)) (by simp [IntKind.wrap_i64] at * <;> omega)), trivial⟩ ⟨rfl, (fun _ => rfl), rfl, (pool_ren rfl), rfl, (obj_ren rfl), rfl, (lrow_ren rfl), trivial⟩ rfl
      ·
        refine G.exit ?_
        refine At.over_exit ?_
        refine At.over_exit ?_
        refine At.block_hit ?_
        refine At.next ?_
        refine G.seq ?_
        refine G.rg ?_
        refine K.move (.inr rfl) (gd0 rfl) rfl rfl ?_
        refine K.nil ?_
        refine At.next ?_
        refine G.ret ?_
        refine At.done Y [(.tmp 4, .c _)] rfl ⟨.tmp rfl, trivial⟩ (to' := [(0, _)]) ⟨rfl, trivial⟩ ?_ ?_ rfl rfl rfl (.inl rfl)
        · rfl
        · rfl
end Go.Proofs.Ytgogiehpenfdpaa

/- Layer 6: the laws' walks. Printed by a program of mine. -/
import Derived.KernelRfl
import Derived.Test.YtheopcgjdfckmaaMta
namespace Go.Proofs.Ytheopcgjdfckmaa
open Go Go.Proofs.Ytheopcgjdfckmaa.Sx
set_option linter.unusedVariables false
set_option linter.unusedSimpArgs false
abbrev Lw18_awake_st (r : Bool) : Prop := SCon Try.prog 23 [] [] (.a (.c (.v (.bool r)))) [] []
theorem Lw18_awake_con0 {k : Nat}  {r : Bool}  (H0 : Lw18_awake.f k = some r) : Lw18_awake_st r := by
  rw [Lw18_awake.f] at H0
  refine spec_of [] [] 5 Try.func23 rfl Try.ntmps23 rfl rfl rfl rfl (fun β W F => ?_)
  refine G.seq ?_
  refine G.rg ?_
  refine K.move (.inr rfl) (gd0 rfl) rfl rfl ?_
  refine K.nil ?_
  refine At.next ?_
  refine G.seq ?_
  obtain ⟨x1, hx1, H0⟩ := bnd H0
  refine G.rg ?_
  refine K.buildL Y 100 ([49, 50, 51, 52, 53, 54, 55, 56, 57] : List Int) [(0, _), (1, _), (2, _), (3, _), (4, _), (5, _), (6, _), (7, _), (8, _)] [(_, _), (_, _), (_, _), (_, _), (_, _), (_, _), (_, _), (_, _), (_, _)] u8E_len (gd0 rfl) (AllE.spec ⟨rfl, rfl, rfl, rfl, rfl, rfl, rfl, rfl, rfl, trivial⟩) rfl rfl Try.underlying36 t5 rfl rfl rfl rfl rfl rfl rfl rfl ?_
  refine K.mark (k := 100) (l := ([49, 50, 51, 52, 53, 54, 55, 56, 57] : List Int)) rfl Try.underlying36 Try.underlying5 (gd0 rfl) rfl rfl rfl ?_
  refine K.cV (cf 24 rfl) [100] (fun β w S2 h => crc_Sum_con (k := k) ((mrowV_isC u8E_len (by decide)).larg ⟨_, List.mem_cons_self⟩ h) hx1) (gd0 rfl) (fun _ => rfl) rfl rfl rfl ?_
  refine K.bin (V := .bool (x1 == 3421780262)) (gd0 rfl) rfl rfl (fun _ => rfl) rfl ?_
  refine K.move (.inr rfl) (gd0 rfl) rfl rfl ?_
  refine K.nil ?_
  refine At.next ?_
  refine G.ret ?_
  exact At.dr Y [0] rfl rfl (by cases H0; rfl) (by cases H0; rfl) rfl rfl rfl
theorem Lw18_awake_con {k : Nat}  {r : Bool}  (H0 : Lw18_awake.f k = some r) : Lw18_awake_st r :=
  SCon.ren (rn []) (Lw18_awake_con0 (k := k)   H0) trivial trivial (by simp) (by simp)
abbrev Lw18_CrcMore_st (S : Foot) (W0 : World) (s0 : Value) (a1 : Int) (r : Bool) : Prop := SCon Try.prog 8 [SV.raw s0, .a (.c (.v (.int .i64 a1)))] [(0, rd S W0)] (.a (.c (.v (.bool r)))) [(0, rd S W0)] []
theorem Lw18_CrcMore_con0 {k : Nat}  {S : Foot} {W0 : World} {s0 : Value} {l0 : List Int} {a1 : Int} {r : Bool} (hL0 : LArg S W0 s0 u8E 1 l0) (H0 : Lw18_CrcMore.f k l0 a1 = some r) : Lw18_CrcMore_st S W0 s0 a1 r := by
  rw [Lw18_CrcMore.f] at H0
  obtain ⟨b0, o0, hI0⟩ := hL0
  refine spec_of [(0, _), (1, _)] [(0, _)] 37 Try.func8 rfl Try.ntmps8 rfl rfl rfl rfl (fun β W F => ?_)
  refine G.seq ?_
  refine G.rg ?_
  refine K.move (.inr rfl) (gd0 rfl) rfl rfl ?_
  refine K.nil ?_
  refine At.next ?_
  obtain ⟨x1, H1, H0⟩ := bnd H0
  refine G.sJ (σ := { v : Unit // x1 = Sum.inr v }) (fun q => [(0, SV.raw s0), (1, .a (.c (.v (.int .i64 a1))))]) (fun q => [(0, rd S W0)]) ?_ ?_
  ·
    refine G.seq ?_
    obtain ⟨x2, hx2, H1⟩ := bnd H1
    rcases Bool.eq_false_or_eq_true (!x2) with h1 | h1
    ·
      replace H1 := bif_t H1 h1
      refine G.rg ?_
      refine K.cR (cf 23 rfl) (Lw18_awake_con (k := k) hx2) (gd0 rfl) rfl rfl rfl rfl ?_
      refine K.un (V := .bool (!x2)) (gd0 rfl) rfl (fun _ => rfl) rfl ?_
      refine K.move (.inl rfl) (gd0 rfl) rfl rfl ?_
      refine K.skip rfl rfl rfl rfl (h1) rfl ?_
      refine K.skip rfl rfl rfl rfl (h1) rfl ?_
      refine K.skip rfl rfl rfl rfl (h1) rfl ?_
      refine K.pickT (gd0 rfl) rfl (h1) rfl rfl ?_
      refine K.nil ?_
      refine At.next ?_
      refine G.cond rfl (fun h2 => ?_) (fun h2 => ?_)
      ·
        refine G.seq ?_
        obtain ⟨x3, hx3, H1⟩ := bnd H1
        refine G.rg ?_
        refine K.cR (cf 23 rfl) (Lw18_awake_con (k := k) hx3) (gd0 rfl) rfl rfl rfl rfl ?_
        refine K.move (.inr rfl) (gd0 rfl) rfl rfl ?_
        refine K.nil ?_
        refine At.next ?_
        refine G.ret ?_
        refine At.over_ret ?_
        cases H1
        replace H0 := sum_l H0
        exact At.dr Y [4] rfl rfl (by cases H0; rfl) (by cases H0; rfl) rfl rfl rfl
      · cases h2
    ·
      replace H1 := bif_f H1 h1
      refine G.rg ?_
      refine K.cR (cf 23 rfl) (Lw18_awake_con (k := k) hx2) (gd0 rfl) rfl rfl rfl rfl ?_
      refine K.un (V := .bool (!x2)) (gd0 rfl) rfl (fun _ => rfl) rfl ?_
      refine K.move (.inl rfl) (gd0 rfl) rfl rfl ?_
      refine K.move (.inl rfl) (gd1 rfl rfl rfl (h1)) rfl rfl ?_
      refine K.lenL (rV 0 S W0 s0 b0 o0 u8E 1 l0) (hI0.is 0) (gd1 rfl rfl rfl (h1)) rfl rfl Try.underlying36 rfl ?_
      refine K.bin (V := .bool (decide ((l0.length : Int) > 2000))) (gd1 rfl rfl rfl (h1)) rfl rfl (fun _ => rfl) rfl ?_
      refine K.pickF (gd0 rfl) rfl (h1) rfl rfl ?_
      refine K.nil ?_
      refine At.next ?_
      refine G.cond rfl (fun h3 => ?_) (fun h3 => ?_)
      ·
        replace H1 := bif_t H1 h3
        refine G.seq ?_
        obtain ⟨x4, hx4, H1⟩ := bnd H1
        refine G.rg ?_
        refine K.cR (cf 23 rfl) (Lw18_awake_con (k := k) hx4) (gd0 rfl) rfl rfl rfl rfl ?_
        refine K.move (.inr rfl) (gd0 rfl) rfl rfl ?_
        refine K.nil ?_
        refine At.next ?_
        refine G.ret ?_
        refine At.over_ret ?_
        cases H1
        replace H0 := sum_l H0
        exact At.dr Y [4] rfl rfl (by cases H0; rfl) (by cases H0; rfl) rfl rfl rfl
      ·
        replace H1 := bif_f H1 h3
        refine G.skip ?_
        exact At.jd ⟨(), oi H1⟩ [] [_] rfl ⟨rfl, rfl, trivial⟩ ⟨rfl, (fun _ => rfl), trivial⟩ rfl
  ·
    rintro ⟨w1, rfl⟩
    replace H0 := sum_r H0
    show G _ _ [(0, SV.raw s0), (1, .a (.c (.v (.int .i64 a1))))] [(0, some (rd S W0))] _ _
    refine G.seq ?_
    obtain ⟨x5, hx5, H0⟩ := bnd H0
    refine G.rg ?_
    refine K.move (.inl rfl) (gd0 rfl) rfl rfl ?_
    refine K.move (.inl rfl) (gd0 rfl) rfl rfl ?_
    refine K.lenL (rV 0 S W0 s0 b0 o0 u8E 1 l0) (hI0.is 0) (gd0 rfl) rfl rfl Try.underlying36 rfl ?_
    refine K.bin (V := .int .i64 (w64 ((l0.length : Int) + 1))) (gd0 rfl) rfl rfl (fun _ => rfl) rfl ?_
    refine K.cR (cf 20 rfl) (R01_Rest_con (k := k) hx5) (gd0 rfl) rfl rfl rfl rfl ?_
    refine K.move (.inr rfl) (gd0 rfl) rfl rfl ?_
    refine K.nil ?_
    refine At.next ?_
    refine G.seq ?_
    obtain ⟨h4, H0⟩ := grd H0
    obtain ⟨x6, hx6, H0⟩ := bnd H0
    obtain ⟨h6, H0⟩ := grd H0
    obtain ⟨x7, hx7, H0⟩ := bnd H0
    obtain ⟨x8, hx8, H0⟩ := bnd H0
    rcases Bool.eq_false_or_eq_true (x7 == x8) with h8 | h8
    ·
      replace H0 := bif_t H0 h8
      obtain ⟨x9, hx9, H0⟩ := bnd H0
      obtain ⟨x10, hx10, H0⟩ := bnd H0
      refine G.rd mixed ?_
      refine K.move (.inl rfl) (gd0 rfl) rfl rfl ?_
      refine K.move (.inl rfl) (gd0 rfl) rfl rfl ?_
      refine K.partR 0 ((x5).toNat) hI0 (gd0 rfl) rfl .no (.at_ rfl h4.1 rfl) Try.underlying36 el36.size_run (Nat.zero_le _) (tn_len h4.2) rfl ?_
      refine K.cV (cf 24 rfl) [0] (fun β w S2 h => crc_Sum_con (k := k) (((hI0.part (Nat.zero_le _) (tn_len h4.2)).isC 0).larg ⟨_, List.mem_cons_self⟩ h) hx6) (gd0 rfl) (fun _ => rfl) rfl rfl rfl ?_
      refine K.move (.inl rfl) (gd0 rfl) rfl rfl ?_
      refine K.move (.inl rfl) (gd0 rfl) rfl rfl ?_
      refine K.partR ((x5).toNat) l0.length hI0 (gd0 rfl) rfl (.at_ rfl h6.1 rfl) .no Try.underlying36 el36.size_run (tn_len h6.2) (Nat.le_refl _) rfl ?_
      refine K.cV (cf 26 rfl) [0] (fun β w S2 h => crc_More_con (k := k) (((hI0.part (tn_len h6.2) (Nat.le_refl _)).isC 0).larg ⟨_, List.mem_cons_self⟩ h) hx7) (gd0 rfl) (fun _ => rfl) rfl rfl rfl ?_
      refine K.move (.inl rfl) (gd0 rfl) rfl rfl ?_
      refine K.cV (cf 24 rfl) [0] (fun β w S2 h => crc_Sum_con (k := k) ((hI0.isC 0).larg ⟨_, List.mem_cons_self⟩ h) hx8) (gd0 rfl) (fun _ => rfl) rfl rfl rfl ?_
      refine K.bin (V := .bool (x7 == x8)) (gd0 rfl) rfl rfl (fun _ => rfl) rfl ?_
      refine K.move (.inl rfl) (gd0 rfl) rfl rfl ?_
      refine K.move (.inl rfl) (gd1 rfl rfl rfl (h8)) rfl rfl ?_
      refine K.cV (cf 26 rfl) [0] (fun β w S2 h => crc_More_con (k := k) ((hI0.isC 0).larg ⟨_, List.mem_cons_self⟩ h) hx9) (gd1 rfl rfl rfl (h8)) (fun _ => rfl) rfl rfl rfl ?_
      refine K.move (.inl rfl) (gd1 rfl rfl rfl (h8)) rfl rfl ?_
      refine K.cV (cf 24 rfl) [0] (fun β w S2 h => crc_Sum_con (k := k) ((hI0.isC 0).larg ⟨_, List.mem_cons_self⟩ h) hx10) (gd1 rfl rfl rfl (h8)) (fun _ => rfl) rfl rfl rfl ?_
      refine K.bin (V := .bool (x9 == x10)) (gd1 rfl rfl rfl (h8)) rfl rfl (fun _ => rfl) rfl ?_
      refine K.pickT (gd0 rfl) rfl (h8) rfl rfl ?_
      refine K.move (.inr rfl) (gd0 rfl) rfl rfl ?_
      refine K.nil ?_
      refine ⟨by kernel_rfl, ?_⟩
      refine At.next ?_
      refine G.ret ?_
      exact At.dr Y [4] rfl rfl (by cases H0; rfl) (by cases H0; rfl) rfl rfl rfl
    ·
      replace H0 := bif_f H0 h8
      refine G.rd mixed ?_
      refine K.move (.inl rfl) (gd0 rfl) rfl rfl ?_
      refine K.move (.inl rfl) (gd0 rfl) rfl rfl ?_
      refine K.partR 0 ((x5).toNat) hI0 (gd0 rfl) rfl .no (.at_ rfl h4.1 rfl) Try.underlying36 el36.size_run (Nat.zero_le _) (tn_len h4.2) rfl ?_
      refine K.cV (cf 24 rfl) [0] (fun β w S2 h => crc_Sum_con (k := k) (((hI0.part (Nat.zero_le _) (tn_len h4.2)).isC 0).larg ⟨_, List.mem_cons_self⟩ h) hx6) (gd0 rfl) (fun _ => rfl) rfl rfl rfl ?_
      refine K.move (.inl rfl) (gd0 rfl) rfl rfl ?_
      refine K.move (.inl rfl) (gd0 rfl) rfl rfl ?_
      refine K.partR ((x5).toNat) l0.length hI0 (gd0 rfl) rfl (.at_ rfl h6.1 rfl) .no Try.underlying36 el36.size_run (tn_len h6.2) (Nat.le_refl _) rfl ?_
      refine K.cV (cf 26 rfl) [0] (fun β w S2 h => crc_More_con (k := k) (((hI0.part (tn_len h6.2) (Nat.le_refl _)).isC 0).larg ⟨_, List.mem_cons_self⟩ h) hx7) (gd0 rfl) (fun _ => rfl) rfl rfl rfl ?_
      refine K.move (.inl rfl) (gd0 rfl) rfl rfl ?_
      refine K.cV (cf 24 rfl) [0] (fun β w S2 h => crc_Sum_con (k := k) ((hI0.isC 0).larg ⟨_, List.mem_cons_self⟩ h) hx8) (gd0 rfl) (fun _ => rfl) rfl rfl rfl ?_
      refine K.bin (V := .bool (x7 == x8)) (gd0 rfl) rfl rfl (fun _ => rfl) rfl ?_
      refine K.move (.inl rfl) (gd0 rfl) rfl rfl ?_
      refine K.skip rfl rfl rfl rfl (h8) rfl ?_
      refine K.skip rfl rfl rfl rfl (h8) rfl ?_
      refine K.skip rfl rfl rfl rfl (h8) rfl ?_
      refine K.skip rfl rfl rfl rfl (h8) rfl ?_
      refine K.skip rfl rfl rfl rfl (h8) rfl ?_
      refine K.pickF (gd0 rfl) rfl (h8) rfl rfl ?_
      refine K.move (.inr rfl) (gd0 rfl) rfl rfl ?_
      refine K.nil ?_
      refine ⟨by kernel_rfl, ?_⟩
      refine At.next ?_
      refine G.ret ?_
      exact At.dr Y [4] rfl rfl (by cases H0; rfl) (by cases H0; rfl) rfl rfl rfl
theorem Lw18_CrcMore_con {k : Nat}  {S : Foot} {W0 : World} {s0 : Value} {l0 : List Int} {a1 : Int} {r : Bool} (hL0 : LArg S W0 s0 u8E 1 l0) (H0 : Lw18_CrcMore.f k l0 a1 = some r) : Lw18_CrcMore_st S W0 s0 a1 r :=
  SCon.ren (rn []) (Lw18_CrcMore_con0 (k := k)  hL0 H0) ⟨(fun _ => rfl), trivial⟩ ⟨(fun _ => rfl), trivial⟩ (by simp) (by simp)
abbrev Lw18_CrcSums_st (S : Foot) (W0 : World) (s0 : Value) (r : Bool) : Prop := SCon Try.prog 7 [SV.raw s0] [(0, rd S W0)] (.a (.c (.v (.bool r)))) [(0, rd S W0)] []
theorem Lw18_CrcSums_con0 {k : Nat}  {S : Foot} {W0 : World} {s0 : Value} {l0 : List Int} {r : Bool} (hL0 : LArg S W0 s0 u8E 1 l0) (H0 : Lw18_CrcSums.f k l0 = some r) : Lw18_CrcSums_st S W0 s0 r := by
  rw [Lw18_CrcSums.f] at H0
  obtain ⟨b0, o0, hI0⟩ := hL0
  refine spec_of [(0, _)] [(0, _)] 25 Try.func7 rfl Try.ntmps7 rfl rfl rfl rfl (fun β W F => ?_)
  refine G.seq ?_
  refine G.rg ?_
  refine K.move (.inr rfl) (gd0 rfl) rfl rfl ?_
  refine K.nil ?_
  refine At.next ?_
  obtain ⟨x1, H1, H0⟩ := bnd H0
  refine G.sJ (σ := { v : Unit // x1 = Sum.inr v }) (fun q => [(0, SV.raw s0)]) (fun q => [(0, rd S W0)]) ?_ ?_
  ·
    refine G.seq ?_
    obtain ⟨x2, hx2, H1⟩ := bnd H1
    rcases Bool.eq_false_or_eq_true (!x2) with h1 | h1
    ·
      replace H1 := bif_t H1 h1
      refine G.rg ?_
      refine K.cR (cf 23 rfl) (Lw18_awake_con (k := k) hx2) (gd0 rfl) rfl rfl rfl rfl ?_
      refine K.un (V := .bool (!x2)) (gd0 rfl) rfl (fun _ => rfl) rfl ?_
      refine K.move (.inl rfl) (gd0 rfl) rfl rfl ?_
      refine K.skip rfl rfl rfl rfl (h1) rfl ?_
      refine K.skip rfl rfl rfl rfl (h1) rfl ?_
      refine K.skip rfl rfl rfl rfl (h1) rfl ?_
      refine K.pickT (gd0 rfl) rfl (h1) rfl rfl ?_
      refine K.nil ?_
      refine At.next ?_
      refine G.cond rfl (fun h2 => ?_) (fun h2 => ?_)
      ·
        refine G.seq ?_
        obtain ⟨x3, hx3, H1⟩ := bnd H1
        refine G.rg ?_
        refine K.cR (cf 23 rfl) (Lw18_awake_con (k := k) hx3) (gd0 rfl) rfl rfl rfl rfl ?_
        refine K.move (.inr rfl) (gd0 rfl) rfl rfl ?_
        refine K.nil ?_
        refine At.next ?_
        refine G.ret ?_
        refine At.over_ret ?_
        cases H1
        replace H0 := sum_l H0
        exact At.dr Y [2] rfl rfl (by cases H0; rfl) (by cases H0; rfl) rfl rfl rfl
      · cases h2
    ·
      replace H1 := bif_f H1 h1
      refine G.rg ?_
      refine K.cR (cf 23 rfl) (Lw18_awake_con (k := k) hx2) (gd0 rfl) rfl rfl rfl rfl ?_
      refine K.un (V := .bool (!x2)) (gd0 rfl) rfl (fun _ => rfl) rfl ?_
      refine K.move (.inl rfl) (gd0 rfl) rfl rfl ?_
      refine K.move (.inl rfl) (gd1 rfl rfl rfl (h1)) rfl rfl ?_
      refine K.lenL (rV 0 S W0 s0 b0 o0 u8E 1 l0) (hI0.is 0) (gd1 rfl rfl rfl (h1)) rfl rfl Try.underlying36 rfl ?_
      refine K.bin (V := .bool (decide ((l0.length : Int) > 2000))) (gd1 rfl rfl rfl (h1)) rfl rfl (fun _ => rfl) rfl ?_
      refine K.pickF (gd0 rfl) rfl (h1) rfl rfl ?_
      refine K.nil ?_
      refine At.next ?_
      refine G.cond rfl (fun h3 => ?_) (fun h3 => ?_)
      ·
        replace H1 := bif_t H1 h3
        refine G.seq ?_
        obtain ⟨x4, hx4, H1⟩ := bnd H1
        refine G.rg ?_
        refine K.cR (cf 23 rfl) (Lw18_awake_con (k := k) hx4) (gd0 rfl) rfl rfl rfl rfl ?_
        refine K.move (.inr rfl) (gd0 rfl) rfl rfl ?_
        refine K.nil ?_
        refine At.next ?_
        refine G.ret ?_
        refine At.over_ret ?_
        cases H1
        replace H0 := sum_l H0
        exact At.dr Y [2] rfl rfl (by cases H0; rfl) (by cases H0; rfl) rfl rfl rfl
      ·
        replace H1 := bif_f H1 h3
        refine G.skip ?_
        exact At.jd ⟨(), oi H1⟩ [] [_] rfl ⟨rfl, trivial⟩ ⟨rfl, (fun _ => rfl), trivial⟩ rfl
  ·
    rintro ⟨w1, rfl⟩
    replace H0 := sum_r H0
    show G _ _ [(0, SV.raw s0)] [(0, some (rd S W0))] _ _
    refine G.seq ?_
    refine G.rg ?_
    refine K.move (.inl rfl) (gd0 rfl) rfl rfl ?_
    refine K.bstr (rV 0 S W0 s0 b0 o0 u8E 1 l0) (hI0.is 0) (gd0 rfl) rfl rfl Try.underlying36 Try.underlying5 Try.underlying9 rfl ?_
    refine K.move (.inr rfl) (gd0 rfl) rfl rfl ?_
    refine K.nil ?_
    refine At.next ?_
    refine G.seq ?_
    obtain ⟨x5, hx5, H0⟩ := bnd H0
    obtain ⟨x6, hx6, H0⟩ := bnd H0
    rcases Bool.eq_false_or_eq_true (x5 == x6) with h4 | h4
    ·
      replace H0 := bif_t H0 h4
      refine G.rg ?_
      refine K.move (.inl rfl) (gd0 rfl) rfl rfl ?_
      refine K.cV (cf 24 rfl) [0] (fun β w S2 h => crc_Sum_con (k := k) ((hI0.isC 0).larg ⟨_, List.mem_cons_self⟩ h) hx5) (gd0 rfl) (fun _ => rfl) rfl rfl rfl ?_
      refine K.move (.inl rfl) (gd0 rfl) rfl rfl ?_
      refine K.cR (cf 25 rfl) (R18_Sum_con (k := k) hx6) (gd0 rfl) rfl rfl rfl rfl ?_
      refine K.bin (V := .bool (x5 == x6)) (gd0 rfl) rfl rfl (fun _ => rfl) rfl ?_
      refine K.move (.inl rfl) (gd0 rfl) rfl rfl ?_
      refine K.move (.inl rfl) (gd1 rfl rfl rfl (h4)) rfl rfl ?_
      refine K.bstr (rV 0 S W0 s0 b0 o0 u8E 1 l0) (hI0.is 0) (gd1 rfl rfl rfl (h4)) rfl rfl Try.underlying36 Try.underlying5 Try.underlying9 rfl ?_
      refine K.move (.inl rfl) (gd1 rfl rfl rfl (h4)) rfl rfl ?_
      refine K.bin (V := .bool (gseq (strOfNums l0) (strOfNums l0))) (gd1 rfl rfl rfl (h4)) rfl rfl (st_eql _ _ _ _ _) rfl ?_
      refine K.pickT (gd0 rfl) rfl (h4) rfl rfl ?_
      refine K.move (.inr rfl) (gd0 rfl) rfl rfl ?_
      refine K.nil ?_
      refine At.next ?_
      refine G.ret ?_
      exact At.dr Y [2] rfl rfl (by cases H0; rfl) (by cases H0; rfl) rfl rfl rfl
    ·
      replace H0 := bif_f H0 h4
      refine G.rg ?_
      refine K.move (.inl rfl) (gd0 rfl) rfl rfl ?_
      refine K.cV (cf 24 rfl) [0] (fun β w S2 h => crc_Sum_con (k := k) ((hI0.isC 0).larg ⟨_, List.mem_cons_self⟩ h) hx5) (gd0 rfl) (fun _ => rfl) rfl rfl rfl ?_
      refine K.move (.inl rfl) (gd0 rfl) rfl rfl ?_
      refine K.cR (cf 25 rfl) (R18_Sum_con (k := k) hx6) (gd0 rfl) rfl rfl rfl rfl ?_
      refine K.bin (V := .bool (x5 == x6)) (gd0 rfl) rfl rfl (fun _ => rfl) rfl ?_
      refine K.move (.inl rfl) (gd0 rfl) rfl rfl ?_
      refine K.skip rfl rfl rfl rfl (h4) rfl ?_
      refine K.skip rfl rfl rfl rfl (h4) rfl ?_
      refine K.skip rfl rfl rfl rfl (h4) rfl ?_
      refine K.skip rfl rfl rfl rfl (h4) rfl ?_
      refine K.pickF (gd0 rfl) rfl (h4) rfl rfl ?_
      refine K.move (.inr rfl) (gd0 rfl) rfl rfl ?_
      refine K.nil ?_
      refine At.next ?_
      refine G.ret ?_
      exact At.dr Y [2] rfl rfl (by cases H0; rfl) (by cases H0; rfl) rfl rfl rfl
theorem Lw18_CrcSums_con {k : Nat}  {S : Foot} {W0 : World} {s0 : Value} {l0 : List Int} {r : Bool} (hL0 : LArg S W0 s0 u8E 1 l0) (H0 : Lw18_CrcSums.f k l0 = some r) : Lw18_CrcSums_st S W0 s0 r :=
  SCon.ren (rn []) (Lw18_CrcSums_con0 (k := k)  hL0 H0) ⟨(fun _ => rfl), trivial⟩ ⟨(fun _ => rfl), trivial⟩ (by simp) (by simp)
abbrev Lw19_awake_st (r : Bool) : Prop := SCon Try.prog 27 [] [] (.a (.c (.v (.bool r)))) [] []
theorem Lw19_awake_con0 {k : Nat}  {r : Bool}  (H0 : Lw19_awake.f k = some r) : Lw19_awake_st r := by
  rw [Lw19_awake.f] at H0
  refine spec_of [] [] 6 Try.func27 rfl Try.ntmps27 rfl rfl rfl rfl (fun β W F => ?_)
  refine G.seq ?_
  refine G.rg ?_
  refine K.move (.inr rfl) (gd0 rfl) rfl rfl ?_
  refine K.nil ?_
  refine At.next ?_
  refine G.seq ?_
  obtain ⟨x1, hx1, H0⟩ := bnd H0
  refine G.rg ?_
  refine K.buildL Y 100 ([] : List Int) [] [] u8E_len (gd0 rfl) (AllE.spec trivial) rfl rfl Try.underlying36 t5 rfl rfl rfl rfl rfl rfl rfl rfl ?_
  refine K.buildC Y 101 [(0, _)] [_] [((.tmp 1), _)] (gd0 rfl) (AllE.spec ⟨rfl, trivial⟩) rfl rfl Try.underlying44 t36 rfl rfl rfl rfl rfl rfl rfl rfl ?_
  refine K.cV (cf 30 rfl) [101, 100] (fun β w S2 h => frame_Put_con (k := k) (blk_ll 0 rfl h (by rfl) rfl (LLI.cons (la 1 rfl u8E_len rfl h) LLI.nil)) hx1 102 rfl) (gd0 rfl) (fun _ => rfl) rfl rfl rfl ?_
  refine K.bstr (lrowV 102 5 u8E 1 x1) (lrowV_is u8E_len (by decide)) (gd0 rfl) rfl rfl Try.underlying36 Try.underlying5 Try.underlying9 rfl ?_
  refine K.bin (V := .bool (gseq (strOfNums x1) (ByteArray.mk #[0, 0, 0, 0, 28, 223, 68, 33]))) (gd0 rfl) rfl rfl (st_eql _ _ _ _ _) rfl ?_
  refine K.move (.inr rfl) (gd0 rfl) rfl rfl ?_
  refine K.nil ?_
  refine At.next ?_
  refine G.ret ?_
  exact At.dr Y [0] rfl rfl (by cases H0; rfl) (by cases H0; rfl) rfl rfl rfl
theorem Lw19_awake_con {k : Nat}  {r : Bool}  (H0 : Lw19_awake.f k = some r) : Lw19_awake_st r :=
  SCon.ren (rn []) (Lw19_awake_con0 (k := k)   H0) trivial trivial (by simp) (by simp)
abbrev Lw19_small_st (S : Foot) (W0 : World) (s0 : Value) (r : Bool) : Prop := SCon Try.prog 28 [SV.raw s0] [(0, rd S W0)] (.a (.c (.v (.bool r)))) [(0, rd S W0)] []
theorem Lw19_small_con0 {k : Nat}  {S : Foot} {W0 : World} {s0 : Value} {l0 : List (List Int)} {r : Bool} (hL0 : LL S W0 s0 u8E 1 l0) (H0 : Lw19_small.f k l0 = some r) : Lw19_small_st S W0 s0 r := by
  rw [Lw19_small.f] at H0
  obtain ⟨vs0, ⟨b0, o0, hI0⟩, hin0⟩ := hL0
  refine spec_of [(0, _)] [(0, _)] 19 Try.func28 rfl Try.ntmps28 rfl rfl rfl rfl (fun β W F => ?_)
  refine G.seq ?_
  refine G.rg ?_
  refine K.move (.inr rfl) (gd0 rfl) rfl rfl ?_
  refine K.nil ?_
  refine At.next ?_
  refine G.seq ?_
  refine G.seq ?_
  refine G.rg ?_
  refine K.move (.inl rfl) (gd0 rfl) rfl rfl ?_
  refine K.lenE (rV 0 S W0 s0 b0 o0 vE 1 vs0) (l0.length : Int) (hI0.is 0) hin0.len (gd0 rfl) rfl rfl Try.underlying44 rfl ?_
  refine K.bin (V := .bool (decide ((l0.length : Int) > 20))) (gd0 rfl) rfl rfl (fun _ => rfl) rfl ?_
  refine K.nil ?_
  refine At.next ?_
  refine G.cond rfl (fun h1 => ?_) (fun h1 => ?_)
  ·
    replace H0 := bif_t H0 h1
    refine G.seq ?_
    refine G.rg ?_
    refine K.move (.inr rfl) (gd0 rfl) rfl rfl ?_
    refine K.nil ?_
    refine At.next ?_
    refine G.ret ?_
    refine At.over_ret ?_
    exact At.dr Y [2] rfl rfl (by cases H0; rfl) (by cases H0; rfl) rfl rfl rfl
  ·
    replace H0 := bif_f H0 h1
    refine G.skip ?_
    refine At.next ?_
    obtain ⟨x1, H1, H0⟩ := bnd H0
    refine G.sJ (σ := { v : Unit // x1 = Sum.inr v }) (fun q => []) (fun q => [(0, rd S W0)]) ?_ ?_
    ·
      refine G.seq ?_
      refine G.rg ?_
      refine K.move (.inr rfl) (gd0 rfl) rfl rfl ?_
      refine K.nil ?_
      refine At.next ?_
      refine G.block ?_
      refine G.lp (σ := { q : Nat × (Int) // Lw19_small.l0 k l0 q.1 q.2 = some x1 }) (fun q => [(0, SV.raw s0), (3, .a (.c (.v (.int .i64 q.1.2))))]) (fun q => [(0, rd S W0)]) (fun q => q.1.1) ⟨(k, 0), H1⟩ ?_ ?_
      · exact At.into [] [_] rfl ⟨rfl, rfl, trivial⟩ ⟨rfl, (fun _ => rfl), trivial⟩ rfl
      ·
        rintro ⟨⟨n0, v1⟩, H1⟩
        show G _ _ [(0, SV.raw s0), (3, .a (.c (.v (.int .i64 v1))))] [(0, some (rd S W0))] _ _
        cases n0 with
        | zero => exact absurd H1 (by simp [Lw19_small.l0])
        | succ n0 =>
          have HL0 := H1
          rw [Lw19_small.l0] at H1
          refine G.seq ?_
          refine G.seq ?_
          refine G.rg ?_
          refine K.move (.inl rfl) (gd0 rfl) rfl rfl ?_
          refine K.move (.inl rfl) (gd0 rfl) rfl rfl ?_
          refine K.lenE (rV 0 S W0 s0 b0 o0 vE 1 vs0) (l0.length : Int) (hI0.is 0) hin0.len (gd0 rfl) rfl rfl Try.underlying44 rfl ?_
          refine K.bin (V := .bool (decide (v1 < (l0.length : Int)))) (gd0 rfl) rfl rfl (fun _ => rfl) rfl ?_
          refine K.nil ?_
          refine At.next ?_
          refine G.cond rfl (fun h2 => ?_) (fun h2 => ?_)
          ·
            replace H1 := bif_t H1 h2
            refine G.skip ?_
            refine At.next ?_
            refine G.seq ?_
            refine G.block ?_
            refine G.seq ?_
            obtain ⟨x2, hx2, H1⟩ := bnd H1
            obtain ⟨ao_h3, cap_h3, b_h3, o_h3, hw_h3, hI_h3⟩ := hin0.at hx2
            refine G.rg ?_
            refine K.move (.inl rfl) (gd0 rfl) rfl rfl ?_
            refine K.move (.inl rfl) (gd0 rfl) rfl rfl ?_
            refine K.idxL (rV 0 S W0 s0 b0 o0 vE 1 vs0) ((v1).toNat) (hI0.is 0) hw_h3 (atL_nn hx2) (gd0 rfl) rfl rfl rfl Try.underlying44 el44.size_run rfl ?_
            refine K.load1L Y (rV 0 S W0 s0 b0 o0 vE 1 vs0) ((v1).toNat) 0 (hI0.is 0) hw_h3 (gd0 rfl) rfl rfl t36 rfl rfl ?_
            refine K.lenL (rV 0 S W0 (Value.slice ao_h3 x2.length cap_h3) b_h3 o_h3 u8E 1 x2) (hI_h3.is 0) (gd0 rfl) rfl rfl Try.underlying36 rfl ?_
            refine K.bin (V := .bool (decide ((x2.length : Int) > 300))) (gd0 rfl) rfl rfl (fun _ => rfl) rfl ?_
            refine K.nil ?_
            refine At.next ?_
            refine G.cond rfl (fun h5 => ?_) (fun h5 => ?_)
            ·
              replace H1 := bif_t H1 h5
              refine G.seq ?_
              refine G.rg ?_
              refine K.move (.inr rfl) (gd0 rfl) rfl rfl ?_
              refine K.nil ?_
              refine At.next ?_
              refine G.ret ?_
              refine At.block_ret ?_
              refine At.over_ret ?_
              refine At.over_ret ?_
              refine At.block_ret ?_
              refine At.over_ret ?_
              cases H1
              replace H0 := sum_l H0
              exact At.dr Y [2] rfl rfl (by cases H0; rfl) (by cases H0; rfl) rfl rfl rfl
            ·
              replace H1 := bif_f H1 h5
              refine G.skip ?_
              refine At.block_normal ?_
              refine At.next ?_
              refine G.rg ?_
              refine K.move (.inl rfl) (gd0 rfl) rfl rfl ?_
              refine K.bin (V := .int .i64 (w64 (v1 + 1))) (gd0 rfl) rfl rfl (fun _ => rfl) rfl ?_
              refine K.move (.inr rfl) (gd0 rfl) rfl rfl ?_
              refine K.nil ?_
              exact At.ag ⟨(n0, (w64 (v1 + 1))), H1⟩ [] [_] (Nat.lt_succ_self _) rfl ⟨rfl, rfl, trivial⟩ ⟨rfl, (fun _ => rfl), trivial⟩ rfl
          ·
            replace H1 := bif_f H1 h2
            refine G.exit ?_
            refine At.over_exit ?_
            refine At.over_exit ?_
            refine At.block_hit ?_
            exact At.jd ⟨(), oi H1⟩ [] [_] rfl trivial ⟨rfl, (fun _ => rfl), trivial⟩ rfl
    ·
      rintro ⟨w1, rfl⟩
      replace H0 := sum_r H0
      show G _ _ [] [(0, some (rd S W0))] _ _
      refine G.seq ?_
      refine G.rg ?_
      refine K.move (.inr rfl) (gd0 rfl) rfl rfl ?_
      refine K.nil ?_
      refine At.next ?_
      refine G.ret ?_
      exact At.dr Y [2] rfl rfl (by cases H0; rfl) (by cases H0; rfl) rfl rfl rfl
theorem Lw19_small_con {k : Nat}  {S : Foot} {W0 : World} {s0 : Value} {l0 : List (List Int)} {r : Bool} (hL0 : LL S W0 s0 u8E 1 l0) (H0 : Lw19_small.f k l0 = some r) : Lw19_small_st S W0 s0 r :=
  SCon.ren (rn []) (Lw19_small_con0 (k := k)  hL0 H0) ⟨(fun _ => rfl), trivial⟩ ⟨(fun _ => rfl), trivial⟩ (by simp) (by simp)
abbrev Lw19_same_st (S : Foot) (W0 : World) (s0 : Value) (s1 : Value) (r : Bool) : Prop := SCon Try.prog 32 [SV.raw s0, SV.raw s1] [(0, rd S W0)] (.a (.c (.v (.bool r)))) [(0, rd S W0)] []
theorem Lw19_same_con0 {k : Nat}  {S : Foot} {W0 : World} {s0 : Value} {s1 : Value} {l0 : List (List Int)} {l1 : List ByteArray} {r : Bool} (hL0 : LL S W0 s0 u8E 1 l0) (hL1 : LArg S W0 s1 strE 1 l1) (H0 : Lw19_same.f k l0 l1 = some r) : Lw19_same_st S W0 s0 s1 r := by
  rw [Lw19_same.f] at H0
  obtain ⟨b1, o1, hI1⟩ := hL1
  obtain ⟨vs0, ⟨b0, o0, hI0⟩, hin0⟩ := hL0
  refine spec_of [(0, _), (1, _)] [(0, _)] 27 Try.func32 rfl Try.ntmps32 rfl rfl rfl rfl (fun β W F => ?_)
  refine G.seq ?_
  refine G.rg ?_
  refine K.move (.inr rfl) (gd0 rfl) rfl rfl ?_
  refine K.nil ?_
  refine At.next ?_
  refine G.seq ?_
  refine G.seq ?_
  refine G.rg ?_
  refine K.move (.inl rfl) (gd0 rfl) rfl rfl ?_
  refine K.lenE (rV 0 S W0 s0 b0 o0 vE 1 vs0) (l0.length : Int) (hI0.is 0) hin0.len (gd0 rfl) rfl rfl Try.underlying44 rfl ?_
  refine K.move (.inl rfl) (gd0 rfl) rfl rfl ?_
  refine K.lenL (rV 0 S W0 s1 b1 o1 strE 1 l1) (hI1.is 0) (gd0 rfl) rfl rfl Try.underlying46 rfl ?_
  refine K.bin (V := .bool ((l0.length : Int) != (l1.length : Int))) (gd0 rfl) rfl rfl (fun _ => rfl) rfl ?_
  refine K.nil ?_
  refine At.next ?_
  refine G.cond rfl (fun h1 => ?_) (fun h1 => ?_)
  ·
    replace H0 := bif_t H0 h1
    refine G.seq ?_
    refine G.rg ?_
    refine K.move (.inr rfl) (gd0 rfl) rfl rfl ?_
    refine K.nil ?_
    refine At.next ?_
    refine G.ret ?_
    refine At.over_ret ?_
    exact At.dr Y [4] rfl rfl (by cases H0; rfl) (by cases H0; rfl) rfl rfl rfl
  ·
    replace H0 := bif_f H0 h1
    refine G.skip ?_
    refine At.next ?_
    obtain ⟨x1, H1, H0⟩ := bnd H0
    refine G.sJ (σ := { v : Unit // x1 = Sum.inr v }) (fun q => []) (fun q => [(0, rd S W0)]) ?_ ?_
    ·
      refine G.seq ?_
      refine G.rg ?_
      refine K.move (.inr rfl) (gd0 rfl) rfl rfl ?_
      refine K.nil ?_
      refine At.next ?_
      refine G.block ?_
      refine G.lp (σ := { q : Nat × (Int) // Lw19_same.l0 k l0 l1 q.1 q.2 = some x1 }) (fun q => [(0, SV.raw s0), (1, SV.raw s1), (5, .a (.c (.v (.int .i64 q.1.2))))]) (fun q => [(0, rd S W0)]) (fun q => q.1.1) ⟨(k, 0), H1⟩ ?_ ?_
      · exact At.into [] [_] rfl ⟨rfl, rfl, rfl, trivial⟩ ⟨rfl, (fun _ => rfl), trivial⟩ rfl
      ·
        rintro ⟨⟨n0, v1⟩, H1⟩
        show G _ _ [(0, SV.raw s0), (1, SV.raw s1), (5, .a (.c (.v (.int .i64 v1))))] [(0, some (rd S W0))] _ _
        cases n0 with
        | zero => exact absurd H1 (by simp [Lw19_same.l0])
        | succ n0 =>
          have HL0 := H1
          rw [Lw19_same.l0] at H1
          refine G.seq ?_
          refine G.seq ?_
          refine G.rg ?_
          refine K.move (.inl rfl) (gd0 rfl) rfl rfl ?_
          refine K.move (.inl rfl) (gd0 rfl) rfl rfl ?_
          refine K.lenE (rV 0 S W0 s0 b0 o0 vE 1 vs0) (l0.length : Int) (hI0.is 0) hin0.len (gd0 rfl) rfl rfl Try.underlying44 rfl ?_
          refine K.bin (V := .bool (decide (v1 < (l0.length : Int)))) (gd0 rfl) rfl rfl (fun _ => rfl) rfl ?_
          refine K.nil ?_
          refine At.next ?_
          refine G.cond rfl (fun h2 => ?_) (fun h2 => ?_)
          ·
            replace H1 := bif_t H1 h2
            refine G.skip ?_
            refine At.next ?_
            refine G.seq ?_
            refine G.block ?_
            refine G.seq ?_
            obtain ⟨x2, hx2, H1⟩ := bnd H1
            obtain ⟨ao_h3, cap_h3, b_h3, o_h3, hw_h3, hI_h3⟩ := hin0.at hx2
            obtain ⟨x3, hx3, H1⟩ := bnd H1
            refine G.rd mixed ?_
            refine K.move (.inl rfl) (gd0 rfl) rfl rfl ?_
            refine K.move (.inl rfl) (gd0 rfl) rfl rfl ?_
            refine K.idxL (rV 0 S W0 s0 b0 o0 vE 1 vs0) ((v1).toNat) (hI0.is 0) hw_h3 (atL_nn hx2) (gd0 rfl) rfl rfl rfl Try.underlying44 el44.size_run rfl ?_
            refine K.load1L Y (rV 0 S W0 s0 b0 o0 vE 1 vs0) ((v1).toNat) 0 (hI0.is 0) hw_h3 (gd0 rfl) rfl rfl t36 rfl rfl ?_
            refine K.bstr (rV 0 S W0 (Value.slice ao_h3 x2.length cap_h3) b_h3 o_h3 u8E 1 x2) (hI_h3.is 0) (gd0 rfl) rfl rfl Try.underlying36 Try.underlying5 Try.underlying9 rfl ?_
            refine K.move (.inl rfl) (gd0 rfl) rfl rfl ?_
            refine K.move (.inl rfl) (gd0 rfl) rfl rfl ?_
            refine K.idxL (rV 0 S W0 s1 b1 o1 strE 1 l1) ((v1).toNat) (hI1.is 0) (atL_get hx3) (atL_nn hx3) (gd0 rfl) rfl rfl rfl Try.underlying46 el46.size_run rfl ?_
            refine K.load1L Y (rV 0 S W0 s1 b1 o1 strE 1 l1) ((v1).toNat) 0 (hI1.is 0) (atL_get hx3) (gd0 rfl) rfl rfl t9 rfl rfl ?_
            refine K.bin (V := .bool (!(gseq (strOfNums x2) x3))) (gd0 rfl) rfl rfl (st_neq _ _ _ _ _) rfl ?_
            refine K.nil ?_
            refine ⟨by kernel_rfl, ?_⟩
            refine At.next ?_
            refine G.cond rfl (fun h5 => ?_) (fun h5 => ?_)
            ·
              replace H1 := bif_t H1 h5
              refine G.seq ?_
              refine G.rg ?_
              refine K.move (.inr rfl) (gd0 rfl) rfl rfl ?_
              refine K.nil ?_
              refine At.next ?_
              refine G.ret ?_
              refine At.block_ret ?_
              refine At.over_ret ?_
              refine At.over_ret ?_
              refine At.block_ret ?_
              refine At.over_ret ?_
              cases H1
              replace H0 := sum_l H0
              exact At.dr Y [4] rfl rfl (by cases H0; rfl) (by cases H0; rfl) rfl rfl rfl
            ·
              replace H1 := bif_f H1 h5
              refine G.skip ?_
              refine At.block_normal ?_
              refine At.next ?_
              refine G.rg ?_
              refine K.move (.inl rfl) (gd0 rfl) rfl rfl ?_
              refine K.bin (V := .int .i64 (w64 (v1 + 1))) (gd0 rfl) rfl rfl (fun _ => rfl) rfl ?_
              refine K.move (.inr rfl) (gd0 rfl) rfl rfl ?_
              refine K.nil ?_
              exact At.ag ⟨(n0, (w64 (v1 + 1))), H1⟩ [] [_] (Nat.lt_succ_self _) rfl ⟨rfl, rfl, rfl, trivial⟩ ⟨rfl, (fun _ => rfl), trivial⟩ rfl
          ·
            replace H1 := bif_f H1 h2
            refine G.exit ?_
            refine At.over_exit ?_
            refine At.over_exit ?_
            refine At.block_hit ?_
            exact At.jd ⟨(), oi H1⟩ [] [_] rfl trivial ⟨rfl, (fun _ => rfl), trivial⟩ rfl
    ·
      rintro ⟨w1, rfl⟩
      replace H0 := sum_r H0
      show G _ _ [] [(0, some (rd S W0))] _ _
      refine G.seq ?_
      refine G.rg ?_
      refine K.move (.inr rfl) (gd0 rfl) rfl rfl ?_
      refine K.nil ?_
      refine At.next ?_
      refine G.ret ?_
      exact At.dr Y [4] rfl rfl (by cases H0; rfl) (by cases H0; rfl) rfl rfl rfl
theorem Lw19_same_con {k : Nat}  {S : Foot} {W0 : World} {s0 : Value} {s1 : Value} {l0 : List (List Int)} {l1 : List ByteArray} {r : Bool} (hL0 : LL S W0 s0 u8E 1 l0) (hL1 : LArg S W0 s1 strE 1 l1) (H0 : Lw19_same.f k l0 l1 = some r) : Lw19_same_st S W0 s0 s1 r :=
  SCon.ren (rn []) (Lw19_same_con0 (k := k)  hL0 hL1 H0) ⟨(fun _ => rfl), trivial⟩ ⟨(fun _ => rfl), trivial⟩ (by simp) (by simp)
abbrev Lw19_FramePuts_st (S : Foot) (W0 : World) (s0 : Value) (r : Bool) : Prop := SCon Try.prog 10 [SV.raw s0] [(0, rd S W0)] (.a (.c (.v (.bool r)))) [(0, rd S W0)] []
set_option maxHeartbeats 4000000 in
theorem Lw19_FramePuts_con0 {k : Nat}  {S : Foot} {W0 : World} {s0 : Value} {l0 : List (List Int)} {r : Bool} (hL0 : LL S W0 s0 u8E 1 l0) (H0 : Lw19_FramePuts.f k l0 = some r) : Lw19_FramePuts_st S W0 s0 r := by
  rw [Lw19_FramePuts.f] at H0
  obtain ⟨vs0, ⟨b0, o0, hI0⟩, hin0⟩ := hL0
  refine spec_of [(0, _)] [(0, _)] 59 Try.func10 rfl Try.ntmps10 rfl rfl rfl rfl (fun β W F => ?_)
  refine G.seq ?_
  refine G.rg ?_
  refine K.move (.inr rfl) (gd0 rfl) rfl rfl ?_
  refine K.nil ?_
  refine At.next ?_
  obtain ⟨x1, H1, H0⟩ := bnd H0
  refine G.sJ (σ := { v : Unit // x1 = Sum.inr v }) (fun q => [(0, SV.raw s0)]) (fun q => [(0, rd S W0)]) ?_ ?_
  ·
    refine G.seq ?_
    obtain ⟨x2, hx2, H1⟩ := bnd H1
    rcases Bool.eq_false_or_eq_true (!x2) with h1 | h1
    ·
      replace H1 := bif_t H1 h1
      refine G.rg ?_
      refine K.cR (cf 27 rfl) (Lw19_awake_con (k := k) hx2) (gd0 rfl) rfl rfl rfl rfl ?_
      refine K.un (V := .bool (!x2)) (gd0 rfl) rfl (fun _ => rfl) rfl ?_
      refine K.move (.inl rfl) (gd0 rfl) rfl rfl ?_
      refine K.skip rfl rfl rfl rfl (h1) rfl ?_
      refine K.skip rfl rfl rfl rfl (h1) rfl ?_
      refine K.skip rfl rfl rfl rfl (h1) rfl ?_
      refine K.pickT (gd0 rfl) rfl (h1) rfl rfl ?_
      refine K.nil ?_
      refine At.next ?_
      refine G.cond rfl (fun h2 => ?_) (fun h2 => ?_)
      ·
        refine G.seq ?_
        obtain ⟨x3, hx3, H1⟩ := bnd H1
        refine G.rg ?_
        refine K.cR (cf 27 rfl) (Lw19_awake_con (k := k) hx3) (gd0 rfl) rfl rfl rfl rfl ?_
        refine K.move (.inr rfl) (gd0 rfl) rfl rfl ?_
        refine K.nil ?_
        refine At.next ?_
        refine G.ret ?_
        refine At.over_ret ?_
        cases H1
        replace H0 := sum_l H0
        exact At.dr Y [2] rfl rfl (by cases H0; rfl) (by cases H0; rfl) rfl rfl rfl
      · cases h2
    ·
      replace H1 := bif_f H1 h1
      obtain ⟨x4, hx4, H1⟩ := bnd H1
      refine G.rg ?_
      refine K.cR (cf 27 rfl) (Lw19_awake_con (k := k) hx2) (gd0 rfl) rfl rfl rfl rfl ?_
      refine K.un (V := .bool (!x2)) (gd0 rfl) rfl (fun _ => rfl) rfl ?_
      refine K.move (.inl rfl) (gd0 rfl) rfl rfl ?_
      refine K.move (.inl rfl) (gd1 rfl rfl rfl (h1)) rfl rfl ?_
      refine K.cV (cf 28 rfl) [0] (fun β w S2 h => Lw19_small_con (k := k) (rd_ll 0 rfl h ⟨_, ⟨_, _, hI0⟩, hin0⟩) hx4) (gd1 rfl rfl rfl (h1)) (fun _ => rfl) rfl rfl rfl ?_
      refine K.un (V := .bool (!x4)) (gd1 rfl rfl rfl (h1)) rfl (fun _ => rfl) rfl ?_
      refine K.pickF (gd0 rfl) rfl (h1) rfl rfl ?_
      refine K.nil ?_
      refine At.next ?_
      refine G.cond rfl (fun h3 => ?_) (fun h3 => ?_)
      ·
        replace H1 := bif_t H1 h3
        refine G.seq ?_
        obtain ⟨x5, hx5, H1⟩ := bnd H1
        refine G.rg ?_
        refine K.cR (cf 27 rfl) (Lw19_awake_con (k := k) hx5) (gd0 rfl) rfl rfl rfl rfl ?_
        refine K.move (.inr rfl) (gd0 rfl) rfl rfl ?_
        refine K.nil ?_
        refine At.next ?_
        refine G.ret ?_
        refine At.over_ret ?_
        cases H1
        replace H0 := sum_l H0
        exact At.dr Y [2] rfl rfl (by cases H0; rfl) (by cases H0; rfl) rfl rfl rfl
      ·
        replace H1 := bif_f H1 h3
        refine G.skip ?_
        exact At.jd ⟨(), oi H1⟩ [] [_] rfl ⟨rfl, trivial⟩ ⟨rfl, (fun _ => rfl), trivial⟩ rfl
  ·
    rintro ⟨w1, rfl⟩
    replace H0 := sum_r H0
    show G _ _ [(0, SV.raw s0)] [(0, some (rd S W0))] _ _
    refine G.seq ?_
    refine G.rg ?_
    refine K.move (.inr rfl) (gd0 rfl) rfl rfl ?_
    refine K.nil ?_
    refine At.next ?_
    refine G.seq ?_
    refine G.rg ?_
    refine K.nilRow 100 9 strE 1 (.inl rfl) (gd0 rfl) rfl rfl rfl ?_
    refine K.nil ?_
    refine At.next ?_
    obtain ⟨x6, H1, H0⟩ := bnd H0
    refine G.sJ (σ := { v : ByteArray × List ByteArray // x6 = v }) (fun q => [(0, SV.raw s0), (3, .a (.c (.v (.string q.1.1)))), (4, .a (.c (.nv 101)))]) (fun q => [(0, rd S W0), (101, lrow 101 9 strE 1 q.1.2)]) ?_ ?_
    ·
      refine G.seq ?_
      refine G.rg ?_
      refine K.move (.inr rfl) (gd0 rfl) rfl rfl ?_
      refine K.nil ?_
      refine At.next ?_
      refine G.block ?_
      refine G.lp (σ := { q : Nat × (ByteArray × List ByteArray × Int) // Lw19_FramePuts.l0 k l0 q.1 q.2 = some x6 }) (fun q => [(0, SV.raw s0), (3, .a (.c (.v (.string q.1.2.1)))), (4, .a (.c (.nv 104))), (5, .a (.c (.v (.int .i64 q.1.2.2.2))))]) (fun q => [(0, rd S W0), (104, lrow 104 9 strE 1 q.1.2.2.1)]) (fun q => q.1.1) ⟨(k, ((ByteArray.mk #[]), ([] : List ByteArray), 0)), H1⟩ ?_ ?_
      · exact At.into [(104, 100)] [_, _] rfl ⟨rfl, rfl, rfl, rfl, trivial⟩ ⟨rfl, (fun _ => rfl), rfl, (lrow_ren rfl), trivial⟩ rfl
      ·
        rintro ⟨⟨n0, v1, v2, v3⟩, H1⟩
        show G _ _ [(0, SV.raw s0), (3, .a (.c (.v (.string v1)))), (4, .a (.c (.nv 104))), (5, .a (.c (.v (.int .i64 v3))))] [(0, some (rd S W0)), (104, some (lrow 104 9 strE 1 v2))] _ _
        cases n0 with
        | zero => exact absurd H1 (by simp [Lw19_FramePuts.l0])
        | succ n0 =>
          have HL0 := H1
          rw [Lw19_FramePuts.l0] at H1
          refine G.seq ?_
          refine G.seq ?_
          refine G.rg ?_
          refine K.move (.inl rfl) (gd0 rfl) rfl rfl ?_
          refine K.move (.inl rfl) (gd0 rfl) rfl rfl ?_
          refine K.lenE (rV 0 S W0 s0 b0 o0 vE 1 vs0) (l0.length : Int) (hI0.is 0) hin0.len (gd0 rfl) rfl rfl Try.underlying44 rfl ?_
          refine K.bin (V := .bool (decide (v3 < (l0.length : Int)))) (gd0 rfl) rfl rfl (fun _ => rfl) rfl ?_
          refine K.nil ?_
          refine At.next ?_
          refine G.cond rfl (fun h4 => ?_) (fun h4 => ?_)
          ·
            replace H1 := bif_t H1 h4
            refine G.skip ?_
            refine At.next ?_
            refine G.seq ?_
            refine G.block ?_
            refine G.seq ?_
            obtain ⟨x7, hx7, H1⟩ := bnd H1
            obtain ⟨ao_h5, cap_h5, b_h5, o_h5, hw_h5, hI_h5⟩ := hin0.at hx7
            obtain ⟨x8, hx8, H1⟩ := bnd H1
            obtain ⟨h7, H1⟩ := grd H1
            refine G.rg ?_
            refine K.move (.inl rfl) (gd0 rfl) rfl rfl ?_
            refine K.move (.inl rfl) (gd0 rfl) rfl rfl ?_
            refine K.move (.inl rfl) (gd0 rfl) rfl rfl ?_
            refine K.idxL (rV 0 S W0 s0 b0 o0 vE 1 vs0) ((v3).toNat) (hI0.is 0) hw_h5 (atL_nn hx7) (gd0 rfl) rfl rfl rfl Try.underlying44 el44.size_run rfl ?_
            refine K.load1L Y (rV 0 S W0 s0 b0 o0 vE 1 vs0) ((v3).toNat) 0 (hI0.is 0) hw_h5 (gd0 rfl) rfl rfl t36 rfl rfl ?_
            refine K.bstr (rV 0 S W0 (Value.slice ao_h5 x7.length cap_h5) b_h5 o_h5 u8E 1 x7) (hI_h5.is 0) (gd0 rfl) rfl rfl Try.underlying36 Try.underlying5 Try.underlying9 rfl ?_
            refine K.cR (cf 29 rfl) (R19_Frame_con (k := k) hx8) (gd0 rfl) rfl rfl rfl rfl ?_
            refine K.bin (V := .string (v1 ++ x8)) (gd0 rfl) rfl rfl (st_add _ _ _ _ _ h7) rfl ?_
            refine K.move (.inr rfl) (gd0 rfl) rfl rfl ?_
            refine K.nil ?_
            refine At.next ?_
            obtain ⟨h9, H1⟩ := grd H1
            refine G.rg ?_
            refine K.move (.inl rfl) (gd0 rfl) rfl rfl ?_
            refine K.move (.inl rfl) (gd0 rfl) rfl rfl ?_
            refine K.move (.inl rfl) (gd0 rfl) rfl rfl ?_
            refine K.idxL (rV 0 S W0 s0 b0 o0 vE 1 vs0) ((v3).toNat) (hI0.is 0) hw_h5 (atL_nn hx7) (gd0 rfl) rfl rfl rfl Try.underlying44 el44.size_run rfl ?_
            refine K.load1L Y (rV 0 S W0 s0 b0 o0 vE 1 vs0) ((v3).toNat) 0 (hI0.is 0) hw_h5 (gd0 rfl) rfl rfl t36 rfl rfl ?_
            refine K.bstr (rV 0 S W0 (Value.slice ao_h5 x7.length cap_h5) b_h5 o_h5 u8E 1 x7) (hI_h5.is 0) (gd0 rfl) rfl rfl Try.underlying36 Try.underlying5 Try.underlying9 rfl ?_
            refine K.buildL Y 105 ([(strOfNums x7)] : List ByteArray) [(0, _)] [((.tmp 36), _)] strE_len (gd0 rfl) (AllE.spec ⟨rfl, trivial⟩) rfl rfl Try.underlying46 t9 rfl rfl rfl rfl rfl rfl rfl rfl ?_
            refine K.appendL 106 (lrowV 105 9 strE 1 ([(strOfNums x7)] : List ByteArray)) _ el46 (lrowV_is strE_len (by decide)) strE_one (gd0 rfl) rfl rfl rfl rfl rfl (ap_m h9) (ap_b h9 (by decide)) rfl rfl rfl rfl rfl rfl ?_
            refine K.move (.inr rfl) (gd0 rfl) rfl rfl ?_
            refine K.nil ?_
            refine At.block_normal ?_
            refine At.next ?_
            refine G.rg ?_
            refine K.move (.inl rfl) (gd0 rfl) rfl rfl ?_
            refine K.bin (V := .int .i64 (w64 (v3 + 1))) (gd0 rfl) rfl rfl (fun _ => rfl) rfl ?_
            refine K.move (.inr rfl) (gd0 rfl) rfl rfl ?_
            refine K.nil ?_
            exact At.ag ⟨(n0, ((v1 ++ x8), (v2 ++ ([(strOfNums x7)] : List ByteArray)), (w64 (v3 + 1)))), H1⟩ [(104, 106)] [_, _] (Nat.lt_succ_self _) rfl ⟨rfl, rfl, rfl, rfl, trivial⟩ ⟨rfl, (fun _ => rfl), rfl, (lrow_ren rfl), trivial⟩ rfl
          ·
            replace H1 := bif_f H1 h4
            refine G.exit ?_
            refine At.over_exit ?_
            refine At.over_exit ?_
            refine At.block_hit ?_
            exact At.jd ⟨(v1, v2), oi H1⟩ [(101, 104)] [_, _] rfl ⟨rfl, rfl, rfl, trivial⟩ ⟨rfl, (fun _ => rfl), rfl, (lrow_ren rfl), trivial⟩ rfl
    ·
      rintro ⟨_, rfl⟩
      show G _ _ [(0, SV.raw s0), (3, .a (.c (.v (.string x6.1)))), (4, .a (.c (.nv 101)))] [(0, some (rd S W0)), (101, some (lrow 101 9 strE 1 x6.2))] _ _
      refine G.seq ?_
      obtain ⟨x9, hx9, H0⟩ := bnd H0
      refine G.rg ?_
      refine K.move (.inl rfl) (gd0 rfl) rfl rfl ?_
      refine K.cV (cf 30 rfl) [0] (fun β w S2 h => frame_Put_con (k := k) (rd_ll 0 rfl h ⟨_, ⟨_, _, hI0⟩, hin0⟩) hx9 107 rfl) (gd0 rfl) (fun _ => rfl) rfl rfl rfl ?_
      refine K.move (.inr rfl) (gd0 rfl) rfl rfl ?_
      refine K.nil ?_
      refine At.next ?_
      refine G.seq ?_
      obtain ⟨x10, hx10, H0⟩ := bnd H0
      refine G.rg ?_
      refine K.move (.inl rfl) (gd0 rfl) rfl rfl ?_
      refine K.cV (cf 31 rfl) [107] (fun β w S2 h => frame_Get_con (k := k) (la 0 rfl u8E_len rfl h) hx10 108 rfl) (gd0 rfl) (fun _ => rfl) rfl rfl rfl ?_
      refine K.move (.inl rfl) (gd0 rfl) rfl rfl ?_
      refine K.extract (gd0 rfl) rfl rfl rfl ?_
      refine K.extract (gd0 rfl) rfl rfl rfl ?_
      refine K.move (.inr rfl) (gd0 rfl) rfl rfl ?_
      refine K.move (.inr rfl) (gd0 rfl) rfl rfl ?_
      refine K.nil ?_
      refine At.next ?_
      refine G.seq ?_
      rcases Bool.eq_false_or_eq_true (gseq (strOfNums x9) x6.1) with h10 | h10
      ·
        replace H0 := bif_t H0 h10
        rcases Bool.eq_false_or_eq_true (x10.2 == 0) with h11 | h11
        ·
          replace H0 := bif_t H0 h11
          obtain ⟨x11, hx11, H0⟩ := bnd H0
          refine G.rg ?_
          refine K.move (.inl rfl) (gd0 rfl) rfl rfl ?_
          refine K.bstr (lrowV 107 5 u8E 1 x9) (lrowV_is u8E_len (by decide)) (gd0 rfl) rfl rfl Try.underlying36 Try.underlying5 Try.underlying9 rfl ?_
          refine K.move (.inl rfl) (gd0 rfl) rfl rfl ?_
          refine K.bin (V := .bool (gseq (strOfNums x9) x6.1)) (gd0 rfl) rfl rfl (st_eql _ _ _ _ _) rfl ?_
          refine K.move (.inl rfl) (gd0 rfl) rfl rfl ?_
          refine K.move (.inl rfl) (gd1 rfl rfl rfl (h10)) rfl rfl ?_
          refine K.bin (V := .bool (x10.2 == 0)) (gd1 rfl rfl rfl (h10)) rfl rfl (fun _ => rfl) rfl ?_
          refine K.pickT (gd0 rfl) rfl (h10) rfl rfl ?_
          refine K.move (.inl rfl) (gd0 rfl) rfl rfl ?_
          refine K.move (.inl rfl) (gd1 rfl rfl rfl (h11)) rfl rfl ?_
          refine K.move (.inl rfl) (gd1 rfl rfl rfl (h11)) rfl rfl ?_
          refine K.cV (cf 32 rfl) [108, 101] (fun β w S2 h => Lw19_same_con (k := k) (rr_ll 0 rfl h) (la 1 rfl strE_len rfl h) hx11) (gd1 rfl rfl rfl (h11)) (fun _ => rfl) rfl rfl rfl ?_
          refine K.pickT (gd0 rfl) rfl (h11) rfl rfl ?_
          refine K.move (.inr rfl) (gd0 rfl) rfl rfl ?_
          refine K.nil ?_
          refine At.next ?_
          refine G.ret ?_
          exact At.dr Y [2] rfl rfl (by cases H0; rfl) (by cases H0; rfl) rfl rfl rfl
        ·
          replace H0 := bif_f H0 h11
          refine G.rg ?_
          refine K.move (.inl rfl) (gd0 rfl) rfl rfl ?_
          refine K.bstr (lrowV 107 5 u8E 1 x9) (lrowV_is u8E_len (by decide)) (gd0 rfl) rfl rfl Try.underlying36 Try.underlying5 Try.underlying9 rfl ?_
          refine K.move (.inl rfl) (gd0 rfl) rfl rfl ?_
          refine K.bin (V := .bool (gseq (strOfNums x9) x6.1)) (gd0 rfl) rfl rfl (st_eql _ _ _ _ _) rfl ?_
          refine K.move (.inl rfl) (gd0 rfl) rfl rfl ?_
          refine K.move (.inl rfl) (gd1 rfl rfl rfl (h10)) rfl rfl ?_
          refine K.bin (V := .bool (x10.2 == 0)) (gd1 rfl rfl rfl (h10)) rfl rfl (fun _ => rfl) rfl ?_
          refine K.pickT (gd0 rfl) rfl (h10) rfl rfl ?_
          refine K.move (.inl rfl) (gd0 rfl) rfl rfl ?_
          refine K.skip rfl rfl rfl rfl (h11) rfl ?_
          refine K.skip rfl rfl rfl rfl (h11) rfl ?_
          refine K.skip rfl rfl rfl rfl (h11) rfl ?_
          refine K.pickF (gd0 rfl) rfl (h11) rfl rfl ?_
          refine K.move (.inr rfl) (gd0 rfl) rfl rfl ?_
          refine K.nil ?_
          refine At.next ?_
          refine G.ret ?_
          exact At.dr Y [2] rfl rfl (by cases H0; rfl) (by cases H0; rfl) rfl rfl rfl
      ·
        replace H0 := bif_f H0 h10
        refine G.rg ?_
        refine K.move (.inl rfl) (gd0 rfl) rfl rfl ?_
        refine K.bstr (lrowV 107 5 u8E 1 x9) (lrowV_is u8E_len (by decide)) (gd0 rfl) rfl rfl Try.underlying36 Try.underlying5 Try.underlying9 rfl ?_
        refine K.move (.inl rfl) (gd0 rfl) rfl rfl ?_
        refine K.bin (V := .bool (gseq (strOfNums x9) x6.1)) (gd0 rfl) rfl rfl (st_eql _ _ _ _ _) rfl ?_
        refine K.move (.inl rfl) (gd0 rfl) rfl rfl ?_
        refine K.skip rfl rfl rfl rfl (h10) rfl ?_
        refine K.skip rfl rfl rfl rfl (h10) rfl ?_
        refine K.pickF (gd0 rfl) rfl (h10) rfl rfl ?_
        refine K.move (.inl rfl) (gd0 rfl) rfl rfl ?_
        refine K.skip rfl rfl rfl rfl (rfl) rfl ?_
        refine K.skip rfl rfl rfl rfl (rfl) rfl ?_
        refine K.skip rfl rfl rfl rfl (rfl) rfl ?_
        refine K.pickF (gd0 rfl) rfl (rfl) rfl rfl ?_
        refine K.move (.inr rfl) (gd0 rfl) rfl rfl ?_
        refine K.nil ?_
        refine At.next ?_
        refine G.ret ?_
        exact At.dr Y [2] rfl rfl (by cases H0; rfl) (by cases H0; rfl) rfl rfl rfl
theorem Lw19_FramePuts_con {k : Nat}  {S : Foot} {W0 : World} {s0 : Value} {l0 : List (List Int)} {r : Bool} (hL0 : LL S W0 s0 u8E 1 l0) (H0 : Lw19_FramePuts.f k l0 = some r) : Lw19_FramePuts_st S W0 s0 r :=
  SCon.ren (rn []) (Lw19_FramePuts_con0 (k := k)  hL0 H0) ⟨(fun _ => rfl), trivial⟩ ⟨(fun _ => rfl), trivial⟩ (by simp) (by simp)
abbrev Lw19_FrameGets_st (S : Foot) (W0 : World) (s0 : Value) (r : Bool) : Prop := SCon Try.prog 11 [SV.raw s0] [(0, rd S W0)] (.a (.c (.v (.bool r)))) [(0, rd S W0)] []
theorem Lw19_FrameGets_con0 {k : Nat}  {S : Foot} {W0 : World} {s0 : Value} {l0 : List Int} {r : Bool} (hL0 : LArg S W0 s0 u8E 1 l0) (H0 : Lw19_FrameGets.f k l0 = some r) : Lw19_FrameGets_st S W0 s0 r := by
  rw [Lw19_FrameGets.f] at H0
  obtain ⟨b0, o0, hI0⟩ := hL0
  refine spec_of [(0, _)] [(0, _)] 42 Try.func11 rfl Try.ntmps11 rfl rfl rfl rfl (fun β W F => ?_)
  refine G.seq ?_
  refine G.rg ?_
  refine K.move (.inr rfl) (gd0 rfl) rfl rfl ?_
  refine K.nil ?_
  refine At.next ?_
  obtain ⟨x1, H1, H0⟩ := bnd H0
  refine G.sJ (σ := { v : Unit // x1 = Sum.inr v }) (fun q => [(0, SV.raw s0)]) (fun q => [(0, rd S W0)]) ?_ ?_
  ·
    refine G.seq ?_
    obtain ⟨x2, hx2, H1⟩ := bnd H1
    rcases Bool.eq_false_or_eq_true (!x2) with h1 | h1
    ·
      replace H1 := bif_t H1 h1
      refine G.rg ?_
      refine K.cR (cf 27 rfl) (Lw19_awake_con (k := k) hx2) (gd0 rfl) rfl rfl rfl rfl ?_
      refine K.un (V := .bool (!x2)) (gd0 rfl) rfl (fun _ => rfl) rfl ?_
      refine K.move (.inl rfl) (gd0 rfl) rfl rfl ?_
      refine K.skip rfl rfl rfl rfl (h1) rfl ?_
      refine K.skip rfl rfl rfl rfl (h1) rfl ?_
      refine K.skip rfl rfl rfl rfl (h1) rfl ?_
      refine K.pickT (gd0 rfl) rfl (h1) rfl rfl ?_
      refine K.nil ?_
      refine At.next ?_
      refine G.cond rfl (fun h2 => ?_) (fun h2 => ?_)
      ·
        refine G.seq ?_
        obtain ⟨x3, hx3, H1⟩ := bnd H1
        refine G.rg ?_
        refine K.cR (cf 27 rfl) (Lw19_awake_con (k := k) hx3) (gd0 rfl) rfl rfl rfl rfl ?_
        refine K.move (.inr rfl) (gd0 rfl) rfl rfl ?_
        refine K.nil ?_
        refine At.next ?_
        refine G.ret ?_
        refine At.over_ret ?_
        cases H1
        replace H0 := sum_l H0
        exact At.dr Y [2] rfl rfl (by cases H0; rfl) (by cases H0; rfl) rfl rfl rfl
      · cases h2
    ·
      replace H1 := bif_f H1 h1
      refine G.rg ?_
      refine K.cR (cf 27 rfl) (Lw19_awake_con (k := k) hx2) (gd0 rfl) rfl rfl rfl rfl ?_
      refine K.un (V := .bool (!x2)) (gd0 rfl) rfl (fun _ => rfl) rfl ?_
      refine K.move (.inl rfl) (gd0 rfl) rfl rfl ?_
      refine K.move (.inl rfl) (gd1 rfl rfl rfl (h1)) rfl rfl ?_
      refine K.lenL (rV 0 S W0 s0 b0 o0 u8E 1 l0) (hI0.is 0) (gd1 rfl rfl rfl (h1)) rfl rfl Try.underlying36 rfl ?_
      refine K.bin (V := .bool (decide ((l0.length : Int) > 2000))) (gd1 rfl rfl rfl (h1)) rfl rfl (fun _ => rfl) rfl ?_
      refine K.pickF (gd0 rfl) rfl (h1) rfl rfl ?_
      refine K.nil ?_
      refine At.next ?_
      refine G.cond rfl (fun h3 => ?_) (fun h3 => ?_)
      ·
        replace H1 := bif_t H1 h3
        refine G.seq ?_
        obtain ⟨x4, hx4, H1⟩ := bnd H1
        refine G.rg ?_
        refine K.cR (cf 27 rfl) (Lw19_awake_con (k := k) hx4) (gd0 rfl) rfl rfl rfl rfl ?_
        refine K.move (.inr rfl) (gd0 rfl) rfl rfl ?_
        refine K.nil ?_
        refine At.next ?_
        refine G.ret ?_
        refine At.over_ret ?_
        cases H1
        replace H0 := sum_l H0
        exact At.dr Y [2] rfl rfl (by cases H0; rfl) (by cases H0; rfl) rfl rfl rfl
      ·
        replace H1 := bif_f H1 h3
        refine G.skip ?_
        exact At.jd ⟨(), oi H1⟩ [] [_] rfl ⟨rfl, trivial⟩ ⟨rfl, (fun _ => rfl), trivial⟩ rfl
  ·
    rintro ⟨w1, rfl⟩
    replace H0 := sum_r H0
    show G _ _ [(0, SV.raw s0)] [(0, some (rd S W0))] _ _
    refine G.seq ?_
    refine G.rg ?_
    refine K.move (.inl rfl) (gd0 rfl) rfl rfl ?_
    refine K.bstr (rV 0 S W0 s0 b0 o0 u8E 1 l0) (hI0.is 0) (gd0 rfl) rfl rfl Try.underlying36 Try.underlying5 Try.underlying9 rfl ?_
    refine K.move (.inr rfl) (gd0 rfl) rfl rfl ?_
    refine K.nil ?_
    refine At.next ?_
    refine G.seq ?_
    obtain ⟨x5, hx5, H0⟩ := bnd H0
    refine G.rg ?_
    refine K.move (.inl rfl) (gd0 rfl) rfl rfl ?_
    refine K.cV (cf 31 rfl) [0] (fun β w S2 h => frame_Get_con (k := k) ((hI0.isC 0).larg ⟨_, List.mem_cons_self⟩ h) hx5 100 rfl) (gd0 rfl) (fun _ => rfl) rfl rfl rfl ?_
    refine K.move (.inl rfl) (gd0 rfl) rfl rfl ?_
    refine K.extract (gd0 rfl) rfl rfl rfl ?_
    refine K.extract (gd0 rfl) rfl rfl rfl ?_
    refine K.move (.inr rfl) (gd0 rfl) rfl rfl ?_
    refine K.move (.inr rfl) (gd0 rfl) rfl rfl ?_
    refine K.nil ?_
    refine At.next ?_
    refine G.seq ?_
    obtain ⟨x6, hx6, H0⟩ := bnd H0
    refine G.rg ?_
    refine K.move (.inl rfl) (gd0 rfl) rfl rfl ?_
    refine K.c0 (cf 33 rfl) (R19_Get_con (k := k) hx6 101 rfl) (gd0 rfl) rfl rfl rfl rfl ?_
    refine K.move (.inl rfl) (gd0 rfl) rfl rfl ?_
    refine K.extract (gd0 rfl) rfl rfl rfl ?_
    refine K.extract (gd0 rfl) rfl rfl rfl ?_
    refine K.move (.inr rfl) (gd0 rfl) rfl rfl ?_
    refine K.move (.inr rfl) (gd0 rfl) rfl rfl ?_
    refine K.nil ?_
    refine At.next ?_
    refine G.seq ?_
    rcases Bool.eq_false_or_eq_true (x5.2 == x6.2) with h4 | h4
    ·
      replace H0 := bif_t H0 h4
      obtain ⟨x7, hx7, H0⟩ := bnd H0
      rcases Bool.eq_false_or_eq_true x7 with h5 | h5
      ·
        replace H0 := bif_t H0 h5
        refine G.rg ?_
        refine K.move (.inl rfl) (gd0 rfl) rfl rfl ?_
        refine K.move (.inl rfl) (gd0 rfl) rfl rfl ?_
        refine K.bin (V := .bool (x5.2 == x6.2)) (gd0 rfl) rfl rfl (fun _ => rfl) rfl ?_
        refine K.move (.inl rfl) (gd0 rfl) rfl rfl ?_
        refine K.move (.inl rfl) (gd1 rfl rfl rfl (h4)) rfl rfl ?_
        refine K.move (.inl rfl) (gd1 rfl rfl rfl (h4)) rfl rfl ?_
        refine K.cV (cf 32 rfl) [100, 101] (fun β w S2 h => Lw19_same_con (k := k) (rr_ll 0 rfl h) (la 1 rfl strE_len rfl h) hx7) (gd1 rfl rfl rfl (h4)) (fun _ => rfl) rfl rfl rfl ?_
        refine K.pickT (gd0 rfl) rfl (h4) rfl rfl ?_
        refine K.move (.inl rfl) (gd0 rfl) rfl rfl ?_
        refine K.move (.inl rfl) (gd1 rfl rfl rfl (h5)) rfl rfl ?_
        refine K.bstr (rV 0 S W0 s0 b0 o0 u8E 1 l0) (hI0.is 0) (gd1 rfl rfl rfl (h5)) rfl rfl Try.underlying36 Try.underlying5 Try.underlying9 rfl ?_
        refine K.move (.inl rfl) (gd1 rfl rfl rfl (h5)) rfl rfl ?_
        refine K.bin (V := .bool (gseq (strOfNums l0) (strOfNums l0))) (gd1 rfl rfl rfl (h5)) rfl rfl (st_eql _ _ _ _ _) rfl ?_
        refine K.pickT (gd0 rfl) rfl (h5) rfl rfl ?_
        refine K.move (.inr rfl) (gd0 rfl) rfl rfl ?_
        refine K.nil ?_
        refine At.next ?_
        refine G.ret ?_
        exact At.dr Y [2] rfl rfl (by cases H0; rfl) (by cases H0; rfl) rfl rfl rfl
      ·
        replace H0 := bif_f H0 h5
        refine G.rg ?_
        refine K.move (.inl rfl) (gd0 rfl) rfl rfl ?_
        refine K.move (.inl rfl) (gd0 rfl) rfl rfl ?_
        refine K.bin (V := .bool (x5.2 == x6.2)) (gd0 rfl) rfl rfl (fun _ => rfl) rfl ?_
        refine K.move (.inl rfl) (gd0 rfl) rfl rfl ?_
        refine K.move (.inl rfl) (gd1 rfl rfl rfl (h4)) rfl rfl ?_
        refine K.move (.inl rfl) (gd1 rfl rfl rfl (h4)) rfl rfl ?_
        refine K.cV (cf 32 rfl) [100, 101] (fun β w S2 h => Lw19_same_con (k := k) (rr_ll 0 rfl h) (la 1 rfl strE_len rfl h) hx7) (gd1 rfl rfl rfl (h4)) (fun _ => rfl) rfl rfl rfl ?_
        refine K.pickT (gd0 rfl) rfl (h4) rfl rfl ?_
        refine K.move (.inl rfl) (gd0 rfl) rfl rfl ?_
        refine K.skip rfl rfl rfl rfl (h5) rfl ?_
        refine K.skip rfl rfl rfl rfl (h5) rfl ?_
        refine K.skip rfl rfl rfl rfl (h5) rfl ?_
        refine K.skip rfl rfl rfl rfl (h5) rfl ?_
        refine K.pickF (gd0 rfl) rfl (h5) rfl rfl ?_
        refine K.move (.inr rfl) (gd0 rfl) rfl rfl ?_
        refine K.nil ?_
        refine At.next ?_
        refine G.ret ?_
        exact At.dr Y [2] rfl rfl (by cases H0; rfl) (by cases H0; rfl) rfl rfl rfl
    ·
      replace H0 := bif_f H0 h4
      refine G.rg ?_
      refine K.move (.inl rfl) (gd0 rfl) rfl rfl ?_
      refine K.move (.inl rfl) (gd0 rfl) rfl rfl ?_
      refine K.bin (V := .bool (x5.2 == x6.2)) (gd0 rfl) rfl rfl (fun _ => rfl) rfl ?_
      refine K.move (.inl rfl) (gd0 rfl) rfl rfl ?_
      refine K.skip rfl rfl rfl rfl (h4) rfl ?_
      refine K.skip rfl rfl rfl rfl (h4) rfl ?_
      refine K.skip rfl rfl rfl rfl (h4) rfl ?_
      refine K.pickF (gd0 rfl) rfl (h4) rfl rfl ?_
      refine K.move (.inl rfl) (gd0 rfl) rfl rfl ?_
      refine K.skip rfl rfl rfl rfl (rfl) rfl ?_
      refine K.skip rfl rfl rfl rfl (rfl) rfl ?_
      refine K.skip rfl rfl rfl rfl (rfl) rfl ?_
      refine K.skip rfl rfl rfl rfl (rfl) rfl ?_
      refine K.pickF (gd0 rfl) rfl (rfl) rfl rfl ?_
      refine K.move (.inr rfl) (gd0 rfl) rfl rfl ?_
      refine K.nil ?_
      refine At.next ?_
      refine G.ret ?_
      exact At.dr Y [2] rfl rfl (by cases H0; rfl) (by cases H0; rfl) rfl rfl rfl
theorem Lw19_FrameGets_con {k : Nat}  {S : Foot} {W0 : World} {s0 : Value} {l0 : List Int} {r : Bool} (hL0 : LArg S W0 s0 u8E 1 l0) (H0 : Lw19_FrameGets.f k l0 = some r) : Lw19_FrameGets_st S W0 s0 r :=
  SCon.ren (rn []) (Lw19_FrameGets_con0 (k := k)  hL0 H0) ⟨(fun _ => rfl), trivial⟩ ⟨(fun _ => rfl), trivial⟩ (by simp) (by simp)
abbrev Lw19_FrameOctet_st (S : Foot) (W0 : World) (s0 : Value) (a1 : Int) (a2 : Int) (r : Bool) : Prop := SCon Try.prog 12 [SV.raw s0, .a (.c (.v (.int .i64 a1))), .a (.c (.v (.int .u8 a2)))] [(0, rd S W0)] (.a (.c (.v (.bool r)))) [(0, rd S W0)] []
set_option maxHeartbeats 4000000 in
theorem Lw19_FrameOctet_con0 {k : Nat}  {S : Foot} {W0 : World} {s0 : Value} {l0 : List (List Int)} {a1 : Int} {a2 : Int} {r : Bool} (hL0 : LL S W0 s0 u8E 1 l0) (H0 : Lw19_FrameOctet.f k l0 a1 a2 = some r) : Lw19_FrameOctet_st S W0 s0 a1 a2 r := by
  rw [Lw19_FrameOctet.f] at H0
  obtain ⟨vs0, ⟨b0, o0, hI0⟩, hin0⟩ := hL0
  refine spec_of [(0, _), (1, _), (2, _)] [(0, _)] 84 Try.func12 rfl Try.ntmps12 rfl rfl rfl rfl (fun β W F => ?_)
  refine G.seq ?_
  refine G.rg ?_
  refine K.move (.inr rfl) (gd0 rfl) rfl rfl ?_
  refine K.nil ?_
  refine At.next ?_
  obtain ⟨x1, H1, H0⟩ := bnd H0
  refine G.sJ (σ := { v : Unit // x1 = Sum.inr v }) (fun q => [(0, SV.raw s0), (1, .a (.c (.v (.int .i64 a1)))), (2, .a (.c (.v (.int .u8 a2))))]) (fun q => [(0, rd S W0)]) ?_ ?_
  ·
    refine G.seq ?_
    obtain ⟨x2, hx2, H1⟩ := bnd H1
    rcases Bool.eq_false_or_eq_true (!x2) with h1 | h1
    ·
      replace H1 := bif_t H1 h1
      refine G.rg ?_
      refine K.cR (cf 27 rfl) (Lw19_awake_con (k := k) hx2) (gd0 rfl) rfl rfl rfl rfl ?_
      refine K.un (V := .bool (!x2)) (gd0 rfl) rfl (fun _ => rfl) rfl ?_
      refine K.move (.inl rfl) (gd0 rfl) rfl rfl ?_
      refine K.skip rfl rfl rfl rfl (h1) rfl ?_
      refine K.skip rfl rfl rfl rfl (h1) rfl ?_
      refine K.skip rfl rfl rfl rfl (h1) rfl ?_
      refine K.pickT (gd0 rfl) rfl (h1) rfl rfl ?_
      refine K.move (.inl rfl) (gd0 rfl) rfl rfl ?_
      refine K.skip rfl rfl rfl rfl (rfl) rfl ?_
      refine K.skip rfl rfl rfl rfl (rfl) rfl ?_
      refine K.skip rfl rfl rfl rfl (rfl) rfl ?_
      refine K.pickT (gd0 rfl) rfl (rfl) rfl rfl ?_
      refine K.move (.inl rfl) (gd0 rfl) rfl rfl ?_
      refine K.skip rfl rfl rfl rfl (rfl) rfl ?_
      refine K.skip rfl rfl rfl rfl (rfl) rfl ?_
      refine K.pickT (gd0 rfl) rfl (rfl) rfl rfl ?_
      refine K.nil ?_
      refine At.next ?_
      refine G.cond rfl (fun h2 => ?_) (fun h2 => ?_)
      ·
        refine G.seq ?_
        obtain ⟨x3, hx3, H1⟩ := bnd H1
        refine G.rg ?_
        refine K.cR (cf 27 rfl) (Lw19_awake_con (k := k) hx3) (gd0 rfl) rfl rfl rfl rfl ?_
        refine K.move (.inr rfl) (gd0 rfl) rfl rfl ?_
        refine K.nil ?_
        refine At.next ?_
        refine G.ret ?_
        refine At.over_ret ?_
        cases H1
        replace H0 := sum_l H0
        exact At.dr Y [6] rfl rfl (by cases H0; rfl) (by cases H0; rfl) rfl rfl rfl
      · cases h2
    ·
      replace H1 := bif_f H1 h1
      obtain ⟨x4, hx4, H1⟩ := bnd H1
      rcases Bool.eq_false_or_eq_true (!x4) with h3 | h3
      ·
        replace H1 := bif_t H1 h3
        refine G.rg ?_
        refine K.cR (cf 27 rfl) (Lw19_awake_con (k := k) hx2) (gd0 rfl) rfl rfl rfl rfl ?_
        refine K.un (V := .bool (!x2)) (gd0 rfl) rfl (fun _ => rfl) rfl ?_
        refine K.move (.inl rfl) (gd0 rfl) rfl rfl ?_
        refine K.move (.inl rfl) (gd1 rfl rfl rfl (h1)) rfl rfl ?_
        refine K.cV (cf 28 rfl) [0] (fun β w S2 h => Lw19_small_con (k := k) (rd_ll 0 rfl h ⟨_, ⟨_, _, hI0⟩, hin0⟩) hx4) (gd1 rfl rfl rfl (h1)) (fun _ => rfl) rfl rfl rfl ?_
        refine K.un (V := .bool (!x4)) (gd1 rfl rfl rfl (h1)) rfl (fun _ => rfl) rfl ?_
        refine K.pickF (gd0 rfl) rfl (h1) rfl rfl ?_
        refine K.move (.inl rfl) (gd0 rfl) rfl rfl ?_
        refine K.skip rfl rfl rfl rfl (h3) rfl ?_
        refine K.skip rfl rfl rfl rfl (h3) rfl ?_
        refine K.skip rfl rfl rfl rfl (h3) rfl ?_
        refine K.pickT (gd0 rfl) rfl (h3) rfl rfl ?_
        refine K.move (.inl rfl) (gd0 rfl) rfl rfl ?_
        refine K.skip rfl rfl rfl rfl (rfl) rfl ?_
        refine K.skip rfl rfl rfl rfl (rfl) rfl ?_
        refine K.pickT (gd0 rfl) rfl (rfl) rfl rfl ?_
        refine K.nil ?_
        refine At.next ?_
        refine G.cond rfl (fun h4 => ?_) (fun h4 => ?_)
        ·
          refine G.seq ?_
          obtain ⟨x5, hx5, H1⟩ := bnd H1
          refine G.rg ?_
          refine K.cR (cf 27 rfl) (Lw19_awake_con (k := k) hx5) (gd0 rfl) rfl rfl rfl rfl ?_
          refine K.move (.inr rfl) (gd0 rfl) rfl rfl ?_
          refine K.nil ?_
          refine At.next ?_
          refine G.ret ?_
          refine At.over_ret ?_
          cases H1
          replace H0 := sum_l H0
          exact At.dr Y [6] rfl rfl (by cases H0; rfl) (by cases H0; rfl) rfl rfl rfl
        · cases h4
      ·
        replace H1 := bif_f H1 h3
        rcases Bool.eq_false_or_eq_true ((l0.length : Int) == 0) with h5 | h5
        ·
          replace H1 := bif_t H1 h5
          refine G.rg ?_
          refine K.cR (cf 27 rfl) (Lw19_awake_con (k := k) hx2) (gd0 rfl) rfl rfl rfl rfl ?_
          refine K.un (V := .bool (!x2)) (gd0 rfl) rfl (fun _ => rfl) rfl ?_
          refine K.move (.inl rfl) (gd0 rfl) rfl rfl ?_
          refine K.move (.inl rfl) (gd1 rfl rfl rfl (h1)) rfl rfl ?_
          refine K.cV (cf 28 rfl) [0] (fun β w S2 h => Lw19_small_con (k := k) (rd_ll 0 rfl h ⟨_, ⟨_, _, hI0⟩, hin0⟩) hx4) (gd1 rfl rfl rfl (h1)) (fun _ => rfl) rfl rfl rfl ?_
          refine K.un (V := .bool (!x4)) (gd1 rfl rfl rfl (h1)) rfl (fun _ => rfl) rfl ?_
          refine K.pickF (gd0 rfl) rfl (h1) rfl rfl ?_
          refine K.move (.inl rfl) (gd0 rfl) rfl rfl ?_
          refine K.move (.inl rfl) (gd1 rfl rfl rfl (h3)) rfl rfl ?_
          refine K.lenE (rV 0 S W0 s0 b0 o0 vE 1 vs0) (l0.length : Int) (hI0.is 0) hin0.len (gd1 rfl rfl rfl (h3)) rfl rfl Try.underlying44 rfl ?_
          refine K.bin (V := .bool ((l0.length : Int) == 0)) (gd1 rfl rfl rfl (h3)) rfl rfl (fun _ => rfl) rfl ?_
          refine K.pickF (gd0 rfl) rfl (h3) rfl rfl ?_
          refine K.move (.inl rfl) (gd0 rfl) rfl rfl ?_
          refine K.skip rfl rfl rfl rfl (h5) rfl ?_
          refine K.skip rfl rfl rfl rfl (h5) rfl ?_
          refine K.pickT (gd0 rfl) rfl (h5) rfl rfl ?_
          refine K.nil ?_
          refine At.next ?_
          refine G.cond rfl (fun h6 => ?_) (fun h6 => ?_)
          ·
            refine G.seq ?_
            obtain ⟨x6, hx6, H1⟩ := bnd H1
            refine G.rg ?_
            refine K.cR (cf 27 rfl) (Lw19_awake_con (k := k) hx6) (gd0 rfl) rfl rfl rfl rfl ?_
            refine K.move (.inr rfl) (gd0 rfl) rfl rfl ?_
            refine K.nil ?_
            refine At.next ?_
            refine G.ret ?_
            refine At.over_ret ?_
            cases H1
            replace H0 := sum_l H0
            exact At.dr Y [6] rfl rfl (by cases H0; rfl) (by cases H0; rfl) rfl rfl rfl
          · cases h6
        ·
          replace H1 := bif_f H1 h5
          refine G.rg ?_
          refine K.cR (cf 27 rfl) (Lw19_awake_con (k := k) hx2) (gd0 rfl) rfl rfl rfl rfl ?_
          refine K.un (V := .bool (!x2)) (gd0 rfl) rfl (fun _ => rfl) rfl ?_
          refine K.move (.inl rfl) (gd0 rfl) rfl rfl ?_
          refine K.move (.inl rfl) (gd1 rfl rfl rfl (h1)) rfl rfl ?_
          refine K.cV (cf 28 rfl) [0] (fun β w S2 h => Lw19_small_con (k := k) (rd_ll 0 rfl h ⟨_, ⟨_, _, hI0⟩, hin0⟩) hx4) (gd1 rfl rfl rfl (h1)) (fun _ => rfl) rfl rfl rfl ?_
          refine K.un (V := .bool (!x4)) (gd1 rfl rfl rfl (h1)) rfl (fun _ => rfl) rfl ?_
          refine K.pickF (gd0 rfl) rfl (h1) rfl rfl ?_
          refine K.move (.inl rfl) (gd0 rfl) rfl rfl ?_
          refine K.move (.inl rfl) (gd1 rfl rfl rfl (h3)) rfl rfl ?_
          refine K.lenE (rV 0 S W0 s0 b0 o0 vE 1 vs0) (l0.length : Int) (hI0.is 0) hin0.len (gd1 rfl rfl rfl (h3)) rfl rfl Try.underlying44 rfl ?_
          refine K.bin (V := .bool ((l0.length : Int) == 0)) (gd1 rfl rfl rfl (h3)) rfl rfl (fun _ => rfl) rfl ?_
          refine K.pickF (gd0 rfl) rfl (h3) rfl rfl ?_
          refine K.move (.inl rfl) (gd0 rfl) rfl rfl ?_
          refine K.move (.inl rfl) (gd1 rfl rfl rfl (h5)) rfl rfl ?_
          refine K.bin (V := .bool (a2 == 0)) (gd1 rfl rfl rfl (h5)) rfl rfl (fun _ => rfl) rfl ?_
          refine K.pickF (gd0 rfl) rfl (h5) rfl rfl ?_
          refine K.nil ?_
          refine At.next ?_
          refine G.cond rfl (fun h7 => ?_) (fun h7 => ?_)
          ·
            replace H1 := bif_t H1 h7
            refine G.seq ?_
            obtain ⟨x7, hx7, H1⟩ := bnd H1
            refine G.rg ?_
            refine K.cR (cf 27 rfl) (Lw19_awake_con (k := k) hx7) (gd0 rfl) rfl rfl rfl rfl ?_
            refine K.move (.inr rfl) (gd0 rfl) rfl rfl ?_
            refine K.nil ?_
            refine At.next ?_
            refine G.ret ?_
            refine At.over_ret ?_
            cases H1
            replace H0 := sum_l H0
            exact At.dr Y [6] rfl rfl (by cases H0; rfl) (by cases H0; rfl) rfl rfl rfl
          ·
            replace H1 := bif_f H1 h7
            refine G.skip ?_
            exact At.jd ⟨(), oi H1⟩ [] [_] rfl ⟨rfl, rfl, rfl, trivial⟩ ⟨rfl, (fun _ => rfl), trivial⟩ rfl
  ·
    rintro ⟨w1, rfl⟩
    replace H0 := sum_r H0
    show G _ _ [(0, SV.raw s0), (1, .a (.c (.v (.int .i64 a1)))), (2, .a (.c (.v (.int .u8 a2))))] [(0, some (rd S W0))] _ _
    refine G.seq ?_
    obtain ⟨x8, hx8, H0⟩ := bnd H0
    refine G.rg ?_
    refine K.move (.inl rfl) (gd0 rfl) rfl rfl ?_
    refine K.cV (cf 30 rfl) [0] (fun β w S2 h => frame_Put_con (k := k) (rd_ll 0 rfl h ⟨_, ⟨_, _, hI0⟩, hin0⟩) hx8 100 rfl) (gd0 rfl) (fun _ => rfl) rfl rfl rfl ?_
    refine K.move (.inr rfl) (gd0 rfl) rfl rfl ?_
    refine K.nil ?_
    refine At.next ?_
    refine G.seq ?_
    refine G.seq ?_
    refine G.rg ?_
    refine K.move (.inl rfl) (gd0 rfl) rfl rfl ?_
    refine K.lenL (lrowV 100 5 u8E 1 x8) (lrowV_is u8E_len (by decide)) (gd0 rfl) rfl rfl Try.underlying36 rfl ?_
    refine K.bin (V := .bool (decide ((x8.length : Int) < 8))) (gd0 rfl) rfl rfl (fun _ => rfl) rfl ?_
    refine K.nil ?_
    refine At.next ?_
    refine G.cond rfl (fun h8 => ?_) (fun h8 => ?_)
    ·
      replace H0 := bif_t H0 h8
      refine G.seq ?_
      refine G.rg ?_
      refine K.move (.inr rfl) (gd0 rfl) rfl rfl ?_
      refine K.nil ?_
      refine At.next ?_
      refine G.ret ?_
      refine At.over_ret ?_
      exact At.dr Y [6] rfl rfl (by cases H0; rfl) (by cases H0; rfl) rfl rfl rfl
    ·
      replace H0 := bif_f H0 h8
      refine G.skip ?_
      refine At.next ?_
      refine G.seq ?_
      obtain ⟨x9, hx9, H0⟩ := bnd H0
      refine G.rg ?_
      refine K.move (.inl rfl) (gd0 rfl) rfl rfl ?_
      refine K.move (.inl rfl) (gd0 rfl) rfl rfl ?_
      refine K.lenL (lrowV 100 5 u8E 1 x8) (lrowV_is u8E_len (by decide)) (gd0 rfl) rfl rfl Try.underlying36 rfl ?_
      refine K.cR (cf 20 rfl) (R01_Rest_con (k := k) hx9) (gd0 rfl) rfl rfl rfl rfl ?_
      refine K.move (.inr rfl) (gd0 rfl) rfl rfl ?_
      refine K.nil ?_
      refine At.next ?_
      refine G.seq ?_
      obtain ⟨x10, hx10, H0⟩ := bnd H0
      refine G.rg ?_
      refine K.move (.inl rfl) (gd0 rfl) rfl rfl ?_
      refine K.move (.inl rfl) (gd0 rfl) rfl rfl ?_
      refine K.move (.inl rfl) (gd0 rfl) rfl rfl ?_
      refine K.move (.inl rfl) (gd0 rfl) rfl rfl ?_
      refine K.idxL (lrowV 100 5 u8E 1 x8) ((x9).toNat) (lrowV_is u8E_len (by decide)) (atL_get hx10) (atL_nn hx10) (gd0 rfl) rfl rfl rfl Try.underlying36 el36.size_run rfl ?_
      refine K.load1L Y (lrowV 100 5 u8E 1 x8) ((x9).toNat) 0 (lrowV_is u8E_len (by decide)) (atL_get hx10) (gd0 rfl) rfl rfl t5 rfl rfl ?_
      refine K.move (.inl rfl) (gd0 rfl) rfl rfl ?_
      refine K.bin (V := .int .u8 (gxor .u8 x10 a2)) (gd0 rfl) rfl rfl (bt_xor _ _ _) rfl ?_
      refine K.idxL (lrowV 100 5 u8E 1 x8) ((x9).toNat) (lrowV_is u8E_len (by decide)) (atL_get hx10) (atL_nn hx10) (gd0 rfl) rfl rfl rfl Try.underlying36 el36.size_run rfl ?_
      refine K.storeL Y ((x9).toNat) 0 [_] (gxor .u8 x10 a2) u8E_len (by decide) (atL_get hx10) (gd0 rfl) rfl rfl rfl t5 rfl rfl rfl rfl rfl rfl ?_
      refine K.nil ?_
      refine At.next ?_
      refine G.seq ?_
      obtain ⟨x11, hx11, H0⟩ := bnd H0
      refine G.rg ?_
      refine K.move (.inl rfl) (gd0 rfl) rfl rfl ?_
      refine K.cV (cf 31 rfl) [100] (fun β w S2 h => frame_Get_con (k := k) (la 0 rfl u8E_len rfl h) hx11 101 rfl) (gd0 rfl) (fun _ => rfl) rfl rfl rfl ?_
      refine K.move (.inl rfl) (gd0 rfl) rfl rfl ?_
      refine K.extract (gd0 rfl) rfl rfl rfl ?_
      refine K.extract (gd0 rfl) rfl rfl rfl ?_
      refine K.move (.inr rfl) (gd0 rfl) rfl rfl ?_
      refine K.move (.inr rfl) (gd0 rfl) rfl rfl ?_
      refine K.nil ?_
      refine At.next ?_
      refine G.seq ?_
      refine G.seq ?_
      refine G.rg ?_
      refine K.move (.inl rfl) (gd0 rfl) rfl rfl ?_
      refine K.bin (V := .bool (x11.2 != 0)) (gd0 rfl) rfl rfl (fun _ => rfl) rfl ?_
      refine K.nil ?_
      refine At.next ?_
      refine G.cond rfl (fun h9 => ?_) (fun h9 => ?_)
      ·
        replace H0 := bif_t H0 h9
        refine G.seq ?_
        rcases Bool.eq_false_or_eq_true ((x11.1.length : Int) == 0) with h10 | h10
        ·
          replace H0 := bif_t H0 h10
          rcases Bool.eq_false_or_eq_true (x11.2 == 40) with h11 | h11
          ·
            replace H0 := bif_t H0 h11
            refine G.rg ?_
            refine K.move (.inl rfl) (gd0 rfl) rfl rfl ?_
            refine K.lenRR (gd0 rfl) rfl rfl Try.underlying44 rfl ?_
            refine K.bin (V := .bool ((x11.1.length : Int) == 0)) (gd0 rfl) rfl rfl (fun _ => rfl) rfl ?_
            refine K.move (.inl rfl) (gd0 rfl) rfl rfl ?_
            refine K.move (.inl rfl) (gd1 rfl rfl rfl (h10)) rfl rfl ?_
            refine K.bin (V := .bool (x11.2 == 40)) (gd1 rfl rfl rfl (h10)) rfl rfl (fun _ => rfl) rfl ?_
            refine K.move (.inl rfl) (gd1 rfl rfl rfl (h10)) rfl rfl ?_
            refine K.skip rfl rfl rfl rfl (h11) rfl ?_
            refine K.skip rfl rfl rfl rfl (h11) rfl ?_
            refine K.pickT (gd1 rfl rfl rfl (h10)) rfl (h11) rfl rfl ?_
            refine K.pickT (gd0 rfl) rfl (h10) rfl rfl ?_
            refine K.move (.inr rfl) (gd0 rfl) rfl rfl ?_
            refine K.nil ?_
            refine At.next ?_
            refine G.ret ?_
            refine At.over_ret ?_
            exact At.dr Y [6] rfl rfl (by cases H0; rfl) (by cases H0; rfl) rfl rfl rfl
          ·
            replace H0 := bif_f H0 h11
            refine G.rg ?_
            refine K.move (.inl rfl) (gd0 rfl) rfl rfl ?_
            refine K.lenRR (gd0 rfl) rfl rfl Try.underlying44 rfl ?_
            refine K.bin (V := .bool ((x11.1.length : Int) == 0)) (gd0 rfl) rfl rfl (fun _ => rfl) rfl ?_
            refine K.move (.inl rfl) (gd0 rfl) rfl rfl ?_
            refine K.move (.inl rfl) (gd1 rfl rfl rfl (h10)) rfl rfl ?_
            refine K.bin (V := .bool (x11.2 == 40)) (gd1 rfl rfl rfl (h10)) rfl rfl (fun _ => rfl) rfl ?_
            refine K.move (.inl rfl) (gd1 rfl rfl rfl (h10)) rfl rfl ?_
            refine K.move (.inl rfl) (gd1 rfl rfl rfl (h11)) rfl rfl ?_
            refine K.bin (V := .bool (x11.2 == 41)) (gd1 rfl rfl rfl (h11)) rfl rfl (fun _ => rfl) rfl ?_
            refine K.pickF (gd1 rfl rfl rfl (h10)) rfl (h11) rfl rfl ?_
            refine K.pickT (gd0 rfl) rfl (h10) rfl rfl ?_
            refine K.move (.inr rfl) (gd0 rfl) rfl rfl ?_
            refine K.nil ?_
            refine At.next ?_
            refine G.ret ?_
            refine At.over_ret ?_
            exact At.dr Y [6] rfl rfl (by cases H0; rfl) (by cases H0; rfl) rfl rfl rfl
        ·
          replace H0 := bif_f H0 h10
          refine G.rg ?_
          refine K.move (.inl rfl) (gd0 rfl) rfl rfl ?_
          refine K.lenRR (gd0 rfl) rfl rfl Try.underlying44 rfl ?_
          refine K.bin (V := .bool ((x11.1.length : Int) == 0)) (gd0 rfl) rfl rfl (fun _ => rfl) rfl ?_
          refine K.move (.inl rfl) (gd0 rfl) rfl rfl ?_
          refine K.skip rfl rfl rfl rfl (h10) rfl ?_
          refine K.skip rfl rfl rfl rfl (h10) rfl ?_
          refine K.skip rfl rfl rfl rfl (h10) rfl ?_
          refine K.skipU rfl rfl rfl rfl rfl ?_
          refine K.skipU rfl rfl rfl rfl rfl ?_
          refine K.skip rfl rfl rfl rfl (h10) rfl ?_
          refine K.pickF (gd0 rfl) rfl (h10) rfl rfl ?_
          refine K.move (.inr rfl) (gd0 rfl) rfl rfl ?_
          refine K.nil ?_
          refine At.next ?_
          refine G.ret ?_
          refine At.over_ret ?_
          exact At.dr Y [6] rfl rfl (by cases H0; rfl) (by cases H0; rfl) rfl rfl rfl
      ·
        replace H0 := bif_f H0 h9
        refine G.skip ?_
        refine At.next ?_
        refine G.seq ?_
        refine G.rg ?_
        refine K.nilRow 102 9 strE 1 (.inl rfl) (gd0 rfl) rfl rfl rfl ?_
        refine K.nil ?_
        refine At.next ?_
        obtain ⟨x12, H1, H0⟩ := bnd H0
        refine G.sJ (σ := { v : List ByteArray // x12 = v }) (fun q => [(9, .a (.c (.nv 103))), (11, .a (.c (.nv 104)))]) (fun q => [(0, rd S W0), (103, rrow 103 36 u8E 1 x11.1), (104, lrow 104 9 strE 1 q.1)]) ?_ ?_
        ·
          refine G.seq ?_
          refine G.rg ?_
          refine K.move (.inr rfl) (gd0 rfl) rfl rfl ?_
          refine K.nil ?_
          refine At.next ?_
          refine G.block ?_
          refine G.lp (σ := { q : Nat × (List ByteArray × Int) // Lw19_FrameOctet.l0 k l0 q.1 q.2 = some x12 }) (fun q => [(0, SV.raw s0), (9, .a (.c (.nv 109))), (11, .a (.c (.nv 110))), (12, .a (.c (.v (.int .i64 q.1.2.2))))]) (fun q => [(0, rd S W0), (109, rrow 109 36 u8E 1 x11.1), (110, lrow 110 9 strE 1 q.1.2.1)]) (fun q => q.1.1) ⟨(k, (([] : List ByteArray), 0)), H1⟩ ?_ ?_
          · exact At.into [(109, 101), (110, 102)] [_, _, _] rfl ⟨rfl, rfl, rfl, rfl, trivial⟩ ⟨rfl, (fun _ => rfl), rfl, (rrow_ren rfl), rfl, (lrow_ren rfl), trivial⟩ rfl
          ·
            rintro ⟨⟨n0, v1, v2⟩, H1⟩
            show G _ _ [(0, SV.raw s0), (9, .a (.c (.nv 109))), (11, .a (.c (.nv 110))), (12, .a (.c (.v (.int .i64 v2))))] [(0, some (rd S W0)), (109, some (rrow 109 36 u8E 1 x11.1)), (110, some (lrow 110 9 strE 1 v1))] _ _
            cases n0 with
            | zero => exact absurd H1 (by simp [Lw19_FrameOctet.l0])
            | succ n0 =>
              have HL0 := H1
              rw [Lw19_FrameOctet.l0] at H1
              refine G.seq ?_
              refine G.seq ?_
              refine G.rg ?_
              refine K.move (.inl rfl) (gd0 rfl) rfl rfl ?_
              refine K.move (.inl rfl) (gd0 rfl) rfl rfl ?_
              refine K.lenE (rV 0 S W0 s0 b0 o0 vE 1 vs0) (l0.length : Int) (hI0.is 0) hin0.len (gd0 rfl) rfl rfl Try.underlying44 rfl ?_
              refine K.bin (V := .bool (decide (v2 < (l0.length : Int)))) (gd0 rfl) rfl rfl (fun _ => rfl) rfl ?_
              refine K.nil ?_
              refine At.next ?_
              refine G.cond rfl (fun h12 => ?_) (fun h12 => ?_)
              ·
                replace H1 := bif_t H1 h12
                refine G.skip ?_
                refine At.next ?_
                refine G.seq ?_
                refine G.block ?_
                obtain ⟨x13, hx13, H1⟩ := bnd H1
                obtain ⟨ao_h13, cap_h13, b_h13, o_h13, hw_h13, hI_h13⟩ := hin0.at hx13
                obtain ⟨h15, H1⟩ := grd H1
                refine G.rg ?_
                refine K.move (.inl rfl) (gd0 rfl) rfl rfl ?_
                refine K.move (.inl rfl) (gd0 rfl) rfl rfl ?_
                refine K.move (.inl rfl) (gd0 rfl) rfl rfl ?_
                refine K.idxL (rV 0 S W0 s0 b0 o0 vE 1 vs0) ((v2).toNat) (hI0.is 0) hw_h13 (atL_nn hx13) (gd0 rfl) rfl rfl rfl Try.underlying44 el44.size_run rfl ?_
                refine K.load1L Y (rV 0 S W0 s0 b0 o0 vE 1 vs0) ((v2).toNat) 0 (hI0.is 0) hw_h13 (gd0 rfl) rfl rfl t36 rfl rfl ?_
                refine K.bstr (rV 0 S W0 (Value.slice ao_h13 x13.length cap_h13) b_h13 o_h13 u8E 1 x13) (hI_h13.is 0) (gd0 rfl) rfl rfl Try.underlying36 Try.underlying5 Try.underlying9 rfl ?_
                refine K.buildL Y 111 ([(strOfNums x13)] : List ByteArray) [(0, _)] [((.tmp 77), _)] strE_len (gd0 rfl) (AllE.spec ⟨rfl, trivial⟩) rfl rfl Try.underlying46 t9 rfl rfl rfl rfl rfl rfl rfl rfl ?_
                refine K.appendL 112 (lrowV 111 9 strE 1 ([(strOfNums x13)] : List ByteArray)) _ el46 (lrowV_is strE_len (by decide)) strE_one (gd0 rfl) rfl rfl rfl rfl rfl (ap_m h15) (ap_b h15 (by decide)) rfl rfl rfl rfl rfl rfl ?_
                refine K.move (.inr rfl) (gd0 rfl) rfl rfl ?_
                refine K.nil ?_
                refine At.block_normal ?_
                refine At.next ?_
                refine G.rg ?_
                refine K.move (.inl rfl) (gd0 rfl) rfl rfl ?_
                refine K.bin (V := .int .i64 (w64 (v2 + 1))) (gd0 rfl) rfl rfl (fun _ => rfl) rfl ?_
                refine K.move (.inr rfl) (gd0 rfl) rfl rfl ?_
                refine K.nil ?_
                exact At.ag ⟨(n0, ((v1 ++ ([(strOfNums x13)] : List ByteArray)), (w64 (v2 + 1)))), H1⟩ [(110, 112)] [_, _, _] (Nat.lt_succ_self _) rfl ⟨rfl, rfl, rfl, rfl, trivial⟩ ⟨rfl, (fun _ => rfl), rfl, (rrow_ren rfl), rfl, (lrow_ren rfl), trivial⟩ rfl
              ·
                replace H1 := bif_f H1 h12
                refine G.exit ?_
                refine At.over_exit ?_
                refine At.over_exit ?_
                refine At.block_hit ?_
                exact At.jd ⟨v1, oi H1⟩ [(103, 109), (104, 110)] [_, _, _] rfl ⟨rfl, rfl, trivial⟩ ⟨rfl, (fun _ => rfl), rfl, (rrow_ren rfl), rfl, (lrow_ren rfl), trivial⟩ rfl
        ·
          rintro ⟨_, rfl⟩
          show G _ _ [(9, .a (.c (.nv 103))), (11, .a (.c (.nv 104)))] [(0, some (rd S W0)), (103, some (rrow 103 36 u8E 1 x11.1)), (104, some (lrow 104 9 strE 1 x12))] _ _
          refine G.seq ?_
          obtain ⟨x14, hx14, H0⟩ := bnd H0
          refine G.rg ?_
          refine K.move (.inl rfl) (gd0 rfl) rfl rfl ?_
          refine K.move (.inl rfl) (gd0 rfl) rfl rfl ?_
          refine K.cV (cf 32 rfl) [103, 104] (fun β w S2 h => Lw19_same_con (k := k) (rr_ll 0 rfl h) (la 1 rfl strE_len rfl h) hx14) (gd0 rfl) (fun _ => rfl) rfl rfl rfl ?_
          refine K.un (V := .bool (!x14)) (gd0 rfl) rfl (fun _ => rfl) rfl ?_
          refine K.move (.inr rfl) (gd0 rfl) rfl rfl ?_
          refine K.nil ?_
          refine At.next ?_
          refine G.ret ?_
          exact At.dr Y [6] rfl rfl (by cases H0; rfl) (by cases H0; rfl) rfl rfl rfl
theorem Lw19_FrameOctet_con {k : Nat}  {S : Foot} {W0 : World} {s0 : Value} {l0 : List (List Int)} {a1 : Int} {a2 : Int} {r : Bool} (hL0 : LL S W0 s0 u8E 1 l0) (H0 : Lw19_FrameOctet.f k l0 a1 a2 = some r) : Lw19_FrameOctet_st S W0 s0 a1 a2 r :=
  SCon.ren (rn []) (Lw19_FrameOctet_con0 (k := k)  hL0 H0) ⟨(fun _ => rfl), trivial⟩ ⟨(fun _ => rfl), trivial⟩ (by simp) (by simp)
abbrev Lw19_FrameJoined_st (S : Foot) (W0 : World) (s0 : Value) (s1 : Value) (r : Bool) : Prop := SCon Try.prog 13 [SV.raw s0, SV.raw s1] [(0, rd S W0)] (.a (.c (.v (.bool r)))) [(0, rd S W0)] []
set_option maxHeartbeats 4000000 in
theorem Lw19_FrameJoined_con0 {k : Nat}  {S : Foot} {W0 : World} {s0 : Value} {s1 : Value} {l0 : List (List Int)} {l1 : List (List Int)} {r : Bool} (hL0 : LL S W0 s0 u8E 1 l0) (hL1 : LL S W0 s1 u8E 1 l1) (H0 : Lw19_FrameJoined.f k l0 l1 = some r) : Lw19_FrameJoined_st S W0 s0 s1 r := by
  rw [Lw19_FrameJoined.f] at H0
  obtain ⟨vs0, ⟨b0, o0, hI0⟩, hin0⟩ := hL0
  obtain ⟨vs1, ⟨b1, o1, hI1⟩, hin1⟩ := hL1
  refine spec_of [(0, _), (1, _)] [(0, _)] 68 Try.func13 rfl Try.ntmps13 rfl rfl rfl rfl (fun β W F => ?_)
  refine G.seq ?_
  refine G.rg ?_
  refine K.move (.inr rfl) (gd0 rfl) rfl rfl ?_
  refine K.nil ?_
  refine At.next ?_
  obtain ⟨x1, H1, H0⟩ := bnd H0
  refine G.sJ (σ := { v : Unit // x1 = Sum.inr v }) (fun q => [(0, SV.raw s0), (1, SV.raw s1)]) (fun q => [(0, rd S W0)]) ?_ ?_
  ·
    refine G.seq ?_
    obtain ⟨x2, hx2, H1⟩ := bnd H1
    rcases Bool.eq_false_or_eq_true (!x2) with h1 | h1
    ·
      replace H1 := bif_t H1 h1
      refine G.rg ?_
      refine K.cR (cf 27 rfl) (Lw19_awake_con (k := k) hx2) (gd0 rfl) rfl rfl rfl rfl ?_
      refine K.un (V := .bool (!x2)) (gd0 rfl) rfl (fun _ => rfl) rfl ?_
      refine K.move (.inl rfl) (gd0 rfl) rfl rfl ?_
      refine K.skip rfl rfl rfl rfl (h1) rfl ?_
      refine K.skip rfl rfl rfl rfl (h1) rfl ?_
      refine K.skip rfl rfl rfl rfl (h1) rfl ?_
      refine K.pickT (gd0 rfl) rfl (h1) rfl rfl ?_
      refine K.move (.inl rfl) (gd0 rfl) rfl rfl ?_
      refine K.skip rfl rfl rfl rfl (rfl) rfl ?_
      refine K.skip rfl rfl rfl rfl (rfl) rfl ?_
      refine K.skip rfl rfl rfl rfl (rfl) rfl ?_
      refine K.pickT (gd0 rfl) rfl (rfl) rfl rfl ?_
      refine K.nil ?_
      refine At.next ?_
      refine G.cond rfl (fun h2 => ?_) (fun h2 => ?_)
      ·
        refine G.seq ?_
        obtain ⟨x3, hx3, H1⟩ := bnd H1
        refine G.rg ?_
        refine K.cR (cf 27 rfl) (Lw19_awake_con (k := k) hx3) (gd0 rfl) rfl rfl rfl rfl ?_
        refine K.move (.inr rfl) (gd0 rfl) rfl rfl ?_
        refine K.nil ?_
        refine At.next ?_
        refine G.ret ?_
        refine At.over_ret ?_
        cases H1
        replace H0 := sum_l H0
        exact At.dr Y [4] rfl rfl (by cases H0; rfl) (by cases H0; rfl) rfl rfl rfl
      · cases h2
    ·
      replace H1 := bif_f H1 h1
      obtain ⟨x4, hx4, H1⟩ := bnd H1
      rcases Bool.eq_false_or_eq_true (!x4) with h3 | h3
      ·
        replace H1 := bif_t H1 h3
        refine G.rg ?_
        refine K.cR (cf 27 rfl) (Lw19_awake_con (k := k) hx2) (gd0 rfl) rfl rfl rfl rfl ?_
        refine K.un (V := .bool (!x2)) (gd0 rfl) rfl (fun _ => rfl) rfl ?_
        refine K.move (.inl rfl) (gd0 rfl) rfl rfl ?_
        refine K.move (.inl rfl) (gd1 rfl rfl rfl (h1)) rfl rfl ?_
        refine K.cV (cf 28 rfl) [0] (fun β w S2 h => Lw19_small_con (k := k) (rd_ll 0 rfl h ⟨_, ⟨_, _, hI0⟩, hin0⟩) hx4) (gd1 rfl rfl rfl (h1)) (fun _ => rfl) rfl rfl rfl ?_
        refine K.un (V := .bool (!x4)) (gd1 rfl rfl rfl (h1)) rfl (fun _ => rfl) rfl ?_
        refine K.pickF (gd0 rfl) rfl (h1) rfl rfl ?_
        refine K.move (.inl rfl) (gd0 rfl) rfl rfl ?_
        refine K.skip rfl rfl rfl rfl (h3) rfl ?_
        refine K.skip rfl rfl rfl rfl (h3) rfl ?_
        refine K.skip rfl rfl rfl rfl (h3) rfl ?_
        refine K.pickT (gd0 rfl) rfl (h3) rfl rfl ?_
        refine K.nil ?_
        refine At.next ?_
        refine G.cond rfl (fun h4 => ?_) (fun h4 => ?_)
        ·
          refine G.seq ?_
          obtain ⟨x5, hx5, H1⟩ := bnd H1
          refine G.rg ?_
          refine K.cR (cf 27 rfl) (Lw19_awake_con (k := k) hx5) (gd0 rfl) rfl rfl rfl rfl ?_
          refine K.move (.inr rfl) (gd0 rfl) rfl rfl ?_
          refine K.nil ?_
          refine At.next ?_
          refine G.ret ?_
          refine At.over_ret ?_
          cases H1
          replace H0 := sum_l H0
          exact At.dr Y [4] rfl rfl (by cases H0; rfl) (by cases H0; rfl) rfl rfl rfl
        · cases h4
      ·
        replace H1 := bif_f H1 h3
        obtain ⟨x6, hx6, H1⟩ := bnd H1
        refine G.rg ?_
        refine K.cR (cf 27 rfl) (Lw19_awake_con (k := k) hx2) (gd0 rfl) rfl rfl rfl rfl ?_
        refine K.un (V := .bool (!x2)) (gd0 rfl) rfl (fun _ => rfl) rfl ?_
        refine K.move (.inl rfl) (gd0 rfl) rfl rfl ?_
        refine K.move (.inl rfl) (gd1 rfl rfl rfl (h1)) rfl rfl ?_
        refine K.cV (cf 28 rfl) [0] (fun β w S2 h => Lw19_small_con (k := k) (rd_ll 0 rfl h ⟨_, ⟨_, _, hI0⟩, hin0⟩) hx4) (gd1 rfl rfl rfl (h1)) (fun _ => rfl) rfl rfl rfl ?_
        refine K.un (V := .bool (!x4)) (gd1 rfl rfl rfl (h1)) rfl (fun _ => rfl) rfl ?_
        refine K.pickF (gd0 rfl) rfl (h1) rfl rfl ?_
        refine K.move (.inl rfl) (gd0 rfl) rfl rfl ?_
        refine K.move (.inl rfl) (gd1 rfl rfl rfl (h3)) rfl rfl ?_
        refine K.cV (cf 28 rfl) [0] (fun β w S2 h => Lw19_small_con (k := k) (rd_ll 0 rfl h ⟨_, ⟨_, _, hI1⟩, hin1⟩) hx6) (gd1 rfl rfl rfl (h3)) (fun _ => rfl) rfl rfl rfl ?_
        refine K.un (V := .bool (!x6)) (gd1 rfl rfl rfl (h3)) rfl (fun _ => rfl) rfl ?_
        refine K.pickF (gd0 rfl) rfl (h3) rfl rfl ?_
        refine K.nil ?_
        refine At.next ?_
        refine G.cond rfl (fun h5 => ?_) (fun h5 => ?_)
        ·
          replace H1 := bif_t H1 h5
          refine G.seq ?_
          obtain ⟨x7, hx7, H1⟩ := bnd H1
          refine G.rg ?_
          refine K.cR (cf 27 rfl) (Lw19_awake_con (k := k) hx7) (gd0 rfl) rfl rfl rfl rfl ?_
          refine K.move (.inr rfl) (gd0 rfl) rfl rfl ?_
          refine K.nil ?_
          refine At.next ?_
          refine G.ret ?_
          refine At.over_ret ?_
          cases H1
          replace H0 := sum_l H0
          exact At.dr Y [4] rfl rfl (by cases H0; rfl) (by cases H0; rfl) rfl rfl rfl
        ·
          replace H1 := bif_f H1 h5
          refine G.skip ?_
          exact At.jd ⟨(), oi H1⟩ [] [_] rfl ⟨rfl, rfl, trivial⟩ ⟨rfl, (fun _ => rfl), trivial⟩ rfl
  ·
    rintro ⟨w1, rfl⟩
    replace H0 := sum_r H0
    show G _ _ [(0, SV.raw s0), (1, SV.raw s1)] [(0, some (rd S W0))] _ _
    refine G.seq ?_
    refine G.rg ?_
    refine K.nilRow 100 36 vE 1 (.inl rfl) (gd0 rfl) rfl rfl rfl ?_
    refine K.nil ?_
    refine At.next ?_
    refine G.seq ?_
    obtain ⟨h6, H0⟩ := grd H0
    obtain ⟨h7, H0⟩ := grd H0
    refine G.rg ?_
    refine K.move (.inl rfl) (gd0 rfl) rfl rfl ?_
    refine K.move (.inl rfl) (gd0 rfl) rfl rfl ?_
    refine K.appendLL 101 (rV 0 S W0 s0 b0 o0 vE 1 vs0) el44 (hI0.is 0) (LLI.nil : LLI S W0 u8E 1 [] []) hin0 (gd0 rfl) rfl rfl rfl rfl rfl h6 (by decide) rfl rfl rfl rfl rfl rfl ?_
    refine K.move (.inl rfl) (gd0 rfl) rfl rfl ?_
    refine K.appendLL 102 (rV 0 S W0 s1 b1 o1 vE 1 vs1) el44 (hI1.is 0) ((LLI.nil : LLI S W0 u8E 1 [] []).append hin0) hin1 (gd0 rfl) rfl rfl rfl rfl rfl h7 (by decide) rfl rfl rfl rfl rfl rfl ?_
    refine K.move (.inr rfl) (gd0 rfl) rfl rfl ?_
    refine K.nil ?_
    refine At.next ?_
    refine G.seq ?_
    obtain ⟨x8, hx8, H0⟩ := bnd H0
    obtain ⟨x9, hx9, H0⟩ := bnd H0
    obtain ⟨h8, H0⟩ := grd H0
    refine G.rg ?_
    refine K.move (.inl rfl) (gd0 rfl) rfl rfl ?_
    refine K.cV (cf 30 rfl) [0] (fun β w S2 h => frame_Put_con (k := k) (rd_ll 0 rfl h ⟨_, ⟨_, _, hI0⟩, hin0⟩) hx8 103 rfl) (gd0 rfl) (fun _ => rfl) rfl rfl rfl ?_
    refine K.move (.inl rfl) (gd0 rfl) rfl rfl ?_
    refine K.cV (cf 30 rfl) [0] (fun β w S2 h => frame_Put_con (k := k) (rd_ll 0 rfl h ⟨_, ⟨_, _, hI1⟩, hin1⟩) hx9 104 rfl) (gd0 rfl) (fun _ => rfl) rfl rfl rfl ?_
    refine K.appendL 105 (lrowV 104 5 u8E 1 x9) _ el36 (lrowV_is u8E_len (by decide)) u8E_one (gd0 rfl) rfl rfl rfl rfl rfl (ap_m h8) (ap_b h8 (by decide)) rfl rfl rfl rfl rfl rfl ?_
    refine K.move (.inr rfl) (gd0 rfl) rfl rfl ?_
    refine K.nil ?_
    refine At.next ?_
    refine G.seq ?_
    obtain ⟨x10, hx10, H0⟩ := bnd H0
    refine G.rg ?_
    refine K.move (.inl rfl) (gd0 rfl) rfl rfl ?_
    refine K.cV (cf 31 rfl) [105] (fun β w S2 h => frame_Get_con (k := k) (la 0 rfl u8E_len rfl h) hx10 106 rfl) (gd0 rfl) (fun _ => rfl) rfl rfl rfl ?_
    refine K.move (.inl rfl) (gd0 rfl) rfl rfl ?_
    refine K.extract (gd0 rfl) rfl rfl rfl ?_
    refine K.extract (gd0 rfl) rfl rfl rfl ?_
    refine K.move (.inr rfl) (gd0 rfl) rfl rfl ?_
    refine K.move (.inr rfl) (gd0 rfl) rfl rfl ?_
    refine K.nil ?_
    refine At.next ?_
    refine G.seq ?_
    refine G.rg ?_
    refine K.nilRow 107 9 strE 1 (.inl rfl) (gd0 rfl) rfl rfl rfl ?_
    refine K.nil ?_
    refine At.next ?_
    obtain ⟨x11, H1, H0⟩ := bnd H0
    refine G.sJ (σ := { v : List ByteArray // x11 = v }) (fun q => [(5, .a (.c (.nv 108))), (6, .a (.c (.nv 109))), (7, .a (.c (.nv 110))), (8, .a (.c (.v (.int .i64 x10.2)))), (9, .a (.c (.nv 111)))]) (fun q => [(0, rd S W0), (108, lrow 108 36 vE 1 ((([] : List Value) ++ vs0) ++ vs1)), (109, lrow 109 5 u8E 1 (x8 ++ x9)), (110, rrow 110 36 u8E 1 x10.1), (111, lrow 111 9 strE 1 q.1)]) ?_ ?_
    ·
      refine G.seq ?_
      refine G.rg ?_
      refine K.move (.inr rfl) (gd0 rfl) rfl rfl ?_
      refine K.nil ?_
      refine At.next ?_
      refine G.block ?_
      refine G.lp (σ := { q : Nat × (List ByteArray × Int) // Lw19_FrameJoined.l0 k l0 l1 q.1 q.2 = some x11 }) (fun q => [(5, .a (.c (.nv 120))), (6, .a (.c (.nv 121))), (7, .a (.c (.nv 122))), (8, .a (.c (.v (.int .i64 x10.2)))), (9, .a (.c (.nv 123))), (10, .a (.c (.v (.int .i64 q.1.2.2))))]) (fun q => [(0, rd S W0), (120, lrow 120 36 vE 1 ((([] : List Value) ++ vs0) ++ vs1)), (121, lrow 121 5 u8E 1 (x8 ++ x9)), (122, rrow 122 36 u8E 1 x10.1), (123, lrow 123 9 strE 1 q.1.2.1)]) (fun q => q.1.1) ⟨(k, (([] : List ByteArray), 0)), H1⟩ ?_ ?_
      · exact At.into [(120, 102), (121, 105), (122, 106), (123, 107)] [_, _, _, _, _] rfl ⟨rfl, rfl, rfl, rfl, rfl, rfl, trivial⟩ ⟨rfl, (fun _ => rfl), rfl, (lrow_ren rfl), rfl, (lrow_ren rfl), rfl, (rrow_ren rfl), rfl, (lrow_ren rfl), trivial⟩ rfl
      ·
        rintro ⟨⟨n0, v1, v2⟩, H1⟩
        show G _ _ [(5, .a (.c (.nv 120))), (6, .a (.c (.nv 121))), (7, .a (.c (.nv 122))), (8, .a (.c (.v (.int .i64 x10.2)))), (9, .a (.c (.nv 123))), (10, .a (.c (.v (.int .i64 v2))))] [(0, some (rd S W0)), (120, some (lrow 120 36 vE 1 ((([] : List Value) ++ vs0) ++ vs1))), (121, some (lrow 121 5 u8E 1 (x8 ++ x9))), (122, some (rrow 122 36 u8E 1 x10.1)), (123, some (lrow 123 9 strE 1 v1))] _ _
        cases n0 with
        | zero => exact absurd H1 (by simp [Lw19_FrameJoined.l0])
        | succ n0 =>
          have HL0 := H1
          rw [Lw19_FrameJoined.l0] at H1
          refine G.seq ?_
          refine G.seq ?_
          refine G.rg ?_
          refine K.move (.inl rfl) (gd0 rfl) rfl rfl ?_
          refine K.move (.inl rfl) (gd0 rfl) rfl rfl ?_
          refine K.lenE (lrowV 120 36 vE 1 ((([] : List Value) ++ vs0) ++ vs1)) (((([] : List (List Int)) ++ l0) ++ l1).length : Int) (lrowV_is vE_len (by decide)) (((LLI.nil : LLI S W0 u8E 1 [] []).append hin0).append hin1).len (gd0 rfl) rfl rfl Try.underlying44 rfl ?_
          refine K.bin (V := .bool (decide (v2 < (((([] : List (List Int)) ++ l0) ++ l1).length : Int)))) (gd0 rfl) rfl rfl (fun _ => rfl) rfl ?_
          refine K.nil ?_
          refine At.next ?_
          refine G.cond rfl (fun h9 => ?_) (fun h9 => ?_)
          ·
            replace H1 := bif_t H1 h9
            refine G.skip ?_
            refine At.next ?_
            refine G.seq ?_
            refine G.block ?_
            obtain ⟨x12, hx12, H1⟩ := bnd H1
            obtain ⟨ao_h10, cap_h10, b_h10, o_h10, hw_h10, hI_h10⟩ := (((LLI.nil : LLI S W0 u8E 1 [] []).append hin0).append hin1).at hx12
            obtain ⟨h12, H1⟩ := grd H1
            refine G.rg ?_
            refine K.move (.inl rfl) (gd0 rfl) rfl rfl ?_
            refine K.move (.inl rfl) (gd0 rfl) rfl rfl ?_
            refine K.move (.inl rfl) (gd0 rfl) rfl rfl ?_
            refine K.idxL (lrowV 120 36 vE 1 ((([] : List Value) ++ vs0) ++ vs1)) ((v2).toNat) (lrowV_is vE_len (by decide)) hw_h10 (atL_nn hx12) (gd0 rfl) rfl rfl rfl Try.underlying44 el44.size_run rfl ?_
            refine K.load1L Y (lrowV 120 36 vE 1 ((([] : List Value) ++ vs0) ++ vs1)) ((v2).toNat) 0 (lrowV_is vE_len (by decide)) hw_h10 (gd0 rfl) rfl rfl t36 rfl rfl ?_
            refine K.bstr (rV 0 S W0 (Value.slice ao_h10 x12.length cap_h10) b_h10 o_h10 u8E 1 x12) (hI_h10.is 0) (gd0 rfl) rfl rfl Try.underlying36 Try.underlying5 Try.underlying9 rfl ?_
            refine K.buildL Y 124 ([(strOfNums x12)] : List ByteArray) [(0, _)] [((.tmp 50), _)] strE_len (gd0 rfl) (AllE.spec ⟨rfl, trivial⟩) rfl rfl Try.underlying46 t9 rfl rfl rfl rfl rfl rfl rfl rfl ?_
            refine K.appendL 125 (lrowV 124 9 strE 1 ([(strOfNums x12)] : List ByteArray)) _ el46 (lrowV_is strE_len (by decide)) strE_one (gd0 rfl) rfl rfl rfl rfl rfl (ap_m h12) (ap_b h12 (by decide)) rfl rfl rfl rfl rfl rfl ?_
            refine K.move (.inr rfl) (gd0 rfl) rfl rfl ?_
            refine K.nil ?_
            refine At.block_normal ?_
            refine At.next ?_
            refine G.rg ?_
            refine K.move (.inl rfl) (gd0 rfl) rfl rfl ?_
            refine K.bin (V := .int .i64 (w64 (v2 + 1))) (gd0 rfl) rfl rfl (fun _ => rfl) rfl ?_
            refine K.move (.inr rfl) (gd0 rfl) rfl rfl ?_
            refine K.nil ?_
            exact At.ag ⟨(n0, ((v1 ++ ([(strOfNums x12)] : List ByteArray)), (w64 (v2 + 1)))), H1⟩ [(123, 125)] [_, _, _, _, _] (Nat.lt_succ_self _) rfl ⟨rfl, rfl, rfl, rfl, rfl, rfl, trivial⟩ ⟨rfl, (fun _ => rfl), rfl, (lrow_ren rfl), rfl, (lrow_ren rfl), rfl, (rrow_ren rfl), rfl, (lrow_ren rfl), trivial⟩ rfl
          ·
            replace H1 := bif_f H1 h9
            refine G.exit ?_
            refine At.over_exit ?_
            refine At.over_exit ?_
            refine At.block_hit ?_
            exact At.jd ⟨v1, oi H1⟩ [(108, 120), (109, 121), (110, 122), (111, 123)] [_, _, _, _, _] rfl ⟨rfl, rfl, rfl, rfl, rfl, trivial⟩ ⟨rfl, (fun _ => rfl), rfl, (lrow_ren rfl), rfl, (lrow_ren rfl), rfl, (rrow_ren rfl), rfl, (lrow_ren rfl), trivial⟩ rfl
    ·
      rintro ⟨_, rfl⟩
      show G _ _ [(5, .a (.c (.nv 108))), (6, .a (.c (.nv 109))), (7, .a (.c (.nv 110))), (8, .a (.c (.v (.int .i64 x10.2)))), (9, .a (.c (.nv 111)))] [(0, some (rd S W0)), (108, some (lrow 108 36 vE 1 ((([] : List Value) ++ vs0) ++ vs1))), (109, some (lrow 109 5 u8E 1 (x8 ++ x9))), (110, some (rrow 110 36 u8E 1 x10.1)), (111, some (lrow 111 9 strE 1 x11))] _ _
      refine G.seq ?_
      obtain ⟨x13, hx13, H0⟩ := bnd H0
      rcases Bool.eq_false_or_eq_true (gseq (strOfNums (x8 ++ x9)) (strOfNums x13)) with h13 | h13
      ·
        replace H0 := bif_t H0 h13
        rcases Bool.eq_false_or_eq_true (x10.2 == 0) with h14 | h14
        ·
          replace H0 := bif_t H0 h14
          obtain ⟨x14, hx14, H0⟩ := bnd H0
          refine G.rd mixed ?_
          refine K.move (.inl rfl) (gd0 rfl) rfl rfl ?_
          refine K.bstr (lrowV 109 5 u8E 1 (x8 ++ x9)) (lrowV_is u8E_len (by decide)) (gd0 rfl) rfl rfl Try.underlying36 Try.underlying5 Try.underlying9 rfl ?_
          refine K.move (.inl rfl) (gd0 rfl) rfl rfl ?_
          refine K.cV (cf 30 rfl) [108, 0] (fun β w S2 h => frame_Put_con (k := k) ⟨_, la 0 rfl vE_len rfl h, rd_lli 1 rfl h (((LLI.nil : LLI S W0 u8E 1 [] []).append hin0).append hin1)⟩ hx13 126 rfl) (gd0 rfl) (fun _ => rfl) rfl rfl rfl ?_
          refine K.bstr (lrowV 126 5 u8E 1 x13) (lrowV_is u8E_len (by decide)) (gd0 rfl) rfl rfl Try.underlying36 Try.underlying5 Try.underlying9 rfl ?_
          refine K.bin (V := .bool (gseq (strOfNums (x8 ++ x9)) (strOfNums x13))) (gd0 rfl) rfl rfl (st_eql _ _ _ _ _) rfl ?_
          refine K.move (.inl rfl) (gd0 rfl) rfl rfl ?_
          refine K.move (.inl rfl) (gd1 rfl rfl rfl (h13)) rfl rfl ?_
          refine K.bin (V := .bool (x10.2 == 0)) (gd1 rfl rfl rfl (h13)) rfl rfl (fun _ => rfl) rfl ?_
          refine K.pickT (gd0 rfl) rfl (h13) rfl rfl ?_
          refine K.move (.inl rfl) (gd0 rfl) rfl rfl ?_
          refine K.move (.inl rfl) (gd1 rfl rfl rfl (h14)) rfl rfl ?_
          refine K.move (.inl rfl) (gd1 rfl rfl rfl (h14)) rfl rfl ?_
          refine K.cV (cf 32 rfl) [110, 111] (fun β w S2 h => Lw19_same_con (k := k) (rr_ll 0 rfl h) (la 1 rfl strE_len rfl h) hx14) (gd1 rfl rfl rfl (h14)) (fun _ => rfl) rfl rfl rfl ?_
          refine K.pickT (gd0 rfl) rfl (h14) rfl rfl ?_
          refine K.move (.inr rfl) (gd0 rfl) rfl rfl ?_
          refine K.nil ?_
          refine ⟨by kernel_rfl, ?_⟩
          refine At.next ?_
          refine G.ret ?_
          exact At.dr Y [4] rfl rfl (by cases H0; rfl) (by cases H0; rfl) rfl rfl rfl
        ·
          replace H0 := bif_f H0 h14
          refine G.rd mixed ?_
          refine K.move (.inl rfl) (gd0 rfl) rfl rfl ?_
          refine K.bstr (lrowV 109 5 u8E 1 (x8 ++ x9)) (lrowV_is u8E_len (by decide)) (gd0 rfl) rfl rfl Try.underlying36 Try.underlying5 Try.underlying9 rfl ?_
          refine K.move (.inl rfl) (gd0 rfl) rfl rfl ?_
          refine K.cV (cf 30 rfl) [108, 0] (fun β w S2 h => frame_Put_con (k := k) ⟨_, la 0 rfl vE_len rfl h, rd_lli 1 rfl h (((LLI.nil : LLI S W0 u8E 1 [] []).append hin0).append hin1)⟩ hx13 126 rfl) (gd0 rfl) (fun _ => rfl) rfl rfl rfl ?_
          refine K.bstr (lrowV 126 5 u8E 1 x13) (lrowV_is u8E_len (by decide)) (gd0 rfl) rfl rfl Try.underlying36 Try.underlying5 Try.underlying9 rfl ?_
          refine K.bin (V := .bool (gseq (strOfNums (x8 ++ x9)) (strOfNums x13))) (gd0 rfl) rfl rfl (st_eql _ _ _ _ _) rfl ?_
          refine K.move (.inl rfl) (gd0 rfl) rfl rfl ?_
          refine K.move (.inl rfl) (gd1 rfl rfl rfl (h13)) rfl rfl ?_
          refine K.bin (V := .bool (x10.2 == 0)) (gd1 rfl rfl rfl (h13)) rfl rfl (fun _ => rfl) rfl ?_
          refine K.pickT (gd0 rfl) rfl (h13) rfl rfl ?_
          refine K.move (.inl rfl) (gd0 rfl) rfl rfl ?_
          refine K.skip rfl rfl rfl rfl (h14) rfl ?_
          refine K.skip rfl rfl rfl rfl (h14) rfl ?_
          refine K.skip rfl rfl rfl rfl (h14) rfl ?_
          refine K.pickF (gd0 rfl) rfl (h14) rfl rfl ?_
          refine K.move (.inr rfl) (gd0 rfl) rfl rfl ?_
          refine K.nil ?_
          refine ⟨by kernel_rfl, ?_⟩
          refine At.next ?_
          refine G.ret ?_
          exact At.dr Y [4] rfl rfl (by cases H0; rfl) (by cases H0; rfl) rfl rfl rfl
      ·
        replace H0 := bif_f H0 h13
        refine G.rd mixed ?_
        refine K.move (.inl rfl) (gd0 rfl) rfl rfl ?_
        refine K.bstr (lrowV 109 5 u8E 1 (x8 ++ x9)) (lrowV_is u8E_len (by decide)) (gd0 rfl) rfl rfl Try.underlying36 Try.underlying5 Try.underlying9 rfl ?_
        refine K.move (.inl rfl) (gd0 rfl) rfl rfl ?_
        refine K.cV (cf 30 rfl) [108, 0] (fun β w S2 h => frame_Put_con (k := k) ⟨_, la 0 rfl vE_len rfl h, rd_lli 1 rfl h (((LLI.nil : LLI S W0 u8E 1 [] []).append hin0).append hin1)⟩ hx13 126 rfl) (gd0 rfl) (fun _ => rfl) rfl rfl rfl ?_
        refine K.bstr (lrowV 126 5 u8E 1 x13) (lrowV_is u8E_len (by decide)) (gd0 rfl) rfl rfl Try.underlying36 Try.underlying5 Try.underlying9 rfl ?_
        refine K.bin (V := .bool (gseq (strOfNums (x8 ++ x9)) (strOfNums x13))) (gd0 rfl) rfl rfl (st_eql _ _ _ _ _) rfl ?_
        refine K.move (.inl rfl) (gd0 rfl) rfl rfl ?_
        refine K.skip rfl rfl rfl rfl (h13) rfl ?_
        refine K.skip rfl rfl rfl rfl (h13) rfl ?_
        refine K.pickF (gd0 rfl) rfl (h13) rfl rfl ?_
        refine K.move (.inl rfl) (gd0 rfl) rfl rfl ?_
        refine K.skip rfl rfl rfl rfl (rfl) rfl ?_
        refine K.skip rfl rfl rfl rfl (rfl) rfl ?_
        refine K.skip rfl rfl rfl rfl (rfl) rfl ?_
        refine K.pickF (gd0 rfl) rfl (rfl) rfl rfl ?_
        refine K.move (.inr rfl) (gd0 rfl) rfl rfl ?_
        refine K.nil ?_
        refine ⟨by kernel_rfl, ?_⟩
        refine At.next ?_
        refine G.ret ?_
        exact At.dr Y [4] rfl rfl (by cases H0; rfl) (by cases H0; rfl) rfl rfl rfl
theorem Lw19_FrameJoined_con {k : Nat}  {S : Foot} {W0 : World} {s0 : Value} {s1 : Value} {l0 : List (List Int)} {l1 : List (List Int)} {r : Bool} (hL0 : LL S W0 s0 u8E 1 l0) (hL1 : LL S W0 s1 u8E 1 l1) (H0 : Lw19_FrameJoined.f k l0 l1 = some r) : Lw19_FrameJoined_st S W0 s0 s1 r :=
  SCon.ren (rn []) (Lw19_FrameJoined_con0 (k := k)  hL0 hL1 H0) ⟨(fun _ => rfl), trivial⟩ ⟨(fun _ => rfl), trivial⟩ (by simp) (by simp)
end Go.Proofs.Ytheopcgjdfckmaa


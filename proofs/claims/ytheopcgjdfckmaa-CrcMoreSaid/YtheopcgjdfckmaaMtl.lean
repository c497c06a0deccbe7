/- Layer 6: the laws' walks. Printed by a program of mine. -/
import Derived.KernelRfl
import Derived.Test.YtheopcgjdfckmaaMta
namespace Go.Proofs.Ytheopcgjdfckmaa
open Go Go.Proofs.Ytheopcgjdfckmaa.Sx
set_option linter.unusedVariables false
set_option linter.unusedSimpArgs false
theorem Lw18_awake_con0 {k : Nat}  {r : Bool}  (H0 : Lw18_awake.f k = some r) : SCon Try.prog 23 [] [] (.a (.c (.v (.bool r)))) [] [] := by
  rw [Lw18_awake.f] at H0
  refine spec_of [] [] 5 Try.func23 rfl Try.ntmps23 rfl rfl rfl rfl (fun β W F => ?_)
  refine G.seq ?_
  refine G.rg ?_
  refine K.move (.inr rfl) (gd0 rfl) rfl rfl ?_
  refine K.nil ?_
  refine At.next ?_
  refine G.seq ?_
  obtain ⟨x1, hx1, H0⟩ := bnd H0
  refine G.rg ?_
  refine K.buildL Y 100 ([49, 50, 51, 52, 53, 54, 55, 56, 57] : List Int) [(0, _), (1, _), (2, _), (3, _), (4, _), (5, _), (6, _), (7, _), (8, _)] [(_, _), (_, _), (_, _), (_, _), (_, _), (_, _), (_, _), (_, _), (_, _)] u8E_len (gd0 rfl) (AllE.spec ⟨rfl, rfl, rfl, rfl, rfl, rfl, rfl, rfl, rfl, trivial⟩) rfl rfl Try.underlying36 t5 rfl rfl rfl rfl rfl rfl rfl rfl ?_
  refine K.mark (k := 100) (l := ([49, 50, 51, 52, 53, 54, 55, 56, 57] : List Int)) rfl Try.underlying36 Try.underlying5 (gd0 rfl) rfl rfl rfl ?_
  refine K.callV [(.func 24, _), ((.tmp 2), _)] [(100, mrow 100 5 u8E 1 ([49, 50, 51, 52, 53, 54, 55, 56, 57] : List Int))] [] [] (fun β => [SV.raw ((mrowV 100 5 u8E 1 ([49, 50, 51, 52, 53, 54, 55, 56, 57] : List Int)).s.den β)]) (fun β w S2 h => crc_Sum_con (k := k) ((mrowV_isC u8E_len (by decide)).larg ⟨_, List.mem_cons_self⟩ h) hx1) (toFn_func (cf 24 rfl) rfl) (gd0 rfl) ⟨rfl, rfl, trivial⟩ (fun _ => rfl) ⟨rfl, trivial⟩ rfl rfl rfl rfl rfl rfl ?_
  refine K.bin (V := .bool (x1 == 3421780262)) (gd0 rfl) rfl rfl (fun _ => rfl) rfl ?_
  refine K.move (.inr rfl) (gd0 rfl) rfl rfl ?_
  refine K.nil ?_
  refine At.next ?_
  refine G.ret ?_
  refine At.done Y [(.tmp 0, .c _)] rfl ⟨.tmp rfl, trivial⟩ (to' := []) trivial ?_ ?_ rfl rfl rfl (.inl rfl)
  · cases H0; rfl
  · cases H0; rfl
theorem Lw18_awake_con {k : Nat}  {r : Bool}  (H0 : Lw18_awake.f k = some r) : SCon Try.prog 23 [] [] (.a (.c (.v (.bool r)))) [] [] :=
  SCon.ren (rn []) (Lw18_awake_con0 (k := k)   H0) trivial trivial (by simp) (by simp)
theorem Lw18_CrcMore_con0 {k : Nat}  {S : Foot} {W0 : World} {s0 : Value} {l0 : List Int} {a1 : Int} {r : Bool} (hL0 : LArg S W0 s0 u8E 1 l0) (H0 : Lw18_CrcMore.f k l0 a1 = some r) : SCon Try.prog 8 [SV.raw s0, .a (.c (.v (.int .i64 a1)))] [(0, rd S W0)] (.a (.c (.v (.bool r)))) [(0, rd S W0)] [] := by
  rw [Lw18_CrcMore.f] at H0
  obtain ⟨b0, o0, hI0⟩ := hL0
  refine spec_of [(0, _), (1, _)] [(0, _)] 37 Try.func8 rfl Try.ntmps8 rfl rfl rfl rfl (fun β W F => ?_)
  refine G.seq ?_
  refine G.rg ?_
  refine K.move (.inr rfl) (gd0 rfl) rfl rfl ?_
  refine K.nil ?_
  refine At.next ?_
  obtain ⟨x1, H1, H0⟩ := bnd H0
  refine G.seqJ (σ := { v : Unit // x1 = Sum.inr v }) (fun q => [(0, SV.raw s0), (1, .a (.c (.v (.int .i64 a1))))]) (fun q => [(0, rd S W0)]) ?_ ?_
  ·
    refine G.seq ?_
    obtain ⟨x2, hx2, H1⟩ := bnd H1
    rcases Bool.eq_false_or_eq_true (!x2) with h1 | h1
    ·
      replace H1 := bif_t H1 h1
      refine G.rg ?_
      refine K.callR [(.func 23, _)] (Lw18_awake_con (k := k) hx2) (toFn_func (cf 23 rfl) rfl) (gd0 rfl) ⟨rfl, trivial⟩ trivial rfl rfl rfl ?_
      refine K.un (V := .bool (!x2)) (gd0 rfl) rfl (fun _ => rfl) rfl ?_
      refine K.move (.inl rfl) (gd0 rfl) rfl rfl ?_
      refine K.skip rfl rfl rfl rfl (h1) rfl ?_
      refine K.skip rfl rfl rfl rfl (h1) rfl ?_
      refine K.skip rfl rfl rfl rfl (h1) rfl ?_
      refine K.pickT (gd0 rfl) rfl (h1) rfl rfl ?_
      refine K.nil ?_
      refine At.next ?_
      refine G.cond rfl (fun h2 => ?_) (fun h2 => ?_)
      ·
        refine G.seq ?_
        obtain ⟨x3, hx3, H1⟩ := bnd H1
        refine G.rg ?_
        refine K.callR [(.func 23, _)] (Lw18_awake_con (k := k) hx3) (toFn_func (cf 23 rfl) rfl) (gd0 rfl) ⟨rfl, trivial⟩ trivial rfl rfl rfl ?_
        refine K.move (.inr rfl) (gd0 rfl) rfl rfl ?_
        refine K.nil ?_
        refine At.next ?_
        refine G.ret ?_
        refine At.over_ret ?_
        cases H1
        replace H0 := sum_l H0
        refine At.done Y [(.tmp 4, .c _)] rfl ⟨.tmp rfl, trivial⟩ (to' := [(0, _)]) ⟨rfl, trivial⟩ ?_ ?_ rfl rfl rfl (.inl rfl)
        · cases H0; rfl
        · cases H0; rfl
      · cases h2
    ·
      replace H1 := bif_f H1 h1
      refine G.rg ?_
      refine K.callR [(.func 23, _)] (Lw18_awake_con (k := k) hx2) (toFn_func (cf 23 rfl) rfl) (gd0 rfl) ⟨rfl, trivial⟩ trivial rfl rfl rfl ?_
      refine K.un (V := .bool (!x2)) (gd0 rfl) rfl (fun _ => rfl) rfl ?_
      refine K.move (.inl rfl) (gd0 rfl) rfl rfl ?_
      refine K.move (.inl rfl) (gd1 rfl rfl rfl (h1)) rfl rfl ?_
      refine K.lenL (rV 0 S W0 s0 b0 o0 u8E 1 l0) (hI0.is 0) (gd1 rfl rfl rfl (h1)) rfl rfl Try.underlying36 rfl ?_
      refine K.bin (V := .bool (decide ((l0.length : Int) > 2000))) (gd1 rfl rfl rfl (h1)) rfl rfl (fun _ => rfl) rfl ?_
      refine K.pickF (gd0 rfl) rfl (h1) rfl rfl ?_
      refine K.nil ?_
      refine At.next ?_
      refine G.cond rfl (fun h3 => ?_) (fun h3 => ?_)
      ·
        replace H1 := bif_t H1 h3
        refine G.seq ?_
        obtain ⟨x4, hx4, H1⟩ := bnd H1
        refine G.rg ?_
        refine K.callR [(.func 23, _)] (Lw18_awake_con (k := k) hx4) (toFn_func (cf 23 rfl) rfl) (gd0 rfl) ⟨rfl, trivial⟩ trivial rfl rfl rfl ?_
        refine K.move (.inr rfl) (gd0 rfl) rfl rfl ?_
        refine K.nil ?_
        refine At.next ?_
        refine G.ret ?_
        refine At.over_ret ?_
        cases H1
        replace H0 := sum_l H0
        refine At.done Y [(.tmp 4, .c _)] rfl ⟨.tmp rfl, trivial⟩ (to' := [(0, _)]) ⟨rfl, trivial⟩ ?_ ?_ rfl rfl rfl (.inl rfl)
        · cases H0; rfl
        · cases H0; rfl
      ·
        replace H1 := bif_f H1 h3
        refine G.skip ?_
        exact At.joined (σ := { v : Unit // x1 = Sum.inr v }) (Fs := fun q => [(0, SV.raw s0), (1, .a (.c (.v (.int .i64 a1))))]) (Tl := fun q => [(0, rd S W0)]) ⟨(), (Option.some.inj H1).symm⟩ [] [_] rfl ⟨rfl, rfl, trivial⟩ ⟨rfl, (fun _ => rfl), trivial⟩ rfl
  ·
    rintro ⟨v1, rfl⟩
    replace H0 := sum_r H0
    show G _ _ [(0, SV.raw s0), (1, .a (.c (.v (.int .i64 a1))))] [(0, some (rd S W0))] _ _
    refine G.seq ?_
    obtain ⟨x5, hx5, H0⟩ := bnd H0
    refine G.rg ?_
    refine K.move (.inl rfl) (gd0 rfl) rfl rfl ?_
    refine K.move (.inl rfl) (gd0 rfl) rfl rfl ?_
    refine K.lenL (rV 0 S W0 s0 b0 o0 u8E 1 l0) (hI0.is 0) (gd0 rfl) rfl rfl Try.underlying36 rfl ?_
    refine K.bin (V := .int .i64 (w64 ((l0.length : Int) + 1))) (gd0 rfl) rfl rfl (fun _ => rfl) rfl ?_
    refine K.callR [(.func 20, _), ((.tmp 14), _), ((.tmp 17), _)] (R01_Rest_con (k := k) hx5) (toFn_func (cf 20 rfl) rfl) (gd0 rfl) ⟨rfl, rfl, rfl, trivial⟩ trivial rfl rfl rfl ?_
    refine K.move (.inr rfl) (gd0 rfl) rfl rfl ?_
    refine K.nil ?_
    refine At.next ?_
    refine G.seq ?_
    obtain ⟨h4, H0⟩ := grd H0
    obtain ⟨x6, hx6, H0⟩ := bnd H0
    obtain ⟨h6, H0⟩ := grd H0
    obtain ⟨x7, hx7, H0⟩ := bnd H0
    obtain ⟨x8, hx8, H0⟩ := bnd H0
    rcases Bool.eq_false_or_eq_true (x7 == x8) with h8 | h8
    ·
      replace H0 := bif_t H0 h8
      obtain ⟨x9, hx9, H0⟩ := bnd H0
      obtain ⟨x10, hx10, H0⟩ := bnd H0
      refine G.rd mixed ?_
      refine K.move (.inl rfl) (gd0 rfl) rfl rfl ?_
      refine K.move (.inl rfl) (gd0 rfl) rfl rfl ?_
      refine K.partR 0 ((x5).toNat) hI0 (gd0 rfl) rfl .no (.at_ rfl h4.1 rfl) Try.underlying36 el36.size_run (Nat.zero_le _) (tn_len h4.2) rfl ?_
      refine K.callV [(.func 24, _), ((.tmp 21), _)] [(0, rd S W0)] [] [] (fun β => [SV.raw (partOf 0 ((x5).toNat) 1 s0)]) (fun β w S2 h => crc_Sum_con (k := k) (((hI0.part (Nat.zero_le _) (tn_len h4.2)).isC 0).larg ⟨_, List.mem_cons_self⟩ h) hx6) (toFn_func (cf 24 rfl) rfl) (gd0 rfl) ⟨rfl, rfl, trivial⟩ (fun _ => rfl) ⟨rfl, trivial⟩ rfl rfl rfl rfl rfl rfl ?_
      refine K.move (.inl rfl) (gd0 rfl) rfl rfl ?_
      refine K.move (.inl rfl) (gd0 rfl) rfl rfl ?_
      refine K.partR ((x5).toNat) l0.length hI0 (gd0 rfl) rfl (.at_ rfl h6.1 rfl) .no Try.underlying36 el36.size_run (tn_len h6.2) (Nat.le_refl _) rfl ?_
      refine K.callV [(.func 26, _), ((.tmp 22), _), ((.tmp 25), _)] [(0, rd S W0)] [] [] (fun β => [.a (.c (.v (.int .u32 x6))), SV.raw (partOf ((x5).toNat) l0.length 1 s0)]) (fun β w S2 h => crc_More_con (k := k) (((hI0.part (tn_len h6.2) (Nat.le_refl _)).isC 0).larg ⟨_, List.mem_cons_self⟩ h) hx7) (toFn_func (cf 26 rfl) rfl) (gd0 rfl) ⟨rfl, rfl, rfl, trivial⟩ (fun _ => rfl) ⟨rfl, trivial⟩ rfl rfl rfl rfl rfl rfl ?_
      refine K.move (.inl rfl) (gd0 rfl) rfl rfl ?_
      refine K.callV [(.func 24, _), ((.tmp 27), _)] [(0, rd S W0)] [] [] (fun β => [SV.raw s0]) (fun β w S2 h => crc_Sum_con (k := k) ((hI0.isC 0).larg ⟨_, List.mem_cons_self⟩ h) hx8) (toFn_func (cf 24 rfl) rfl) (gd0 rfl) ⟨rfl, rfl, trivial⟩ (fun _ => rfl) ⟨rfl, trivial⟩ rfl rfl rfl rfl rfl rfl ?_
      refine K.bin (V := .bool (x7 == x8)) (gd0 rfl) rfl rfl (fun _ => rfl) rfl ?_
      refine K.move (.inl rfl) (gd0 rfl) rfl rfl ?_
      refine K.move (.inl rfl) (gd1 rfl rfl rfl (h8)) rfl rfl ?_
      refine K.callV [(.func 26, _), (_, _), ((.tmp 31), _)] [(0, rd S W0)] [] [] (fun β => [.a (.c (.v (.int .u32 0))), SV.raw s0]) (fun β w S2 h => crc_More_con (k := k) ((hI0.isC 0).larg ⟨_, List.mem_cons_self⟩ h) hx9) (toFn_func (cf 26 rfl) rfl) (gd1 rfl rfl rfl (h8)) ⟨rfl, rfl, rfl, trivial⟩ (fun _ => rfl) ⟨rfl, trivial⟩ rfl rfl rfl rfl rfl rfl ?_
      refine K.move (.inl rfl) (gd1 rfl rfl rfl (h8)) rfl rfl ?_
      refine K.callV [(.func 24, _), ((.tmp 33), _)] [(0, rd S W0)] [] [] (fun β => [SV.raw s0]) (fun β w S2 h => crc_Sum_con (k := k) ((hI0.isC 0).larg ⟨_, List.mem_cons_self⟩ h) hx10) (toFn_func (cf 24 rfl) rfl) (gd1 rfl rfl rfl (h8)) ⟨rfl, rfl, trivial⟩ (fun _ => rfl) ⟨rfl, trivial⟩ rfl rfl rfl rfl rfl rfl ?_
      refine K.bin (V := .bool (x9 == x10)) (gd1 rfl rfl rfl (h8)) rfl rfl (fun _ => rfl) rfl ?_
      refine K.pickT (gd0 rfl) rfl (h8) rfl rfl ?_
      refine K.move (.inr rfl) (gd0 rfl) rfl rfl ?_
      refine K.nil ?_
      refine ⟨by kernel_rfl, ?_⟩
      refine At.next ?_
      refine G.ret ?_
      refine At.done Y [(.tmp 4, .c _)] rfl ⟨.tmp rfl, trivial⟩ (to' := [(0, _)]) ⟨rfl, trivial⟩ ?_ ?_ rfl rfl rfl (.inl rfl)
      · cases H0; rfl
      · cases H0; rfl
    ·
      replace H0 := bif_f H0 h8
      refine G.rd mixed ?_
      refine K.move (.inl rfl) (gd0 rfl) rfl rfl ?_
      refine K.move (.inl rfl) (gd0 rfl) rfl rfl ?_
      refine K.partR 0 ((x5).toNat) hI0 (gd0 rfl) rfl .no (.at_ rfl h4.1 rfl) Try.underlying36 el36.size_run (Nat.zero_le _) (tn_len h4.2) rfl ?_
      refine K.callV [(.func 24, _), ((.tmp 21), _)] [(0, rd S W0)] [] [] (fun β => [SV.raw (partOf 0 ((x5).toNat) 1 s0)]) (fun β w S2 h => crc_Sum_con (k := k) (((hI0.part (Nat.zero_le _) (tn_len h4.2)).isC 0).larg ⟨_, List.mem_cons_self⟩ h) hx6) (toFn_func (cf 24 rfl) rfl) (gd0 rfl) ⟨rfl, rfl, trivial⟩ (fun _ => rfl) ⟨rfl, trivial⟩ rfl rfl rfl rfl rfl rfl ?_
      refine K.move (.inl rfl) (gd0 rfl) rfl rfl ?_
      refine K.move (.inl rfl) (gd0 rfl) rfl rfl ?_
      refine K.partR ((x5).toNat) l0.length hI0 (gd0 rfl) rfl (.at_ rfl h6.1 rfl) .no Try.underlying36 el36.size_run (tn_len h6.2) (Nat.le_refl _) rfl ?_
      refine K.callV [(.func 26, _), ((.tmp 22), _), ((.tmp 25), _)] [(0, rd S W0)] [] [] (fun β => [.a (.c (.v (.int .u32 x6))), SV.raw (partOf ((x5).toNat) l0.length 1 s0)]) (fun β w S2 h => crc_More_con (k := k) (((hI0.part (tn_len h6.2) (Nat.le_refl _)).isC 0).larg ⟨_, List.mem_cons_self⟩ h) hx7) (toFn_func (cf 26 rfl) rfl) (gd0 rfl) ⟨rfl, rfl, rfl, trivial⟩ (fun _ => rfl) ⟨rfl, trivial⟩ rfl rfl rfl rfl rfl rfl ?_
      refine K.move (.inl rfl) (gd0 rfl) rfl rfl ?_
      refine K.callV [(.func 24, _), ((.tmp 27), _)] [(0, rd S W0)] [] [] (fun β => [SV.raw s0]) (fun β w S2 h => crc_Sum_con (k := k) ((hI0.isC 0).larg ⟨_, List.mem_cons_self⟩ h) hx8) (toFn_func (cf 24 rfl) rfl) (gd0 rfl) ⟨rfl, rfl, trivial⟩ (fun _ => rfl) ⟨rfl, trivial⟩ rfl rfl rfl rfl rfl rfl ?_
      refine K.bin (V := .bool (x7 == x8)) (gd0 rfl) rfl rfl (fun _ => rfl) rfl ?_
      refine K.move (.inl rfl) (gd0 rfl) rfl rfl ?_
      refine K.skip rfl rfl rfl rfl (h8) rfl ?_
      refine K.skip rfl rfl rfl rfl (h8) rfl ?_
      refine K.skip rfl rfl rfl rfl (h8) rfl ?_
      refine K.skip rfl rfl rfl rfl (h8) rfl ?_
      refine K.skip rfl rfl rfl rfl (h8) rfl ?_
      refine K.pickF (gd0 rfl) rfl (h8) rfl rfl ?_
      refine K.move (.inr rfl) (gd0 rfl) rfl rfl ?_
      refine K.nil ?_
      refine ⟨by kernel_rfl, ?_⟩
      refine At.next ?_
      refine G.ret ?_
      refine At.done Y [(.tmp 4, .c _)] rfl ⟨.tmp rfl, trivial⟩ (to' := [(0, _)]) ⟨rfl, trivial⟩ ?_ ?_ rfl rfl rfl (.inl rfl)
      · cases H0; rfl
      · cases H0; rfl
theorem Lw18_CrcMore_con {k : Nat}  {S : Foot} {W0 : World} {s0 : Value} {l0 : List Int} {a1 : Int} {r : Bool} (hL0 : LArg S W0 s0 u8E 1 l0) (H0 : Lw18_CrcMore.f k l0 a1 = some r) : SCon Try.prog 8 [SV.raw s0, .a (.c (.v (.int .i64 a1)))] [(0, rd S W0)] (.a (.c (.v (.bool r)))) [(0, rd S W0)] [] :=
  SCon.ren (rn []) (Lw18_CrcMore_con0 (k := k)  hL0 H0) ⟨(fun _ => rfl), trivial⟩ ⟨(fun _ => rfl), trivial⟩ (by simp) (by simp)
end Go.Proofs.Ytheopcgjdfckmaa


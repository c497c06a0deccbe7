/- Layer 6: the laws' walks. Printed by a program of mine. -/
import Derived.KernelRfl
import Derived.Test.YtheopcgjdfckmaaMta
namespace Go.Proofs.Ytheopcgjdfckmaa
open Go Go.Proofs.Ytheopcgjdfckmaa.Sx
set_option linter.unusedVariables false
set_option linter.unusedSimpArgs false
theorem Lw18_awake_con0 {k : Nat}  {r : Bool}  (H0 : Lw18_awake.f k = some r) : SCon Try.prog 23 [] [] (.a (.c (.v (.bool r)))) [] [] := by
  rw [Lw18_awake.f] at H0
  refine spec_of [] [] 5 Try.func23 rfl Try.ntmps23 rfl rfl rfl rfl (fun β W F => ?_)
  refine G.seq ?_
  refine G.rg ?_
  refine K.move (.inr rfl) (gd0 rfl) rfl rfl ?_
  refine K.nil ?_
  refine At.next ?_
  refine G.seq ?_
  obtain ⟨x1, hx1, H0⟩ := bnd H0
  refine G.rg ?_
  refine K.buildL Y 100 ([49, 50, 51, 52, 53, 54, 55, 56, 57] : List Int) [(0, _), (1, _), (2, _), (3, _), (4, _), (5, _), (6, _), (7, _), (8, _)] [(_, _), (_, _), (_, _), (_, _), (_, _), (_, _), (_, _), (_, _), (_, _)] u8E_len (gd0 rfl) (AllE.spec ⟨rfl, rfl, rfl, rfl, rfl, rfl, rfl, rfl, rfl, trivial⟩) rfl rfl Try.underlying36 t5 rfl rfl rfl rfl rfl rfl rfl rfl ?_
  refine K.mark (k := 100) (l := ([49, 50, 51, 52, 53, 54, 55, 56, 57] : List Int)) rfl Try.underlying36 Try.underlying5 (gd0 rfl) rfl rfl rfl ?_
  refine K.callV [(.func 24, _), ((.tmp 2), _)] [(100, mrow 100 5 u8E 1 ([49, 50, 51, 52, 53, 54, 55, 56, 57] : List Int))] [] [] (fun β => [SV.raw ((mrowV 100 5 u8E 1 ([49, 50, 51, 52, 53, 54, 55, 56, 57] : List Int)).s.den β)]) (fun β w S2 h => crc_Sum_con (k := k) ((mrowV_isC u8E_len (by decide)).larg ⟨_, List.mem_cons_self⟩ h) hx1) (toFn_func (cf 24 rfl) rfl) (gd0 rfl) ⟨rfl, rfl, trivial⟩ (fun _ => rfl) ⟨rfl, trivial⟩ rfl rfl rfl rfl rfl rfl ?_
  refine K.bin (V := .bool (x1 == 3421780262)) (gd0 rfl) rfl rfl (fun _ => rfl) rfl ?_
  refine K.move (.inr rfl) (gd0 rfl) rfl rfl ?_
  refine K.nil ?_
  refine At.next ?_
  refine G.ret ?_
  refine At.done Y [(.tmp 0, .c _)] rfl ⟨.tmp rfl, trivial⟩ (to' := []) trivial ?_ ?_ rfl rfl rfl (.inl rfl)
  · cases H0; rfl
  · cases H0; rfl
theorem Lw18_awake_con {k : Nat}  {r : Bool}  (H0 : Lw18_awake.f k = some r) : SCon Try.prog 23 [] [] (.a (.c (.v (.bool r)))) [] [] :=
  SCon.ren (rn []) (Lw18_awake_con0 (k := k)   H0) trivial trivial (by simp) (by simp)
theorem Lw18_CrcMore_con0 {k : Nat}  {S : Foot} {W0 : World} {s0 : Value} {l0 : List Int} {a1 : Int} {r : Bool} (hL0 : LArg S W0 s0 u8E 1 l0) (H0 : Lw18_CrcMore.f k l0 a1 = some r) : SCon Try.prog 8 [SV.raw s0, .a (.c (.v (.int .i64 a1)))] [(0, rd S W0)] (.a (.c (.v (.bool r)))) [(0, rd S W0)] [] := by
  rw [Lw18_CrcMore.f] at H0
  obtain ⟨b0, o0, hI0⟩ := hL0
  refine spec_of [(0, _), (1, _)] [(0, _)] 37 Try.func8 rfl Try.ntmps8 rfl rfl rfl rfl (fun β W F => ?_)
  refine G.seq ?_
  refine G.rg ?_
  refine K.move (.inr rfl) (gd0 rfl) rfl rfl ?_
  refine K.nil ?_
  refine At.next ?_
  obtain ⟨x1, H1, H0⟩ := bnd H0
  refine G.seqJ (σ := { v : Unit // x1 = Sum.inr v }) (fun q => [(0, SV.raw s0), (1, .a (.c (.v (.int .i64 a1))))]) (fun q => [(0, rd S W0)]) ?_ ?_
  ·
    refine G.seq ?_
    obtain ⟨x2, hx2, H1⟩ := bnd H1
    rcases Bool.eq_false_or_eq_true (!x2) with h1 | h1
    ·
      replace H1 := bif_t H1 h1
      refine G.rg ?_
      refine K.callR [(.func 23, _)] (Lw18_awake_con (k := k) hx2) (toFn_func (cf 23 rfl) rfl) (gd0 rfl) ⟨rfl, trivial⟩ trivial rfl rfl rfl ?_
      refine K.un (V := .bool (!x2)) (gd0 rfl) rfl (fun _ => rfl) rfl ?_
      refine K.move (.inl rfl) (gd0 rfl) rfl rfl ?_
      refine K.skip rfl rfl rfl rfl (h1) rfl ?_
      refine K.skip rfl rfl rfl rfl (h1) rfl ?_
      refine K.skip rfl rfl rfl rfl (h1) rfl ?_
      refine K.pickT (gd0 rfl) rfl (h1) rfl rfl ?_
      refine K.nil ?_
      refine At.next ?_
      refine G.cond rfl (fun h2 => ?_) (fun h2 => ?_)
      ·
        refine G.seq ?_
        obtain ⟨x3, hx3, H1⟩ := bnd H1
        refine G.rg ?_
        refine K.callR [(.func 23, _)] (Lw18_awake_con (k := k) hx3) (toFn_func (cf 23 rfl) rfl) (gd0 rfl) ⟨rfl, trivial⟩ trivial rfl rfl rfl ?_
        refine K.move (.inr rfl) (gd0 rfl) rfl rfl ?_
        refine K.nil ?_
        refine At.next ?_
        refine G.ret ?_
        refine At.over_ret ?_
        cases H1
        replace H0 := sum_l H0
        refine At.done Y [(.tmp 4, .c _)] rfl ⟨.tmp rfl, trivial⟩ (to' := [(0, _)]) ⟨rfl, trivial⟩ ?_ ?_ rfl rfl rfl (.inl rfl)
        · cases H0; rfl
        · cases H0; rfl
      · cases h2
    ·
      replace H1 := bif_f H1 h1
      refine G.rg ?_
      refine K.callR [(.func 23, _)] (Lw18_awake_con (k := k) hx2) (toFn_func (cf 23 rfl) rfl) (gd0 rfl) ⟨rfl, trivial⟩ trivial rfl rfl rfl ?_
      refine K.un (V := .bool (!x2)) (gd0 rfl) rfl (fun _ => rfl) rfl ?_
      refine K.move (.inl rfl) (gd0 rfl) rfl rfl ?_
      refine K.move (.inl rfl) (gd1 rfl rfl rfl (h1)) rfl rfl ?_
      refine K.lenL (rV 0 S W0 s0 b0 o0 u8E 1 l0) (hI0.is 0) (gd1 rfl rfl rfl (h1)) rfl rfl Try.underlying36 rfl ?_
      refine K.bin (V := .bool (decide ((l0.length : Int) > 2000))) (gd1 rfl rfl rfl (h1)) rfl rfl (fun _ => rfl) rfl ?_
      refine K.pickF (gd0 rfl) rfl (h1) rfl rfl ?_
      refine K.nil ?_
      refine At.next ?_
      refine G.cond rfl (fun h3 => ?_) (fun h3 => ?_)
      ·
        replace H1 := bif_t H1 h3
        refine G.seq ?_
        obtain ⟨x4, hx4, H1⟩ := bnd H1
        refine G.rg ?_
        refine K.callR [(.func 23, _)] (Lw18_awake_con (k := k) hx4) (toFn_func (cf 23 rfl) rfl) (gd0 rfl) ⟨rfl, trivial⟩ trivial rfl rfl rfl ?_
        refine K.move (.inr rfl) (gd0 rfl) rfl rfl ?_
        refine K.nil ?_
        refine At.next ?_
        refine G.ret ?_
        refine At.over_ret ?_
        cases H1
        replace H0 := sum_l H0
        refine At.done Y [(.tmp 4, .c _)] rfl ⟨.tmp rfl, trivial⟩ (to' := [(0, _)]) ⟨rfl, trivial⟩ ?_ ?_ rfl rfl rfl (.inl rfl)
        · cases H0; rfl
        · cases H0; rfl
      ·
        replace H1 := bif_f H1 h3
        refine G.skip ?_
        exact At.joined (σ := { v : Unit // x1 = Sum.inr v }) (Fs := fun q => [(0, SV.raw s0), (1, .a (.c (.v (.int .i64 a1))))]) (Tl := fun q => [(0, rd S W0)]) ⟨(), (Option.some.inj H1).symm⟩ [] [_] rfl ⟨rfl, rfl, trivial⟩ ⟨rfl, (fun _ => rfl), trivial⟩ rfl
  ·
    rintro ⟨v1, rfl⟩
    replace H0 := sum_r H0
    show G _ _ [(0, SV.raw s0), (1, .a (.c (.v (.int .i64 a1))))] [(0, some (rd S W0))] _ _
    refine G.seq ?_
    obtain ⟨x5, hx5, H0⟩ := bnd H0
    refine G.rg ?_
    refine K.move (.inl rfl) (gd0 rfl) rfl rfl ?_
    refine K.move (.inl rfl) (gd0 rfl) rfl rfl ?_
    refine K.lenL (rV 0 S W0 s0 b0 o0 u8E 1 l0) (hI0.is 0) (gd0 rfl) rfl rfl Try.underlying36 rfl ?_
    refine K.bin (V := .int .i64 (w64 ((l0.length : Int) + 1))) (gd0 rfl) rfl rfl (fun _ => rfl) rfl ?_
    refine K.callR [(.func 20, _), ((.tmp 14), _), ((.tmp 17), _)] (R01_Rest_con (k := k) hx5) (toFn_func (cf 20 rfl) rfl) (gd0 rfl) ⟨rfl, rfl, rfl, trivial⟩ trivial rfl rfl rfl ?_
    refine K.move (.inr rfl) (gd0 rfl) rfl rfl ?_
    refine K.nil ?_
    refine At.next ?_
    refine G.seq ?_
    obtain ⟨h4, H0⟩ := grd H0
    obtain ⟨x6, hx6, H0⟩ := bnd H0
    obtain ⟨h6, H0⟩ := grd H0
    obtain ⟨x7, hx7, H0⟩ := bnd H0
    obtain ⟨x8, hx8, H0⟩ := bnd H0
    rcases Bool.eq_false_or_eq_true (x7 == x8) with h8 | h8
    ·
      replace H0 := bif_t H0 h8
      obtain ⟨x9, hx9, H0⟩ := bnd H0
      obtain ⟨x10, hx10, H0⟩ := bnd H0
      refine G.rd mixed ?_
      refine K.move (.inl rfl) (gd0 rfl) rfl rfl ?_
      refine K.move (.inl rfl) (gd0 rfl) rfl rfl ?_
      refine K.partR 0 ((x5).toNat) hI0 (gd0 rfl) rfl .no (.at_ rfl h4.1 rfl) Try.underlying36 el36.size_run (Nat.zero_le _) (tn_len h4.2) rfl ?_
      refine K.callV [(.func 24, _), ((.tmp 21), _)] [(0, rd S W0)] [] [] (fun β => [SV.raw (partOf 0 ((x5).toNat) 1 s0)]) (fun β w S2 h => crc_Sum_con (k := k) (((hI0.part (Nat.zero_le _) (tn_len h4.2)).isC 0).larg ⟨_, List.mem_cons_self⟩ h) hx6) (toFn_func (cf 24 rfl) rfl) (gd0 rfl) ⟨rfl, rfl, trivial⟩ (fun _ => rfl) ⟨rfl, trivial⟩ rfl rfl rfl rfl rfl rfl ?_
      refine K.move (.inl rfl) (gd0 rfl) rfl rfl ?_
      refine K.move (.inl rfl) (gd0 rfl) rfl rfl ?_
      refine K.partR ((x5).toNat) l0.length hI0 (gd0 rfl) rfl (.at_ rfl h6.1 rfl) .no Try.underlying36 el36.size_run (tn_len h6.2) (Nat.le_refl _) rfl ?_
      refine K.callV [(.func 26, _), ((.tmp 22), _), ((.tmp 25), _)] [(0, rd S W0)] [] [] (fun β => [.a (.c (.v (.int .u32 x6))), SV.raw (partOf ((x5).toNat) l0.length 1 s0)]) (fun β w S2 h => crc_More_con (k := k) (((hI0.part (tn_len h6.2) (Nat.le_refl _)).isC 0).larg ⟨_, List.mem_cons_self⟩ h) hx7) (toFn_func (cf 26 rfl) rfl) (gd0 rfl) ⟨rfl, rfl, rfl, trivial⟩ (fun _ => rfl) ⟨rfl, trivial⟩ rfl rfl rfl rfl rfl rfl ?_
      refine K.move (.inl rfl) (gd0 rfl) rfl rfl ?_
      refine K.callV [(.func 24, _), ((.tmp 27), _)] [(0, rd S W0)] [] [] (fun β => [SV.raw s0]) (fun β w S2 h => crc_Sum_con (k := k) ((hI0.isC 0).larg ⟨_, List.mem_cons_self⟩ h) hx8) (toFn_func (cf 24 rfl) rfl) (gd0 rfl) ⟨rfl, rfl, trivial⟩ (fun _ => rfl) ⟨rfl, trivial⟩ rfl rfl rfl rfl rfl rfl ?_
      refine K.bin (V := .bool (x7 == x8)) (gd0 rfl) rfl rfl (fun _ => rfl) rfl ?_
      refine K.move (.inl rfl) (gd0 rfl) rfl rfl ?_
      refine K.move (.inl rfl) (gd1 rfl rfl rfl (h8)) rfl rfl ?_
      refine K.callV [(.func 26, _), (_, _), ((.tmp 31), _)] [(0, rd S W0)] [] [] (fun β => [.a (.c (.v (.int .u32 0))), SV.raw s0]) (fun β w S2 h => crc_More_con (k := k) ((hI0.isC 0).larg ⟨_, List.mem_cons_self⟩ h) hx9) (toFn_func (cf 26 rfl) rfl) (gd1 rfl rfl rfl (h8)) ⟨rfl, rfl, rfl, trivial⟩ (fun _ => rfl) ⟨rfl, trivial⟩ rfl rfl rfl rfl rfl rfl ?_
      refine K.move (.inl rfl) (gd1 rfl rfl rfl (h8)) rfl rfl ?_
      refine K.callV [(.func 24, _), ((.tmp 33), _)] [(0, rd S W0)] [] [] (fun β => [SV.raw s0]) (fun β w S2 h => crc_Sum_con (k := k) ((hI0.isC 0).larg ⟨_, List.mem_cons_self⟩ h) hx10) (toFn_func (cf 24 rfl) rfl) (gd1 rfl rfl rfl (h8)) ⟨rfl, rfl, trivial⟩ (fun _ => rfl) ⟨rfl, trivial⟩ rfl rfl rfl rfl rfl rfl ?_
      refine K.bin (V := .bool (x9 == x10)) (gd1 rfl rfl rfl (h8)) rfl rfl (fun _ => rfl) rfl ?_
      refine K.pickT (gd0 rfl) rfl (h8) rfl rfl ?_
      refine K.move (.inr rfl) (gd0 rfl) rfl rfl ?_
      refine K.nil ?_
      refine ⟨by kernel_rfl, ?_⟩
      refine At.next ?_
      refine G.ret ?_
      refine At.done Y [(.tmp 4, .c _)] rfl ⟨.tmp rfl, trivial⟩ (to' := [(0, _)]) ⟨rfl, trivial⟩ ?_ ?_ rfl rfl rfl (.inl rfl)
      · cases H0; rfl
      · cases H0; rfl
    ·
      replace H0 := bif_f H0 h8
      refine G.rd mixed ?_
      refine K.move (.inl rfl) (gd0 rfl) rfl rfl ?_
      refine K.move (.inl rfl) (gd0 rfl) rfl rfl ?_
      refine K.partR 0 ((x5).toNat) hI0 (gd0 rfl) rfl .no (.at_ rfl h4.1 rfl) Try.underlying36 el36.size_run (Nat.zero_le _) (tn_len h4.2) rfl ?_
      refine K.callV [(.func 24, _), ((.tmp 21), _)] [(0, rd S W0)] [] [] (fun β => [SV.raw (partOf 0 ((x5).toNat) 1 s0)]) (fun β w S2 h => crc_Sum_con (k := k) (((hI0.part (Nat.zero_le _) (tn_len h4.2)).isC 0).larg ⟨_, List.mem_cons_self⟩ h) hx6) (toFn_func (cf 24 rfl) rfl) (gd0 rfl) ⟨rfl, rfl, trivial⟩ (fun _ => rfl) ⟨rfl, trivial⟩ rfl rfl rfl rfl rfl rfl ?_
      refine K.move (.inl rfl) (gd0 rfl) rfl rfl ?_
      refine K.move (.inl rfl) (gd0 rfl) rfl rfl ?_
      refine K.partR ((x5).toNat) l0.length hI0 (gd0 rfl) rfl (.at_ rfl h6.1 rfl) .no Try.underlying36 el36.size_run (tn_len h6.2) (Nat.le_refl _) rfl ?_
      refine K.callV [(.func 26, _), ((.tmp 22), _), ((.tmp 25), _)] [(0, rd S W0)] [] [] (fun β => [.a (.c (.v (.int .u32 x6))), SV.raw (partOf ((x5).toNat) l0.length 1 s0)]) (fun β w S2 h => crc_More_con (k := k) (((hI0.part (tn_len h6.2) (Nat.le_refl _)).isC 0).larg ⟨_, List.mem_cons_self⟩ h) hx7) (toFn_func (cf 26 rfl) rfl) (gd0 rfl) ⟨rfl, rfl, rfl, trivial⟩ (fun _ => rfl) ⟨rfl, trivial⟩ rfl rfl rfl rfl rfl rfl ?_
      refine K.move (.inl rfl) (gd0 rfl) rfl rfl ?_
      refine K.callV [(.func 24, _), ((.tmp 27), _)] [(0, rd S W0)] [] [] (fun β => [SV.raw s0]) (fun β w S2 h => crc_Sum_con (k := k) ((hI0.isC 0).larg ⟨_, List.mem_cons_self⟩ h) hx8) (toFn_func (cf 24 rfl) rfl) (gd0 rfl) ⟨rfl, rfl, trivial⟩ (fun _ => rfl) ⟨rfl, trivial⟩ rfl rfl rfl rfl rfl rfl ?_
      refine K.bin (V := .bool (x7 == x8)) (gd0 rfl) rfl rfl (fun _ => rfl) rfl ?_
      refine K.move (.inl rfl) (gd0 rfl) rfl rfl ?_
      refine K.skip rfl rfl rfl rfl (h8) rfl ?_
      refine K.skip rfl rfl rfl rfl (h8) rfl ?_
      refine K.skip rfl rfl rfl rfl (h8) rfl ?_
      refine K.skip rfl rfl rfl rfl (h8) rfl ?_
      refine K.skip rfl rfl rfl rfl (h8) rfl ?_
      refine K.pickF (gd0 rfl) rfl (h8) rfl rfl ?_
      refine K.move (.inr rfl) (gd0 rfl) rfl rfl ?_
      refine K.nil ?_
      refine ⟨by kernel_rfl, ?_⟩
      refine At.next ?_
      refine G.ret ?_
      refine At.done Y [(.tmp 4, .c _)] rfl ⟨.tmp rfl, trivial⟩ (to' := [(0, _)]) ⟨rfl, trivial⟩ ?_ ?_ rfl rfl rfl (.inl rfl)
      · cases H0; rfl
      · cases H0; rfl
theorem Lw18_CrcMore_con {k : Nat}  {S : Foot} {W0 : World} {s0 : Value} {l0 : List Int} {a1 : Int} {r : Bool} (hL0 : LArg S W0 s0 u8E 1 l0) (H0 : Lw18_CrcMore.f k l0 a1 = some r) : SCon Try.prog 8 [SV.raw s0, .a (.c (.v (.int .i64 a1)))] [(0, rd S W0)] (.a (.c (.v (.bool r)))) [(0, rd S W0)] [] :=
  SCon.ren (rn []) (Lw18_CrcMore_con0 (k := k)  hL0 H0) ⟨(fun _ => rfl), trivial⟩ ⟨(fun _ => rfl), trivial⟩ (by simp) (by simp)
theorem Lw18_CrcBursts_con0 {k : Nat}  {S : Foot} {W0 : World} {s0 : Value} {l0 : List Int} {a1 : Int} {a2 : Int} {r : Bool} (hL0 : LArg S W0 s0 u8E 1 l0) (H0 : Lw18_CrcBursts.f k l0 a1 a2 = some r) : SCon Try.prog 9 [SV.raw s0, .a (.c (.v (.int .i64 a1))), .a (.c (.v (.int .u32 a2)))] [(0, rd S W0)] (.a (.c (.v (.bool r)))) [(0, rd S W0)] [] := by
  rw [Lw18_CrcBursts.f] at H0
  obtain ⟨b0, o0, hI0⟩ := hL0
  refine spec_of [(0, _), (1, _), (2, _)] [(0, _)] 67 Try.func9 rfl Try.ntmps9 rfl rfl rfl rfl (fun β W F => ?_)
  refine G.seq ?_
  refine G.rg ?_
  refine K.move (.inr rfl) (gd0 rfl) rfl rfl ?_
  refine K.nil ?_
  refine At.next ?_
  obtain ⟨x1, H1, H0⟩ := bnd H0
  refine G.seqJ (σ := { v : Unit // x1 = Sum.inr v }) (fun q => [(0, SV.raw s0), (1, .a (.c (.v (.int .i64 a1)))), (2, .a (.c (.v (.int .u32 a2))))]) (fun q => [(0, rd S W0)]) ?_ ?_
  ·
    refine G.seq ?_
    obtain ⟨x2, hx2, H1⟩ := bnd H1
    rcases Bool.eq_false_or_eq_true (!x2) with h1 | h1
    ·
      replace H1 := bif_t H1 h1
      refine G.rg ?_
      refine K.callR [(.func 23, _)] (Lw18_awake_con (k := k) hx2) (toFn_func (cf 23 rfl) rfl) (gd0 rfl) ⟨rfl, trivial⟩ trivial rfl rfl rfl ?_
      refine K.un (V := .bool (!x2)) (gd0 rfl) rfl (fun _ => rfl) rfl ?_
      refine K.move (.inl rfl) (gd0 rfl) rfl rfl ?_
      refine K.skip rfl rfl rfl rfl (h1) rfl ?_
      refine K.skip rfl rfl rfl rfl (h1) rfl ?_
      refine K.skip rfl rfl rfl rfl (h1) rfl ?_
      refine K.pickT (gd0 rfl) rfl (h1) rfl rfl ?_
      refine K.move (.inl rfl) (gd0 rfl) rfl rfl ?_
      refine K.skip rfl rfl rfl rfl (rfl) rfl ?_
      refine K.skip rfl rfl rfl rfl (rfl) rfl ?_
      refine K.skip rfl rfl rfl rfl (rfl) rfl ?_
      refine K.pickT (gd0 rfl) rfl (rfl) rfl rfl ?_
      refine K.move (.inl rfl) (gd0 rfl) rfl rfl ?_
      refine K.skip rfl rfl rfl rfl (rfl) rfl ?_
      refine K.skip rfl rfl rfl rfl (rfl) rfl ?_
      refine K.pickT (gd0 rfl) rfl (rfl) rfl rfl ?_
      refine K.nil ?_
      refine At.next ?_
      refine G.cond rfl (fun h2 => ?_) (fun h2 => ?_)
      ·
        refine G.seq ?_
        obtain ⟨x3, hx3, H1⟩ := bnd H1
        refine G.rg ?_
        refine K.callR [(.func 23, _)] (Lw18_awake_con (k := k) hx3) (toFn_func (cf 23 rfl) rfl) (gd0 rfl) ⟨rfl, trivial⟩ trivial rfl rfl rfl ?_
        refine K.move (.inr rfl) (gd0 rfl) rfl rfl ?_
        refine K.nil ?_
        refine At.next ?_
        refine G.ret ?_
        refine At.over_ret ?_
        cases H1
        replace H0 := sum_l H0
        refine At.done Y [(.tmp 6, .c _)] rfl ⟨.tmp rfl, trivial⟩ (to' := [(0, _)]) ⟨rfl, trivial⟩ ?_ ?_ rfl rfl rfl (.inl rfl)
        · cases H0; rfl
        · cases H0; rfl
      · cases h2
    ·
      replace H1 := bif_f H1 h1
      rcases Bool.eq_false_or_eq_true (decide ((l0.length : Int) > 500)) with h3 | h3
      ·
        replace H1 := bif_t H1 h3
        refine G.rg ?_
        refine K.callR [(.func 23, _)] (Lw18_awake_con (k := k) hx2) (toFn_func (cf 23 rfl) rfl) (gd0 rfl) ⟨rfl, trivial⟩ trivial rfl rfl rfl ?_
        refine K.un (V := .bool (!x2)) (gd0 rfl) rfl (fun _ => rfl) rfl ?_
        refine K.move (.inl rfl) (gd0 rfl) rfl rfl ?_
        refine K.move (.inl rfl) (gd1 rfl rfl rfl (h1)) rfl rfl ?_
        refine K.lenL (rV 0 S W0 s0 b0 o0 u8E 1 l0) (hI0.is 0) (gd1 rfl rfl rfl (h1)) rfl rfl Try.underlying36 rfl ?_
        refine K.bin (V := .bool (decide ((l0.length : Int) > 500))) (gd1 rfl rfl rfl (h1)) rfl rfl (fun _ => rfl) rfl ?_
        refine K.pickF (gd0 rfl) rfl (h1) rfl rfl ?_
        refine K.move (.inl rfl) (gd0 rfl) rfl rfl ?_
        refine K.skip rfl rfl rfl rfl (h3) rfl ?_
        refine K.skip rfl rfl rfl rfl (h3) rfl ?_
        refine K.skip rfl rfl rfl rfl (h3) rfl ?_
        refine K.pickT (gd0 rfl) rfl (h3) rfl rfl ?_
        refine K.move (.inl rfl) (gd0 rfl) rfl rfl ?_
        refine K.skip rfl rfl rfl rfl (rfl) rfl ?_
        refine K.skip rfl rfl rfl rfl (rfl) rfl ?_
        refine K.pickT (gd0 rfl) rfl (rfl) rfl rfl ?_
        refine K.nil ?_
        refine At.next ?_
        refine G.cond rfl (fun h4 => ?_) (fun h4 => ?_)
        ·
          refine G.seq ?_
          obtain ⟨x4, hx4, H1⟩ := bnd H1
          refine G.rg ?_
          refine K.callR [(.func 23, _)] (Lw18_awake_con (k := k) hx4) (toFn_func (cf 23 rfl) rfl) (gd0 rfl) ⟨rfl, trivial⟩ trivial rfl rfl rfl ?_
          refine K.move (.inr rfl) (gd0 rfl) rfl rfl ?_
          refine K.nil ?_
          refine At.next ?_
          refine G.ret ?_
          refine At.over_ret ?_
          cases H1
          replace H0 := sum_l H0
          refine At.done Y [(.tmp 6, .c _)] rfl ⟨.tmp rfl, trivial⟩ (to' := [(0, _)]) ⟨rfl, trivial⟩ ?_ ?_ rfl rfl rfl (.inl rfl)
          · cases H0; rfl
          · cases H0; rfl
        · cases h4
      ·
        replace H1 := bif_f H1 h3
        rcases Bool.eq_false_or_eq_true (decide ((l0.length : Int) < 5)) with h5 | h5
        ·
          replace H1 := bif_t H1 h5
          refine G.rg ?_
          refine K.callR [(.func 23, _)] (Lw18_awake_con (k := k) hx2) (toFn_func (cf 23 rfl) rfl) (gd0 rfl) ⟨rfl, trivial⟩ trivial rfl rfl rfl ?_
          refine K.un (V := .bool (!x2)) (gd0 rfl) rfl (fun _ => rfl) rfl ?_
          refine K.move (.inl rfl) (gd0 rfl) rfl rfl ?_
          refine K.move (.inl rfl) (gd1 rfl rfl rfl (h1)) rfl rfl ?_
          refine K.lenL (rV 0 S W0 s0 b0 o0 u8E 1 l0) (hI0.is 0) (gd1 rfl rfl rfl (h1)) rfl rfl Try.underlying36 rfl ?_
          refine K.bin (V := .bool (decide ((l0.length : Int) > 500))) (gd1 rfl rfl rfl (h1)) rfl rfl (fun _ => rfl) rfl ?_
          refine K.pickF (gd0 rfl) rfl (h1) rfl rfl ?_
          refine K.move (.inl rfl) (gd0 rfl) rfl rfl ?_
          refine K.move (.inl rfl) (gd1 rfl rfl rfl (h3)) rfl rfl ?_
          refine K.lenL (rV 0 S W0 s0 b0 o0 u8E 1 l0) (hI0.is 0) (gd1 rfl rfl rfl (h3)) rfl rfl Try.underlying36 rfl ?_
          refine K.bin (V := .bool (decide ((l0.length : Int) < 5))) (gd1 rfl rfl rfl (h3)) rfl rfl (fun _ => rfl) rfl ?_
          refine K.pickF (gd0 rfl) rfl (h3) rfl rfl ?_
          refine K.move (.inl rfl) (gd0 rfl) rfl rfl ?_
          refine K.skip rfl rfl rfl rfl (h5) rfl ?_
          refine K.skip rfl rfl rfl rfl (h5) rfl ?_
          refine K.pickT (gd0 rfl) rfl (h5) rfl rfl ?_
          refine K.nil ?_
          refine At.next ?_
          refine G.cond rfl (fun h6 => ?_) (fun h6 => ?_)
          ·
            refine G.seq ?_
            obtain ⟨x5, hx5, H1⟩ := bnd H1
            refine G.rg ?_
            refine K.callR [(.func 23, _)] (Lw18_awake_con (k := k) hx5) (toFn_func (cf 23 rfl) rfl) (gd0 rfl) ⟨rfl, trivial⟩ trivial rfl rfl rfl ?_
            refine K.move (.inr rfl) (gd0 rfl) rfl rfl ?_
            refine K.nil ?_
            refine At.next ?_
            refine G.ret ?_
            refine At.over_ret ?_
            cases H1
            replace H0 := sum_l H0
            refine At.done Y [(.tmp 6, .c _)] rfl ⟨.tmp rfl, trivial⟩ (to' := [(0, _)]) ⟨rfl, trivial⟩ ?_ ?_ rfl rfl rfl (.inl rfl)
            · cases H0; rfl
            · cases H0; rfl
          · cases h6
        ·
          replace H1 := bif_f H1 h5
          refine G.rg ?_
          refine K.callR [(.func 23, _)] (Lw18_awake_con (k := k) hx2) (toFn_func (cf 23 rfl) rfl) (gd0 rfl) ⟨rfl, trivial⟩ trivial rfl rfl rfl ?_
          refine K.un (V := .bool (!x2)) (gd0 rfl) rfl (fun _ => rfl) rfl ?_
          refine K.move (.inl rfl) (gd0 rfl) rfl rfl ?_
          refine K.move (.inl rfl) (gd1 rfl rfl rfl (h1)) rfl rfl ?_
          refine K.lenL (rV 0 S W0 s0 b0 o0 u8E 1 l0) (hI0.is 0) (gd1 rfl rfl rfl (h1)) rfl rfl Try.underlying36 rfl ?_
          refine K.bin (V := .bool (decide ((l0.length : Int) > 500))) (gd1 rfl rfl rfl (h1)) rfl rfl (fun _ => rfl) rfl ?_
          refine K.pickF (gd0 rfl) rfl (h1) rfl rfl ?_
          refine K.move (.inl rfl) (gd0 rfl) rfl rfl ?_
          refine K.move (.inl rfl) (gd1 rfl rfl rfl (h3)) rfl rfl ?_
          refine K.lenL (rV 0 S W0 s0 b0 o0 u8E 1 l0) (hI0.is 0) (gd1 rfl rfl rfl (h3)) rfl rfl Try.underlying36 rfl ?_
          refine K.bin (V := .bool (decide ((l0.length : Int) < 5))) (gd1 rfl rfl rfl (h3)) rfl rfl (fun _ => rfl) rfl ?_
          refine K.pickF (gd0 rfl) rfl (h3) rfl rfl ?_
          refine K.move (.inl rfl) (gd0 rfl) rfl rfl ?_
          refine K.move (.inl rfl) (gd1 rfl rfl rfl (h5)) rfl rfl ?_
          refine K.bin (V := .bool (a2 == 0)) (gd1 rfl rfl rfl (h5)) rfl rfl (fun _ => rfl) rfl ?_
          refine K.pickF (gd0 rfl) rfl (h5) rfl rfl ?_
          refine K.nil ?_
          refine At.next ?_
          refine G.cond rfl (fun h7 => ?_) (fun h7 => ?_)
          ·
            replace H1 := bif_t H1 h7
            refine G.seq ?_
            obtain ⟨x6, hx6, H1⟩ := bnd H1
            refine G.rg ?_
            refine K.callR [(.func 23, _)] (Lw18_awake_con (k := k) hx6) (toFn_func (cf 23 rfl) rfl) (gd0 rfl) ⟨rfl, trivial⟩ trivial rfl rfl rfl ?_
            refine K.move (.inr rfl) (gd0 rfl) rfl rfl ?_
            refine K.nil ?_
            refine At.next ?_
            refine G.ret ?_
            refine At.over_ret ?_
            cases H1
            replace H0 := sum_l H0
            refine At.done Y [(.tmp 6, .c _)] rfl ⟨.tmp rfl, trivial⟩ (to' := [(0, _)]) ⟨rfl, trivial⟩ ?_ ?_ rfl rfl rfl (.inl rfl)
            · cases H0; rfl
            · cases H0; rfl
          ·
            replace H1 := bif_f H1 h7
            refine G.skip ?_
            exact At.joined (σ := { v : Unit // x1 = Sum.inr v }) (Fs := fun q => [(0, SV.raw s0), (1, .a (.c (.v (.int .i64 a1)))), (2, .a (.c (.v (.int .u32 a2))))]) (Tl := fun q => [(0, rd S W0)]) ⟨(), (Option.some.inj H1).symm⟩ [] [_] rfl ⟨rfl, rfl, rfl, trivial⟩ ⟨rfl, (fun _ => rfl), trivial⟩ rfl
  ·
    rintro ⟨v1, rfl⟩
    replace H0 := sum_r H0
    show G _ _ [(0, SV.raw s0), (1, .a (.c (.v (.int .i64 a1)))), (2, .a (.c (.v (.int .u32 a2))))] [(0, some (rd S W0))] _ _
    refine G.seq ?_
    obtain ⟨x7, hx7, H0⟩ := bnd H0
    refine G.rg ?_
    refine K.move (.inl rfl) (gd0 rfl) rfl rfl ?_
    refine K.move (.inl rfl) (gd0 rfl) rfl rfl ?_
    refine K.lenL (rV 0 S W0 s0 b0 o0 u8E 1 l0) (hI0.is 0) (gd0 rfl) rfl rfl Try.underlying36 rfl ?_
    refine K.bin (V := .int .i64 (w64 (8 * (l0.length : Int)))) (gd0 rfl) rfl rfl (fun _ => rfl) rfl ?_
    refine K.bin (V := .int .i64 (w64 ((w64 (8 * (l0.length : Int))) - 31))) (gd0 rfl) rfl rfl (fun _ => rfl) rfl ?_
    refine K.callR [(.func 20, _), ((.tmp 28), _), ((.tmp 32), _)] (R01_Rest_con (k := k) hx7) (toFn_func (cf 20 rfl) rfl) (gd0 rfl) ⟨rfl, rfl, rfl, trivial⟩ trivial rfl rfl rfl ?_
    refine K.move (.inr rfl) (gd0 rfl) rfl rfl ?_
    refine K.nil ?_
    refine At.next ?_
    refine G.seq ?_
    obtain ⟨h8, H0⟩ := grd H0
    refine G.rg ?_
    refine K.buildL Y 100 ([] : List Int) [] [] u8E_len (gd0 rfl) (AllE.spec trivial) rfl rfl Try.underlying36 t5 rfl rfl rfl rfl rfl rfl rfl rfl ?_
    refine K.move (.inl rfl) (gd0 rfl) rfl rfl ?_
    refine K.appendL 101 (rV 0 S W0 s0 b0 o0 u8E 1 l0) _ el36 (hI0.is 0) u8E_one (gd0 rfl) rfl rfl rfl rfl rfl (ap_m h8) (ap_b h8 (by decide)) rfl rfl rfl rfl rfl rfl ?_
    refine K.move (.inr rfl) (gd0 rfl) rfl rfl ?_
    refine K.nil ?_
    refine At.next ?_
    obtain ⟨x8, H1, H0⟩ := bnd H0
    refine G.seqJ (σ := { v : List Int // x8 = v }) (fun q => [(0, SV.raw s0), (8, .a (.c (.nv 102)))]) (fun q => [(0, rd S W0), (102, lrow 102 5 u8E 1 q.1)]) ?_ ?_
    ·
      refine G.seq ?_
      refine G.rg ?_
      refine K.move (.inr rfl) (gd0 rfl) rfl rfl ?_
      refine K.nil ?_
      refine At.next ?_
      refine G.block ?_
      refine G.loop (σ := { q : Nat × (List Int × Int) // Lw18_CrcBursts.l0 k a2 x7 q.1 q.2 = some x8 }) (fun q => [(0, SV.raw s0), (2, .a (.c (.v (.int .u32 a2)))), (7, .a (.c (.v (.int .i64 x7)))), (8, .a (.c (.nv 105))), (9, .a (.c (.v (.int .i64 q.1.2.2))))]) (fun q => [(0, rd S W0), (105, lrow 105 5 u8E 1 q.1.2.1)]) (fun q => q.1.1) ⟨(k, ((([] : List Int) ++ l0), 0)), H1⟩ ?_ ?_
      · exact At.into [(105, 101)] [_, _] rfl ⟨rfl, rfl, rfl, rfl, rfl, trivial⟩ ⟨rfl, (fun _ => rfl), rfl, (lrow_ren rfl), trivial⟩ rfl
      ·
        rintro ⟨⟨n0, v1, v2⟩, H1⟩
        show G _ _ [(0, SV.raw s0), (2, .a (.c (.v (.int .u32 a2)))), (7, .a (.c (.v (.int .i64 x7)))), (8, .a (.c (.nv 105))), (9, .a (.c (.v (.int .i64 v2))))] [(0, some (rd S W0)), (105, some (lrow 105 5 u8E 1 v1))] _ _
        cases n0 with
        | zero => exact absurd H1 (by simp [Lw18_CrcBursts.l0])
        | succ n0 =>
          have HL0 := H1
          rw [Lw18_CrcBursts.l0] at H1
          refine G.seq ?_
          refine G.seq ?_
          refine G.rg ?_
          refine K.move (.inl rfl) (gd0 rfl) rfl rfl ?_
          refine K.bin (V := .bool (decide (v2 < 32))) (gd0 rfl) rfl rfl (fun _ => rfl) rfl ?_
          refine K.nil ?_
          refine At.next ?_
          refine G.cond rfl (fun h9 => ?_) (fun h9 => ?_)
          ·
            replace H1 := bif_t H1 h9
            refine G.skip ?_
            refine At.next ?_
            refine G.seq ?_
            refine G.block ?_
            refine G.seq ?_
            obtain ⟨h10, H1⟩ := grd H1
            refine G.rg ?_
            refine K.move (.inl rfl) (gd0 rfl) rfl rfl ?_
            refine K.move (.inl rfl) (gd0 rfl) rfl rfl ?_
            refine K.bin (V := .int .u32 (gshr .u32 a2 v2)) (gd0 rfl) rfl rfl (bt_shr _ _ _ _ h10) rfl ?_
            refine K.bin (V := .int .u32 (gand .u32 (gshr .u32 a2 v2) 1)) (gd0 rfl) rfl rfl (bt_and _ _ _) rfl ?_
            refine K.bin (V := .bool ((gand .u32 (gshr .u32 a2 v2) 1) == 1)) (gd0 rfl) rfl rfl (fun _ => rfl) rfl ?_
            refine K.nil ?_
            refine At.next ?_
            refine G.cond rfl (fun h11 => ?_) (fun h11 => ?_)
            ·
              replace H1 := bif_t H1 h11
              refine G.seq ?_
              refine G.rg ?_
              refine K.move (.inl rfl) (gd0 rfl) rfl rfl ?_
              refine K.move (.inl rfl) (gd0 rfl) rfl rfl ?_
              refine K.bin (V := .int .i64 (w64 (x7 + v2))) (gd0 rfl) rfl rfl (fun _ => rfl) rfl ?_
              refine K.move (.inr rfl) (gd0 rfl) rfl rfl ?_
              refine K.nil ?_
              refine At.next ?_
              obtain ⟨x9, hx9, H1⟩ := bnd H1
              obtain ⟨h12, H1⟩ := grd H1
              refine G.rd mixed ?_
              refine K.move (.inl rfl) (gd0 rfl) rfl rfl ?_
              refine K.move (.inl rfl) (gd0 rfl) rfl rfl ?_
              refine K.bin (V := .int .i64 (w64 ((w64 (x7 + v2)).tdiv 8))) (gd0 rfl) rfl rfl (quo_run (by decide)) rfl ?_
              refine K.move (.inl rfl) (gd0 rfl) rfl rfl ?_
              refine K.move (.inl rfl) (gd0 rfl) rfl rfl ?_
              refine K.bin (V := .int .i64 (w64 ((w64 (x7 + v2)).tdiv 8))) (gd0 rfl) rfl rfl (quo_run (by decide)) rfl ?_
              refine K.idxL (lrowV 105 5 u8E 1 v1) (((w64 ((w64 (x7 + v2)).tdiv 8))).toNat) (lrowV_is u8E_len (by decide)) (atL_get hx9) (atL_nn hx9) (gd0 rfl) rfl rfl rfl Try.underlying36 el36.size_run rfl ?_
              refine K.load1L Y (lrowV 105 5 u8E 1 v1) (((w64 ((w64 (x7 + v2)).tdiv 8))).toNat) 0 (lrowV_is u8E_len (by decide)) (atL_get hx9) (gd0 rfl) rfl rfl t5 rfl rfl ?_
              refine K.move (.inl rfl) (gd0 rfl) rfl rfl ?_
              refine K.bin (V := .int .i64 ((w64 (x7 + v2)).tmod 8)) (gd0 rfl) rfl rfl (rem_run (by decide)) rfl ?_
              refine K.bin (V := .int .u8 (gshl .u8 1 ((w64 (x7 + v2)).tmod 8))) (gd0 rfl) rfl rfl (bt_shl _ _ _ _ h12) rfl ?_
              refine K.bin (V := .int .u8 (gxor .u8 x9 (gshl .u8 1 ((w64 (x7 + v2)).tmod 8)))) (gd0 rfl) rfl rfl (bt_xor _ _ _) rfl ?_
              refine K.idxL (lrowV 105 5 u8E 1 v1) (((w64 ((w64 (x7 + v2)).tdiv 8))).toNat) (lrowV_is u8E_len (by decide)) (atL_get hx9) (atL_nn hx9) (gd0 rfl) rfl rfl rfl Try.underlying36 el36.size_run rfl ?_
              refine K.storeL Y (((w64 ((w64 (x7 + v2)).tdiv 8))).toNat) 0 [_] (gxor .u8 x9 (gshl .u8 1 ((w64 (x7 + v2)).tmod 8))) u8E_len (by decide) (atL_get hx9) (gd0 rfl) rfl rfl rfl t5 rfl rfl rfl rfl rfl rfl ?_
              refine K.nil ?_
              refine ⟨by kernel_rfl, ?_⟩
              refine At.block_normal ?_
              refine At.next ?_
              refine G.rg ?_
              refine K.move (.inl rfl) (gd0 rfl) rfl rfl ?_
              refine K.bin (V := .int .i64 (w64 (v2 + 1))) (gd0 rfl) rfl rfl (fun _ => rfl) rfl ?_
              refine K.move (.inr rfl) (gd0 rfl) rfl rfl ?_
              refine K.nil ?_
              exact At.again (σ := { q : Nat × (List Int × Int) // Lw18_CrcBursts.l0 k a2 x7 q.1 q.2 = some x8 }) (Fs := fun q => [(0, SV.raw s0), (2, .a (.c (.v (.int .u32 a2)))), (7, .a (.c (.v (.int .i64 x7)))), (8, .a (.c (.nv 105))), (9, .a (.c (.v (.int .i64 q.1.2.2))))]) (Tl := fun q => [(0, rd S W0), (105, lrow 105 5 u8E 1 q.1.2.1)]) (μ := fun q => q.1.1) (s := ⟨(n0 + 1, (v1, v2)), HL0⟩) ⟨(n0, ((v1.set (((w64 ((w64 (x7 + v2)).tdiv 8))).toNat) (gxor .u8 x9 (gshl .u8 1 ((w64 (x7 + v2)).tmod 8)))), (w64 (v2 + 1)))), H1⟩ [] [_, _] (Nat.lt_succ_self _) rfl ⟨rfl, rfl, rfl, rfl, rfl, trivial⟩ ⟨rfl, (fun _ => rfl), rfl, (lrow_ren rfl), trivial⟩ rfl
            ·
              replace H1 := bif_f H1 h11
              refine G.skip ?_
              refine At.block_normal ?_
              refine At.next ?_
              refine G.rg ?_
              refine K.move (.inl rfl) (gd0 rfl) rfl rfl ?_
              refine K.bin (V := .int .i64 (w64 (v2 + 1))) (gd0 rfl) rfl rfl (fun _ => rfl) rfl ?_
              refine K.move (.inr rfl) (gd0 rfl) rfl rfl ?_
              refine K.nil ?_
              exact At.again (σ := { q : Nat × (List Int × Int) // Lw18_CrcBursts.l0 k a2 x7 q.1 q.2 = some x8 }) (Fs := fun q => [(0, SV.raw s0), (2, .a (.c (.v (.int .u32 a2)))), (7, .a (.c (.v (.int .i64 x7)))), (8, .a (.c (.nv 105))), (9, .a (.c (.v (.int .i64 q.1.2.2))))]) (Tl := fun q => [(0, rd S W0), (105, lrow 105 5 u8E 1 q.1.2.1)]) (μ := fun q => q.1.1) (s := ⟨(n0 + 1, (v1, v2)), HL0⟩) ⟨(n0, (v1, (w64 (v2 + 1)))), H1⟩ [] [_, _] (Nat.lt_succ_self _) rfl ⟨rfl, rfl, rfl, rfl, rfl, trivial⟩ ⟨rfl, (fun _ => rfl), rfl, (lrow_ren rfl), trivial⟩ rfl
          ·
            replace H1 := bif_f H1 h9
            refine G.exit ?_
            refine At.over_exit ?_
            refine At.over_exit ?_
            refine At.block_hit ?_
            exact At.joined (σ := { v : List Int // x8 = v }) (Fs := fun q => [(0, SV.raw s0), (8, .a (.c (.nv 102)))]) (Tl := fun q => [(0, rd S W0), (102, lrow 102 5 u8E 1 q.1)]) ⟨v1, (Option.some.inj H1).symm⟩ [(102, 105)] [_, _] rfl ⟨rfl, rfl, trivial⟩ ⟨rfl, (fun _ => rfl), rfl, (lrow_ren rfl), trivial⟩ rfl
    ·
      rintro ⟨_, rfl⟩
      show G _ _ [(0, SV.raw s0), (8, .a (.c (.nv 102)))] [(0, some (rd S W0)), (102, some (lrow 102 5 u8E 1 x8))] _ _
      refine G.seq ?_
      obtain ⟨x10, hx10, H0⟩ := bnd H0
      obtain ⟨x11, hx11, H0⟩ := bnd H0
      refine G.rg ?_
      refine K.move (.inl rfl) (gd0 rfl) rfl rfl ?_
      refine K.callV [(.func 24, _), ((.tmp 62), _)] [(102, lrow 102 5 u8E 1 x8)] [] [] (fun β => [SV.raw ((lrowV 102 5 u8E 1 x8).s.den β)]) (fun β w S2 h => crc_Sum_con (k := k) ((lrowV_isC u8E_len (by decide)).larg ⟨_, List.mem_cons_self⟩ h) hx10) (toFn_func (cf 24 rfl) rfl) (gd0 rfl) ⟨rfl, rfl, trivial⟩ (fun _ => rfl) ⟨rfl, trivial⟩ rfl rfl rfl rfl rfl rfl ?_
      refine K.move (.inl rfl) (gd0 rfl) rfl rfl ?_
      refine K.callV [(.func 24, _), ((.tmp 64), _)] [(0, rd S W0)] [] [] (fun β => [SV.raw s0]) (fun β w S2 h => crc_Sum_con (k := k) ((hI0.isC 0).larg ⟨_, List.mem_cons_self⟩ h) hx11) (toFn_func (cf 24 rfl) rfl) (gd0 rfl) ⟨rfl, rfl, trivial⟩ (fun _ => rfl) ⟨rfl, trivial⟩ rfl rfl rfl rfl rfl rfl ?_
      refine K.bin (V := .bool (x10 != x11)) (gd0 rfl) rfl rfl (fun _ => rfl) rfl ?_
      refine K.move (.inr rfl) (gd0 rfl) rfl rfl ?_
      refine K.nil ?_
      refine At.next ?_
      refine G.ret ?_
      refine At.done Y [(.tmp 6, .c _)] rfl ⟨.tmp rfl, trivial⟩ (to' := [(0, _)]) ⟨rfl, trivial⟩ ?_ ?_ rfl rfl rfl (.inl rfl)
      · cases H0; rfl
      · cases H0; rfl
theorem Lw18_CrcBursts_con {k : Nat}  {S : Foot} {W0 : World} {s0 : Value} {l0 : List Int} {a1 : Int} {a2 : Int} {r : Bool} (hL0 : LArg S W0 s0 u8E 1 l0) (H0 : Lw18_CrcBursts.f k l0 a1 a2 = some r) : SCon Try.prog 9 [SV.raw s0, .a (.c (.v (.int .i64 a1))), .a (.c (.v (.int .u32 a2)))] [(0, rd S W0)] (.a (.c (.v (.bool r)))) [(0, rd S W0)] [] :=
  SCon.ren (rn []) (Lw18_CrcBursts_con0 (k := k)  hL0 H0) ⟨(fun _ => rfl), trivial⟩ ⟨(fun _ => rfl), trivial⟩ (by simp) (by simp)
end Go.Proofs.Ytheopcgjdfckmaa

